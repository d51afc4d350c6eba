/- The device: Crash. -/
import Derived.Test.YtkpefffephbhnaaDevF
import Derived.Deep.DeepCutAuto
set_option linter.unusedVariables false
set_option linter.unusedSimpArgs false
namespace Go.Proofs.PlainDev
/-- What lies there behind a crash's first rounds. -/
def crashN (f : Nat → Option (List Nat)) (ws : List (Nat × List Nat)) (keep : Nat) (torn : Int) : Nat → Nat → Option (List Nat)
  | 0 => f
  | k + 1 => match ws[k]? with
    | none => crashN f ws keep torn k
    | some p => if (k : Int) = torn then lset (crashN f ws keep torn k) p.1 (p.2.take 256 ++ ((crashN f ws keep torn k p.1).getD (List.replicate 512 0)).drop 256)
      else if keep / 2 ^ (k % 64) % 2 = 1 then lset (crashN f ws keep torn k) p.1 p.2 else crashN f ws keep torn k
def crashS (s : Dst) (keep : Nat) (torn : Int) : Dst := { s with lies := crashN s.lies s.waits keep torn s.waits.length, waits := [], left := -1, down := false }
end Go.Proofs.PlainDev
namespace Go.Proofs.Ytkpefffephbhnaa
open Go.RowKit Go.Maps
open Go.Proofs.PlainDev

theorem arrWr : ArrTy Try.prog 74 513 := ⟨_, Try.underlying74, rfl, by kernel_rfl⟩
theorem fldD1 (g : Nat) (w : World) : (Instr.fieldAt 71 (.pointer (some ⟨g, 0, none⟩)) 1).run Try.prog w = .ok (.pointer (some ⟨g, 1, none⟩)) w := by kernel_rfl
theorem ones_wr (a : Nat) (l : List Nat) : Ones (.int .u32 (a : Int) :: bv l) := by
  intro v hv
  rcases List.mem_cons.1 hv with rfl | hv
  · rfl
  · exact ones_bv l v hv
theorem wr_drop (a : Nat) {l : List Nat} (hl : (bv l).length = 512) : ((Value.int .u32 (a : Int) :: bv l).drop 1).take 512 = bv l := by
  rw [show (Value.int .u32 (a : Int) :: bv l).drop 1 = bv l from rfl, List.take_of_length_le (by omega)]
theorem and1_u64 (x : Nat) (hx : x < 18446744073709551616) : bits .and .u64 (x : Int) 1 = ((x % 2 : Nat) : Int) := by
  have := u64_and_nat x 1 hx (by decide)
  rw [show x &&& 1 = x % 2 from Nat.and_two_pow_sub_one_eq_mod x 1] at this
  exact this
theorem keep_bit (keep k : Nat) (hk : keep < 18446744073709551616) : bits .and .u64 ((keep : Int) / 2 ^ (k % 64)) 1 = ((keep / 2 ^ (k % 64) % 2 : Nat) : Int) := by
  have e : ((keep : Int) / 2 ^ (k % 64)) = ((keep / 2 ^ (k % 64) : Nat) : Int) := by simp
  rw [e, and1_u64 _ (Nat.lt_of_le_of_lt (Nat.div_le_self _ _) hk)]
/-- What Crash leaves. -/
def RetCr (B : Nat) (g bl ba : Nat) (vw : Value) (nl : Nat) (s : Dst) (r : Dst) (w : World) (e : Ending) (w' : World) : Prop :=
  ∃ ba' nl', e = .returned (.tuple #[]) ∧ Dv B w' g bl ba' (.slice none 0 0) nl' r ∧ nl' ≤ nl + s.waits.length ∧ Keeps (dblk g bl ba vw) w w' ∧ w.heap.size ≤ ba'
theorem keeps_own {G : List Nat} {w wr w' : World} {k : Nat} (h : Keeps [k] wr w') (h0 : Keeps G w wr) (hk : w.heap.size ≤ k) : Keeps G w w' :=
  ⟨h.os.trans h0.os, h.tape.trans h0.tape, h.output.trans h0.output, Nat.le_trans h0.size h.size, fun b hb hn => (h.block b (Nat.lt_of_lt_of_le hb h0.size) (by simp; omega)).trans (h0.block b hb hn)⟩
set_option maxRecDepth 100000 in
set_option maxHeartbeats 4000000 in
theorem crash_any {B : Nat} {w : World} {g bl ba : Nat} {vw : Value} {nl : Nat} {s : Dst} (h : Dv B w g bl ba vw nl s) (keep : Nat) (torn : Int) (hkp : (keep : Int) ≤ 18446744073709551615) (ht0 : -9223372036854775808 ≤ torn) (ht1 : torn ≤ 9223372036854775807) (hnw : ((nl + s.waits.length : Nat) : Int) ≤ 100000) :
    Calls Try.prog 14 #[.pointer (some ⟨g, 0, none⟩), .int .u64 (keep : Int), .int .i64 torn] w (RetCr B g bl ba vw nl s (crashS s keep torn) w) := by
  have hR : Hid (∀ e w', (∃ ba' nl', e = .returned (.tuple #[]) ∧ Dv B w' g bl ba' (.slice none 0 0) nl' (crashS s keep torn) ∧ nl' ≤ nl + s.waits.length ∧ Keeps (dblk g bl ba vw) w w' ∧ w.heap.size ≤ ba') → RetCr B g bl ba vw nl s (crashS s keep torn) w e w') := fun e w' h => h
  generalize RetCr B g bl ba vw nl s (crashS s keep torn) w = RX at *
  have hstep : Hid (∀ k p, s.waits[k]? = some p → crashN s.lies s.waits keep torn (k + 1) = if (k : Int) = torn then lset (crashN s.lies s.waits keep torn k) p.1 (p.2.take 256 ++ ((crashN s.lies s.waits keep torn k p.1).getD (List.replicate 512 0)).drop 256)
      else if keep / 2 ^ (k % 64) % 2 = 1 then lset (crashN s.lies s.waits keep torn k) p.1 p.2 else crashN s.lies s.waits keep torn k) := fun k p hp => by
    show (match s.waits[k]? with | none => _ | some p => _) = _
    rw [hp]
  have hz : Hid (crashN s.lies s.waits keep torn 0 = s.lies) := rfl
  have c2 := h.c2
  obtain ⟨Aw, cw, hvw⟩ : ∃ A c, vw = .slice A s.waits.length c := by
    rcases h.row.2 with ⟨e, e2⟩ | ⟨g', cap, cur, e, _⟩
    · exact ⟨none, 0, by rw [e, e2]⟩
    · exact ⟨_, _, e⟩
  subst hvw
  have H0 := Lib.hid h
  have hlt := Lib.hid h.lt
  have hnI : (s.waits.length : Int) ≤ 100000 := by omega
  clear h
  generalize hn0 : s.waits.length = n at *
  have hn := Lib.hid hn0.symm
  clear hn0
  go_enter Try.func14, Try.ntmps14
  go_wp2
  go_loopw [17] (fun i wr => ∃ (k m : Nat), (k : Int) ≤ n ∧ i = .int .i64 (k : Int) ∧ Dv B wr g bl ba (.slice Aw n cw) m { s with lies := crashN s.lies s.waits keep torn k } ∧ m ≤ nl + k ∧ Keeps (dblk g bl ba (.slice Aw n cw)) w wr) (fun i _ => n - (intOf i).toNat)
  case atStart => exact ⟨0, nl, by omega, rfl, by rw [hz.out]; exact H0.out, Nat.le_refl _, Keeps.refl _ _⟩
  case round =>
    clear c2
    obtain ⟨k, m, hk, rfl, H, hm, hK⟩ := hrel
    by_cases hlt2 : (k : Int) < n
    · obtain ⟨p, hp⟩ : ∃ p, s.waits[k]? = some p := ⟨_, List.getElem?_eq_getElem (by have := hn.out; omega)⟩
      obtain ⟨a, b⟩ := p
      have hst := hstep.out k _ hp
      have hps := H.ok.waits (a, b) (List.mem_of_getElem? hp)
      have hbl := Lib.hid (show (bv b).length = 512 by rw [bv_length]; exact hps.2.1)
      obtain ⟨kk, cap, LL, hvw, hkk, hLl, -, -, hLd⟩ := H.wait hp
      injection hvw with e1 e2 e3
      subst e1 e3
      clear e2
      replace H := Lib.hid H
      replace hK := Lib.hid hK
      replace hLd := Lib.hid hLd
      replace hLl := Lib.hid hLl
      replace hst := Lib.hid hst
      replace hps := Lib.hid hps
      clear hp
      go_wp2_with (first
        | refine wpList_loadA rfl 74 (.tmp 20) rfl 513 arrWr kk (k * 513) rfl 74 LL hkk (by have := hLl.out; omega) (.int .u32 (a : Int) :: bv b) hLd.out ?_
        | refine wpList_allocA rfl 74 rfl (.int .u32 0 :: bv (zeros 512)) wr_zero ?_)
      intro w2 h7 hK2 hz2
      have hK2' := Lib.hid (hK.out.trans (hK2.mono (by simp)))
      have H2 := Lib.hid (H.out.keeps hK2 (by simp))
      have hg7 := Lib.hid (Nat.le_refl wr.heap.size)
      have hge7 : Hid (w.heap.size ≤ wr.heap.size) := hK.out.size
      have hd7 : Hid (∀ x ∈ dblk g bl ba (.slice (some ⟨kk, 0, none⟩) n cw), x ≠ wr.heap.size) := fun x hx e => by have := (H.out.lt x hx).2; omega
      clear hK2 hkk hLd hLl hz2 H hg7
      generalize wr.heap.size = g7 at *
      go_wp2_with (refine wpList_storeW rfl 74 (.tmp 7) (.tmp 21) rfl 513 arrWr g7 rfl (.int .u32 (a : Int) :: bv b) rfl 74 _ h7 ?_ ?_ (ones_wr a b) ?_)
      · rw [List.length_cons, hbl.out]
      · rw [List.length_cons, bv_length]; rw [show (zeros 512).length = 512 from List.length_replicate]
      intro w3 h7 hK3
      have hK3' := Lib.hid (keeps_own hK3 hK2'.out hge7.out)
      have H3 := Lib.hid (H2.out.keeps hK3 (fun x hx => by simp; exact hd7.out x hx))
      clear hK3 H2 hK2'
      go_wp2_with (first
        | refine wpList_loadA rfl 72 (.tmp 22) rfl 512 arrS' g7 1 rfl 74 _ h7 (by rw [List.length_cons, hbl.out]; decide) (bv b) (wr_drop a hbl.out) ?_
        | refine wpList_allocA rfl 72 rfl (bv (zeros 512)) (by kernel_rfl) ?_)
      intro w4 h8 hK4 hz4
      have hK4' := Lib.hid (hK3'.out.trans (hK4.mono (by simp)))
      have H4 := Lib.hid (H3.out.keeps hK4 (by simp))
      have hge8 : Hid (w.heap.size ≤ w3.heap.size) := hK3'.out.size
      have hd8 : Hid (∀ x ∈ dblk g bl ba (.slice (some ⟨kk, 0, none⟩) n cw), x ≠ w3.heap.size) := fun x hx e => by have := (H3.out.lt x hx).2; omega
      have hne78 : Hid (g7 ≠ w3.heap.size) := by show _ ≠ _; have := h7.lt; omega
      replace h7 := h7.keeps hK4 (by simp)
      clear hK4 H3 hK3' hz4
      generalize w3.heap.size = g8 at *
      go_wp2_with (refine wpList_storeW rfl 72 (.tmp 8) (.tmp 23) rfl 512 arrS' g8 rfl (bv b) rfl 72 _ h8 hbl.out (by rw [bv_length]; exact List.length_replicate) (ones_bv _) ?_)
      intro w5 h8 hK5
      have hK5' := Lib.hid (keeps_own hK5 hK4'.out hge8.out)
      have H5 := Lib.hid (H4.out.keeps hK5 (fun x hx => by simp; exact hd8.out x hx))
      replace h7 := h7.keeps hK5 (by simp; exact hne78.out)
      clear hK5 H4 hK4'
      by_cases htn : (k : Int) = torn
      · rw [if_pos htn] at hst
        have hhtn := Lib.hid htn
        subst htn
        have ha := Lib.hid (show a < 4294967296 by have h1 : a < s.size := hps.out.1; have h2 : s.size ≤ 4096 := H0.out.ok.size.2; omega)
        have hsc := Lib.hid (liesL_sec H5.out.ok a)
        change Hid (_ = lset _ a (b.take 256 ++ (liesL { s with lies := crashN s.lies s.waits keep (k : Int) k } a).drop 256)) at hst
        have hlkd : Hid ((Instr.lookup 67 (.map (some bl)) (.int .u32 (a : Int)) false).run Try.prog w5.drew = .ok (secV (liesL { s with lies := crashN s.lies s.waits keep (k : Int) k } a)) w5.drew) := H5.out.drew.look a ha.out
        have hLd : Hid (secV (liesL { s with lies := crashN s.lies s.waits keep (k : Int) k } a) = .agg (bv (liesL { s with lies := crashN s.lies s.waits keep (k : Int) k } a)).toArray) := rfl
        unfold secV at hlkd
        generalize hLe : liesL { s with lies := crashN s.lies s.waits keep (k : Int) k } a = L at *
        replace hLe := Lib.hid hLe
        have hll := Lib.hid (show (bv L).length = 512 by rw [bv_length]; exact hsc.out.1)
        go_upto_region 6 with fail
        have hS : w5.drew.cell? ⟨g, 1, none⟩ = some (.map (some bl)) ∧ w5.drew.cell? ⟨g7, 0, none⟩ = some (.int .u32 (a : Int)) ∧ (Instr.lookup 67 (.map (some bl)) (.int .u32 (a : Int)) false).run Try.prog w5.drew = .ok (.agg (bv L).toArray) w5.drew := ⟨H5.out.drew.c1, (h7.drew.cell 0).trans rfl, hlkd.out⟩
        refine wp_region_held_drew (S := fun w' => w'.cell? ⟨g, 1, none⟩ = some (.map (some bl)) ∧ w'.cell? ⟨g7, 0, none⟩ = some (.int .u32 (a : Int)) ∧ (Instr.lookup 67 (.map (some bl)) (.int .u32 (a : Int)) false).run Try.prog w' = .ok (.agg (bv L).toArray) w') (by kernel_rfl) hS (fun hH => ?_)
        clear hS
        refine takeH_move (o := ⟨some 27, _, _, _, _, _⟩) (i := 0) rfl (by kernel_rfl) (by kernel_rfl) (by kernel_rfl) (fun _ _ _ _ h => h) rfl (.tmp 0) rfl (.pointer (some ⟨g, 0, none⟩)) rfl hH ?_
        simp only [Act.put, List.setIfInBounds_toArray, List.set_cons_zero, List.set_cons_succ, Nat.zero_add, decide_true, beq_self_eq_true]
        refine takeH_S (o := ⟨some 28, _, _, _, _, _⟩) (i := 1) rfl (by kernel_rfl) (by kernel_rfl) (by kernel_rfl) (fun _ _ _ _ h => h) rfl (.pointer (some ⟨g, 0, none⟩)) (fun w _ => by go_simp) hH ?_
        simp only [Act.put, List.setIfInBounds_toArray, List.set_cons_zero, List.set_cons_succ, Nat.zero_add, decide_true, beq_self_eq_true]
        refine takeH_field (o := ⟨some 29, _, _, _, _, _⟩) (i := 2) rfl (by kernel_rfl) (by kernel_rfl) (by kernel_rfl) (fun _ _ _ _ h => h) rfl 71 (.tmp 28) 1 rfl g 1 rfl (fun w => fldD1 _ w) hH ?_
        simp only [Act.put, List.setIfInBounds_toArray, List.set_cons_zero, List.set_cons_succ, Nat.zero_add, decide_true, beq_self_eq_true]
        refine takeH_S (o := ⟨some 30, _, _, _, _, _⟩) (i := 3) rfl (by kernel_rfl) (by kernel_rfl) (by kernel_rfl) (fun _ _ _ _ h => h) rfl (.map (some bl)) (fun w h => by have c1 := h.1; go_simp) hH ?_
        simp only [Act.put, List.setIfInBounds_toArray, List.set_cons_zero, List.set_cons_succ, Nat.zero_add, decide_true, beq_self_eq_true]
        refine takeH_S (o := ⟨some 31, _, _, _, _, _⟩) (i := 4) rfl (by kernel_rfl) (by kernel_rfl) (by kernel_rfl) (fun _ _ _ _ h => h) rfl (.pointer (some ⟨g7, 0, none⟩)) (fun w _ => by go_simp) hH ?_
        simp only [Act.put, List.setIfInBounds_toArray, List.set_cons_zero, List.set_cons_succ, Nat.zero_add, decide_true, beq_self_eq_true]
        refine takeH_S (o := ⟨some 32, _, _, _, _, _⟩) (i := 5) rfl (by kernel_rfl) (by kernel_rfl) (by kernel_rfl) (fun _ _ _ _ h => h) rfl (.int .u32 (a : Int)) (fun w h => by have ca := h.2.1; go_simp) hH ?_
        simp only [Act.put, List.setIfInBounds_toArray, List.set_cons_zero, List.set_cons_succ, Nat.zero_add, decide_true, beq_self_eq_true]
        refine takeH_S (o := ⟨some 33, _, _, _, _, _⟩) (i := 6) rfl (by kernel_rfl) (by kernel_rfl) (by kernel_rfl) (fun _ _ _ _ h => h) rfl (.agg (bv L).toArray) (fun w h => by have hlk := h.2.2; go_simp) hH ?_
        simp only [Act.put, List.setIfInBounds_toArray, List.set_cons_zero, List.set_cons_succ, Nat.zero_add, decide_true, beq_self_eq_true]
        refine wpAnyH_ready (rs := [7]) (by kernel_rfl) (by simp) ?_
        refine AllReadyH.cons rfl (fun K1 hK1 => ?_) AllReadyH.nil
        rw [if_pos (by rfl)]
        refine wp_allocA 72 rfl (bv (zeros 512)) (by kernel_rfl) ?_
        intro w6 h9 hK6
        have hK6' := Lib.hid (hK5'.out.trans (hK6.undrew.mono (by simp)))
        have H6 := Lib.hid (H5.out.drew.keeps hK6 (by simp))
        have hge9 : Hid (w.heap.size ≤ w5.drew.heap.size) := hK5'.out.size
        have hd9 : Hid (∀ x ∈ dblk g bl ba (.slice (some ⟨kk, 0, none⟩) n cw), x ≠ w5.drew.heap.size) := fun x hx e => by have := (H5.out.drew.lt x hx).2; omega
        have hne79 : Hid (g7 ≠ w5.drew.heap.size) := by show _ ≠ _; have := h7.drew.lt; omega
        have hne89 : Hid (g8 ≠ w5.drew.heap.size) := by show _ ≠ _; have := h8.drew.lt; omega
        replace h7 := h7.drew.keeps hK6 (by simp)
        replace h8 := h8.drew.keeps hK6 (by simp)
        have hS6 : w6.cell? ⟨g, 1, none⟩ = some (.map (some bl)) ∧ w6.cell? ⟨g7, 0, none⟩ = some (.int .u32 (a : Int)) ∧ (Instr.lookup 67 (.map (some bl)) (.int .u32 (a : Int)) false).run Try.prog w6 = .ok (.agg (bv L).toArray) w6 := ⟨H6.out.c1, (h7.cell 0).trans rfl, by have := H6.out.look a ha.out; rw [hLe.out] at this; exact this⟩
        refine hK1.out _ _ hS6 (fun hH => ?_)
        clear hK1 K1 hK6 H5 hK5'
        generalize w5.drew.heap.size = g9 at *
        simp only [Act.put, List.getElem_toArray, List.getElem_cons_succ, List.getElem_cons_zero, List.setIfInBounds_toArray, List.set_cons_zero, List.set_cons_succ, Nat.zero_add]
        refine wpAnyH_ready (rs := [8]) (by kernel_rfl) (by simp) ?_
        refine AllReadyH.cons rfl (fun K1 hK1 => ?_) AllReadyH.nil
        rw [if_pos (by rfl)]
        refine wp_storeA 72 (.tmp 9) (.tmp 33) rfl 512 arrS' g9 0 rfl (bv L) rfl 72 _ h9 hll.out (by rw [bv_length]; decide) (ones_bv _) ?_
        intro w7 h9 hK7
        rw [putL_all (by rw [hll.out, bv_length]; decide)] at h9
        have hK7' := Lib.hid (keeps_own hK7 hK6'.out hge9.out)
        have H7 := Lib.hid (H6.out.keeps hK7 (fun x hx => by simp; exact hd9.out x hx))
        replace h7 := h7.keeps hK7 (by simp; exact hne79.out)
        replace h8 := h8.keeps hK7 (by simp; exact hne89.out)
        have hS7 : w7.cell? ⟨g, 1, none⟩ = some (.map (some bl)) ∧ w7.cell? ⟨g7, 0, none⟩ = some (.int .u32 (a : Int)) ∧ (Instr.lookup 67 (.map (some bl)) (.int .u32 (a : Int)) false).run Try.prog w7 = .ok (.agg (bv L).toArray) w7 := ⟨H7.out.c1, (h7.cell 0).trans rfl, by have := H7.out.look a ha.out; rw [hLe.out] at this; exact this⟩
        refine hK1.out _ _ hS7 (fun hH => ?_)
        clear hK1 K1 hK7 H6 hK6' hS6 hS7
        simp only [Act.put, List.getElem_toArray, List.getElem_cons_succ, List.getElem_cons_zero, List.setIfInBounds_toArray, List.set_cons_zero, List.set_cons_succ, Nat.zero_add]
        refine wpAnyH_done (by kernel_rfl) ?_ _
        clear hH
        go_upto_region 7 with fail
        have h8d := h8.drew
        have h9d := h9.drew
        go_still_tail 2, (by kernel_rfl)
        change wpList _ _ _ _ _ w7.drew
        go_wp2_with (refine wpList_copyA rfl (.tmp 34) (.tmp 35) 22 22 rfl 5 Try.underlying22 (by kernel_rfl) g8 _ _ _ rfl ⟨g9, _, none⟩ _ _ rfl 72 _ h8d (bv (L.drop 256)) ?_ ?_ ?_ (ones_bv _) ?_)
        · have := hsc.out.1; omega
        · intro j v hj
          have hj2 : (bv L)[256 + j]? = some v := by simpa [bv] using hj
          exact (h9.cell (256 + j)).trans hj2
        · have := hsc.out.1; have := hps.out.2.1; omega
        intro w8 h8 hK8
        rw [putL_bv, List.length_drop, hsc.out.1, show b.drop (256 + (512 - 256)) = [] from List.drop_of_length_le (by rw [hps.out.2.1]; decide), List.append_nil] at h8
        have hsec : Sec (b.take 256 ++ L.drop 256) := by
          refine ⟨by rw [List.length_append, List.length_take, List.length_drop, hps.out.2.1, hsc.out.1]; decide, fun x hx => ?_⟩
          rcases List.mem_append.1 hx with hx | hx
          · exact hps.out.2.2 x (List.mem_of_mem_take hx)
          · exact hsc.out.2 x (List.mem_of_mem_drop hx)
        have hK8' := Lib.hid (keeps_own hK8.undrew hK7'.out hge8.out)
        have H8 := Lib.hid (H7.out.drew.keeps hK8 (fun x hx => by simp; exact hd8.out x hx))
        have h78 := h7.drew.keeps hK8 (by simp; exact hne78.out)
        have hb8 := Lib.hid (show (bv (b.take 256 ++ L.drop 256)).length = 512 by rw [bv_length]; exact hsec.1)
        generalize b.take 256 ++ L.drop 256 = b8 at *
        clear h7 h9 h8d h9d hK8 H7 hK7'
        go_upto_region 9 with fail
        have c1 := H8.out.drew.c1
        have ca : w8.drew.cell? ⟨g7, 0, none⟩ = some (.int .u32 (a : Int)) := (h78.drew.cell 0).trans rfl
        obtain ⟨w9, hrun9, H9, hK9⟩ := H8.out.drew.lay (by have := hm; omega) (a := a) ha.out hsec
        have hK9' := Lib.hid (hK8'.out.trans (hK9.undrew.mono (by simp [dblk])))
        replace H9 := Lib.hid H9
        unfold secV at hrun9
        have h8d := h8.drew
        go_still_tail 7, (by kernel_rfl)
        refine wpStill_loadW rfl 72 (.tmp 8) rfl 512 arrS' g8 rfl 72 _ h8d hb8.out ?_
        refine wpStill_nil ?_
        change wpList _ _ _ _ _ w8.drew
        clear c1 ca
        go_wp2
        go_roundw
        case rel => exact ⟨k + 1, m + 1, by omega, by go_num, by rw [hst.out]; exact H9.out, by omega, hK9'.out⟩
        case measure => simp [intOf]; omega
      · rw [if_neg htn] at hst
        have e0 : ((k : Int) == torn) = false := by simpa using htn
        have hkb0 := keep_bit keep k (by omega)
        by_cases hkb : keep / 2 ^ (k % 64) % 2 = 1
        · rw [if_pos hkb] at hst
          rw [hkb] at hkb0
          clear hkb
          go_upto_region 9 with fail
          have c1 := H5.out.drew.c1
          have ca : w5.drew.cell? ⟨g7, 0, none⟩ = some (.int .u32 (a : Int)) := (h7.drew.cell 0).trans rfl
          obtain ⟨w6, hrun6, H6, hK6⟩ := H5.out.drew.lay (by have := hm; omega) (a := a) (by have h1 : a < s.size := hps.out.1; have h2 : s.size ≤ 4096 := H0.out.ok.size.2; omega) hps.out.2
          have hK6' := Lib.hid (hK5'.out.trans (hK6.undrew.mono (by simp [dblk])))
          replace H6 := Lib.hid H6
          unfold secV at hrun6
          have h8d := h8.drew
          go_still_tail 7, (by kernel_rfl)
          refine wpStill_loadW rfl 72 (.tmp 8) rfl 512 arrS' g8 rfl 72 _ h8d hbl.out ?_
          refine wpStill_nil ?_
          change wpList _ _ _ _ _ w5.drew
          clear c1 ca hkb0
          go_wp2
          go_roundw
          case rel => exact ⟨k + 1, m + 1, by omega, by go_num, by rw [hst.out]; exact H6.out, by omega, hK6'.out⟩
          case measure => simp [intOf]; omega
        · rw [if_neg hkb] at hst
          have hkb1 : (bits .and .u64 ((keep : Int) / 2 ^ (k % 64)) 1 == 1) = false := by rw [hkb0]; exact beq_eq_false_iff_ne.2 (fun e => hkb (by exact_mod_cast e))
          clear hkb hkb0
          go_wp2
          go_roundw
          case rel => exact ⟨k + 1, m, by omega, by go_num, by rw [hst.out]; exact H5.out, by omega, hK5'.out⟩
          case measure => simp [intOf]; omega
    · obtain rfl : k = n := by omega
      have hq := Lib.hid (quiet_any H)
      have hK' := Lib.hid hK
      clear hK H
      go_wp2_with fail
      refine hq.out.mono ?_
      rintro e w6 ⟨rfl, H6, hK6⟩
      have hwr := Lib.hid hK'.out.size
      have hK6' := Lib.hid (hK'.out.trans (hK6.mono (by simp [dblk])))
      have hb := H6.blk
      have c4 := H6.c4
      have c5 := H6.c5
      have f4 := hb.frozen 4
      have f5 := hb.frozen 5
      have b6 := Lib.hid ((hb.set_ 5 (.bool false)).set_ 4 (.int .i64 (-1)))
      have k6 := Lib.hid (((Keeps.refl [g] w6).setCell (p := ⟨g, 5, none⟩) (by simp) (.bool false)).setCell (p := ⟨g, 4, none⟩) (by simp) (.int .i64 (-1)))
      replace H6 := Lib.hid H6
      clear hb hK6 hq
      go_wp2
      try go_returns
      refine hR.out _ _ ⟨wr.heap.size, m, rfl, ?_, hm, hK6'.out.trans (k6.out.mono (by simp [dblk])), hwr.out⟩
      have := H6.out.set (s' := crashS s keep torn) k6.out b6.out rfl (by show crashN _ _ _ _ s.waits.length = crashN _ _ _ _ k; rw [hn.out]) rfl ⟨by show (-1 : Int) ≤ -1; decide, by show (-1 : Int) ≤ _; decide⟩
      exact this
end Go.Proofs.Ytkpefffephbhnaa
