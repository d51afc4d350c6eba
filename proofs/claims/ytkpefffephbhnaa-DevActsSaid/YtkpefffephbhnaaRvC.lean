/- The reference's device: Crash. -/
import Derived.Test.YtkpefffephbhnaaRvB
import Derived.Deep.DeepCutAuto
set_option linter.unusedVariables false
set_option linter.unusedSimpArgs false
namespace Go.Proofs.Ytkpefffephbhnaa
open Go.RowKit Go.Maps
open Go.Proofs.PlainDev

theorem cut512 (g off : Nat) (w : World) : (Instr.sliceAt 65 (.pointer (some ⟨g, off, none⟩)) none (some (.int .i64 256)) none).run Try.prog w = .ok (.slice (some ⟨g, off, none⟩) 256 512) w := by kernel_rfl
theorem whole512 (g off : Nat) (w : World) : (Instr.sliceAt 65 (.pointer (some ⟨g, off, none⟩)) none none none).run Try.prog w = .ok (.slice (some ⟨g, off, none⟩) 512 512) w := by kernel_rfl
theorem row_le {n a : Nat} (h : a < n) : a * 512 + 512 ≤ n * 512 := by rw [← Nat.succ_mul]; exact Nat.mul_le_mul_right _ h
theorem halves (keep j : Nat) : keep / 2 ^ j / 2 = keep / 2 ^ (j + 1) := by rw [Nat.div_div_eq_div_mul, Nat.pow_succ]
set_option maxRecDepth 100000 in
set_option maxHeartbeats 4000000 in
theorem crash6 {B g : Nat} {w : World} {L : List Nat} {s : Dst} (h : Rx B w g L s) (keep : Nat) (torn : Int) (hkp : (keep : Int) ≤ 18446744073709551615) (ht0 : -9223372036854775808 ≤ torn) (ht1 : torn ≤ 9223372036854775807) (hnw : (s.waits.length : Int) ≤ 100000) :
    Calls Try.prog 28 #[.pointer (some ⟨g, 0, none⟩), .int .u64 (keep : Int), .int .i64 torn] w fun e w' => ∃ L', e = .returned (.tuple #[]) ∧ Rx B w' g L' (crashS s keep torn) ∧ Step L L' w w' := by
  obtain ⟨gl, vw, h, rfl⟩ := h
  have hstep : Hid (∀ k p, s.waits[k]? = some p → crashN s.lies s.waits keep torn (k + 1) = if (k : Int) = torn then lset (crashN s.lies s.waits keep torn k) p.1 (p.2.take 256 ++ ((crashN s.lies s.waits keep torn k p.1).getD (List.replicate 512 0)).drop 256)
      else if keep / 2 ^ (k % 64) % 2 = 1 then lset (crashN s.lies s.waits keep torn k) p.1 p.2 else crashN s.lies s.waits keep torn k) := fun k p hp => by
    show (match s.waits[k]? with | none => _ | some p => _) = _
    rw [hp]
  have hz : Hid (crashN s.lies s.waits keep torn 0 = s.lies) := rfl
  have c1 := h.c1
  obtain ⟨Aw, cw, hvw⟩ : ∃ A c, vw = .slice A s.waits.length c := by
    rcases h.row.2 with ⟨e, e2⟩ | ⟨g', cap, cur, e, _⟩
    · exact ⟨none, 0, by rw [e, e2]⟩
    · exact ⟨_, _, e⟩
  subst hvw
  have H0 := Lib.hid h
  have hlt := Lib.hid h.lt
  have hRX : Hid (∀ w' v, Keeps (rblk g gl (.slice Aw s.waits.length cw)) w w' → v.ownBlock = none → Rv B w' g gl v (crashS s keep torn) → ∃ L', Rx B w' g L' (crashS s keep torn) ∧ Step (rblk g gl (.slice Aw s.waits.length cw)) L' w w') := fun w' v hK hv hR => ⟨_, ⟨gl, v, hR, rfl⟩, ⟨hK, fun k hk => by
    rcases mem_rblk.1 hk with e | e | e
    · exact .inl (mem_rblk.2 (.inl e))
    · exact .inl (mem_rblk.2 (.inr (.inl e)))
    · rw [hv] at e; cases e⟩⟩
  have hcS : Hid (crashS s keep torn = { s with lies := crashN s.lies s.waits keep torn s.waits.length, waits := [], left := -1, down := false }) := rfl
  clear h
  generalize hn0 : s.waits.length = n at *
  have hn := Lib.hid hn0.symm
  clear hn0
  go_enter Try.func28, Try.ntmps28
  go_wp2
  go_loopw [15] (fun i wr => ∃ (k : Nat), (k : Int) ≤ n ∧ i = .int .i64 (k : Int) ∧ Hid (Rv B wr g gl (.slice Aw n cw) { s with lies := crashN s.lies s.waits keep torn k }) ∧ Hid (Keeps (rblk g gl (.slice Aw n cw)) w wr)) (fun i _ => n - (intOf i).toNat)
  case atStart => exact ⟨0, by omega, rfl, by rw [hz.out]; exact H0, Keeps.refl _ _⟩
  case round =>
    clear c1
    obtain ⟨k, hk, rfl, H, hK⟩ := hrel
    by_cases hlt2 : (k : Int) < n
    · obtain ⟨p, hp⟩ : ∃ p, s.waits[k]? = some p := ⟨_, List.getElem?_eq_getElem (by have := hn.out; omega)⟩
      obtain ⟨a, b⟩ := p
      have hst := hstep.out k _ hp
      have hps := H.out.ok.waits (a, b) (List.mem_of_getElem? hp)
      have hbl := Lib.hid (show (bv b).length = 512 by rw [bv_length]; exact hps.2.1)
      obtain ⟨kk, cap, LL, hvw, hkk, hLl, hLd⟩ := H.out.wait (p := (a, b)) hp
      have hkn := Lib.hid (H.out.lt)
      injection hvw with e1 e2 e3
      subst e1 e3
      clear e2
      replace hLd := Lib.hid hLd
      replace hLl := Lib.hid hLl
      replace hst := Lib.hid hst
      replace hps := Lib.hid hps
      clear hp
      go_wp2_with (first
        | refine wpList_loadA rfl 80 (.tmp 18) rfl 513 arrWr6 kk (k * 513) rfl 80 LL hkk (by have := hLl.out; omega) (.int .u32 (a : Int) :: bv b) hLd.out ?_
        | refine wpList_allocA rfl 80 rfl (.int .u32 0 :: bv (zeros 512)) wr6_zero ?_)
      intro w3 h4 hK3 hz3
      have hK3' := Lib.hid (hK.out.trans (hK3.mono (by simp)))
      have H3 := Lib.hid (H.out.keeps hK3 (by simp))
      have hge4 : Hid (w.heap.size ≤ wr.heap.size) := hK.out.size
      have hd4 : Hid (∀ x ∈ rblk g gl (.slice (some ⟨kk, 0, none⟩) n cw), x ≠ wr.heap.size) := fun x hx e => by have := (hkn.out x hx).2; omega
      clear hK3 hkk hLd hLl hz3 H hkn
      generalize wr.heap.size = g4 at *
      go_wp2_with (refine wpList_storeW rfl 80 (.tmp 7) (.tmp 19) rfl 513 arrWr6 g4 rfl (.int .u32 (a : Int) :: bv b) rfl 80 _ h4 ?_ ?_ (ones_wr a b) ?_)
      · rw [List.length_cons, hbl.out]
      · rw [List.length_cons, bv_length]; rw [show (zeros 512).length = 512 from List.length_replicate]
      intro w4 h4 hK4
      have hK4' := Lib.hid (keeps_own hK4 hK3'.out hge4.out)
      have H4 := H3.out.keeps hK4 (fun x hx => by simp; exact hd4.out x hx)
      clear hK4 H3 hK3' hK
      replace H4 := Lib.hid H4
      replace h4 := Lib.hid h4
      go_wp2
      go_loop [8, 9] (fun x i => ∃ j v : Nat, (j : Int) ≤ (k : Int) % 64 ∧ i = .int .i64 (j : Int) ∧ x = .int .u64 (v : Int) ∧ (v : Int) ≤ 18446744073709551615 ∧ Hid (v = keep / 2 ^ j)) (fun _ i => 64 - (intOf i).toNat)
      case atStart => exact ⟨0, keep, by omega, rfl, rfl, hkp, by show _ = _; simp⟩
      case round =>
        obtain ⟨j, v, hj, rfl, rfl, hvle, hv⟩ := hrel
        by_cases hj2 : (j : Int) < (k : Int) % 64
        · go_wp2
          go_round
          case rel => exact ⟨j + 1, v / 2, by omega, by go_num, by simp, by omega, by show _ = _; rw [hv.out, halves]⟩
          case measure => simp [intOf]; omega
        · have hjk : j = k % 64 := by omega
          have hv2 : Hid (v = keep / 2 ^ (k % 64)) := by rw [← hjk]; exact hv
          clear hv hjk
          by_cases htn : (k : Int) = torn
          · rw [if_pos htn] at hst
            subst htn
            go_upto_region 9 with fail
            have h4d := h4.out.drew
            have c0 := H4.out.drew.c0
            have ca : w4.drew.cell? ⟨g4, 0, none⟩ = some (.int .u32 (a : Int)) := (h4d.cell 0).trans rfl
            have hzs := H4.out.ok.size
            have haz : (a : Int) < s.size := by have : a < s.size := hps.out.1; omega
            have hzI : (s.size : Int) ≤ 4096 := by have : s.size ≤ 4096 := hzs.2; omega
            have hll := H4.out.drew.lies
            have hrl := Lib.hid (rcl_length (lies_len H4.out.ok))
            change w4.drew.cell? ⟨g, 0, none⟩ = some (.slice (some ⟨gl, 0, none⟩) s.size s.size) at c0
            have q1 := fun w => cut512 gl (a * 512) w
            have q2 := fun w => cut512 g4 1 w
            go_still_tail 10, (by kernel_rfl)
            change wpList _ _ _ _ _ w4.drew
            go_wp2_with (refine wpList_copyA rfl (.tmp 39) (.tmp 41) 22 22 rfl 5 Try.underlying22 (by kernel_rfl) gl (a * 512) 256 512 rfl ⟨g4, 1, none⟩ 256 512 rfl 65 _ hll (bv (b.take 256)) ?_ ?_ ?_ (ones_bv _) ?_)
            · have := hps.out.2.1; omega
            · intro j2 v2 hj2
              have hj3 : (bv b)[j2]? = some v2 := by
                have : (bv (b.take 256)) = (bv b).take 256 := by simp [bv]
                rw [this, List.getElem?_take] at hj2
                split at hj2
                · exact hj2
                · cases hj2
              refine (h4.out.cell (1 + j2)).trans ?_
              rw [Nat.add_comm, List.getElem?_cons_succ]
              exact hj3
            · refine Nat.le_trans ?_ (Nat.le_of_eq hrl.out.symm)
              have hlen : min 256 b.length ≤ 512 := by omega
              exact Nat.le_trans (Nat.add_le_add_left hlen _) (row_le hps.out.1)
            intro w5 hb5 hK5
            have hlen : (b.take 256).length = 256 := by rw [List.length_take, hps.out.2.1]; rfl
            have H5 := H4.out.drew.lay hK5 hps.out.1 (by rw [hlen]; decide) (fun x hx => hps.out.2.2 x (List.mem_of_mem_take hx)) hb5
            rw [hlen] at H5
            have hK5' := Lib.hid (hK4'.out.trans ((hK5.undrew).mono (by simp [rblk])))
            replace H5 := Lib.hid H5
            change Hid (Rv B w5 g gl _ { s with lies := lset (crashN s.lies s.waits keep (k : Int) k) a (b.take 256 ++ ((crashN s.lies s.waits keep (k : Int) k a).getD (List.replicate 512 0)).drop 256) }) at H5
            rw [← hst.out] at H5
            clear c0 ca hll hK5 H4 hK4' h4 h4d hlen hb5 q1 q2
            go_wp2
            go_roundw
            case rel => exact ⟨k + 1, by omega, by go_num, H5, hK5'⟩
            case measure => simp [intOf]; omega
          · rw [if_neg htn] at hst
            have e0 : ((k : Int) == torn) = false := by simpa using htn
            by_cases hkb : (v : Int) % 2 = 1
            · rw [if_pos (by rw [← hv2.out]; omega)] at hst
              go_upto_region 11 with fail
              have h4d := h4.out.drew
              have c0 := H4.out.drew.c0
              have ca : w4.drew.cell? ⟨g4, 0, none⟩ = some (.int .u32 (a : Int)) := (h4d.cell 0).trans rfl
              have hzs := H4.out.ok.size
              have haz : (a : Int) < s.size := by have : a < s.size := hps.out.1; omega
              have hzI : (s.size : Int) ≤ 4096 := by have : s.size ≤ 4096 := hzs.2; omega
              have hll := H4.out.drew.lies
              have hrl := Lib.hid (rcl_length (lies_len H4.out.ok))
              change w4.drew.cell? ⟨g, 0, none⟩ = some (.slice (some ⟨gl, 0, none⟩) s.size s.size) at c0
              go_still_tail 9, (by kernel_rfl)
              refine wpStill_loadA rfl 65 (.tmp 52) rfl 512 arr512 g4 1 rfl 80 _ h4d (by rw [List.length_cons, hbl.out]; decide) (bv b) (wr_drop a hbl.out) ?_
              repeat still_step
              try refine wpStill_nil ?_
              change wpList _ _ _ _ _ w4.drew
              go_wp2_with (refine wpList_storeA rfl 65 (.tmp 54) (.tmp 53) rfl 512 arr512 gl (a * 512) rfl (bv b) rfl 65 _ hll hbl.out ?_ (ones_bv _) ?_)
              · exact Nat.le_trans (row_le hps.out.1) (Nat.le_of_eq hrl.out.symm)
              intro w5 hb5 hK5
              have H5 := H4.out.drew.lay hK5 hps.out.1 (Nat.le_of_eq hps.out.2.1) hps.out.2.2 hb5
              rw [hps.out.2.1, List.drop_of_length_le (Nat.le_of_eq (lies_len H4.out.ok a hps.out.1)), List.append_nil] at H5
              have hK5' := Lib.hid (hK4'.out.trans ((hK5.undrew).mono (by simp [rblk])))
              replace H5 := Lib.hid H5
              change Hid (Rv B w5 g gl _ { s with lies := lset (crashN s.lies s.waits keep torn k) a b }) at H5
              rw [← hst.out] at H5
              clear c0 ca hll hK5 H4 hK4' h4 h4d hb5
              go_wp2
              go_roundw
              case rel => exact ⟨k + 1, by omega, by go_num, H5, hK5'⟩
              case measure => simp [intOf]; omega
            · rw [if_neg (by rw [← hv2.out]; omega)] at hst
              rw [← hst.out] at H4
              clear h4
              go_wp2
              go_roundw
              case rel => exact ⟨k + 1, by omega, by go_num, H4, hK4'⟩
              case measure => simp [intOf]; omega
    · obtain rfl : k = n := by omega
      have hb := H.out.blk
      have c1 := H.out.c1
      have c2 := H.out.c2
      have c3 := H.out.c3
      have f1 := hb.frozen 1
      have f2 := hb.frozen 2
      have f3 := hb.frozen 3
      have b6 := Lib.hid (((hb.set_ 1 (.slice none 0 0)).set_ 3 (.bool false)).set_ 2 (.int .i64 (-1)))
      have k6 := Lib.hid ((((Keeps.refl [g] wr).setCell (p := ⟨g, 1, none⟩) (by simp) (.slice none 0 0)).setCell (p := ⟨g, 3, none⟩) (by simp) (.bool false)).setCell (p := ⟨g, 2, none⟩) (by simp) (.int .i64 (-1)))
      have hli := Lib.hid (H.out.lies.keeps k6.out (by simp; exact fun e => H.out.ne e.symm))
      have hK' := Lib.hid (hK.out.trans (keeps_one k6.out (mem_rblk.2 (.inl rfl))))
      clear hb
      go_wp2
      try go_returns
      rw [hcS.out] at hRX
      have := hRX.out _ (.slice none 0 0) hK'.out rfl ⟨⟨H.out.ok.size, H.out.ok.lies, (fun p hp => by cases hp), by show (-1 : Int) ≤ -1; decide, by show (-1 : Int) ≤ _; decide⟩, b6.out, hli.out, World.ownsRow_nil _ _ _ _, H.out.gB, H.out.glB, H.out.ne, fun q hq => by cases hq⟩
      rw [hcS.out]
      exact ⟨rfl, this⟩
end Go.Proofs.Ytkpefffephbhnaa
