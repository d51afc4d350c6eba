/- The reference's device: Flush. -/
import Derived.Test.YtkpefffephbhnaaRvA
import Derived.Test.YtkpefffephbhnaaDevP
set_option linter.unusedVariables false
set_option linter.unusedSimpArgs false
namespace Go.Proofs.Ytkpefffephbhnaa
open Go.RowKit Go.Maps
open Go.Proofs.PlainDev

/-- The row's block, and what one that waits is there. -/
theorem row_wait {B e : Nat} {w : World} {vw : Value} {ws : List (Nat × List Nat)} (hok : ∀ p ∈ ws, Sec p.2) (hr : w.ownsRow B e 513 vw ws.length (wcl ws)) {i : Nat} {p : Nat × List Nat} (hp : ws[i]? = some p) :
    ∃ k cap L, vw = .slice (some ⟨k, 0, none⟩) ws.length cap ∧ Blk w k e L ∧ (i + 1) * 513 ≤ L.length ∧ (L.drop (i * 513)).take 513 = .int .u32 (p.1 : Int) :: bv p.2 := by
  have hi : i < ws.length := (List.getElem?_eq_some_iff.1 hp).1
  have hw := wcl_get ws (fun p hp => (hok p hp).1) i p hp
  rcases hr.2 with ⟨_, h0⟩ | ⟨k, cap, cur, e, _, hk, hc1, hc2, hc3, htk⟩
  · omega
  · have h5 : (i + 1) * 513 ≤ ws.length * 513 := Nat.mul_le_mul_right _ hi
    have h6 : ws.length * 513 ≤ cur.size := by rw [hc3]; exact Nat.mul_le_mul_right _ hc1
    have hd : ((cur.toList.drop (i * 513)).take 513) = .int .u32 (p.1 : Int) :: bv p.2 := by
      rw [← hw.2, ← htk, List.drop_take, List.take_take]
      congr 1
      omega
    exact ⟨k, cap, cur.toList, e, hk, by rw [Array.length_toList]; exact Nat.le_trans h5 h6, hd⟩
section
variable {B : Nat} {w w' : World} {g gl : Nat} {vw : Value} {s : Dst}
theorem Rv.wait (h : Rv B w g gl vw s) {i : Nat} {p : Nat × List Nat} (hp : s.waits[i]? = some p) :
    ∃ k cap L, vw = .slice (some ⟨k, 0, none⟩) s.waits.length cap ∧ Blk w k 80 L ∧ (i + 1) * 513 ≤ L.length ∧ (L.drop (i * 513)).take 513 = .int .u32 (p.1 : Int) :: bv p.2 :=
  row_wait (fun p hp => (h.ok.waits p hp).2) h.row hp
/-- A sector's first bytes are laid. -/
theorem Rv.lay (h : Rv B w g gl vw s) (hK : Keeps [gl] w w') {a : Nat} (ha : a < s.size) {m : List Nat} (hm : m.length ≤ 512) (hb8 : ∀ x ∈ m, x < 256) (hb : Blk w' gl 65 (putL (rcl s.size (liesL s)) (a * 512) (bv m))) :
    Rv B w' g gl vw { s with lies := lset s.lies a (m ++ (liesL s a).drop m.length) } := by
  have hs := liesL_sec h.ok a
  refine ⟨⟨h.ok.size, ?_, h.ok.waits, h.ok.left⟩, h.blk.keeps hK (by simp; exact h.ne), ?_, ownsRow_keeps h.row hK (fun k hk => by simp; exact (h.ne4 k hk).2), h.gB, h.glB, h.ne, h.ne4⟩
  · intro x l hx
    change lset s.lies a _ x = some l at hx
    unfold lset at hx
    by_cases e : x = a
    · rw [if_pos e] at hx
      injection hx with hx
      rw [← hx]
      refine ⟨by rw [List.length_append, List.length_drop, hs.1]; omega, fun y hy => ?_⟩
      rcases List.mem_append.1 hy with hy | hy
      · exact hb8 y hy
      · exact hs.2 y (List.mem_of_mem_drop hy)
    · rw [if_neg e] at hx; exact h.ok.lies x l hx
  · rw [rcl_put (lies_len h.ok) ha hm] at hb
    have e : rset (liesL s) a m = liesL { s with lies := lset s.lies a (m ++ (liesL s a).drop m.length) } := by
      funext x
      unfold rset
      show _ = (lset s.lies a (m ++ (liesL s a).drop m.length) x).getD _
      unfold lset
      split <;> rfl
    rw [e] at hb
    exact hb
end
theorem arrWr6 : ArrTy Try.prog 80 513 := ⟨_, Try.underlying80, rfl, by kernel_rfl⟩
theorem wr6_zero : (Try.prog.info? 80).bind (·.zero) = some (.agg (.int .u32 0 :: bv (zeros 512) : List Value).toArray) := by kernel_rfl
theorem flush_take (f : Nat → Option (List Nat)) (ws : List (Nat × List Nat)) {k a : Nat} {b : List Nat} (h : ws[k]? = some (a, b)) : flushL f (ws.take (k + 1)) = lset (flushL f (ws.take k)) a b := by
  rw [take_succ_get ws k _ h, flushL_app]
set_option maxRecDepth 100000 in
set_option maxHeartbeats 2000000 in
theorem flush6 {B g : Nat} {w : World} {L : List Nat} {s : Dst} (h : Rx B w g L s) (hnw : (s.waits.length : Int) ≤ 100000) :
    Calls Try.prog 26 #[.pointer (some ⟨g, 0, none⟩)] w fun e w' => ∃ L', e = .returned (.int .i64 (flushS s).2) ∧ Rx B w' g L' (flushS s).1 ∧ Step L L' w w' := by
  obtain ⟨gl, vw, h, rfl⟩ := h
  unfold flushS
  have c3 := h.c3
  cases hd : s.down with
  | true =>
    rw [if_pos rfl]
    rw [hd] at c3
    have H := Lib.hid h
    clear h
    go_enter Try.func26, Try.ntmps26
    go_wp2
    go_ret
    exact ⟨_, rfl, ⟨gl, vw, H.out, rfl⟩, Step.refl _ _⟩
  | false =>
    have hst := Lib.hid (goes6 h hd)
    rw [if_neg (by simp)]
    rw [hd] at c3
    cases hd2 : (stepS s).down with
    | true =>
      rw [if_pos rfl]
      rw [hd2] at hst
      clear h
      go_enter Try.func26, Try.ntmps26
      go_wp2_with fail
      refine hst.out.mono ?_
      rintro e w2 ⟨rfl, h2, hK2⟩
      go_wp2
      go_ret
      exact ⟨_, rfl, ⟨gl, vw, h2, rfl⟩, ⟨keeps_one hK2 (mem_rblk.2 (.inl rfl)), fun k hk => .inl hk⟩⟩
    | false =>
      rw [if_neg (by simp)]
      rw [hd2] at hst
      obtain ⟨Aw, cw, hvw⟩ : ∃ A c, vw = .slice A s.waits.length c := by
        rcases h.row.2 with ⟨e, e2⟩ | ⟨g', cap, cur, e, _⟩
        · exact ⟨none, 0, by rw [e, e2]⟩
        · exact ⟨_, _, e⟩
      subst hvw
      have hz0 : Hid ({ stepS s with lies := flushL s.lies (s.waits.take 0) } = stepS s) := by show _ = _; rw [List.take_zero]; rfl
      have hfin : Hid (∀ k, k = s.waits.length → flushL s.lies (s.waits.take k) = flushL s.lies s.waits) := fun k hk => by rw [hk, List.take_length]
      have hstep : Hid (∀ k a b, s.waits[k]? = some (a, b) → flushL s.lies (s.waits.take (k + 1)) = lset (flushL s.lies (s.waits.take k)) a b) := fun k a b hp => flush_take _ _ hp
      have hRX : Hid (∀ w' v, Keeps (rblk g gl (.slice Aw s.waits.length cw)) w w' → v.ownBlock = none → Rv B w' g gl v { stepS s with lies := flushL s.lies s.waits, waits := [] } → ∃ L', Rx B w' g L' { stepS s with lies := flushL s.lies s.waits, waits := [] } ∧ Step (rblk g gl (.slice Aw s.waits.length cw)) L' w w') := fun w' v hK hv hR => ⟨_, ⟨gl, v, hR, rfl⟩, ⟨hK, fun k hk => by
        rcases mem_rblk.1 hk with e | e | e
        · exact .inl (mem_rblk.2 (.inl e))
        · exact .inl (mem_rblk.2 (.inr (.inl e)))
        · rw [hv] at e; cases e⟩⟩
      have hlt := Lib.hid h.lt
      have hwS : Hid ((stepS s).waits = s.waits) := rfl
      clear h
      generalize hn0 : s.waits.length = n at *
      have hn := Lib.hid hn0.symm
      clear hn0
      go_enter Try.func26, Try.ntmps26
      go_wp2_with fail
      refine hst.out.mono ?_
      rintro e w2 ⟨rfl, h2, hK2⟩
      have hKW := Lib.hid (keeps_one (G := rblk g gl (.slice Aw n cw)) hK2 (mem_rblk.2 (.inl rfl)))
      have c1 := h2.c1
      replace h2 := Lib.hid h2
      clear hK2 hst c3
      go_wp2_with fail
      go_loopw [19] (fun i wr => ∃ k : Nat, (k : Int) ≤ n ∧ i = .int .i64 (k : Int) ∧ Hid (Rv B wr g gl (.slice Aw n cw) { stepS s with lies := flushL s.lies (s.waits.take k) }) ∧ Hid (Keeps (rblk g gl (.slice Aw n cw)) w wr)) (fun i _ => n - (intOf i).toNat)
      case atStart => exact ⟨0, by omega, rfl, by rw [hz0.out]; exact h2, hKW⟩
      case round =>
        clear c1 h2 hKW
        obtain ⟨k, hk, rfl, H, hK⟩ := hrel
        by_cases hlt2 : (k : Int) < n
        · obtain ⟨p, hp⟩ : ∃ p, s.waits[k]? = some p := ⟨_, List.getElem?_eq_getElem (by have := hn.out; omega)⟩
          obtain ⟨a, b⟩ := p
          have hst := hstep.out k _ _ hp
          have hps := H.out.ok.waits (a, b) (List.mem_of_getElem? hp)
          have hbl := Lib.hid (show (bv b).length = 512 by rw [bv_length]; exact hps.2.1)
          obtain ⟨kk, cap, LL, hvw, hkk, hLl, hLd⟩ := H.out.wait (p := (a, b)) hp
          have hkn := Lib.hid (H.out.lt)
          injection hvw with e1 e2 e3
          subst e1 e3
          clear e2
          replace hLd := Lib.hid hLd
          replace hLl := Lib.hid hLl
          replace hst := Lib.hid hst
          replace hps := Lib.hid hps
          clear hp
          go_wp2_with (first
            | refine wpList_loadA rfl 80 (.tmp 21) rfl 513 arrWr6 kk (k * 513) rfl 80 LL hkk (by have := hLl.out; omega) (.int .u32 (a : Int) :: bv b) hLd.out ?_
            | refine wpList_allocA rfl 80 rfl (.int .u32 0 :: bv (zeros 512)) wr6_zero ?_)
          intro w3 h4 hK3 hz3
          have hK3' := Lib.hid (hK.out.trans (hK3.mono (by simp)))
          have H3 := Lib.hid (H.out.keeps hK3 (by simp))
          have hge4 : Hid (w.heap.size ≤ wr.heap.size) := hK.out.size
          have hd4 : Hid (∀ x ∈ rblk g gl (.slice (some ⟨kk, 0, none⟩) n cw), x ≠ wr.heap.size) := fun x hx e => by have := (hkn.out x hx).2; omega
          clear hK3 hkk hLd hLl hz3 H hkn
          generalize wr.heap.size = g4 at *
          go_wp2_with (refine wpList_storeW rfl 80 (.tmp 4) (.tmp 22) rfl 513 arrWr6 g4 rfl (.int .u32 (a : Int) :: bv b) rfl 80 _ h4 ?_ ?_ (ones_wr a b) ?_)
          · rw [List.length_cons, hbl.out]
          · rw [List.length_cons, bv_length]; rw [show (zeros 512).length = 512 from List.length_replicate]
          intro w4 h4 hK4
          have hK4' := Lib.hid (keeps_own hK4 hK3'.out hge4.out)
          have H4 := H3.out.keeps hK4 (fun x hx => by simp; exact hd4.out x hx)
          clear hK4 H3 hK3' hK
          go_upto_region 6 with fail
          have h4d := h4.drew
          have c0 := H4.drew.c0
          have ca : w4.drew.cell? ⟨g4, 0, none⟩ = some (.int .u32 (a : Int)) := (h4d.cell 0).trans rfl
          have hzs := H4.ok.size
          have haz : (a : Int) < (stepS s).size := by have : a < (stepS s).size := hps.out.1; omega
          have hzI : ((stepS s).size : Int) ≤ 4096 := by have : (stepS s).size ≤ 4096 := hzs.2; omega
          have hll := H4.drew.lies
          have hrl := Lib.hid (rcl_length (lies_len H4.ok))
          replace H4 := Lib.hid H4
          change w4.drew.cell? ⟨g, 0, none⟩ = some (.slice (some ⟨gl, 0, none⟩) (stepS s).size (stepS s).size) at c0
          go_still_tail 9, (by kernel_rfl)
          refine wpStill_loadA rfl 65 (.tmp 29) rfl 512 arr512 g4 1 rfl 80 _ h4d (by rw [List.length_cons, hbl.out]; decide) (bv b) (wr_drop a hbl.out) ?_
          repeat still_step
          try refine wpStill_nil ?_
          change wpList _ _ _ _ _ w4.drew
          go_wp2_with (refine wpList_storeA rfl 65 (.tmp 31) (.tmp 30) rfl 512 arr512 gl (a * 512) rfl (bv b) rfl 65 _ hll hbl.out ?_ (ones_bv _) ?_)
          · refine Nat.le_trans ?_ (Nat.le_of_eq hrl.out.symm)
            rw [← Nat.succ_mul]
            exact Nat.mul_le_mul_right _ hps.out.1
          intro w5 hb5 hK5
          have hlen := hps.out.2.1
          have H5 := H4.out.drew.lay hK5 hps.out.1 (Nat.le_of_eq hps.out.2.1) hps.out.2.2 hb5
          rw [hps.out.2.1, List.drop_of_length_le (Nat.le_of_eq (lies_len H4.out.ok a hps.out.1)), List.append_nil] at H5
          have hK5' := Lib.hid (hK4'.out.trans ((hK5.undrew).mono (by simp [rblk])))
          replace H5 := Lib.hid H5
          change Hid (Rv B w5 g gl _ { stepS s with lies := lset (flushL s.lies (s.waits.take k)) a b }) at H5
          rw [← hst.out] at H5
          clear c0 ca hll hK5 H4 hK4' h4 h4d hlen hb5
          go_wp2
          go_roundw
          case rel => exact ⟨k + 1, by omega, by go_num, H5, hK5'⟩
          case measure => simp [intOf]; omega
        · obtain rfl : k = n := by omega
          have hb := H.out.blk
          have c1 := H.out.c1
          have f1 := hb.frozen 1
          have b6 := Lib.hid (hb.set_ 1 (.slice none 0 0))
          have k6 := Lib.hid ((Keeps.refl [g] wr).setCell (p := ⟨g, 1, none⟩) (by simp) (.slice none 0 0))
          have hli := Lib.hid (H.out.lies.keeps k6.out (by simp; exact fun e => H.out.ne e.symm))
          rw [hfin.out k rfl] at H
          have hK' := Lib.hid (hK.out.trans (keeps_one k6.out (mem_rblk.2 (.inl rfl))))
          clear hb
          go_wp2
          go_ret
          have hli' := hli.out
          rw [hfin.out k rfl] at hli'
          have := hRX.out _ (.slice none 0 0) hK'.out rfl ⟨⟨H.out.ok.size, H.out.ok.lies, (fun p hp => by cases hp), H.out.ok.left⟩, b6.out, hli', World.ownsRow_nil _ _ _ _, H.out.gB, H.out.glB, H.out.ne, fun q hq => by cases hq⟩
          rw [hd2] at this
          exact ⟨rfl, this⟩
end Go.Proofs.Ytkpefffephbhnaa
