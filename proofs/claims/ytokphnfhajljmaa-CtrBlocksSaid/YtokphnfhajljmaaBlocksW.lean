/- The law CtrBlocks: the walk. -/
import Derived.Test.YtokphnfhajljmaaCtrS
import Derived.Test.YtokphnfhajljmaaOpenB
import Derived.Test.YtokphnfhajljmaaClosW
import Derived.Test.YtokphnfhajljmaaEqG
import Derived.Test.YtokphnfhajljmaaBackP
import Derived.Deep.DeepCutAuto
import Derived.Deep.OwnRows
set_option linter.unusedVariables false
set_option linter.unusedSimpArgs false
namespace Go.Proofs.Ytokphnfhajljmaa
open Go.RowKit
open Go.Proofs.PlainAes
theorem ub : ∀ a, a < 256 → unbox (box a) = a := byte_cases (by decide +kernel)
theorem be4_small {a b : Nat} (ha : (a : Int) ≤ 255) (hb : (b : Int) ≤ 255) (h : be4 a = be4 b) : a = b := by
  simp only [be4, List.cons.injEq] at h
  omega
theorem sblk_inj {k n : List Nat} (hk : k.length = 32) (bk : Byt k) (hn : n.length = 12) (bn : Byt n) {a b : Nat} (ha : (a : Int) ≤ 255) (hb : (b : Int) ≤ 255) : decide (sblk k n a = sblk k n b) = decide (a = b) := by
  have e : sblk k n a = sblk k n b ↔ a = b := by
    constructor
    · intro h
      have e1 := open_seal (t := box) (u := unbox) ub (keys_length box hk) (keys_lt (fun x h => box_lt h) bk) (fun x h => box_lt h) (nblk_length hn a) (nblk_byt bn a)
      have e2 := open_seal (t := box) (u := unbox) ub (keys_length box hk) (keys_lt (fun x h => box_lt h) bk) (fun x h => box_lt h) (nblk_length hn b) (nblk_byt bn b)
      unfold sblk at h
      rw [h, e2] at e1
      exact (be4_small ha hb (List.append_cancel_left e1.symm))
    · rintro rfl; rfl
  simp [e]
namespace w_CtrBlocks
theorem fld0 (g : Nat) (w : World) : (Instr.fieldAt 53 (.pointer (some ⟨g, 0, none⟩)) 0).run Try.prog w = .ok (.pointer (some ⟨g, 0, none⟩)) w := by kernel_rfl
theorem fld1 (g : Nat) (w : World) : (Instr.fieldAt 53 (.pointer (some ⟨g, 0, none⟩)) 1).run Try.prog w = .ok (.pointer (some ⟨g, 32, none⟩)) w := by kernel_rfl
theorem fld2 (g : Nat) (w : World) : (Instr.fieldAt 53 (.pointer (some ⟨g, 0, none⟩)) 2).run Try.prog w = .ok (.pointer (some ⟨g, 44, none⟩)) w := by kernel_rfl
theorem fld3 (g : Nat) (w : World) : (Instr.fieldAt 53 (.pointer (some ⟨g, 0, none⟩)) 3).run Try.prog w = .ok (.pointer (some ⟨g, 45, none⟩)) w := by kernel_rfl

set_option maxRecDepth 100000 in
set_option maxHeartbeats 4000000 in
theorem walk (k n : List Nat) (hk : k.length = 32) (bk : Byt k) (hn : n.length = 12) (bn : Byt n) (a b : Nat) (ha : a < 256) (hb : b < 256) (w : World) :
    Calls Try.prog 7 #[.agg (bv k ++ (bv n ++ [Value.int .u8 (a : Int), Value.int .u8 (b : Int)])).toArray] w fun e w' => e = .returned (.bool true) ∧ Below w.heap.size w w' := by
  have hal := Lib.hid (fun w => alive_any w)
  have hkl := Lib.hid (show (bv k).length = 32 by simp [hk])
  have hnl := Lib.hid (show (bv n).length = 12 by simp [hn])
  have Hk := Lib.hid hk
  have Hn := Lib.hid hn
  have Bk := Lib.hid bk
  have Bn := Lib.hid bn
  have haI : (a : Int) ≤ 255 := by omega
  have hbI : (b : Int) ≤ 255 := by omega
  obtain ⟨va, hva⟩ : ∃ va : Value, va = .int .u8 (a : Int) := ⟨_, rfl⟩
  obtain ⟨vb, hvb⟩ : ∃ vb : Value, vb = .int .u8 (b : Int) := ⟨_, rfl⟩
  rw [← hva, ← hvb]
  replace hva := Lib.hid hva
  replace hvb := Lib.hid hvb
  clear hk bk hn bn ha hb
  have h0 := Blk.new_at (w := w) (t := 53) (cs := (bv k ++ (bv n ++ [va, vb])).toArray) rfl rfl
  have hB0 : Below w.heap.size w (w.alloc (.cells (bv k ++ (bv n ++ [va, vb])).toArray 53)) := (Below.refl _ _).alloc (Nat.le_refl _) _
  simp only [List.size_toArray] at h0 hB0
  go_enter Try.func7, Try.ntmps7
  go_wp2_with fail
  refine (hal.out _).mono ?_
  rintro e w1 ⟨rfl, hB⟩
  have h1 := Lib.hid (h0.keep hB)
  have hB1 := Lib.hid (below_call hB0 hB0.size hB)
  have hgw := Lib.hid h1.out.lt
  clear hB h0 hB0
  go_upto_region 3 with fail
  go_cut [3, 4, 5, 6] (fun s3 s4 s5 s6 wx => ∃ g3 g4 : Nat, s3 = .pointer (some ⟨g3, 0, none⟩) ∧ s4 = .pointer (some ⟨g4, 0, none⟩) ∧ s5 = va ∧ s6 = vb ∧ Blk wx g3 22 (bv k) ∧ Blk wx g4 29 (bv n) ∧ Below w.heap.size w wx)
  case first =>
    refine wp_region_held_drew (S := FourS w.heap.size k n va vb) (by kernel_rfl) (fourS Hk.out Hn.out h1.out.drew) (fun hH => ?_)
    refine takeH_field (o := ⟨some 14, _, _, _, _, _⟩) (i := 0) rfl (by kernel_rfl) (by kernel_rfl) (by kernel_rfl) (fun _ _ _ _ h => h) rfl 53 (.tmp 1) 0 rfl _ 0 rfl (fun w => fld0 _ w) hH ?_
    simp only [Act.put, List.setIfInBounds_toArray, List.set_cons_zero, List.set_cons_succ, Nat.zero_add, decide_true, beq_self_eq_true]
    refine takeH_load (o := ⟨some 15, _, _, _, _, _⟩) (i := 1) rfl (by kernel_rfl) (by kernel_rfl) (by kernel_rfl) (fun _ _ _ _ h => h) rfl 22 (.tmp 14) rfl 32 arr32' _ _ rfl (bv k) hkl.out (fun w h => h.1) hH ?_
    simp only [Act.put, List.setIfInBounds_toArray, List.set_cons_zero, List.set_cons_succ, Nat.zero_add, decide_true, beq_self_eq_true]
    refine takeH_field (o := ⟨some 16, _, _, _, _, _⟩) (i := 2) rfl (by kernel_rfl) (by kernel_rfl) (by kernel_rfl) (fun _ _ _ _ h => h) rfl 53 (.tmp 1) 1 rfl _ 32 rfl (fun w => fld1 _ w) hH ?_
    simp only [Act.put, List.setIfInBounds_toArray, List.set_cons_zero, List.set_cons_succ, Nat.zero_add, decide_true, beq_self_eq_true]
    refine takeH_load (o := ⟨some 17, _, _, _, _, _⟩) (i := 3) rfl (by kernel_rfl) (by kernel_rfl) (by kernel_rfl) (fun _ _ _ _ h => h) rfl 29 (.tmp 16) rfl 12 arr12' _ _ rfl (bv n) hnl.out (fun w h => h.2.1) hH ?_
    simp only [Act.put, List.setIfInBounds_toArray, List.set_cons_zero, List.set_cons_succ, Nat.zero_add, decide_true, beq_self_eq_true]
    refine takeH_field (o := ⟨some 18, _, _, _, _, _⟩) (i := 4) rfl (by kernel_rfl) (by kernel_rfl) (by kernel_rfl) (fun _ _ _ _ h => h) rfl 53 (.tmp 1) 2 rfl _ 44 rfl (fun w => fld2 _ w) hH ?_
    simp only [Act.put, List.setIfInBounds_toArray, List.set_cons_zero, List.set_cons_succ, Nat.zero_add, decide_true, beq_self_eq_true]
    refine takeH_cell (o := ⟨some 19, _, _, _, _, _⟩) (i := 5) rfl (by kernel_rfl) (by kernel_rfl) (by kernel_rfl) (fun _ _ _ _ h => h) rfl 5 (.tmp 18) rfl Try.underlying5 rfl _ _ rfl va (fun w h => h.2.2.1) hH ?_
    simp only [Act.put, List.setIfInBounds_toArray, List.set_cons_zero, List.set_cons_succ, Nat.zero_add, decide_true, beq_self_eq_true]
    refine takeH_field (o := ⟨some 20, _, _, _, _, _⟩) (i := 6) rfl (by kernel_rfl) (by kernel_rfl) (by kernel_rfl) (fun _ _ _ _ h => h) rfl 53 (.tmp 1) 3 rfl _ 45 rfl (fun w => fld3 _ w) hH ?_
    simp only [Act.put, List.setIfInBounds_toArray, List.set_cons_zero, List.set_cons_succ, Nat.zero_add, decide_true, beq_self_eq_true]
    refine takeH_cell (o := ⟨some 21, _, _, _, _, _⟩) (i := 7) rfl (by kernel_rfl) (by kernel_rfl) (by kernel_rfl) (fun _ _ _ _ h => h) rfl 5 (.tmp 20) rfl Try.underlying5 rfl _ _ rfl vb (fun w h => h.2.2.2) hH ?_
    simp only [Act.put, List.setIfInBounds_toArray, List.set_cons_zero, List.set_cons_succ, Nat.zero_add, decide_true, beq_self_eq_true]
    refine wpAnyH_ready (rs := [8, 9]) (by kernel_rfl) (by simp) ?_
    refine AllReadyH.cons rfl (fun K1 hK1 => ?_) (AllReadyH.cons rfl (fun K1 hK1 => ?_) AllReadyH.nil)
    · go_simp
      have hs1 := Lib.hid (h1.out.alloc (.cells (bv (zeros 32)).toArray 22))
      have hb2 := Lib.hid (hB1.out.alloc hB1.out.size (.cells (bv (zeros 32)).toArray 22))
      have hx3 := Lib.hid (Blk.new_at (w := w1) (n := w1.heap.size) (t := 22) (cs := (bv (zeros 32)).toArray) (L := bv (zeros 32)) (by simp) rfl)
      refine hK1.out _ _ (fourS Hk.out Hn.out hs1.out.drew) (fun hH => ?_)
      clear hK1 K1
      refine wpAnyH_ready (rs := [9]) (by kernel_rfl) (by simp) ?_
      refine AllReadyH.cons rfl (fun K1 hK1 => ?_) AllReadyH.nil
      · go_simp
        have hs4 := Lib.hid (hs1.out.alloc (.cells (bv (zeros 12)).toArray 29))
        have hb5 := Lib.hid (hb2.out.alloc hb2.out.size (.cells (bv (zeros 12)).toArray 29))
        have hx6 := Lib.hid (Blk.new_at (w := (w1.alloc (.cells (bv (zeros 32)).toArray 22))) (n := w1.heap.size + 1) (t := 29) (cs := (bv (zeros 12)).toArray) (L := bv (zeros 12)) (by simp) rfl)
        have hx7 := Lib.hid (hx3.out.alloc (.cells (bv (zeros 12)).toArray 29))
        refine hK1.out _ _ (fourS Hk.out Hn.out hs4.out.drew) (fun hH => ?_)
        clear hK1 K1
        refine wpAnyH_ready (rs := [10]) (by kernel_rfl) (by simp) ?_
        refine AllReadyH.cons rfl (fun K1 hK1 => ?_) AllReadyH.nil
        · rw [if_pos (by rfl)]
          refine wp_storeA 22 (.tmp 3) (.tmp 15) rfl 32 arr32' _ _ rfl (bv k) rfl 22 _ hx7.out.drew hkl.out (by simp) (ones_bv _) ?_
          intro w8 hy9 hK10
          rw [putL_all (by rw [hkl.out]; simp)] at hy9
          replace hy9 := Lib.hid hy9
          have hs11 := Lib.hid (hs4.out.drew.keeps hK10 (by simp only [List.mem_singleton]; have f0 := hgw.out; omega))
          have hb12 := Lib.hid (hb5.out.drew.trans (hK10.below hb5.out.drew.size (by intro b hb; simp only [List.mem_singleton] at hb; have f0 := hgw.out; omega)))
          have hx13 := Lib.hid (hx6.out.drew.keeps hK10 (by simp only [List.mem_singleton]; have f0 := hgw.out; omega))
          have hf14 := Lib.hid (show w.heap.size < w8.heap.size ∧ w1.heap.size < w8.heap.size from ⟨hs11.out.lt, hy9.out.lt⟩)
          refine hK1.out _ _ (fourS Hk.out Hn.out hs11.out) (fun hH => ?_)
          clear hK1 K1 hK10
          refine wpAnyH_ready (rs := [11]) (by kernel_rfl) (by simp) ?_
          refine AllReadyH.cons rfl (fun K1 hK1 => ?_) AllReadyH.nil
          · rw [if_pos (by rfl)]
            refine wp_storeA 29 (.tmp 4) (.tmp 17) rfl 12 arr12' _ _ rfl (bv n) rfl 29 _ hx13.out hnl.out (by simp) (ones_bv _) ?_
            intro w15 hy16 hK17
            rw [putL_all (by rw [hnl.out]; simp)] at hy16
            replace hy16 := Lib.hid hy16
            have hs18 := Lib.hid (hs11.out.keeps hK17 (by simp only [List.mem_singleton]; have f0 := hgw.out; have f1 := hf14.out; omega))
            have hb19 := Lib.hid (hb12.out.trans (hK17.below hb12.out.size (by intro b hb; simp only [List.mem_singleton] at hb; have f0 := hgw.out; have f1 := hf14.out; omega)))
            have hx20 := Lib.hid (hy9.out.keeps hK17 (by simp only [List.mem_singleton]; have f0 := hgw.out; have f1 := hf14.out; omega))
            have hf21 := Lib.hid (show w.heap.size < w15.heap.size ∧ w1.heap.size + 1 < w15.heap.size from ⟨hs18.out.lt, hy16.out.lt⟩)
            refine hK1.out _ _ (fourS Hk.out Hn.out hs18.out) (fun hH => ?_)
            clear hK1 K1 hK17
            refine takeH_assign (o := ⟨some 5, _, _, _, _, _⟩) (i := 12) rfl (by kernel_rfl) (by kernel_rfl) (by kernel_rfl) (fun _ _ _ _ h => h) rfl (.tmp 19) rfl _ rfl hH ?_
            simp only [Act.put, List.setIfInBounds_toArray, List.set_cons_zero, List.set_cons_succ, Nat.zero_add, decide_true, beq_self_eq_true]
            refine takeH_assign (o := ⟨some 6, _, _, _, _, _⟩) (i := 13) rfl (by kernel_rfl) (by kernel_rfl) (by kernel_rfl) (fun _ _ _ _ h => h) rfl (.tmp 21) rfl _ rfl hH ?_
            simp only [Act.put, List.setIfInBounds_toArray, List.set_cons_zero, List.set_cons_succ, Nat.zero_add, decide_true, beq_self_eq_true]
            refine wpAnyH_done (by kernel_rfl) ?_ _
            go_wp2_with fail
            go_meet
            exact ⟨_, _, rfl, rfl, rfl, rfl, hx20.out, hy16.out, hb19.out⟩
    · go_simp
      have hs22 := Lib.hid (h1.out.alloc (.cells (bv (zeros 12)).toArray 29))
      have hb23 := Lib.hid (hB1.out.alloc hB1.out.size (.cells (bv (zeros 12)).toArray 29))
      have hx24 := Lib.hid (Blk.new_at (w := w1) (n := w1.heap.size) (t := 29) (cs := (bv (zeros 12)).toArray) (L := bv (zeros 12)) (by simp) rfl)
      refine hK1.out _ _ (fourS Hk.out Hn.out hs22.out.drew) (fun hH => ?_)
      clear hK1 K1
      refine wpAnyH_ready (rs := [8]) (by kernel_rfl) (by simp) ?_
      refine AllReadyH.cons rfl (fun K1 hK1 => ?_) AllReadyH.nil
      · go_simp
        have hs25 := Lib.hid (hs22.out.alloc (.cells (bv (zeros 32)).toArray 22))
        have hb26 := Lib.hid (hb23.out.alloc hb23.out.size (.cells (bv (zeros 32)).toArray 22))
        have hx27 := Lib.hid (Blk.new_at (w := (w1.alloc (.cells (bv (zeros 12)).toArray 29))) (n := w1.heap.size + 1) (t := 22) (cs := (bv (zeros 32)).toArray) (L := bv (zeros 32)) (by simp) rfl)
        have hx28 := Lib.hid (hx24.out.alloc (.cells (bv (zeros 32)).toArray 22))
        refine hK1.out _ _ (fourS Hk.out Hn.out hs25.out.drew) (fun hH => ?_)
        clear hK1 K1
        refine wpAnyH_ready (rs := [10]) (by kernel_rfl) (by simp) ?_
        refine AllReadyH.cons rfl (fun K1 hK1 => ?_) AllReadyH.nil
        · rw [if_pos (by rfl)]
          refine wp_storeA 22 (.tmp 3) (.tmp 15) rfl 32 arr32' _ _ rfl (bv k) rfl 22 _ hx27.out.drew hkl.out (by simp) (ones_bv _) ?_
          intro w29 hy30 hK31
          rw [putL_all (by rw [hkl.out]; simp)] at hy30
          replace hy30 := Lib.hid hy30
          have hs32 := Lib.hid (hs25.out.drew.keeps hK31 (by simp only [List.mem_singleton]; have f0 := hgw.out; omega))
          have hb33 := Lib.hid (hb26.out.drew.trans (hK31.below hb26.out.drew.size (by intro b hb; simp only [List.mem_singleton] at hb; have f0 := hgw.out; omega)))
          have hx34 := Lib.hid (hx28.out.drew.keeps hK31 (by simp only [List.mem_singleton]; have f0 := hgw.out; omega))
          have hf35 := Lib.hid (show w.heap.size < w29.heap.size ∧ w1.heap.size + 1 < w29.heap.size from ⟨hs32.out.lt, hy30.out.lt⟩)
          refine hK1.out _ _ (fourS Hk.out Hn.out hs32.out) (fun hH => ?_)
          clear hK1 K1 hK31
          refine wpAnyH_ready (rs := [11]) (by kernel_rfl) (by simp) ?_
          refine AllReadyH.cons rfl (fun K1 hK1 => ?_) AllReadyH.nil
          · rw [if_pos (by rfl)]
            refine wp_storeA 29 (.tmp 4) (.tmp 17) rfl 12 arr12' _ _ rfl (bv n) rfl 29 _ hx34.out hnl.out (by simp) (ones_bv _) ?_
            intro w36 hy37 hK38
            rw [putL_all (by rw [hnl.out]; simp)] at hy37
            replace hy37 := Lib.hid hy37
            have hs39 := Lib.hid (hs32.out.keeps hK38 (by simp only [List.mem_singleton]; have f0 := hgw.out; have f1 := hf35.out; omega))
            have hb40 := Lib.hid (hb33.out.trans (hK38.below hb33.out.size (by intro b hb; simp only [List.mem_singleton] at hb; have f0 := hgw.out; have f1 := hf35.out; omega)))
            have hx41 := Lib.hid (hy30.out.keeps hK38 (by simp only [List.mem_singleton]; have f0 := hgw.out; have f1 := hf35.out; omega))
            have hf42 := Lib.hid (show w.heap.size < w36.heap.size ∧ w1.heap.size < w36.heap.size from ⟨hs39.out.lt, hy37.out.lt⟩)
            refine hK1.out _ _ (fourS Hk.out Hn.out hs39.out) (fun hH => ?_)
            clear hK1 K1 hK38
            refine takeH_assign (o := ⟨some 5, _, _, _, _, _⟩) (i := 12) rfl (by kernel_rfl) (by kernel_rfl) (by kernel_rfl) (fun _ _ _ _ h => h) rfl (.tmp 19) rfl _ rfl hH ?_
            simp only [Act.put, List.setIfInBounds_toArray, List.set_cons_zero, List.set_cons_succ, Nat.zero_add, decide_true, beq_self_eq_true]
            refine takeH_assign (o := ⟨some 6, _, _, _, _, _⟩) (i := 13) rfl (by kernel_rfl) (by kernel_rfl) (by kernel_rfl) (fun _ _ _ _ h => h) rfl (.tmp 21) rfl _ rfl hH ?_
            simp only [Act.put, List.setIfInBounds_toArray, List.set_cons_zero, List.set_cons_succ, Nat.zero_add, decide_true, beq_self_eq_true]
            refine wpAnyH_done (by kernel_rfl) ?_ _
            go_wp2_with fail
            go_meet
            exact ⟨_, _, rfl, rfl, rfl, rfl, hx41.out, hy37.out, hb40.out⟩
  case rest =>
    obtain ⟨g3, g4, rfl, rfl, rfl, rfl, h3, h4, hB2⟩ := hcut
    have hBw := Lib.hid hB2.size
    have e1 := hva.out
    have e2 := hvb.out
    subst e1 e2
    clear hva hvb h1 hB1 hgw
    have hla := Lib.hid (sblk_length Hk.out Hn.out a)
    have hlb := Lib.hid (sblk_length Hk.out Hn.out b)
    have hva := Lib.hid (show (bv (sblk k n a)).length = 16 by rw [bv_length, hla.out])
    have hvb := Lib.hid (show (bv (sblk k n b)).length = 16 by rw [bv_length, hlb.out])
    have hca := Lib.hid (fun w h3 h4 => clos_any g3 g4 k n a w Hk.out Bk.out Hn.out Bn.out haI h3 h4)
    have hcb := Lib.hid (fun w h3 h4 => clos_any g3 g4 k n b w Hk.out Bk.out Hn.out Bn.out hbI h3 h4)
    have hinj := Lib.hid (sblk_inj Hk.out Bk.out Hn.out Bn.out haI hbI)
    generalize sblk k n a = Sa at *
    generalize sblk k n b = Sb at *
    have hg3 := Lib.hid h3.lt
    have hg4 := Lib.hid h4.lt
    go_wp2_with (first
      | ((with_reducible refine (hca.out _ h3 h4).mono ?_); rintro e w2 ⟨rfl, hB3⟩)
      | refine wpList_allocA rfl 55 rfl (bv (zeros 16)) (by kernel_rfl) ?_)
    intro w3 h5 hK3 hz3
    have hs := hB3.size
    have hB4 := hB3.trans (hK3.below hB3.size (by simp))
    replace h3 := h3.keep hB4
    replace h4 := h4.keep hB4
    replace hB2 := below_call hB2 hB2.size hB4
    clear hK3 hB3 hB4
    have hg5 : Hid (wc.heap.size ≤ w2.heap.size) := Lib.hid hs
    generalize w2.heap.size = g5 at *
    clear hs
    go_wp2_with (refine wpList_storeW rfl 55 (.tmp 8) (.tmp 27) rfl 16 arrB g5 rfl (bv Sa) rfl 55 _ h5 hva.out (by simp) (ones_bv _) ?_)
    intro w4 h6 hK4
    replace h3 := h3.keeps hK4 (by have := hg3.out; have := hg5.out; simp; omega)
    replace h4 := h4.keeps hK4 (by have := hg4.out; have := hg5.out; simp; omega)
    replace hB2 := hB2.trans (hK4.below hB2.size (by have := hBw.out; have := hg5.out; simp; omega))
    clear hK4 h5 hz3
    go_wp2_with (first
      | ((with_reducible refine (hcb.out _ h3 h4).mono ?_); rintro e w5 ⟨rfl, hB3⟩)
      | refine wpList_allocA rfl 55 rfl (bv (zeros 16)) (by kernel_rfl) ?_)
    intro w6 h7 hK6 hz6
    have hs := hB3.size
    have hB4 := hB3.trans (hK6.below hB3.size (by simp))
    have hlt := h6.lt
    replace h6 := h6.keep hB4
    replace hB2 := below_call hB2 hB2.size hB4
    have hBs := hB2.size
    have hcz : w.heap.size ≤ w5.heap.size := by have := hBw.out; have := hg5.out; omega
    clear hK6 hB3 hB4 h3 h4
    have hg7 : g5 < w5.heap.size := by omega
    generalize w5.heap.size = g7 at *
    clear hs hlt hBs
    go_wp2_with (refine wpList_storeW rfl 55 (.tmp 10) (.tmp 33) rfl 16 arrB g7 rfl (bv Sb) rfl 55 _ h7 hvb.out (by simp) (ones_bv _) ?_)
    intro w7 h8 hK7
    replace h6 := h6.keeps hK7 (by simp; omega)
    replace hB2 := hB2.trans (hK7.below hB2.size (by simp; omega))
    clear hK7 h7 hz6 hg7 hcz
    go_wp2_with (first
      | refine wpList_loadG rfl 55 (.tmp 8) rfl 16 arrB _ rfl 55 _ h6 hva.out ?_
      | refine wpList_loadG rfl 55 (.tmp 10) rfl 16 arrB _ rfl 55 _ h8 hvb.out ?_
      | refine wpList_eqlG rfl 55 (.tmp 40) (.tmp 41) 55 rfl 16 arrBB' Sa Sb rfl rfl hla.out hlb.out ?_)
    go_ret
    refine ⟨?_, hB2⟩
    show Ending.returned (.bool (decide (Sa = Sb) == ((a : Int) == (b : Int)))) = Ending.returned (.bool true)
    rw [hinj.out]
    have : (decide (a = b) == ((a : Int) == (b : Int))) = true := by
      by_cases h : a = b
      · subst h; simp
      · have h' : ¬ (a : Int) = (b : Int) := by omega
        simp [h, h']
    rw [this]
end w_CtrBlocks
end Go.Proofs.Ytokphnfhajljmaa
