/- The law CtrPlaces: the walk. -/
import Derived.Test.YtokphnfhajljmaaCtrS
import Derived.Test.YtokphnfhajljmaaOpenB
import Derived.Deep.DeepCutAuto
import Derived.Deep.OwnRows
set_option linter.unusedVariables false
set_option linter.unusedSimpArgs false
namespace Go.Proofs.Ytokphnfhajljmaa
open Go.RowKit
open Go.Proofs.PlainAes
namespace w_CtrPlaces
theorem fld0 (g : Nat) (w : World) : (Instr.fieldAt 50 (.pointer (some ⟨g, 0, none⟩)) 0).run Try.prog w = .ok (.pointer (some ⟨g, 0, none⟩)) w := by kernel_rfl
theorem fld1 (g : Nat) (w : World) : (Instr.fieldAt 50 (.pointer (some ⟨g, 0, none⟩)) 1).run Try.prog w = .ok (.pointer (some ⟨g, 32, none⟩)) w := by kernel_rfl
theorem fld2 (g : Nat) (w : World) : (Instr.fieldAt 50 (.pointer (some ⟨g, 0, none⟩)) 2).run Try.prog w = .ok (.pointer (some ⟨g, 44, none⟩)) w := by kernel_rfl
theorem fld3 (g : Nat) (w : World) : (Instr.fieldAt 50 (.pointer (some ⟨g, 0, none⟩)) 3).run Try.prog w = .ok (.pointer (some ⟨g, 45, none⟩)) w := by kernel_rfl

set_option maxRecDepth 100000 in
set_option maxHeartbeats 4000000 in
theorem walk (k n : List Nat) (hk : k.length = 32) (bk : Byt k) (hn : n.length = 12) (bn : Byt n) (a b : Nat) (ha : a < 65536) (hb : b < 65536) (w : World) :
    Calls Try.prog 6 #[.agg (bv k ++ (bv n ++ [Value.int .u16 (a : Int), Value.int .u16 (b : Int)])).toArray] w fun e w' => e = .returned (.bool true) ∧ Below w.heap.size w w' := by
  have hal := Lib.hid (fun w => alive_any w)
  have hkl := Lib.hid (show (bv k).length = 32 by simp [hk])
  have hnl := Lib.hid (show (bv n).length = 12 by simp [hn])
  have Hk := Lib.hid hk
  have Hn := Lib.hid hn
  have Bk := Lib.hid bk
  have Bn := Lib.hid bn
  have haI : (a : Int) ≤ 65535 := by omega
  have hbI : (b : Int) ≤ 65535 := by omega
  obtain ⟨va, hva⟩ : ∃ va : Value, va = .int .u16 (a : Int) := ⟨_, rfl⟩
  obtain ⟨vb, hvb⟩ : ∃ vb : Value, vb = .int .u16 (b : Int) := ⟨_, rfl⟩
  rw [← hva, ← hvb]
  replace hva := Lib.hid hva
  replace hvb := Lib.hid hvb
  clear hk bk hn bn ha hb
  have h0 := Blk.new_at (w := w) (t := 50) (cs := (bv k ++ (bv n ++ [va, vb])).toArray) rfl rfl
  have hB0 : Below w.heap.size w (w.alloc (.cells (bv k ++ (bv n ++ [va, vb])).toArray 50)) := (Below.refl _ _).alloc (Nat.le_refl _) _
  simp only [List.size_toArray] at h0 hB0
  go_enter Try.func6, Try.ntmps6
  go_wp2_with fail
  refine (hal.out _).mono ?_
  rintro e w1 ⟨rfl, hB⟩
  have h1 := Lib.hid (h0.keep hB)
  have hB1 := Lib.hid (below_call hB0 hB0.size hB)
  have hgw := Lib.hid h1.out.lt
  clear hB h0 hB0
  go_upto_region 3 with fail
  go_cut [3, 4, 5, 6] (fun s3 s4 s5 s6 wx => ∃ g3 g4 : Nat, s3 = .pointer (some ⟨g3, 0, none⟩) ∧ s4 = .pointer (some ⟨g4, 0, none⟩) ∧ s5 = va ∧ s6 = vb ∧ Blk wx g3 22 (bv k) ∧ Blk wx g4 29 (bv n) ∧ Below w.heap.size w wx)
  case first =>
    refine wp_region_held_drew (S := FourS w.heap.size k n va vb) (by kernel_rfl) (fourS Hk.out Hn.out h1.out.drew) (fun hH => ?_)
    refine takeH_field (o := ⟨some 17, _, _, _, _, _⟩) (i := 0) rfl (by kernel_rfl) (by kernel_rfl) (by kernel_rfl) (fun _ _ _ _ h => h) rfl 50 (.tmp 1) 0 rfl _ 0 rfl (fun w => fld0 _ w) hH ?_
    simp only [Act.put, List.setIfInBounds_toArray, List.set_cons_zero, List.set_cons_succ, Nat.zero_add, decide_true, beq_self_eq_true]
    refine takeH_load (o := ⟨some 18, _, _, _, _, _⟩) (i := 1) rfl (by kernel_rfl) (by kernel_rfl) (by kernel_rfl) (fun _ _ _ _ h => h) rfl 22 (.tmp 17) rfl 32 arr32' _ _ rfl (bv k) hkl.out (fun w h => h.1) hH ?_
    simp only [Act.put, List.setIfInBounds_toArray, List.set_cons_zero, List.set_cons_succ, Nat.zero_add, decide_true, beq_self_eq_true]
    refine takeH_field (o := ⟨some 19, _, _, _, _, _⟩) (i := 2) rfl (by kernel_rfl) (by kernel_rfl) (by kernel_rfl) (fun _ _ _ _ h => h) rfl 50 (.tmp 1) 1 rfl _ 32 rfl (fun w => fld1 _ w) hH ?_
    simp only [Act.put, List.setIfInBounds_toArray, List.set_cons_zero, List.set_cons_succ, Nat.zero_add, decide_true, beq_self_eq_true]
    refine takeH_load (o := ⟨some 20, _, _, _, _, _⟩) (i := 3) rfl (by kernel_rfl) (by kernel_rfl) (by kernel_rfl) (fun _ _ _ _ h => h) rfl 29 (.tmp 19) rfl 12 arr12' _ _ rfl (bv n) hnl.out (fun w h => h.2.1) hH ?_
    simp only [Act.put, List.setIfInBounds_toArray, List.set_cons_zero, List.set_cons_succ, Nat.zero_add, decide_true, beq_self_eq_true]
    refine takeH_field (o := ⟨some 21, _, _, _, _, _⟩) (i := 4) rfl (by kernel_rfl) (by kernel_rfl) (by kernel_rfl) (fun _ _ _ _ h => h) rfl 50 (.tmp 1) 2 rfl _ 44 rfl (fun w => fld2 _ w) hH ?_
    simp only [Act.put, List.setIfInBounds_toArray, List.set_cons_zero, List.set_cons_succ, Nat.zero_add, decide_true, beq_self_eq_true]
    refine takeH_cell (o := ⟨some 22, _, _, _, _, _⟩) (i := 5) rfl (by kernel_rfl) (by kernel_rfl) (by kernel_rfl) (fun _ _ _ _ h => h) rfl 45 (.tmp 21) rfl Try.underlying45 rfl _ _ rfl va (fun w h => h.2.2.1) hH ?_
    simp only [Act.put, List.setIfInBounds_toArray, List.set_cons_zero, List.set_cons_succ, Nat.zero_add, decide_true, beq_self_eq_true]
    refine takeH_field (o := ⟨some 23, _, _, _, _, _⟩) (i := 6) rfl (by kernel_rfl) (by kernel_rfl) (by kernel_rfl) (fun _ _ _ _ h => h) rfl 50 (.tmp 1) 3 rfl _ 45 rfl (fun w => fld3 _ w) hH ?_
    simp only [Act.put, List.setIfInBounds_toArray, List.set_cons_zero, List.set_cons_succ, Nat.zero_add, decide_true, beq_self_eq_true]
    refine takeH_cell (o := ⟨some 24, _, _, _, _, _⟩) (i := 7) rfl (by kernel_rfl) (by kernel_rfl) (by kernel_rfl) (fun _ _ _ _ h => h) rfl 45 (.tmp 23) rfl Try.underlying45 rfl _ _ rfl vb (fun w h => h.2.2.2) hH ?_
    simp only [Act.put, List.setIfInBounds_toArray, List.set_cons_zero, List.set_cons_succ, Nat.zero_add, decide_true, beq_self_eq_true]
    refine wpAnyH_ready (rs := [8, 9]) (by kernel_rfl) (by simp) ?_
    refine AllReadyH.cons rfl (fun K1 hK1 => ?_) (AllReadyH.cons rfl (fun K1 hK1 => ?_) AllReadyH.nil)
    · go_simp
      have hs1 := Lib.hid (h1.out.alloc (.cells (bv (zeros 32)).toArray 22))
      have hb2 := Lib.hid (hB1.out.alloc hB1.out.size (.cells (bv (zeros 32)).toArray 22))
      have hx3 := Lib.hid (Blk.new_at (w := w1) (n := w1.heap.size) (t := 22) (cs := (bv (zeros 32)).toArray) (L := bv (zeros 32)) (by simp) rfl)
      refine hK1.out _ _ (fourS Hk.out Hn.out hs1.out.drew) (fun hH => ?_)
      clear hK1 K1
      refine wpAnyH_ready (rs := [9]) (by kernel_rfl) (by simp) ?_
      refine AllReadyH.cons rfl (fun K1 hK1 => ?_) AllReadyH.nil
      · go_simp
        have hs4 := Lib.hid (hs1.out.alloc (.cells (bv (zeros 12)).toArray 29))
        have hb5 := Lib.hid (hb2.out.alloc hb2.out.size (.cells (bv (zeros 12)).toArray 29))
        have hx6 := Lib.hid (Blk.new_at (w := (w1.alloc (.cells (bv (zeros 32)).toArray 22))) (n := w1.heap.size + 1) (t := 29) (cs := (bv (zeros 12)).toArray) (L := bv (zeros 12)) (by simp) rfl)
        have hx7 := Lib.hid (hx3.out.alloc (.cells (bv (zeros 12)).toArray 29))
        refine hK1.out _ _ (fourS Hk.out Hn.out hs4.out.drew) (fun hH => ?_)
        clear hK1 K1
        refine wpAnyH_ready (rs := [10]) (by kernel_rfl) (by simp) ?_
        refine AllReadyH.cons rfl (fun K1 hK1 => ?_) AllReadyH.nil
        · rw [if_pos (by rfl)]
          refine wp_storeA 22 (.tmp 3) (.tmp 18) rfl 32 arr32' _ _ rfl (bv k) rfl 22 _ hx7.out.drew hkl.out (by simp) (ones_bv _) ?_
          intro w8 hy9 hK10
          rw [putL_all (by rw [hkl.out]; simp)] at hy9
          replace hy9 := Lib.hid hy9
          have hs11 := Lib.hid (hs4.out.drew.keeps hK10 (by simp only [List.mem_singleton]; have f0 := hgw.out; omega))
          have hb12 := Lib.hid (hb5.out.drew.trans (hK10.below hb5.out.drew.size (by intro b hb; simp only [List.mem_singleton] at hb; have f0 := hgw.out; omega)))
          have hx13 := Lib.hid (hx6.out.drew.keeps hK10 (by simp only [List.mem_singleton]; have f0 := hgw.out; omega))
          have hf14 := Lib.hid (show w.heap.size < w8.heap.size ∧ w1.heap.size < w8.heap.size from ⟨hs11.out.lt, hy9.out.lt⟩)
          refine hK1.out _ _ (fourS Hk.out Hn.out hs11.out) (fun hH => ?_)
          clear hK1 K1 hK10
          refine wpAnyH_ready (rs := [11]) (by kernel_rfl) (by simp) ?_
          refine AllReadyH.cons rfl (fun K1 hK1 => ?_) AllReadyH.nil
          · rw [if_pos (by rfl)]
            refine wp_storeA 29 (.tmp 4) (.tmp 20) rfl 12 arr12' _ _ rfl (bv n) rfl 29 _ hx13.out hnl.out (by simp) (ones_bv _) ?_
            intro w15 hy16 hK17
            rw [putL_all (by rw [hnl.out]; simp)] at hy16
            replace hy16 := Lib.hid hy16
            have hs18 := Lib.hid (hs11.out.keeps hK17 (by simp only [List.mem_singleton]; have f0 := hgw.out; have f1 := hf14.out; omega))
            have hb19 := Lib.hid (hb12.out.trans (hK17.below hb12.out.size (by intro b hb; simp only [List.mem_singleton] at hb; have f0 := hgw.out; have f1 := hf14.out; omega)))
            have hx20 := Lib.hid (hy9.out.keeps hK17 (by simp only [List.mem_singleton]; have f0 := hgw.out; have f1 := hf14.out; omega))
            have hf21 := Lib.hid (show w.heap.size < w15.heap.size ∧ w1.heap.size + 1 < w15.heap.size from ⟨hs18.out.lt, hy16.out.lt⟩)
            refine hK1.out _ _ (fourS Hk.out Hn.out hs18.out) (fun hH => ?_)
            clear hK1 K1 hK17
            refine takeH_assign (o := ⟨some 5, _, _, _, _, _⟩) (i := 12) rfl (by kernel_rfl) (by kernel_rfl) (by kernel_rfl) (fun _ _ _ _ h => h) rfl (.tmp 22) rfl _ rfl hH ?_
            simp only [Act.put, List.setIfInBounds_toArray, List.set_cons_zero, List.set_cons_succ, Nat.zero_add, decide_true, beq_self_eq_true]
            refine takeH_assign (o := ⟨some 6, _, _, _, _, _⟩) (i := 13) rfl (by kernel_rfl) (by kernel_rfl) (by kernel_rfl) (fun _ _ _ _ h => h) rfl (.tmp 24) rfl _ rfl hH ?_
            simp only [Act.put, List.setIfInBounds_toArray, List.set_cons_zero, List.set_cons_succ, Nat.zero_add, decide_true, beq_self_eq_true]
            refine wpAnyH_done (by kernel_rfl) ?_ _
            go_wp2_with fail
            go_meet
            exact ⟨_, _, rfl, rfl, rfl, rfl, hx20.out, hy16.out, hb19.out⟩
    · go_simp
      have hs22 := Lib.hid (h1.out.alloc (.cells (bv (zeros 12)).toArray 29))
      have hb23 := Lib.hid (hB1.out.alloc hB1.out.size (.cells (bv (zeros 12)).toArray 29))
      have hx24 := Lib.hid (Blk.new_at (w := w1) (n := w1.heap.size) (t := 29) (cs := (bv (zeros 12)).toArray) (L := bv (zeros 12)) (by simp) rfl)
      refine hK1.out _ _ (fourS Hk.out Hn.out hs22.out.drew) (fun hH => ?_)
      clear hK1 K1
      refine wpAnyH_ready (rs := [8]) (by kernel_rfl) (by simp) ?_
      refine AllReadyH.cons rfl (fun K1 hK1 => ?_) AllReadyH.nil
      · go_simp
        have hs25 := Lib.hid (hs22.out.alloc (.cells (bv (zeros 32)).toArray 22))
        have hb26 := Lib.hid (hb23.out.alloc hb23.out.size (.cells (bv (zeros 32)).toArray 22))
        have hx27 := Lib.hid (Blk.new_at (w := (w1.alloc (.cells (bv (zeros 12)).toArray 29))) (n := w1.heap.size + 1) (t := 22) (cs := (bv (zeros 32)).toArray) (L := bv (zeros 32)) (by simp) rfl)
        have hx28 := Lib.hid (hx24.out.alloc (.cells (bv (zeros 32)).toArray 22))
        refine hK1.out _ _ (fourS Hk.out Hn.out hs25.out.drew) (fun hH => ?_)
        clear hK1 K1
        refine wpAnyH_ready (rs := [10]) (by kernel_rfl) (by simp) ?_
        refine AllReadyH.cons rfl (fun K1 hK1 => ?_) AllReadyH.nil
        · rw [if_pos (by rfl)]
          refine wp_storeA 22 (.tmp 3) (.tmp 18) rfl 32 arr32' _ _ rfl (bv k) rfl 22 _ hx27.out.drew hkl.out (by simp) (ones_bv _) ?_
          intro w29 hy30 hK31
          rw [putL_all (by rw [hkl.out]; simp)] at hy30
          replace hy30 := Lib.hid hy30
          have hs32 := Lib.hid (hs25.out.drew.keeps hK31 (by simp only [List.mem_singleton]; have f0 := hgw.out; omega))
          have hb33 := Lib.hid (hb26.out.drew.trans (hK31.below hb26.out.drew.size (by intro b hb; simp only [List.mem_singleton] at hb; have f0 := hgw.out; omega)))
          have hx34 := Lib.hid (hx28.out.drew.keeps hK31 (by simp only [List.mem_singleton]; have f0 := hgw.out; omega))
          have hf35 := Lib.hid (show w.heap.size < w29.heap.size ∧ w1.heap.size + 1 < w29.heap.size from ⟨hs32.out.lt, hy30.out.lt⟩)
          refine hK1.out _ _ (fourS Hk.out Hn.out hs32.out) (fun hH => ?_)
          clear hK1 K1 hK31
          refine wpAnyH_ready (rs := [11]) (by kernel_rfl) (by simp) ?_
          refine AllReadyH.cons rfl (fun K1 hK1 => ?_) AllReadyH.nil
          · rw [if_pos (by rfl)]
            refine wp_storeA 29 (.tmp 4) (.tmp 20) rfl 12 arr12' _ _ rfl (bv n) rfl 29 _ hx34.out hnl.out (by simp) (ones_bv _) ?_
            intro w36 hy37 hK38
            rw [putL_all (by rw [hnl.out]; simp)] at hy37
            replace hy37 := Lib.hid hy37
            have hs39 := Lib.hid (hs32.out.keeps hK38 (by simp only [List.mem_singleton]; have f0 := hgw.out; have f1 := hf35.out; omega))
            have hb40 := Lib.hid (hb33.out.trans (hK38.below hb33.out.size (by intro b hb; simp only [List.mem_singleton] at hb; have f0 := hgw.out; have f1 := hf35.out; omega)))
            have hx41 := Lib.hid (hy30.out.keeps hK38 (by simp only [List.mem_singleton]; have f0 := hgw.out; have f1 := hf35.out; omega))
            have hf42 := Lib.hid (show w.heap.size < w36.heap.size ∧ w1.heap.size < w36.heap.size from ⟨hs39.out.lt, hy37.out.lt⟩)
            refine hK1.out _ _ (fourS Hk.out Hn.out hs39.out) (fun hH => ?_)
            clear hK1 K1 hK38
            refine takeH_assign (o := ⟨some 5, _, _, _, _, _⟩) (i := 12) rfl (by kernel_rfl) (by kernel_rfl) (by kernel_rfl) (fun _ _ _ _ h => h) rfl (.tmp 22) rfl _ rfl hH ?_
            simp only [Act.put, List.setIfInBounds_toArray, List.set_cons_zero, List.set_cons_succ, Nat.zero_add, decide_true, beq_self_eq_true]
            refine takeH_assign (o := ⟨some 6, _, _, _, _, _⟩) (i := 13) rfl (by kernel_rfl) (by kernel_rfl) (by kernel_rfl) (fun _ _ _ _ h => h) rfl (.tmp 24) rfl _ rfl hH ?_
            simp only [Act.put, List.setIfInBounds_toArray, List.set_cons_zero, List.set_cons_succ, Nat.zero_add, decide_true, beq_self_eq_true]
            refine wpAnyH_done (by kernel_rfl) ?_ _
            go_wp2_with fail
            go_meet
            exact ⟨_, _, rfl, rfl, rfl, rfl, hx41.out, hy37.out, hb40.out⟩
  case rest =>
    obtain ⟨g3, g4, rfl, rfl, rfl, rfl, h3, h4, hB2⟩ := hcut
    have e1 := hva.out
    have e2 := hvb.out
    subst e1 e2
    clear hva hvb h1 hB1 hgw
    have q1 : (a : Int) % 300 = ((a % 300 : Nat) : Int) := by omega
    have q2 : (b : Int) % 300 = ((b % 300 : Nat) : Int) := by omega
    have hi : ((a % 300 : Nat) : Int) ≤ 299 := by omega
    have hj : ((b % 300 : Nat) : Int) ≤ 299 := by omega
    generalize a % 300 = i at *
    generalize b % 300 = j at *
    have hst0 : Hid (∀ w, Calls Try.prog 11 #[.agg (bv k).toArray, .agg (bv n).toArray, .int .i64 0, .int .i64 ((i : Int) + (j : Int))] w (RetOK (strm k n 0 (i + j)) w)) := Lib.hid (fun w => stream_any k n 0 (i + j) w Hk.out Bk.out Hn.out Bn.out (by omega) (by omega))
    have hst1 : Hid (∀ w, Calls Try.prog 11 #[.agg (bv k).toArray, .agg (bv n).toArray, .int .i64 (i : Int), .int .i64 (j : Int)] w (RetOK (strm k n i j) w)) := Lib.hid (fun w => stream_any k n i j w Hk.out Bk.out Hn.out Bn.out (by omega) (by omega))
    have hcr := Lib.hid (fun v w h => crypt_any k n (List.replicate (i + j) 0) v w Hk.out Bk.out Hn.out Bn.out (z_byt _) (by simp; omega) h)
    rw [crypt_zeros] at hcr
    have hpart := Lib.hid (strm_drop k n 0 (i + j) i)
    have hl0 := Lib.hid (strm_length k n 0 (i + j))
    have hl1 := Lib.hid (strm_length k n i j)
    have b0 := Lib.hid (strm_lt Bk.out Bn.out 0 (i + j))
    have b1 := Lib.hid (strm_lt Bk.out Bn.out i j)
    rw [show 0 + i = i from by omega, show i + j - i = j from by omega] at hpart
    generalize strm k n 0 (i + j) = S0 at *
    generalize strm k n i j = S1 at *
    have hmk : ∀ w, (Instr.makeSlice 32 (.int .i64 ((i : Int) + (j : Int))) (.int .i64 ((i : Int) + (j : Int)))).run Try.prog w = .ok (.slice (some ⟨w.heap.size, 0, none⟩) (i + j) (i + j)) (w.alloc (.cells (madeCells #[.int .u8 0] (i + j)) 5)) :=
      run_make_row' (P := Try.prog) 32 5 (.int .u8 0) 1 Try.underlying32 (by kernel_rfl) rfl .i64 .i64 (i + j) (by omega) (by omega)
    go_wp2_with (first
      | refine wpList_loadW rfl 22 (.tmp 3) rfl 32 arr32' _ rfl 22 _ h3 hkl.out ?_
      | refine wpList_loadW rfl 29 (.tmp 4) rfl 12 arr12' _ rfl 29 _ h4 hnl.out ?_
      | (go_at_call 11; (with_reducible refine (hst0.out _).mono ?_); rintro e w3 ⟨v, rfl, own, hB3⟩; rw [hl0.out] at own; obtain ⟨A0, c0, hv, hv2, hv3, -⟩ := Sl.of_own own; rw [show (bv S0).length = i + j from by rw [bv_length, hl0.out]] at hv hv2; subst hv; replace own := Lib.hid own)
      | refine wpList_loadW rfl 22 (.tmp 3) rfl 32 arr32' _ rfl 22 _ (h3.keep hB3) hkl.out ?_
      | refine wpList_loadW rfl 29 (.tmp 4) rfl 12 arr12' _ rfl 29 _ (h4.keep hB3) hnl.out ?_
      | (go_at_call 11; (with_reducible refine (hst1.out _).mono ?_); rintro e w4 ⟨v1, rfl, own1, hB4⟩; rw [hl1.out] at own1; obtain ⟨A1, c1, hv', hv2', hv3', -⟩ := Sl.of_own own1; rw [show (bv S1).length = j from by rw [bv_length, hl1.out]] at hv' hv2'; subst hv'; replace own1 := Lib.hid own1))
    have h5 := (h3.keep hB3).keep hB4
    have h6 := (h4.keep hB3).keep hB4
    have own0 := Lib.hid (own_keep own.out hB4)
    have hB5 := below_call (below_call hB2 hB2.size hB3) (by have := hB2.size; have := hB3.size; omega) hB4
    clear own h3 h4
    refine wp_region_held_drew (S := fun w' => w'.rangeAt g3 0 (bv k) ∧ w'.rangeAt g4 0 (bv n)) (by kernel_rfl) ⟨hSS h5.drew hkl.out, hSS h6.drew hnl.out⟩ (fun hH => ?_)
    refine takeH_load (o := ⟨some 49, _, _, _, _, _⟩) (i := 0) rfl (by kernel_rfl) (by kernel_rfl) (by kernel_rfl) (fun _ _ _ _ h => h) rfl 22 (.tmp 3) rfl 32 arr32' _ _ rfl (bv k) hkl.out (fun w h => h.1) hH ?_
    simp only [Act.put, List.setIfInBounds_toArray, List.set_cons_zero, List.set_cons_succ, Nat.zero_add, decide_true, beq_self_eq_true]
    refine takeH_load (o := ⟨some 50, _, _, _, _, _⟩) (i := 1) rfl (by kernel_rfl) (by kernel_rfl) (by kernel_rfl) (fun _ _ _ _ h => h) rfl 29 (.tmp 4) rfl 12 arr12' _ _ rfl (bv n) hnl.out (fun w h => h.2) hH ?_
    simp only [Act.put, List.setIfInBounds_toArray, List.set_cons_zero, List.set_cons_succ, Nat.zero_add, decide_true, beq_self_eq_true]
    refine takeH_move (o := ⟨some 51, _, _, _, _, _⟩) (i := 2) rfl (by kernel_rfl) (by kernel_rfl) (by kernel_rfl) (fun _ _ _ _ h => h) rfl (.tmp 7) rfl (.int .i64 (i : Int)) rfl hH ?_
    simp only [Act.put, List.setIfInBounds_toArray, List.set_cons_zero, List.set_cons_succ, Nat.zero_add, decide_true, beq_self_eq_true]
    refine takeH_move (o := ⟨some 52, _, _, _, _, _⟩) (i := 3) rfl (by kernel_rfl) (by kernel_rfl) (by kernel_rfl) (fun _ _ _ _ h => h) rfl (.tmp 8) rfl (.int .i64 (j : Int)) rfl hH ?_
    simp only [Act.put, List.setIfInBounds_toArray, List.set_cons_zero, List.set_cons_succ, Nat.zero_add, decide_true, beq_self_eq_true]
    refine takeH_calc (o := ⟨some 53, _, _, _, _, _⟩) (i := 4) rfl (by kernel_rfl) (by kernel_rfl) (by kernel_rfl) (fun _ _ _ _ h => h) rfl (.int .i64 ((i : Int) + (j : Int))) (fun w => by rw [← show IntKind.i64.wrap ((i : Int) + (j : Int)) = (i : Int) + (j : Int) from IntWalk.i64_in _ (by omega)]; rfl) hH ?_
    simp only [Act.put, List.setIfInBounds_toArray, List.set_cons_zero, List.set_cons_succ, Nat.zero_add, decide_true, beq_self_eq_true]
    refine wpAnyH_ready (rs := [5]) (by kernel_rfl) (by simp) ?_
    refine AllReadyH.cons rfl (fun K1 hK1 => ?_) AllReadyH.nil
    go_simp
    have h7 := Lib.hid (h5.alloc (.cells (madeCells #[.int .u8 0] (i + j)) 5))
    have h8 := Lib.hid (h6.alloc (.cells (madeCells #[.int .u8 0] (i + j)) 5))
    have hB7 := Lib.hid (hB5.alloc hB5.size (.cells (madeCells #[.int .u8 0] (i + j)) 5))
    have own3 := Lib.hid (own0.out.alloc (.cells (madeCells #[.int .u8 0] (i + j)) 5))
    have own4 := Lib.hid (own1.out.alloc (.cells (madeCells #[.int .u8 0] (i + j)) 5))
    have slz : Sl (w4.alloc (.cells (madeCells #[.int .u8 0] (i + j)) 5)) (.slice (some ⟨w4.heap.size, 0, none⟩) (i + j) (i + j)) (bv (List.replicate (i + j) 0)) := by
      have := Sl.of_blk (n := i + j) (c := i + j) (Blk.new w4 5 (madeCells #[.int .u8 0] (i + j))) (Nat.le_refl _) (by simp [madeCells]) (by unfold maxLen; omega)
      rw [madeCells_one, List.take_of_length_le (by simp)] at this
      simpa [bv] using this
    have slz := Lib.hid slz
    clear own1 h5 h6 hB5
    refine hK1.out _ _ ⟨hSS h7.out.drew hkl.out, hSS h8.out.drew hnl.out⟩ (fun hH => ?_)
    clear hK1 K1
    refine wpAnyH_ready (rs := [6]) (by kernel_rfl) (by simp) ?_
    refine AllReadyH.cons rfl (fun K1 hK1 => ?_) AllReadyH.nil
    go_simp
    refine (hcr.out _ _ (slz.out.keep ((Below.refl _ _).drew))).mono ?_
    rintro e w6 ⟨v2, rfl, own2, hB6⟩
    rw [hl0.out] at own2
    obtain ⟨A2, c2, hv, -, -, -⟩ := Sl.of_own own2
    rw [show (bv S0).length = i + j from by rw [bv_length, hl0.out]] at hv
    subst hv
    replace own2 := Lib.hid own2
    replace own3 := Lib.hid (own_keep own3.out.drew hB6)
    replace own4 := Lib.hid (own_keep own4.out.drew hB6)
    have hB8 := Lib.hid (below_call hB7.out.drew hB7.out.drew.size hB6)
    refine hK1.out _ _ ⟨hSS (h7.out.drew.keep hB6) hkl.out, hSS (h8.out.drew.keep hB6) hnl.out⟩ (fun hH => ?_)
    clear hK1 K1 h7 h8 hB6 hB7 slz
    refine takeH_move (o := ⟨some 48, _, _, _, _, _⟩) (i := 7) rfl (by kernel_rfl) (by kernel_rfl) (by kernel_rfl) (fun _ _ _ _ h => h) rfl (.tmp 55) rfl (.tuple #[.slice A2 (i + j) c2, .int .i64 0]) rfl hH ?_
    simp only [Act.put, List.setIfInBounds_toArray, List.set_cons_zero, List.set_cons_succ, Nat.zero_add, decide_true, beq_self_eq_true]
    refine takeH_calc (o := ⟨some 56, _, _, _, _, _⟩) (i := 8) rfl (by kernel_rfl) (by kernel_rfl) (by kernel_rfl) (fun _ _ _ _ h => h) rfl (.slice A2 (i + j) c2) (fun w => rfl) hH ?_
    simp only [Act.put, List.setIfInBounds_toArray, List.set_cons_zero, List.set_cons_succ, Nat.zero_add, decide_true, beq_self_eq_true]
    refine takeH_calc (o := ⟨some 57, _, _, _, _, _⟩) (i := 9) rfl (by kernel_rfl) (by kernel_rfl) (by kernel_rfl) (fun _ _ _ _ h => h) rfl (.int .i64 0) (fun w => rfl) hH ?_
    simp only [Act.put, List.setIfInBounds_toArray, List.set_cons_zero, List.set_cons_succ, Nat.zero_add, decide_true, beq_self_eq_true]
    refine takeH_assign (o := ⟨some 13, _, _, _, _, _⟩) (i := 10) rfl (by kernel_rfl) (by kernel_rfl) (by kernel_rfl) (fun _ _ _ _ h => h) rfl (.tmp 56) rfl (.slice A2 (i + j) c2) rfl hH ?_
    simp only [Act.put, List.setIfInBounds_toArray, List.set_cons_zero, List.set_cons_succ, Nat.zero_add, decide_true, beq_self_eq_true]
    refine takeH_assign (o := ⟨some 14, _, _, _, _, _⟩) (i := 11) rfl (by kernel_rfl) (by kernel_rfl) (by kernel_rfl) (fun _ _ _ _ h => h) rfl (.tmp 57) rfl (.int .i64 0) rfl hH ?_
    simp only [Act.put, List.setIfInBounds_toArray, List.set_cons_zero, List.set_cons_succ, Nat.zero_add, decide_true, beq_self_eq_true]
    refine wpAnyH_done (by kernel_rfl) ?_ _
    have slv0 := Sl.of_own own3.out
    have slv1 := Sl.of_own own4.out
    have slv2 := Sl.of_own own2.out
    have slt := slv0.tail (by rw [bv_length, hl0.out])
    rw [bv_drop, hpart.out] at slt
    have slt0 := fun hc => slv0.tail0 (by rw [bv_length, hl0.out]) hc
    rw [bv_drop, hpart.out] at slt0
    have hs1 := Lib.hid (same_self _ _ S1 w6 slv1 slt b1.out)
    have hs2 := Lib.hid (fun hc => same_self _ _ S1 w6 slv1 (slt0 hc) b1.out)
    have hs3 := Lib.hid (same_self _ _ S0 w6 slv2 slv0 b0.out)
    clear slv0 slv1 slv2 slt slt0 own2 own3 own4 hst0 hst1 hcr hmk hal
    go_wp2_with fail
    · have hc : c0 = i := by assumption
      replace hs2 := Lib.hid (hs2.out hc)
      subst hc
      refine hs2.out.mono ?_
      rintro e w7 ⟨rfl, rfl⟩
      go_wp2_with fail
      refine hs3.out.mono ?_
      rintro e w7 ⟨rfl, rfl⟩
      go_wp2
      go_ret
      exact ⟨rfl, hB8.out⟩
    · refine hs1.out.mono ?_
      rintro e w7 ⟨rfl, rfl⟩
      go_wp2_with fail
      refine hs3.out.mono ?_
      rintro e w7 ⟨rfl, rfl⟩
      go_wp2
      go_ret
      exact ⟨rfl, hB8.out⟩
end w_CtrPlaces
end Go.Proofs.Ytokphnfhajljmaa
