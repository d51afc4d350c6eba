/- The law CtrSums: the walk. -/
import Derived.Test.YtokphnfhajljmaaCtrS
import Derived.Test.YtokphnfhajljmaaOpenC
import Derived.Deep.DeepCutAuto
import Derived.Deep.OwnRows
set_option linter.unusedVariables false
set_option linter.unusedSimpArgs false
namespace Go.Proofs.Ytokphnfhajljmaa
open Go.RowKit
open Go.Proofs.PlainAes
namespace w_CtrSums
theorem fld0 (g : Nat) (w : World) : (Instr.fieldAt 62 (.pointer (some ⟨g, 0, none⟩)) 0).run Try.prog w = .ok (.pointer (some ⟨g, 0, none⟩)) w := by kernel_rfl
theorem fld1 (g : Nat) (w : World) : (Instr.fieldAt 62 (.pointer (some ⟨g, 0, none⟩)) 1).run Try.prog w = .ok (.pointer (some ⟨g, 32, none⟩)) w := by kernel_rfl
theorem fld2 (g : Nat) (w : World) : (Instr.fieldAt 62 (.pointer (some ⟨g, 0, none⟩)) 2).run Try.prog w = .ok (.pointer (some ⟨g, 44, none⟩)) w := by kernel_rfl
theorem fld3 (g : Nat) (w : World) : (Instr.fieldAt 62 (.pointer (some ⟨g, 0, none⟩)) 3).run Try.prog w = .ok (.pointer (some ⟨g, 45, none⟩)) w := by kernel_rfl

set_option maxRecDepth 100000 in
set_option maxHeartbeats 4000000 in
theorem walk (k n : List Nat) (hk : k.length = 32) (bk : Byt k) (hn : n.length = 12) (bn : Byt n) (va : Value) (l : List Nat) (vb : Value) (l2 : List Nat) (w : World) (hs : Sl w va (bv l)) (bl : Byt l) (hs2 : Sl w vb (bv l2)) (bl2 : Byt l2) :
    Calls Try.prog 8 #[.agg (bv k ++ (bv n ++ [va, vb])).toArray] w fun e w' => e = .returned (.bool true) ∧ Below w.heap.size w w' := by
  have hal := Lib.hid (fun w => alive_any w)
  have hkl := Lib.hid (show (bv k).length = 32 by simp [hk])
  have hnl := Lib.hid (show (bv n).length = 12 by simp [hn])
  have Hk := Lib.hid hk
  have Hn := Lib.hid hn
  have Bk := Lib.hid bk
  have Bn := Lib.hid bn
  obtain ⟨A, c, hva, -, hcm, -⟩ := id hs
  rw [bv_length] at hva
  obtain ⟨B, d, hvb, -, hdm, -⟩ := id hs2
  rw [bv_length] at hvb
  replace hva := Lib.hid hva
  replace hvb := Lib.hid hvb
  replace hs := Lib.hid hs
  have Bl := Lib.hid bl
  replace hs2 := Lib.hid hs2
  have Bl2 := Lib.hid bl2
  clear hk bk hn bn bl bl2
  have h0 := Blk.new_at (w := w) (t := 62) (cs := (bv k ++ (bv n ++ [va, vb])).toArray) rfl rfl
  have hB0 : Below w.heap.size w (w.alloc (.cells (bv k ++ (bv n ++ [va, vb])).toArray 62)) := (Below.refl _ _).alloc (Nat.le_refl _) _
  simp only [List.size_toArray] at h0 hB0
  go_enter Try.func8, Try.ntmps8
  go_wp2_with fail
  refine (hal.out _).mono ?_
  rintro e w1 ⟨rfl, hB⟩
  have h1 := Lib.hid (h0.keep hB)
  have hB1 := Lib.hid (below_call hB0 hB0.size hB)
  have hgw := Lib.hid h1.out.lt
  clear hB h0 hB0
  go_upto_region 3 with fail
  go_cut [3, 4, 5, 6] (fun s3 s4 s5 s6 wx => ∃ g3 g4 : Nat, s3 = .pointer (some ⟨g3, 0, none⟩) ∧ s4 = .pointer (some ⟨g4, 0, none⟩) ∧ s5 = va ∧ s6 = vb ∧ Blk wx g3 22 (bv k) ∧ Blk wx g4 29 (bv n) ∧ Below w.heap.size w wx)
  case first =>
    refine wp_region_held_drew (S := FourS w.heap.size k n va vb) (by kernel_rfl) (fourS Hk.out Hn.out h1.out.drew) (fun hH => ?_)
    refine takeH_field (o := ⟨some 17, _, _, _, _, _⟩) (i := 0) rfl (by kernel_rfl) (by kernel_rfl) (by kernel_rfl) (fun _ _ _ _ h => h) rfl 62 (.tmp 1) 0 rfl _ 0 rfl (fun w => fld0 _ w) hH ?_
    simp only [Act.put, List.setIfInBounds_toArray, List.set_cons_zero, List.set_cons_succ, Nat.zero_add, decide_true, beq_self_eq_true]
    refine takeH_load (o := ⟨some 18, _, _, _, _, _⟩) (i := 1) rfl (by kernel_rfl) (by kernel_rfl) (by kernel_rfl) (fun _ _ _ _ h => h) rfl 22 (.tmp 17) rfl 32 arr32' _ _ rfl (bv k) hkl.out (fun w h => h.1) hH ?_
    simp only [Act.put, List.setIfInBounds_toArray, List.set_cons_zero, List.set_cons_succ, Nat.zero_add, decide_true, beq_self_eq_true]
    refine takeH_field (o := ⟨some 19, _, _, _, _, _⟩) (i := 2) rfl (by kernel_rfl) (by kernel_rfl) (by kernel_rfl) (fun _ _ _ _ h => h) rfl 62 (.tmp 1) 1 rfl _ 32 rfl (fun w => fld1 _ w) hH ?_
    simp only [Act.put, List.setIfInBounds_toArray, List.set_cons_zero, List.set_cons_succ, Nat.zero_add, decide_true, beq_self_eq_true]
    refine takeH_load (o := ⟨some 20, _, _, _, _, _⟩) (i := 3) rfl (by kernel_rfl) (by kernel_rfl) (by kernel_rfl) (fun _ _ _ _ h => h) rfl 29 (.tmp 19) rfl 12 arr12' _ _ rfl (bv n) hnl.out (fun w h => h.2.1) hH ?_
    simp only [Act.put, List.setIfInBounds_toArray, List.set_cons_zero, List.set_cons_succ, Nat.zero_add, decide_true, beq_self_eq_true]
    refine takeH_field (o := ⟨some 21, _, _, _, _, _⟩) (i := 4) rfl (by kernel_rfl) (by kernel_rfl) (by kernel_rfl) (fun _ _ _ _ h => h) rfl 62 (.tmp 1) 2 rfl _ 44 rfl (fun w => fld2 _ w) hH ?_
    simp only [Act.put, List.setIfInBounds_toArray, List.set_cons_zero, List.set_cons_succ, Nat.zero_add, decide_true, beq_self_eq_true]
    refine takeH_cell (o := ⟨some 22, _, _, _, _, _⟩) (i := 5) rfl (by kernel_rfl) (by kernel_rfl) (by kernel_rfl) (fun _ _ _ _ h => h) rfl 32 (.tmp 21) rfl Try.underlying32 rfl _ _ rfl va (fun w h => h.2.2.1) hH ?_
    simp only [Act.put, List.setIfInBounds_toArray, List.set_cons_zero, List.set_cons_succ, Nat.zero_add, decide_true, beq_self_eq_true]
    refine takeH_field (o := ⟨some 23, _, _, _, _, _⟩) (i := 6) rfl (by kernel_rfl) (by kernel_rfl) (by kernel_rfl) (fun _ _ _ _ h => h) rfl 62 (.tmp 1) 3 rfl _ 45 rfl (fun w => fld3 _ w) hH ?_
    simp only [Act.put, List.setIfInBounds_toArray, List.set_cons_zero, List.set_cons_succ, Nat.zero_add, decide_true, beq_self_eq_true]
    refine takeH_cell (o := ⟨some 24, _, _, _, _, _⟩) (i := 7) rfl (by kernel_rfl) (by kernel_rfl) (by kernel_rfl) (fun _ _ _ _ h => h) rfl 32 (.tmp 23) rfl Try.underlying32 rfl _ _ rfl vb (fun w h => h.2.2.2) hH ?_
    simp only [Act.put, List.setIfInBounds_toArray, List.set_cons_zero, List.set_cons_succ, Nat.zero_add, decide_true, beq_self_eq_true]
    refine wpAnyH_ready (rs := [8, 9]) (by kernel_rfl) (by simp) ?_
    refine AllReadyH.cons rfl (fun K1 hK1 => ?_) (AllReadyH.cons rfl (fun K1 hK1 => ?_) AllReadyH.nil)
    · go_simp
      have hs1 := Lib.hid (h1.out.alloc (.cells (bv (zeros 32)).toArray 22))
      have hb2 := Lib.hid (hB1.out.alloc hB1.out.size (.cells (bv (zeros 32)).toArray 22))
      have hx3 := Lib.hid (Blk.new_at (w := w1) (n := w1.heap.size) (t := 22) (cs := (bv (zeros 32)).toArray) (L := bv (zeros 32)) (by simp) rfl)
      refine hK1.out _ _ (fourS Hk.out Hn.out hs1.out.drew) (fun hH => ?_)
      clear hK1 K1
      refine wpAnyH_ready (rs := [9]) (by kernel_rfl) (by simp) ?_
      refine AllReadyH.cons rfl (fun K1 hK1 => ?_) AllReadyH.nil
      · go_simp
        have hs4 := Lib.hid (hs1.out.alloc (.cells (bv (zeros 12)).toArray 29))
        have hb5 := Lib.hid (hb2.out.alloc hb2.out.size (.cells (bv (zeros 12)).toArray 29))
        have hx6 := Lib.hid (Blk.new_at (w := (w1.alloc (.cells (bv (zeros 32)).toArray 22))) (n := w1.heap.size + 1) (t := 29) (cs := (bv (zeros 12)).toArray) (L := bv (zeros 12)) (by simp) rfl)
        have hx7 := Lib.hid (hx3.out.alloc (.cells (bv (zeros 12)).toArray 29))
        refine hK1.out _ _ (fourS Hk.out Hn.out hs4.out.drew) (fun hH => ?_)
        clear hK1 K1
        refine wpAnyH_ready (rs := [10]) (by kernel_rfl) (by simp) ?_
        refine AllReadyH.cons rfl (fun K1 hK1 => ?_) AllReadyH.nil
        · rw [if_pos (by rfl)]
          refine wp_storeA 22 (.tmp 3) (.tmp 18) rfl 32 arr32' _ _ rfl (bv k) rfl 22 _ hx7.out.drew hkl.out (by simp) (ones_bv _) ?_
          intro w8 hy9 hK10
          rw [putL_all (by rw [hkl.out]; simp)] at hy9
          replace hy9 := Lib.hid hy9
          have hs11 := Lib.hid (hs4.out.drew.keeps hK10 (by simp only [List.mem_singleton]; have f0 := hgw.out; omega))
          have hb12 := Lib.hid (hb5.out.drew.trans (hK10.below hb5.out.drew.size (by intro b hb; simp only [List.mem_singleton] at hb; have f0 := hgw.out; omega)))
          have hx13 := Lib.hid (hx6.out.drew.keeps hK10 (by simp only [List.mem_singleton]; have f0 := hgw.out; omega))
          have hf14 := Lib.hid (show w.heap.size < w8.heap.size ∧ w1.heap.size < w8.heap.size from ⟨hs11.out.lt, hy9.out.lt⟩)
          refine hK1.out _ _ (fourS Hk.out Hn.out hs11.out) (fun hH => ?_)
          clear hK1 K1 hK10
          refine wpAnyH_ready (rs := [11]) (by kernel_rfl) (by simp) ?_
          refine AllReadyH.cons rfl (fun K1 hK1 => ?_) AllReadyH.nil
          · rw [if_pos (by rfl)]
            refine wp_storeA 29 (.tmp 4) (.tmp 20) rfl 12 arr12' _ _ rfl (bv n) rfl 29 _ hx13.out hnl.out (by simp) (ones_bv _) ?_
            intro w15 hy16 hK17
            rw [putL_all (by rw [hnl.out]; simp)] at hy16
            replace hy16 := Lib.hid hy16
            have hs18 := Lib.hid (hs11.out.keeps hK17 (by simp only [List.mem_singleton]; have f0 := hgw.out; have f1 := hf14.out; omega))
            have hb19 := Lib.hid (hb12.out.trans (hK17.below hb12.out.size (by intro b hb; simp only [List.mem_singleton] at hb; have f0 := hgw.out; have f1 := hf14.out; omega)))
            have hx20 := Lib.hid (hy9.out.keeps hK17 (by simp only [List.mem_singleton]; have f0 := hgw.out; have f1 := hf14.out; omega))
            have hf21 := Lib.hid (show w.heap.size < w15.heap.size ∧ w1.heap.size + 1 < w15.heap.size from ⟨hs18.out.lt, hy16.out.lt⟩)
            refine hK1.out _ _ (fourS Hk.out Hn.out hs18.out) (fun hH => ?_)
            clear hK1 K1 hK17
            refine takeH_assign (o := ⟨some 5, _, _, _, _, _⟩) (i := 12) rfl (by kernel_rfl) (by kernel_rfl) (by kernel_rfl) (fun _ _ _ _ h => h) rfl (.tmp 22) rfl _ rfl hH ?_
            simp only [Act.put, List.setIfInBounds_toArray, List.set_cons_zero, List.set_cons_succ, Nat.zero_add, decide_true, beq_self_eq_true]
            refine takeH_assign (o := ⟨some 6, _, _, _, _, _⟩) (i := 13) rfl (by kernel_rfl) (by kernel_rfl) (by kernel_rfl) (fun _ _ _ _ h => h) rfl (.tmp 24) rfl _ rfl hH ?_
            simp only [Act.put, List.setIfInBounds_toArray, List.set_cons_zero, List.set_cons_succ, Nat.zero_add, decide_true, beq_self_eq_true]
            refine wpAnyH_done (by kernel_rfl) ?_ _
            go_wp2_with fail
            go_meet
            exact ⟨_, _, rfl, rfl, rfl, rfl, hx20.out, hy16.out, hb19.out⟩
    · go_simp
      have hs22 := Lib.hid (h1.out.alloc (.cells (bv (zeros 12)).toArray 29))
      have hb23 := Lib.hid (hB1.out.alloc hB1.out.size (.cells (bv (zeros 12)).toArray 29))
      have hx24 := Lib.hid (Blk.new_at (w := w1) (n := w1.heap.size) (t := 29) (cs := (bv (zeros 12)).toArray) (L := bv (zeros 12)) (by simp) rfl)
      refine hK1.out _ _ (fourS Hk.out Hn.out hs22.out.drew) (fun hH => ?_)
      clear hK1 K1
      refine wpAnyH_ready (rs := [8]) (by kernel_rfl) (by simp) ?_
      refine AllReadyH.cons rfl (fun K1 hK1 => ?_) AllReadyH.nil
      · go_simp
        have hs25 := Lib.hid (hs22.out.alloc (.cells (bv (zeros 32)).toArray 22))
        have hb26 := Lib.hid (hb23.out.alloc hb23.out.size (.cells (bv (zeros 32)).toArray 22))
        have hx27 := Lib.hid (Blk.new_at (w := (w1.alloc (.cells (bv (zeros 12)).toArray 29))) (n := w1.heap.size + 1) (t := 22) (cs := (bv (zeros 32)).toArray) (L := bv (zeros 32)) (by simp) rfl)
        have hx28 := Lib.hid (hx24.out.alloc (.cells (bv (zeros 32)).toArray 22))
        refine hK1.out _ _ (fourS Hk.out Hn.out hs25.out.drew) (fun hH => ?_)
        clear hK1 K1
        refine wpAnyH_ready (rs := [10]) (by kernel_rfl) (by simp) ?_
        refine AllReadyH.cons rfl (fun K1 hK1 => ?_) AllReadyH.nil
        · rw [if_pos (by rfl)]
          refine wp_storeA 22 (.tmp 3) (.tmp 18) rfl 32 arr32' _ _ rfl (bv k) rfl 22 _ hx27.out.drew hkl.out (by simp) (ones_bv _) ?_
          intro w29 hy30 hK31
          rw [putL_all (by rw [hkl.out]; simp)] at hy30
          replace hy30 := Lib.hid hy30
          have hs32 := Lib.hid (hs25.out.drew.keeps hK31 (by simp only [List.mem_singleton]; have f0 := hgw.out; omega))
          have hb33 := Lib.hid (hb26.out.drew.trans (hK31.below hb26.out.drew.size (by intro b hb; simp only [List.mem_singleton] at hb; have f0 := hgw.out; omega)))
          have hx34 := Lib.hid (hx28.out.drew.keeps hK31 (by simp only [List.mem_singleton]; have f0 := hgw.out; omega))
          have hf35 := Lib.hid (show w.heap.size < w29.heap.size ∧ w1.heap.size + 1 < w29.heap.size from ⟨hs32.out.lt, hy30.out.lt⟩)
          refine hK1.out _ _ (fourS Hk.out Hn.out hs32.out) (fun hH => ?_)
          clear hK1 K1 hK31
          refine wpAnyH_ready (rs := [11]) (by kernel_rfl) (by simp) ?_
          refine AllReadyH.cons rfl (fun K1 hK1 => ?_) AllReadyH.nil
          · rw [if_pos (by rfl)]
            refine wp_storeA 29 (.tmp 4) (.tmp 20) rfl 12 arr12' _ _ rfl (bv n) rfl 29 _ hx34.out hnl.out (by simp) (ones_bv _) ?_
            intro w36 hy37 hK38
            rw [putL_all (by rw [hnl.out]; simp)] at hy37
            replace hy37 := Lib.hid hy37
            have hs39 := Lib.hid (hs32.out.keeps hK38 (by simp only [List.mem_singleton]; have f0 := hgw.out; have f1 := hf35.out; omega))
            have hb40 := Lib.hid (hb33.out.trans (hK38.below hb33.out.size (by intro b hb; simp only [List.mem_singleton] at hb; have f0 := hgw.out; have f1 := hf35.out; omega)))
            have hx41 := Lib.hid (hy30.out.keeps hK38 (by simp only [List.mem_singleton]; have f0 := hgw.out; have f1 := hf35.out; omega))
            have hf42 := Lib.hid (show w.heap.size < w36.heap.size ∧ w1.heap.size < w36.heap.size from ⟨hs39.out.lt, hy37.out.lt⟩)
            refine hK1.out _ _ (fourS Hk.out Hn.out hs39.out) (fun hH => ?_)
            clear hK1 K1 hK38
            refine takeH_assign (o := ⟨some 5, _, _, _, _, _⟩) (i := 12) rfl (by kernel_rfl) (by kernel_rfl) (by kernel_rfl) (fun _ _ _ _ h => h) rfl (.tmp 22) rfl _ rfl hH ?_
            simp only [Act.put, List.setIfInBounds_toArray, List.set_cons_zero, List.set_cons_succ, Nat.zero_add, decide_true, beq_self_eq_true]
            refine takeH_assign (o := ⟨some 6, _, _, _, _, _⟩) (i := 13) rfl (by kernel_rfl) (by kernel_rfl) (by kernel_rfl) (fun _ _ _ _ h => h) rfl (.tmp 24) rfl _ rfl hH ?_
            simp only [Act.put, List.setIfInBounds_toArray, List.set_cons_zero, List.set_cons_succ, Nat.zero_add, decide_true, beq_self_eq_true]
            refine wpAnyH_done (by kernel_rfl) ?_ _
            go_wp2_with fail
            go_meet
            exact ⟨_, _, rfl, rfl, rfl, rfl, hx41.out, hy37.out, hb40.out⟩
  case rest =>
    obtain ⟨g3, g4, rfl, rfl, rfl, rfl, h3, h4, hB2⟩ := hcut
    have e1 := hva.out
    have e2 := hvb.out
    have sl := hs.out.keep (hB2.mono (Nat.le_refl _))
    have sl2 := hs2.out.keep (hB2.mono (Nat.le_refl _))
    clear hs hs2
    subst e1 e2
    clear hva hvb h1 hB1 hgw
    replace sl := Lib.hid sl
    replace sl2 := Lib.hid sl2
    obtain ⟨la, hla⟩ : ∃ la, la = l.length := ⟨_, rfl⟩
    obtain ⟨lb, hlb⟩ : ∃ lb, lb = l2.length := ⟨_, rfl⟩
    rw [← hla, ← hlb]
    have hlah := Lib.hid hla
    have hlbh := Lib.hid hlb
    clear hla hlb
    by_cases hl : (la : Int) ≤ 1000
    · by_cases hl2 : (lb : Int) ≤ 1000
      · obtain ⟨m, hm1, hm2, hm3⟩ : ∃ m : Nat, (m : Int) ≤ la ∧ (m : Int) ≤ lb ∧ (m = la ∨ m = lb) := by
          by_cases h : la ≤ lb
          · exact ⟨la, by omega, by omega, .inl rfl⟩
          · exact ⟨lb, by omega, by omega, .inr rfl⟩
        go_upto_region 6 with fail
        go_cut [7] (fun s7 wx => s7 = .int .i64 (m : Int) ∧ wx = wc)
        case first =>
          by_cases hle : (la : Int) ≤ lb
          · obtain rfl : m = la := by omega
            go_wp2_with fail
            go_meet
            exact ⟨rfl, rfl⟩
          · obtain rfl : m = lb := by omega
            go_wp2_with fail
            go_meet
            exact ⟨rfl, rfl⟩
        case rest =>
          obtain ⟨rfl, rfl⟩ := hcut
          have hla := hlah.out
          have hlb := hlbh.out
          have SL : Hid (Sl wc (.slice A la c) (bv l)) := by rw [hla]; exact sl
          have SL2 : Hid (Sl wc (.slice B lb d) (bv l2)) := by rw [hlb]; exact sl2
          have hmk : ∀ w, (Instr.makeSlice 32 (.int .i64 (m : Int)) (.int .i64 (m : Int))).run Try.prog w = .ok (.slice (some ⟨w.heap.size, 0, none⟩) m m) (w.alloc (.cells (madeCells #[.int .u8 0] m) 5)) :=
            run_make_row' (P := Try.prog) 32 5 (.int .u8 0) 1 Try.underlying32 (by kernel_rfl) rfl .i64 .i64 m (by omega) (by omega)
          have T1 : (l.take m).length = m := by rw [List.length_take]; omega
          have T2 : (l2.take m).length = m := by rw [List.length_take]; omega
          have B1 : Byt (l.take m) := fun b hb => Bl.out b (List.mem_of_mem_take hb)
          have B2 : Byt (l2.take m) := fun b hb => Bl2.out b (List.mem_of_mem_take hb)
          have hPl : Hid ((xorl (l.take m) (l2.take m)).length = m) := Lib.hid (by rw [xorl_length (by rw [T1, T2]), T1])
          have hPb : Byt (xorl (l.take m) (l2.take m)) := xorl_lt B1 B2
          have hPg : Hid (∀ j, j < m → gd (xorl (l.take m) (l2.take m)) j = gd l j ^^^ gd l2 j) := Lib.hid (fun j hj => by rw [gd_xorl (by rw [T1, T2]) (by rw [T1]; exact hj), gd_take hj, gd_take hj])
          have hX : Hid (∀ v w, Sl w v (bv (l.take m)) → Calls Try.prog 16 #[.agg (bv k).toArray, .agg (bv n).toArray, v] w (RetOK (crypt k n (l.take m)) w)) := Lib.hid (fun v w h => crypt_any k n (l.take m) v w Hk.out Bk.out Hn.out Bn.out B1 (by rw [T1]; omega) h)
          have hY : Hid (∀ v w, Sl w v (bv (xorl (l.take m) (l2.take m))) → Calls Try.prog 16 #[.agg (bv k).toArray, .agg (bv n).toArray, v] w (RetOK (crypt k n (xorl (l.take m) (l2.take m))) w)) := Lib.hid (fun v w h => crypt_any k n _ v w Hk.out Bk.out Hn.out Bn.out hPb (by rw [hPl.out]; omega) h)
          have hXl : Hid ((crypt k n (l.take m)).length = m) := Lib.hid (by rw [crypt_length, T1])
          have hYl : Hid ((crypt k n (xorl (l.take m) (l2.take m))).length = m) := Lib.hid (by rw [crypt_length, hPl.out])
          have hXb : Hid (Byt (crypt k n (l.take m))) := Lib.hid (crypt_lt Bk.out Bn.out B1)
          have hYg : Hid (∀ j, j < m → gd (crypt k n (xorl (l.take m) (l2.take m))) j = gd (crypt k n (l.take m)) j ^^^ gd l2 j) := Lib.hid (fun j hj => by rw [gd_crypt _ _ _ (by rw [hPl.out]; exact hj), gd_crypt _ _ _ (by rw [T1]; exact hj), hPg.out j hj, gd_take hj, Nat.xor_assoc])
          replace hPb := Lib.hid hPb
          generalize crypt k n (xorl (l.take m) (l2.take m)) = Y at *
          generalize crypt k n (l.take m) = X at *
          generalize xorl (l.take m) (l2.take m) = P at *
          have h8 : Blk (wc.alloc (.cells (madeCells #[.int .u8 0] m) 5)) wc.heap.size 5 (bv (zeros m)) := by
            have := Blk.new wc 5 (madeCells #[.int .u8 0] m)
            rw [madeCells_one] at this
            simpa [bv, zeros] using this
          replace hla := Lib.hid hla
          replace hlb := Lib.hid hlb
          clear hm3 T1 T2 B1 B2 sl sl2
          go_wp2
          go_loopw [42] (fun i wr => ∃ j : Nat, (j : Int) ≤ m ∧ i = .int .i64 (j : Int) ∧ Blk wr wc.heap.size 5 (bv (upd P (zeros m) j)) ∧ Below wc.heap.size wc wr) (fun i _ => m - (intOf i).toNat)
          case atStart => exact ⟨0, by omega, rfl, by rw [upd_zero]; exact h8, (Below.refl _ _).alloc (Nat.le_refl _) _⟩
          case round =>
            clear h8
            obtain ⟨j, hj, rfl, h8, hB⟩ := hrel
            by_cases hlt : (j : Int) < m
            · have c1 := h8.cell j
              have f1 := h8.frozen j
              rw [bv_get, upd_get (by simp [hPl.out]) (Nat.le_refl _) (by simp; omega), zeros_get (by omega)] at c1
              simp only [Option.map_some] at c1
              have gx : l[j]? = some (gd l j) := gd_get (by have := hla.out; omega)
              have gy : l2[j]? = some (gd l2 j) := gd_get (by have := hlb.out; omega)
              obtain ⟨p', pc, pe, -, -, ph⟩ := SL.out.keep hB
              obtain ⟨pg, po, p2, pcell⟩ := ph (by rw [bv_length]; have := hla.out; omega)
              have pA : A = some ⟨pg, po, none⟩ := by rw [← p2]; injection pe
              subst pA
              clear pe p2
              have c2 := pcell j _ (bv_some gx)
              obtain ⟨q', qc, qe, -, -, qh⟩ := SL2.out.keep hB
              obtain ⟨qg, qo, q2, qcell⟩ := qh (by rw [bv_length]; have := hlb.out; omega)
              have qA : B = some ⟨qg, qo, none⟩ := by rw [← q2]; injection qe
              subst qA
              clear qe q2
              have c3 := qcell j _ (bv_some gy)
              obtain ⟨hxy, hlx⟩ := x8 (gd_lt Bl.out j) (gd_lt Bl2.out j)
              have hst := upd_set (new := P) (old := zeros m) (k := j) (by simp [hPl.out]) (by simp; omega) ((gd_get (by rw [hPl.out]; omega)).trans (by rw [hPg.out j (by omega)]))
              replace hst := Lib.hid hst
              generalize gd l j = x at *
              generalize gd l2 j = y at *
              clear gx gy ph qh pcell qcell hlx
              have a1 : (j : Int) < la := by omega
              have a2 : (j : Int) < lb := by omega
              go_wp2
              go_still_tail 12, (by kernel_rfl)
              change wpList _ _ _ _ _ wr.drew
              go_wp2
              go_roundw
              case rel =>
                refine ⟨j + 1, by omega, by go_num, ?_, hB.drew.setCell (by simp) _⟩
                rw [← hst.out, ← bv_set]
                exact h8.drew.set_ j _
              case measure => simp [intOf]; omega
            · obtain rfl : m = j := by omega
              rw [upd_all hPl.out (by simp)] at h8
              have h5 := Lib.hid (h3.keep hB)
              have h6 := Lib.hid (h4.keep hB)
              have s1 := SL.out.keep hB
              have s2 := Lib.hid (SL2.out.keep hB)
              have hBw := Lib.hid (below_call hB2 hB2.size hB)
              obtain ⟨_, _, e, hle, -, -⟩ := id s1
              have hmc : m ≤ c := by
                injection e with e1 e2 e3
                subst e3
                have := hla.out
                rw [bv_length] at hle
                omega
              clear e hle
              have sP : Sl wr (.slice (some ⟨wc.heap.size, 0, none⟩) m m) (bv P) := by
                have := Sl.of_blk (n := m) (c := m) h8 (Nat.le_refl _) (by rw [bv_length, hPl.out]; exact Nat.le_refl _) (by unfold maxLen; omega)
                rwa [List.take_of_length_le (by rw [bv_length, hPl.out]; exact Nat.le_refl _)] at this
              replace sP := Lib.hid sP
              have sT := s1.head (by rw [bv_length, hla.out]) (i := m) (by omega)
              rw [bv_take] at sT
              replace sT := Lib.hid sT
              clear s1 h3 h4 hB h8 SL SL2
              go_wp2_with fail
              refine wp_region_held_drew (S := fun w' => w'.rangeAt g3 0 (bv k) ∧ w'.rangeAt g4 0 (bv n)) (by kernel_rfl) ⟨hSS h5.out.drew hkl.out, hSS h6.out.drew hnl.out⟩ (fun hH => ?_)
              refine takeH_load (o := ⟨some 59, _, _, _, _, _⟩) (i := 0) rfl (by kernel_rfl) (by kernel_rfl) (by kernel_rfl) (fun _ _ _ _ h => h) rfl 22 (.tmp 3) rfl 32 arr32' _ _ rfl (bv k) hkl.out (fun w h => h.1) hH ?_
              simp only [Act.put, List.setIfInBounds_toArray, List.set_cons_zero, List.set_cons_succ, Nat.zero_add, decide_true, beq_self_eq_true]
              refine takeH_load (o := ⟨some 60, _, _, _, _, _⟩) (i := 1) rfl (by kernel_rfl) (by kernel_rfl) (by kernel_rfl) (fun _ _ _ _ h => h) rfl 29 (.tmp 4) rfl 12 arr12' _ _ rfl (bv n) hnl.out (fun w h => h.2) hH ?_
              simp only [Act.put, List.setIfInBounds_toArray, List.set_cons_zero, List.set_cons_succ, Nat.zero_add, decide_true, beq_self_eq_true]
              refine takeH_move (o := ⟨some 61, _, _, _, _, _⟩) (i := 2) rfl (by kernel_rfl) (by kernel_rfl) (by kernel_rfl) (fun _ _ _ _ h => h) rfl (.tmp 5) rfl (.slice A la c) rfl hH ?_
              simp only [Act.put, List.setIfInBounds_toArray, List.set_cons_zero, List.set_cons_succ, Nat.zero_add, decide_true, beq_self_eq_true]
              refine takeH_move (o := ⟨some 62, _, _, _, _, _⟩) (i := 3) rfl (by kernel_rfl) (by kernel_rfl) (by kernel_rfl) (fun _ _ _ _ h => h) rfl (.tmp 7) rfl (.int .i64 (m : Int)) rfl hH ?_
              simp only [Act.put, List.setIfInBounds_toArray, List.set_cons_zero, List.set_cons_succ, Nat.zero_add, decide_true, beq_self_eq_true]
              refine wpAnyH_ready (rs := [4]) (by kernel_rfl) (by simp) ?_
              refine AllReadyH.cons rfl (fun K1 hK1 => ?_) AllReadyH.nil
              go_simp
              refine hK1.out _ _ ⟨hSS h5.out.drew hkl.out, hSS h6.out.drew hnl.out⟩ (fun hH => ?_)
              clear hK1 K1
              refine wpAnyH_ready (rs := [5]) (by kernel_rfl) (by simp) ?_
              refine AllReadyH.cons rfl (fun K1 hK1 => ?_) AllReadyH.nil
              go_simp
              refine (hX.out _ _ (sT.out.keep (Below.refl _ _).drew)).mono ?_
              rintro e w6 ⟨v3, rfl, own4, hB6⟩
              rw [hXl.out] at own4
              obtain ⟨A4, c4, hv, -, -, -⟩ := Sl.of_own own4
              rw [show (bv X).length = m from by rw [bv_length, hXl.out]] at hv
              subst hv
              have slX := Sl.of_own own4
              replace slX := Lib.hid slX
              replace s2 := Lib.hid ((s2.out.keep (Below.refl _ _).drew).keep hB6)
              replace sP := Lib.hid ((sP.out.keep (Below.refl _ _).drew).keep hB6)
              have hB8 := Lib.hid (below_call hBw.out.drew hBw.out.drew.size hB6)
              have h7 := h5.out.drew.keep hB6
              have h9 := h6.out.drew.keep hB6
              refine hK1.out _ _ ⟨hSS h7 hkl.out, hSS h9 hnl.out⟩ (fun hH => ?_)
              clear hK1 K1 h5 h6 sT own4 hBw hB6
              refine takeH_move (o := ⟨some 58, _, _, _, _, _⟩) (i := 6) rfl (by kernel_rfl) (by kernel_rfl) (by kernel_rfl) (fun _ _ _ _ h => h) rfl (.tmp 64) rfl (.tuple #[.slice A4 m c4, .int .i64 0]) rfl hH ?_
              simp only [Act.put, List.setIfInBounds_toArray, List.set_cons_zero, List.set_cons_succ, Nat.zero_add, decide_true, beq_self_eq_true]
              refine takeH_calc (o := ⟨some 65, _, _, _, _, _⟩) (i := 7) rfl (by kernel_rfl) (by kernel_rfl) (by kernel_rfl) (fun _ _ _ _ h => h) rfl (.slice A4 m c4) (fun w => rfl) hH ?_
              simp only [Act.put, List.setIfInBounds_toArray, List.set_cons_zero, List.set_cons_succ, Nat.zero_add, decide_true, beq_self_eq_true]
              refine takeH_calc (o := ⟨some 66, _, _, _, _, _⟩) (i := 8) rfl (by kernel_rfl) (by kernel_rfl) (by kernel_rfl) (fun _ _ _ _ h => h) rfl (.int .i64 0) (fun w => rfl) hH ?_
              simp only [Act.put, List.setIfInBounds_toArray, List.set_cons_zero, List.set_cons_succ, Nat.zero_add, decide_true, beq_self_eq_true]
              refine takeH_assign (o := ⟨some 10, _, _, _, _, _⟩) (i := 9) rfl (by kernel_rfl) (by kernel_rfl) (by kernel_rfl) (fun _ _ _ _ h => h) rfl (.tmp 65) rfl (.slice A4 m c4) rfl hH ?_
              simp only [Act.put, List.setIfInBounds_toArray, List.set_cons_zero, List.set_cons_succ, Nat.zero_add, decide_true, beq_self_eq_true]
              refine takeH_assign (o := ⟨some 11, _, _, _, _, _⟩) (i := 10) rfl (by kernel_rfl) (by kernel_rfl) (by kernel_rfl) (fun _ _ _ _ h => h) rfl (.tmp 66) rfl (.int .i64 0) rfl hH ?_
              simp only [Act.put, List.setIfInBounds_toArray, List.set_cons_zero, List.set_cons_succ, Nat.zero_add, decide_true, beq_self_eq_true]
              refine wpAnyH_done (by kernel_rfl) ?_ _
              go_wp2_with (first
                | refine wpList_loadW rfl 22 (.tmp 3) rfl 32 arr32' _ rfl 22 _ h7 hkl.out ?_
                | refine wpList_loadW rfl 29 (.tmp 4) rfl 12 arr12' _ rfl 29 _ h9 hnl.out ?_
                | (go_at_call 16; (with_reducible refine (hY.out _ _ sP.out).mono ?_); rintro e w7 ⟨v4, rfl, own5, hB7⟩; rw [hYl.out] at own5; have slY := Sl.of_own own5; obtain ⟨A5, c5, hv, -, -, -⟩ := id slY; rw [show (bv Y).length = m from by rw [bv_length, hYl.out]] at hv; subst hv; replace slY := Lib.hid slY; clear own5; replace slX := Lib.hid (slX.out.keep hB7); replace s2 := Lib.hid (s2.out.keep hB7); replace hB8 := Lib.hid (below_call hB8.out hB8.out.size hB7)))
              clear h7 h9 hB7 sP hX hY
              go_loopw [82] (fun i wr => ∃ j : Nat, (j : Int) ≤ m ∧ i = .int .i64 (j : Int) ∧ Below w7.heap.size w7 wr) (fun i _ => m - (intOf i).toNat)
              case atStart => exact ⟨0, by omega, rfl, Below.refl _ _⟩
              case round =>
                obtain ⟨j, hj, rfl, hB⟩ := hrel
                by_cases hlt : (j : Int) < m
                · have gx : X[j]? = some (gd X j) := gd_get (by rw [hXl.out]; omega)
                  have gy : l2[j]? = some (gd l2 j) := gd_get (by have := hlb.out; omega)
                  have gz : Y[j]? = some (gd X j ^^^ gd l2 j) := by rw [← hYg.out j (by omega)]; exact gd_get (by rw [hYl.out]; omega)
                  obtain ⟨p', pc, pe, -, -, ph⟩ := slX.out.keep hB
                  obtain ⟨pg, po, p2, pcell⟩ := ph (by rw [bv_length]; have := hXl.out; omega)
                  have pA : A4 = some ⟨pg, po, none⟩ := by rw [← p2]; injection pe
                  subst pA
                  clear pe p2 ph
                  have c2 := pcell j _ (bv_some gx)
                  clear pcell
                  obtain ⟨q', qc, qe, -, -, qh⟩ := s2.out.keep hB
                  obtain ⟨qg, qo, q2, qcell⟩ := qh (by rw [bv_length]; have := hlb.out; omega)
                  have qA : B = some ⟨qg, qo, none⟩ := by rw [← q2]; injection qe
                  subst qA
                  clear qe q2 qh
                  have c3 := qcell j _ (bv_some gy)
                  clear qcell
                  obtain ⟨r', rc, re, -, -, rh⟩ := slY.out.keep hB
                  obtain ⟨rg, ro, r2, rcell⟩ := rh (by rw [bv_length]; have := hYl.out; omega)
                  have rA : A5 = some ⟨rg, ro, none⟩ := by rw [← r2]; injection re
                  subst rA
                  clear re r2 rh
                  have c6 := rcell j _ (bv_some gz)
                  clear rcell
                  obtain ⟨hxy, hlx⟩ := x8 (gd_lt hXb.out j) (gd_lt Bl2.out j)
                  have a2 : (j : Int) < lb := by omega
                  generalize gd X j = x at *
                  generalize gd l2 j = y at *
                  clear gx gy gz hlx
                  go_wp2
                  go_quiet (fail)
                  go_wp2
                  go_roundw
                  case rel => exact ⟨j + 1, by omega, by go_num, below_drewN hB _⟩
                  case measure => simp [intOf]; omega
                · obtain rfl : m = j := by omega
                  go_wp2
                  go_ret
                  exact ⟨rfl, below_call hB8.out hB8.out.size hB⟩
      · go_wp2
        go_ret
        exact ⟨rfl, hB2⟩
    · go_wp2
      go_ret
      exact ⟨rfl, hB2⟩
end w_CtrSums
end Go.Proofs.Ytokphnfhajljmaa
