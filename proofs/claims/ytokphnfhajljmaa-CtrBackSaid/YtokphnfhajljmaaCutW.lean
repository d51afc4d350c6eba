/- The law CtrBack: the walk. -/
import Derived.Test.YtokphnfhajljmaaCtrS
import Derived.Test.YtokphnfhajljmaaOpenC
import Derived.Deep.DeepCutAuto
import Derived.Deep.OwnRows
set_option linter.unusedVariables false
set_option linter.unusedSimpArgs false
namespace Go.Proofs.Ytokphnfhajljmaa
open Go.RowKit
open Go.Proofs.PlainAes
namespace w_CtrBack
theorem fld0 (g : Nat) (w : World) : (Instr.fieldAt 47 (.pointer (some ⟨g, 0, none⟩)) 0).run Try.prog w = .ok (.pointer (some ⟨g, 0, none⟩)) w := by kernel_rfl
theorem fld1 (g : Nat) (w : World) : (Instr.fieldAt 47 (.pointer (some ⟨g, 0, none⟩)) 1).run Try.prog w = .ok (.pointer (some ⟨g, 32, none⟩)) w := by kernel_rfl
theorem fld2 (g : Nat) (w : World) : (Instr.fieldAt 47 (.pointer (some ⟨g, 0, none⟩)) 2).run Try.prog w = .ok (.pointer (some ⟨g, 44, none⟩)) w := by kernel_rfl
theorem fld3 (g : Nat) (w : World) : (Instr.fieldAt 47 (.pointer (some ⟨g, 0, none⟩)) 3).run Try.prog w = .ok (.pointer (some ⟨g, 45, none⟩)) w := by kernel_rfl

set_option maxRecDepth 100000 in
set_option maxHeartbeats 4000000 in
theorem walk (k n : List Nat) (hk : k.length = 32) (bk : Byt k) (hn : n.length = 12) (bn : Byt n) (va : Value) (l : List Nat) (b : Nat) (w : World) (hs : Sl w va (bv l)) (bl : Byt l) (hb : b < 65536) :
    Calls Try.prog 5 #[.agg (bv k ++ (bv n ++ [va, Value.int .u16 (b : Int)])).toArray] w fun e w' => e = .returned (.bool true) ∧ Below w.heap.size w w' := by
  have hal := Lib.hid (fun w => alive_any w)
  have hkl := Lib.hid (show (bv k).length = 32 by simp [hk])
  have hnl := Lib.hid (show (bv n).length = 12 by simp [hn])
  have Hk := Lib.hid hk
  have Hn := Lib.hid hn
  have Bk := Lib.hid bk
  have Bn := Lib.hid bn
  have hbI : (b : Int) ≤ 65535 := by omega
  obtain ⟨A, c, hva, -, hcm, -⟩ := id hs
  rw [bv_length] at hva
  obtain ⟨vb, hvb⟩ : ∃ vb : Value, vb = .int .u16 (b : Int) := ⟨_, rfl⟩
  rw [← hvb]
  replace hva := Lib.hid hva
  replace hvb := Lib.hid hvb
  replace hs := Lib.hid hs
  have Bl := Lib.hid bl
  clear hk bk hn bn hb bl
  have h0 := Blk.new_at (w := w) (t := 47) (cs := (bv k ++ (bv n ++ [va, vb])).toArray) rfl rfl
  have hB0 : Below w.heap.size w (w.alloc (.cells (bv k ++ (bv n ++ [va, vb])).toArray 47)) := (Below.refl _ _).alloc (Nat.le_refl _) _
  simp only [List.size_toArray] at h0 hB0
  go_enter Try.func5, Try.ntmps5
  go_wp2_with fail
  refine (hal.out _).mono ?_
  rintro e w1 ⟨rfl, hB⟩
  have h1 := Lib.hid (h0.keep hB)
  have hB1 := Lib.hid (below_call hB0 hB0.size hB)
  have hgw := Lib.hid h1.out.lt
  clear hB h0 hB0
  go_upto_region 3 with fail
  go_cut [3, 4, 5, 6] (fun s3 s4 s5 s6 wx => ∃ g3 g4 : Nat, s3 = .pointer (some ⟨g3, 0, none⟩) ∧ s4 = .pointer (some ⟨g4, 0, none⟩) ∧ s5 = va ∧ s6 = vb ∧ Blk wx g3 22 (bv k) ∧ Blk wx g4 29 (bv n) ∧ Below w.heap.size w wx)
  case first =>
    refine wp_region_held_drew (S := FourS w.heap.size k n va vb) (by kernel_rfl) (fourS Hk.out Hn.out h1.out.drew) (fun hH => ?_)
    refine takeH_field (o := ⟨some 17, _, _, _, _, _⟩) (i := 0) rfl (by kernel_rfl) (by kernel_rfl) (by kernel_rfl) (fun _ _ _ _ h => h) rfl 47 (.tmp 1) 0 rfl _ 0 rfl (fun w => fld0 _ w) hH ?_
    simp only [Act.put, List.setIfInBounds_toArray, List.set_cons_zero, List.set_cons_succ, Nat.zero_add, decide_true, beq_self_eq_true]
    refine takeH_load (o := ⟨some 18, _, _, _, _, _⟩) (i := 1) rfl (by kernel_rfl) (by kernel_rfl) (by kernel_rfl) (fun _ _ _ _ h => h) rfl 22 (.tmp 17) rfl 32 arr32' _ _ rfl (bv k) hkl.out (fun w h => h.1) hH ?_
    simp only [Act.put, List.setIfInBounds_toArray, List.set_cons_zero, List.set_cons_succ, Nat.zero_add, decide_true, beq_self_eq_true]
    refine takeH_field (o := ⟨some 19, _, _, _, _, _⟩) (i := 2) rfl (by kernel_rfl) (by kernel_rfl) (by kernel_rfl) (fun _ _ _ _ h => h) rfl 47 (.tmp 1) 1 rfl _ 32 rfl (fun w => fld1 _ w) hH ?_
    simp only [Act.put, List.setIfInBounds_toArray, List.set_cons_zero, List.set_cons_succ, Nat.zero_add, decide_true, beq_self_eq_true]
    refine takeH_load (o := ⟨some 20, _, _, _, _, _⟩) (i := 3) rfl (by kernel_rfl) (by kernel_rfl) (by kernel_rfl) (fun _ _ _ _ h => h) rfl 29 (.tmp 19) rfl 12 arr12' _ _ rfl (bv n) hnl.out (fun w h => h.2.1) hH ?_
    simp only [Act.put, List.setIfInBounds_toArray, List.set_cons_zero, List.set_cons_succ, Nat.zero_add, decide_true, beq_self_eq_true]
    refine takeH_field (o := ⟨some 21, _, _, _, _, _⟩) (i := 4) rfl (by kernel_rfl) (by kernel_rfl) (by kernel_rfl) (fun _ _ _ _ h => h) rfl 47 (.tmp 1) 2 rfl _ 44 rfl (fun w => fld2 _ w) hH ?_
    simp only [Act.put, List.setIfInBounds_toArray, List.set_cons_zero, List.set_cons_succ, Nat.zero_add, decide_true, beq_self_eq_true]
    refine takeH_cell (o := ⟨some 22, _, _, _, _, _⟩) (i := 5) rfl (by kernel_rfl) (by kernel_rfl) (by kernel_rfl) (fun _ _ _ _ h => h) rfl 32 (.tmp 21) rfl Try.underlying32 rfl _ _ rfl va (fun w h => h.2.2.1) hH ?_
    simp only [Act.put, List.setIfInBounds_toArray, List.set_cons_zero, List.set_cons_succ, Nat.zero_add, decide_true, beq_self_eq_true]
    refine takeH_field (o := ⟨some 23, _, _, _, _, _⟩) (i := 6) rfl (by kernel_rfl) (by kernel_rfl) (by kernel_rfl) (fun _ _ _ _ h => h) rfl 47 (.tmp 1) 3 rfl _ 45 rfl (fun w => fld3 _ w) hH ?_
    simp only [Act.put, List.setIfInBounds_toArray, List.set_cons_zero, List.set_cons_succ, Nat.zero_add, decide_true, beq_self_eq_true]
    refine takeH_cell (o := ⟨some 24, _, _, _, _, _⟩) (i := 7) rfl (by kernel_rfl) (by kernel_rfl) (by kernel_rfl) (fun _ _ _ _ h => h) rfl 45 (.tmp 23) rfl Try.underlying45 rfl _ _ rfl vb (fun w h => h.2.2.2) hH ?_
    simp only [Act.put, List.setIfInBounds_toArray, List.set_cons_zero, List.set_cons_succ, Nat.zero_add, decide_true, beq_self_eq_true]
    refine wpAnyH_ready (rs := [8, 9]) (by kernel_rfl) (by simp) ?_
    refine AllReadyH.cons rfl (fun K1 hK1 => ?_) (AllReadyH.cons rfl (fun K1 hK1 => ?_) AllReadyH.nil)
    · go_simp
      have hs1 := Lib.hid (h1.out.alloc (.cells (bv (zeros 32)).toArray 22))
      have hb2 := Lib.hid (hB1.out.alloc hB1.out.size (.cells (bv (zeros 32)).toArray 22))
      have hx3 := Lib.hid (Blk.new_at (w := w1) (n := w1.heap.size) (t := 22) (cs := (bv (zeros 32)).toArray) (L := bv (zeros 32)) (by simp) rfl)
      refine hK1.out _ _ (fourS Hk.out Hn.out hs1.out.drew) (fun hH => ?_)
      clear hK1 K1
      refine wpAnyH_ready (rs := [9]) (by kernel_rfl) (by simp) ?_
      refine AllReadyH.cons rfl (fun K1 hK1 => ?_) AllReadyH.nil
      · go_simp
        have hs4 := Lib.hid (hs1.out.alloc (.cells (bv (zeros 12)).toArray 29))
        have hb5 := Lib.hid (hb2.out.alloc hb2.out.size (.cells (bv (zeros 12)).toArray 29))
        have hx6 := Lib.hid (Blk.new_at (w := (w1.alloc (.cells (bv (zeros 32)).toArray 22))) (n := w1.heap.size + 1) (t := 29) (cs := (bv (zeros 12)).toArray) (L := bv (zeros 12)) (by simp) rfl)
        have hx7 := Lib.hid (hx3.out.alloc (.cells (bv (zeros 12)).toArray 29))
        refine hK1.out _ _ (fourS Hk.out Hn.out hs4.out.drew) (fun hH => ?_)
        clear hK1 K1
        refine wpAnyH_ready (rs := [10]) (by kernel_rfl) (by simp) ?_
        refine AllReadyH.cons rfl (fun K1 hK1 => ?_) AllReadyH.nil
        · rw [if_pos (by rfl)]
          refine wp_storeA 22 (.tmp 3) (.tmp 18) rfl 32 arr32' _ _ rfl (bv k) rfl 22 _ hx7.out.drew hkl.out (by simp) (ones_bv _) ?_
          intro w8 hy9 hK10
          rw [putL_all (by rw [hkl.out]; simp)] at hy9
          replace hy9 := Lib.hid hy9
          have hs11 := Lib.hid (hs4.out.drew.keeps hK10 (by simp only [List.mem_singleton]; have f0 := hgw.out; omega))
          have hb12 := Lib.hid (hb5.out.drew.trans (hK10.below hb5.out.drew.size (by intro b hb; simp only [List.mem_singleton] at hb; have f0 := hgw.out; omega)))
          have hx13 := Lib.hid (hx6.out.drew.keeps hK10 (by simp only [List.mem_singleton]; have f0 := hgw.out; omega))
          have hf14 := Lib.hid (show w.heap.size < w8.heap.size ∧ w1.heap.size < w8.heap.size from ⟨hs11.out.lt, hy9.out.lt⟩)
          refine hK1.out _ _ (fourS Hk.out Hn.out hs11.out) (fun hH => ?_)
          clear hK1 K1 hK10
          refine wpAnyH_ready (rs := [11]) (by kernel_rfl) (by simp) ?_
          refine AllReadyH.cons rfl (fun K1 hK1 => ?_) AllReadyH.nil
          · rw [if_pos (by rfl)]
            refine wp_storeA 29 (.tmp 4) (.tmp 20) rfl 12 arr12' _ _ rfl (bv n) rfl 29 _ hx13.out hnl.out (by simp) (ones_bv _) ?_
            intro w15 hy16 hK17
            rw [putL_all (by rw [hnl.out]; simp)] at hy16
            replace hy16 := Lib.hid hy16
            have hs18 := Lib.hid (hs11.out.keeps hK17 (by simp only [List.mem_singleton]; have f0 := hgw.out; have f1 := hf14.out; omega))
            have hb19 := Lib.hid (hb12.out.trans (hK17.below hb12.out.size (by intro b hb; simp only [List.mem_singleton] at hb; have f0 := hgw.out; have f1 := hf14.out; omega)))
            have hx20 := Lib.hid (hy9.out.keeps hK17 (by simp only [List.mem_singleton]; have f0 := hgw.out; have f1 := hf14.out; omega))
            have hf21 := Lib.hid (show w.heap.size < w15.heap.size ∧ w1.heap.size + 1 < w15.heap.size from ⟨hs18.out.lt, hy16.out.lt⟩)
            refine hK1.out _ _ (fourS Hk.out Hn.out hs18.out) (fun hH => ?_)
            clear hK1 K1 hK17
            refine takeH_assign (o := ⟨some 5, _, _, _, _, _⟩) (i := 12) rfl (by kernel_rfl) (by kernel_rfl) (by kernel_rfl) (fun _ _ _ _ h => h) rfl (.tmp 22) rfl _ rfl hH ?_
            simp only [Act.put, List.setIfInBounds_toArray, List.set_cons_zero, List.set_cons_succ, Nat.zero_add, decide_true, beq_self_eq_true]
            refine takeH_assign (o := ⟨some 6, _, _, _, _, _⟩) (i := 13) rfl (by kernel_rfl) (by kernel_rfl) (by kernel_rfl) (fun _ _ _ _ h => h) rfl (.tmp 24) rfl _ rfl hH ?_
            simp only [Act.put, List.setIfInBounds_toArray, List.set_cons_zero, List.set_cons_succ, Nat.zero_add, decide_true, beq_self_eq_true]
            refine wpAnyH_done (by kernel_rfl) ?_ _
            go_wp2_with fail
            go_meet
            exact ⟨_, _, rfl, rfl, rfl, rfl, hx20.out, hy16.out, hb19.out⟩
    · go_simp
      have hs22 := Lib.hid (h1.out.alloc (.cells (bv (zeros 12)).toArray 29))
      have hb23 := Lib.hid (hB1.out.alloc hB1.out.size (.cells (bv (zeros 12)).toArray 29))
      have hx24 := Lib.hid (Blk.new_at (w := w1) (n := w1.heap.size) (t := 29) (cs := (bv (zeros 12)).toArray) (L := bv (zeros 12)) (by simp) rfl)
      refine hK1.out _ _ (fourS Hk.out Hn.out hs22.out.drew) (fun hH => ?_)
      clear hK1 K1
      refine wpAnyH_ready (rs := [8]) (by kernel_rfl) (by simp) ?_
      refine AllReadyH.cons rfl (fun K1 hK1 => ?_) AllReadyH.nil
      · go_simp
        have hs25 := Lib.hid (hs22.out.alloc (.cells (bv (zeros 32)).toArray 22))
        have hb26 := Lib.hid (hb23.out.alloc hb23.out.size (.cells (bv (zeros 32)).toArray 22))
        have hx27 := Lib.hid (Blk.new_at (w := (w1.alloc (.cells (bv (zeros 12)).toArray 29))) (n := w1.heap.size + 1) (t := 22) (cs := (bv (zeros 32)).toArray) (L := bv (zeros 32)) (by simp) rfl)
        have hx28 := Lib.hid (hx24.out.alloc (.cells (bv (zeros 32)).toArray 22))
        refine hK1.out _ _ (fourS Hk.out Hn.out hs25.out.drew) (fun hH => ?_)
        clear hK1 K1
        refine wpAnyH_ready (rs := [10]) (by kernel_rfl) (by simp) ?_
        refine AllReadyH.cons rfl (fun K1 hK1 => ?_) AllReadyH.nil
        · rw [if_pos (by rfl)]
          refine wp_storeA 22 (.tmp 3) (.tmp 18) rfl 32 arr32' _ _ rfl (bv k) rfl 22 _ hx27.out.drew hkl.out (by simp) (ones_bv _) ?_
          intro w29 hy30 hK31
          rw [putL_all (by rw [hkl.out]; simp)] at hy30
          replace hy30 := Lib.hid hy30
          have hs32 := Lib.hid (hs25.out.drew.keeps hK31 (by simp only [List.mem_singleton]; have f0 := hgw.out; omega))
          have hb33 := Lib.hid (hb26.out.drew.trans (hK31.below hb26.out.drew.size (by intro b hb; simp only [List.mem_singleton] at hb; have f0 := hgw.out; omega)))
          have hx34 := Lib.hid (hx28.out.drew.keeps hK31 (by simp only [List.mem_singleton]; have f0 := hgw.out; omega))
          have hf35 := Lib.hid (show w.heap.size < w29.heap.size ∧ w1.heap.size + 1 < w29.heap.size from ⟨hs32.out.lt, hy30.out.lt⟩)
          refine hK1.out _ _ (fourS Hk.out Hn.out hs32.out) (fun hH => ?_)
          clear hK1 K1 hK31
          refine wpAnyH_ready (rs := [11]) (by kernel_rfl) (by simp) ?_
          refine AllReadyH.cons rfl (fun K1 hK1 => ?_) AllReadyH.nil
          · rw [if_pos (by rfl)]
            refine wp_storeA 29 (.tmp 4) (.tmp 20) rfl 12 arr12' _ _ rfl (bv n) rfl 29 _ hx34.out hnl.out (by simp) (ones_bv _) ?_
            intro w36 hy37 hK38
            rw [putL_all (by rw [hnl.out]; simp)] at hy37
            replace hy37 := Lib.hid hy37
            have hs39 := Lib.hid (hs32.out.keeps hK38 (by simp only [List.mem_singleton]; have f0 := hgw.out; have f1 := hf35.out; omega))
            have hb40 := Lib.hid (hb33.out.trans (hK38.below hb33.out.size (by intro b hb; simp only [List.mem_singleton] at hb; have f0 := hgw.out; have f1 := hf35.out; omega)))
            have hx41 := Lib.hid (hy30.out.keeps hK38 (by simp only [List.mem_singleton]; have f0 := hgw.out; have f1 := hf35.out; omega))
            have hf42 := Lib.hid (show w.heap.size < w36.heap.size ∧ w1.heap.size < w36.heap.size from ⟨hs39.out.lt, hy37.out.lt⟩)
            refine hK1.out _ _ (fourS Hk.out Hn.out hs39.out) (fun hH => ?_)
            clear hK1 K1 hK38
            refine takeH_assign (o := ⟨some 5, _, _, _, _, _⟩) (i := 12) rfl (by kernel_rfl) (by kernel_rfl) (by kernel_rfl) (fun _ _ _ _ h => h) rfl (.tmp 22) rfl _ rfl hH ?_
            simp only [Act.put, List.setIfInBounds_toArray, List.set_cons_zero, List.set_cons_succ, Nat.zero_add, decide_true, beq_self_eq_true]
            refine takeH_assign (o := ⟨some 6, _, _, _, _, _⟩) (i := 13) rfl (by kernel_rfl) (by kernel_rfl) (by kernel_rfl) (fun _ _ _ _ h => h) rfl (.tmp 24) rfl _ rfl hH ?_
            simp only [Act.put, List.setIfInBounds_toArray, List.set_cons_zero, List.set_cons_succ, Nat.zero_add, decide_true, beq_self_eq_true]
            refine wpAnyH_done (by kernel_rfl) ?_ _
            go_wp2_with fail
            go_meet
            exact ⟨_, _, rfl, rfl, rfl, rfl, hx41.out, hy37.out, hb40.out⟩
  case rest =>
    obtain ⟨g3, g4, rfl, rfl, rfl, rfl, h3, h4, hB2⟩ := hcut
    have e1 := hva.out
    have e2 := hvb.out
    have sl := hs.out.keep (hB2.mono (Nat.le_refl _))
    clear hs
    subst e1 e2
    clear hva hvb h1 hB1 hgw
    by_cases hl : (l.length : Int) ≤ 2000
    · obtain ⟨i0, hi, hz0, hz1, hz2⟩ := info_parts (P := Try.prog) (e := 5) (z := .int .u8 0) (size := 1) (bytes := 1) (by kernel_rfl)
      have own0 : (wc.alloc (.cells #[] 5)).ownsRow wc.heap.size 5 1 (.slice (some ⟨wc.heap.size, 0, none⟩) 0 0) 0 [] := World.ownsRow_made wc #[] 0 (Nat.le_refl _) (Nat.zero_le _) rfl
      have bel0 : Below wc.heap.size wc (wc.alloc (.cells #[] 5)) := (Below.refl _ _).alloc (Nat.le_refl _) _
      have sl0 := sl.keep bel0
      go_wp2_with (at_builtin; refine wpList_append_sl rfl (.tmp 28) (.tmp 29) 32 rfl wc.heap.size 5 i0 (.int .u8 0) 1 Try.underlying32 hi hz0 hz1 hz2 rfl _ 0 [] rfl own0 _ (bv l) rfl sl0 (bv_oneCell l) ?_ ?_ ?_ ?_)
      · simp [maxLen]; omega
      · simp; omega
      · simp
      intro v' w2 own1 gr1
      have bel1 := own_below bel0 gr1 own0 (by simp)
      clear gr1 own0 sl0 bel0
      have own1 : w2.ownsRow wc.heap.size 5 1 v' l.length (bv l) := by simpa using own1
      have slI := Sl.of_own own1
      obtain ⟨A1, c1, hv, hA1, -, -⟩ := id slI
      rw [bv_length] at hv hA1
      subst hv
      have hc1 := Lib.hid (fun v w h => crypt_any k n l v w Hk.out Bk.out Hn.out Bn.out Bl.out (by omega) h)
      have hXl := crypt_length k n l
      have hXb : Byt (crypt k n l) := crypt_lt Bk.out Bn.out Bl.out
      have hc2 := Lib.hid (fun v w h => crypt_any k n (crypt k n l) v w Hk.out Bk.out Hn.out Bn.out hXb (by rw [hXl]; omega) h)
      rw [crypt_twice] at hc2
      have hq := Nat.mod_lt b (show 0 < l.length + 1 by omega)
      have q1 : (b : Int) % ((l.length : Int) + 1) = ((b % (l.length + 1) : Nat) : Int) := by first | rfl | (push_cast; rfl) | simp
      have q2 : Int.tmod (b : Int) ((l.length : Int) + 1) = ((b % (l.length + 1) : Nat) : Int) := by rw [Int.tmod_eq_emod_of_nonneg (by omega)]; exact q1
      generalize b % (l.length + 1) = i at *
      have hil : (i : Int) ≤ (l.length : Int) := by omega
      have hic1 : i ≤ c1 := by omega
      have hc3 := Lib.hid (fun v w h => crypt_any k n (l.take i) v w Hk.out Bk.out Hn.out Bn.out (fun b hb => Bl.out b (List.mem_of_mem_take hb)) (by simp; omega) h)
      rw [crypt_take k n l i (by omega)] at hc3
      have hXt : ((crypt k n l).take i).length = i := by rw [List.length_take, hXl]; omega
      have hXtb : Byt ((crypt k n l).take i) := fun b hb => hXb b (List.mem_of_mem_take hb)
      generalize crypt k n l = X at *
      replace hXl := Lib.hid hXl
      replace hXb := Lib.hid hXb
      replace hXt := Lib.hid hXt
      replace hXtb := Lib.hid hXtb
      have h5 := h3.keep bel1
      have h6 := h4.keep bel1
      have hBw := below_call hB2 hB2.size bel1
      replace own1 := Lib.hid own1
      replace slI := Lib.hid slI
      clear hq h3 h4
      go_wp2_with (first
        | refine wpList_loadW rfl 22 (.tmp 3) rfl 32 arr32' _ rfl 22 _ h5 hkl.out ?_
        | refine wpList_loadW rfl 29 (.tmp 4) rfl 12 arr12' _ rfl 29 _ h6 hnl.out ?_
        | (go_at_call 16; (with_reducible refine (hc1.out _ _ slI.out).mono ?_); rintro e w3 ⟨v1, rfl, own2, hB3⟩; rw [hXl.out] at own2; have slX := Sl.of_own own2; obtain ⟨A2, c2, hv, hA2, -, -⟩ := id slX; rw [show (bv X).length = l.length from by rw [bv_length, hXl.out]] at hv hA2; subst hv; have hic2 : i ≤ c2 := (by omega); replace own2 := Lib.hid own2; replace slX := Lib.hid slX)
        | refine wpList_loadW rfl 22 (.tmp 3) rfl 32 arr32' _ rfl 22 _ (h5.keep hB3) hkl.out ?_
        | refine wpList_loadW rfl 29 (.tmp 4) rfl 12 arr12' _ rfl 29 _ (h6.keep hB3) hnl.out ?_
        | (go_at_call 16; (with_reducible refine (hc2.out _ _ slX.out).mono ?_); rintro e w4 ⟨v2, rfl, own3, hB4⟩; have slY := Sl.of_own own3; obtain ⟨A3, c3, hv, -, -, -⟩ := id slY; rw [bv_length] at hv; subst hv; replace slY := Lib.hid slY))
      have h7 := Lib.hid ((h5.keep hB3).keep hB4)
      have h8 := Lib.hid ((h6.keep hB3).keep hB4)
      replace slI := Lib.hid ((slI.out.keep hB3).keep hB4)
      replace slX := Lib.hid (slX.out.keep hB4)
      have slB := Lib.hid (((sl.keep bel1).keep hB3).keep hB4)
      have hB7 := Lib.hid (below_call (below_call hBw hBw.size hB3) (by have := hBw.size; have := hB3.size; omega) hB4)
      clear own3 h5 h6 own1 own2 sl bel1 hBw hB3 hB4
      refine wp_region_held_drew (S := fun w' => w'.rangeAt g3 0 (bv k) ∧ w'.rangeAt g4 0 (bv n)) (by kernel_rfl) ⟨hSS h7.out.drew hkl.out, hSS h8.out.drew hnl.out⟩ (fun hH => ?_)
      refine takeH_load (o := ⟨some 52, _, _, _, _, _⟩) (i := 0) rfl (by kernel_rfl) (by kernel_rfl) (by kernel_rfl) (fun _ _ _ _ h => h) rfl 22 (.tmp 3) rfl 32 arr32' _ _ rfl (bv k) hkl.out (fun w h => h.1) hH ?_
      simp only [Act.put, List.setIfInBounds_toArray, List.set_cons_zero, List.set_cons_succ, Nat.zero_add, decide_true, beq_self_eq_true]
      refine takeH_load (o := ⟨some 53, _, _, _, _, _⟩) (i := 1) rfl (by kernel_rfl) (by kernel_rfl) (by kernel_rfl) (fun _ _ _ _ h => h) rfl 29 (.tmp 4) rfl 12 arr12' _ _ rfl (bv n) hnl.out (fun w h => h.2) hH ?_
      simp only [Act.put, List.setIfInBounds_toArray, List.set_cons_zero, List.set_cons_succ, Nat.zero_add, decide_true, beq_self_eq_true]
      refine takeH_move (o := ⟨some 54, _, _, _, _, _⟩) (i := 2) rfl (by kernel_rfl) (by kernel_rfl) (by kernel_rfl) (fun _ _ _ _ h => h) rfl (.tmp 7) rfl (.slice A1 l.length c1) rfl hH ?_
      simp only [Act.put, List.setIfInBounds_toArray, List.set_cons_zero, List.set_cons_succ, Nat.zero_add, decide_true, beq_self_eq_true]
      refine takeH_move (o := ⟨some 55, _, _, _, _, _⟩) (i := 3) rfl (by kernel_rfl) (by kernel_rfl) (by kernel_rfl) (fun _ _ _ _ h => h) rfl (.tmp 12) rfl (.int .i64 (i : Int)) rfl hH ?_
      simp only [Act.put, List.setIfInBounds_toArray, List.set_cons_zero, List.set_cons_succ, Nat.zero_add, decide_true, beq_self_eq_true]
      refine wpAnyH_ready (rs := [4]) (by kernel_rfl) (by simp) ?_
      refine AllReadyH.cons rfl (fun K1 hK1 => ?_) AllReadyH.nil
      go_simp
      refine hK1.out _ _ ⟨hSS h7.out.drew hkl.out, hSS h8.out.drew hnl.out⟩ (fun hH => ?_)
      clear hK1 K1
      refine wpAnyH_ready (rs := [5]) (by kernel_rfl) (by simp) ?_
      refine AllReadyH.cons rfl (fun K1 hK1 => ?_) AllReadyH.nil
      go_simp
      have slT := slI.out.head (by rw [bv_length]) (i := i) (by omega)
      rw [bv_take] at slT
      refine (hc3.out _ _ (slT.keep (Below.refl _ _).drew)).mono ?_
      rintro e w6 ⟨v3, rfl, own4, hB6⟩
      rw [hXt.out] at own4
      obtain ⟨A4, c4, hv, -, -, -⟩ := Sl.of_own own4
      rw [show (bv (X.take i)).length = i from by rw [bv_length, hXt.out]] at hv
      subst hv
      have slZ := Sl.of_own own4
      have slI6 := (slI.out.keep (Below.refl _ _).drew).keep hB6
      have slX6 := (slX.out.keep (Below.refl _ _).drew).keep hB6
      have slB6 := (slB.out.keep (Below.refl _ _).drew).keep hB6
      have slY6 := (slY.out.keep (Below.refl _ _).drew).keep hB6
      have hB8 := Lib.hid (below_call hB7.out.drew hB7.out.drew.size hB6)
      refine hK1.out _ _ ⟨hSS (h7.out.drew.keep hB6) hkl.out, hSS (h8.out.drew.keep hB6) hnl.out⟩ (fun hH => ?_)
      clear hK1 K1 h7 h8 slT
      refine takeH_move (o := ⟨some 51, _, _, _, _, _⟩) (i := 6) rfl (by kernel_rfl) (by kernel_rfl) (by kernel_rfl) (fun _ _ _ _ h => h) rfl (.tmp 57) rfl (.tuple #[.slice A4 i c4, .int .i64 0]) rfl hH ?_
      simp only [Act.put, List.setIfInBounds_toArray, List.set_cons_zero, List.set_cons_succ, Nat.zero_add, decide_true, beq_self_eq_true]
      refine takeH_calc (o := ⟨some 58, _, _, _, _, _⟩) (i := 7) rfl (by kernel_rfl) (by kernel_rfl) (by kernel_rfl) (fun _ _ _ _ h => h) rfl (.slice A4 i c4) (fun w => rfl) hH ?_
      simp only [Act.put, List.setIfInBounds_toArray, List.set_cons_zero, List.set_cons_succ, Nat.zero_add, decide_true, beq_self_eq_true]
      refine takeH_calc (o := ⟨some 59, _, _, _, _, _⟩) (i := 8) rfl (by kernel_rfl) (by kernel_rfl) (by kernel_rfl) (fun _ _ _ _ h => h) rfl (.int .i64 0) (fun w => rfl) hH ?_
      simp only [Act.put, List.setIfInBounds_toArray, List.set_cons_zero, List.set_cons_succ, Nat.zero_add, decide_true, beq_self_eq_true]
      refine takeH_assign (o := ⟨some 13, _, _, _, _, _⟩) (i := 9) rfl (by kernel_rfl) (by kernel_rfl) (by kernel_rfl) (fun _ _ _ _ h => h) rfl (.tmp 58) rfl (.slice A4 i c4) rfl hH ?_
      simp only [Act.put, List.setIfInBounds_toArray, List.set_cons_zero, List.set_cons_succ, Nat.zero_add, decide_true, beq_self_eq_true]
      refine takeH_assign (o := ⟨some 14, _, _, _, _, _⟩) (i := 10) rfl (by kernel_rfl) (by kernel_rfl) (by kernel_rfl) (fun _ _ _ _ h => h) rfl (.tmp 59) rfl (.int .i64 0) rfl hH ?_
      simp only [Act.put, List.setIfInBounds_toArray, List.set_cons_zero, List.set_cons_succ, Nat.zero_add, decide_true, beq_self_eq_true]
      refine wpAnyH_done (by kernel_rfl) ?_ _
      have slXt := slX6.head (by rw [bv_length, hXl.out]) (i := i) (by omega)
      rw [bv_take] at slXt
      have hs1 := Lib.hid (same_self _ _ l w6 slY6 slB6 Bl.out)
      have hs2 := Lib.hid (same_self _ _ l w6 slI6 slB6 Bl.out)
      have hs3 := Lib.hid (same_self _ _ (X.take i) w6 slZ slXt hXtb.out)
      clear slI6 slX6 slB6 slY6 slXt slZ own4 hc1 hc2 hc3 hal slI slX slB slY
      go_wp2_with (first
        | (go_at_call 15; (with_reducible refine hs1.out.mono ?_); rintro e w7 ⟨rfl, rfl⟩)
        | (go_at_call 15; (with_reducible refine hs2.out.mono ?_); rintro e w7 ⟨rfl, rfl⟩)
        | (go_at_call 15; (with_reducible refine hs3.out.mono ?_); rintro e w7 ⟨rfl, rfl⟩))
      go_ret
      exact ⟨rfl, hB8.out⟩
    · go_wp2
      go_ret
      exact ⟨rfl, hB2⟩
end w_CtrBack
end Go.Proofs.Ytokphnfhajljmaa
