/- The function inside the law CtrBlocks. -/
import Derived.Test.YtokphnfhajljmaaCtrN
import Derived.Laws.ResultCell
import Derived.Laws.Rows
set_option linter.unusedVariables false
set_option linter.unusedSimpArgs false
namespace Go.Proofs.Ytokphnfhajljmaa
open Go.RowKit
open Go.Proofs.PlainAes
theorem put_hi2 (n : List Nat) (hn : n.length = 12) (i : Nat) : putL (bv (n ++ zeros 4)) 12 (bv (be4 i)) = bv (nblk n i) := by
  rw [putL_bv, be4_length, put_hi n hn]

theorem res_cell2 {P : Program} {fn : Func} {p u : Tmp} {ty n : Nat} (h : fn.results = #[.cell p ty, .tmp u]) (tmps : Array Value) (w : World) (g : Nat) (t : TypeId) (L : List Value) (hT : ArrTy P ty n) (hl : L.length = n) (b : Value)
    (hp : tmps.getD p undef = .pointer (some ⟨g, 0, none⟩)) (hb : Blk w g t L) (hu : tmps.getD u undef = b) : (results fn tmps).run P w = .ok (.tuple #[.agg L.toArray, b]) w := by
  obtain ⟨d, hd1, hd, hi⟩ := hT
  rw [results_cell_tmp h, hp, hu]
  simp [asAddr, run_loadVar_row w g t ty L.toArray (0, 0) d hb hd1 (by cases d <;> simp_all) (by simpa [hl] using hi), Result.andThen]

set_option maxRecDepth 100000 in
set_option maxHeartbeats 2000000 in
theorem clos_any (g3 g4 : Nat) (k n : List Nat) (i : Nat) (w : World) (hk : k.length = 32) (bk : Byt k) (hn : n.length = 12) (bn : Byt n) (hi : (i : Int) ≤ 255) (h3 : Blk w g3 22 (bv k)) (h4 : Blk w g4 29 (bv n)) :
    Calls Try.prog 18 #[.int .u8 (i : Int), .pointer (some ⟨g4, 0, none⟩), .pointer (some ⟨g3, 0, none⟩)] w fun e w' => e = .returned (.tuple #[.agg (bv (sblk k n i)).toArray, .bool true]) ∧ Below w.heap.size w w' := by
  have hse := Lib.hid (fun w => seal_any k (nblk n i) w hk bk (nblk_length hn i) (nblk_byt bn i))
  have hpu := Lib.hid (fun w => nput_any i w hi)
  have hst : Hid (∀ w, Calls Try.prog 11 #[.agg (bv k).toArray, .agg (bv n).toArray, .int .i64 (16 * (i : Int)), .int .i64 16] w (RetOK (sblk k n i) w)) := Lib.hid (fun w => by rw [sblk_mk hk hn i]; exact stream_any k n (16 * i) 16 w hk bk hn bn (by omega) (by omega))
  have hkl := Lib.hid (show (bv k).length = 32 by simp [hk])
  have hnl := Lib.hid (show (bv n).length = 12 by simp [hn])
  have hlo := Lib.hid (put_lo n hn)
  have hhi := Lib.hid (put_hi2 n hn i)
  have hbl := Lib.hid (show (bv (nblk n i)).length = 16 by simp [nblk_length hn])
  have hsl := Lib.hid (show (bv (sblk k n i)).length = 16 by simp [sblk_length hk hn])
  have hsb := Lib.hid (sblk_lt bk bn i)
  have hzl := Lib.hid (show (bv (n ++ zeros 4)).length = 16 by simp [hn])
  change Hid (∀ w, Calls _ _ _ w (RetA (sblk k n i) w)) at hse
  clear hk bk hn bn
  generalize sblk k n i = S at *
  generalize nblk n i = b at *
  have hg3 := Lib.hid h3.lt
  have hg4 := Lib.hid h4.lt
  go_enter Try.func18, Try.ntmps18
  go_wp2_with (refine wpList_allocA rfl 55 rfl (bv (zeros 16)) (by kernel_rfl) ?_)
  intro w1 h1 hK1 hz1
  replace h3 := h3.keeps hK1 (by simp)
  replace h4 := h4.keeps hK1 (by simp)
  have hB := hK1.below (Nat.le_refl _) (by simp)
  clear hK1
  go_wp2_with (refine wpList_allocA rfl 55 rfl (bv (zeros 16)) (by kernel_rfl) ?_)
  intro w2 h2 hK2 hz2
  replace h1 := h1.keeps hK2 (by simp)
  replace h3 := h3.keeps hK2 (by simp)
  replace h4 := h4.keeps hK2 (by simp)
  replace hB := hB.trans (hK2.below hB.size (by simp))
  clear hK2
  go_wp2
  go_still_tail 2, (by kernel_rfl)
  go_wp2_with (refine wpList_copyA rfl (.tmp 12) (.tmp 13) 32 32 rfl 5 Try.underlying32 (by kernel_rfl) (w.heap.size + 1) _ _ _ rfl ⟨g4, 0, none⟩ _ _ rfl 55 _ h2 (bv n) ?_ ?_ ?_ (ones_bv _) ?_)
  · rw [hnl.out]; rfl
  · intro j v hj
    have := h4.cellAdd 0 j
    rw [Nat.zero_add] at this
    exact this.trans hj
  · simp only [hnl.out, bv_length, zeros_length]; decide
  intro w3 h2' hK3
  rw [hlo.out] at h2'
  replace h1 := h1.drew.keeps hK3 (by simp)
  replace h3 := h3.drew.keeps hK3 (by have := hg3.out; simp; omega)
  replace h4 := h4.drew.keeps hK3 (by have := hg4.out; simp; omega)
  replace hB := hB.drew.trans (hK3.below hB.drew.size (by simp))
  clear hK3 h2 hlo
  have q16 : IntKind.i64.wrap (16 * (i : Int)) = 16 * (i : Int) := IntWalk.i64_in _ (by omega)
  go_wp2_with (first
    | (go_at_call 19; refine (hpu.out _).mono ?_; rintro e w4 ⟨g5, rfl, h5, hg5, hB4⟩)
    | refine wpList_copyA rfl (.tmp 21) (.tmp 22) 32 32 rfl 5 Try.underlying32 (by kernel_rfl) (w.heap.size + 1) _ _ _ rfl ⟨g5, 0, none⟩ _ _ rfl 55 _ (h2'.keep hB4) (bv (be4 i)) ?_ ?_ ?_ (ones_bv _) ?_)
  · rw [bv_length, be4_length]; rfl
  · intro j v hj
    have := h5.cellAdd 0 j
    rw [Nat.zero_add] at this
    exact this.trans hj
  · rw [bv_length, be4_length, hzl.out]; decide
  intro w5 h6 hK5
  rw [hhi.out] at h6
  have hs4 := hB4.size
  replace h1 := (h1.keep hB4).keeps hK5 (by simp)
  replace h3 := (h3.keep hB4).keeps hK5 (by have := hg3.out; simp; omega)
  replace h4 := (h4.keep hB4).keeps hK5 (by have := hg4.out; simp; omega)
  replace hB := (below_call hB hB.size hB4).trans (hK5.below (by have := hB.size; omega) (by simp))
  clear hK5 h5 hg5 hB4 h2' hs4 hhi hpu
  go_wp2_with (first
    | refine wpList_loadW rfl 22 (.tmp 2) rfl 32 arr32' _ rfl 22 _ h3 hkl.out ?_
    | refine wpList_loadW rfl 55 (.tmp 6) rfl 16 arrB _ rfl 55 _ h6 hbl.out ?_
    | (go_at_call 20; refine (hse.out _).mono ?_; rintro e w6 ⟨rfl, hB6⟩)
    | refine wpList_allocA rfl 55 rfl (bv (zeros 16)) (by kernel_rfl) ?_)
  intro w7 h7 hK7 hz7
  have hlt := h1.lt
  have hs6 := hB6.size
  have hB7 := hB6.trans (hK7.below hB6.size (by simp))
  replace h1 := h1.keep hB7
  replace h3 := h3.keep hB7
  replace h4 := h4.keep hB7
  replace hB := below_call hB hB.size hB7
  clear hK7 hB7 hB6 h6 hse
  generalize w6.heap.size = g9 at *
  go_wp2_with (refine wpList_storeW rfl 55 (.tmp 9) (.tmp 26) rfl 16 arrB g9 rfl (bv S) rfl 55 _ h7 hsl.out (by simp) (ones_bv _) ?_)
  intro w8 h8 hK8
  replace h1 := h1.keeps hK8 (by simp; omega)
  replace h3 := h3.keeps hK8 (by have := hg3.out; simp; omega)
  replace h4 := h4.keeps hK8 (by have := hg4.out; simp; omega)
  replace hB := hB.trans (hK8.below hB.size (by simp; omega))
  have hg9 := Lib.hid (show w.heap.size < g9 by omega)
  clear hK8 h7 hz7 hlt hs6
  go_wp2_with (first
    | refine wpList_loadW rfl 22 (.tmp 2) rfl 32 arr32' _ rfl 22 _ h3 hkl.out ?_
    | refine wpList_loadW rfl 29 (.tmp 1) rfl 12 arr12' _ rfl 29 _ h4 hnl.out ?_
    | (go_at_call 11; (with_reducible refine (hst.out _).mono ?_); rintro e w9 ⟨v, rfl, own, hB9⟩; have slS := Sl.of_own own; obtain ⟨A, c, hv, -, -, -⟩ := id slS; rw [hsl.out] at hv; subst hv))
  replace h1 := Lib.hid (h1.keep hB9)
  replace h8 := Lib.hid (h8.keep hB9)
  have slB := Sl.of_blk (n := 16) (c := 16) h8.out (Nat.le_refl _) (by rw [hsl.out]; exact Nat.le_refl _) (by unfold maxLen; omega)
  rw [List.take_of_length_le (by rw [hsl.out]; exact Nat.le_refl _)] at slB
  have hsm := Lib.hid (fun W h1 h2 => same_self (.slice A 16 c) (.slice (some ⟨g9, 0, none⟩) 16 16) S W h1 h2 hsb.out)
  replace hB := Lib.hid (below_call hB hB.size hB9)
  replace slS := Lib.hid slS
  replace slB := Lib.hid slB
  clear own h3 h4 hB9 hst
  refine wp_region_held_drew (S := fun w' => w'.rangeAt g9 0 (bv S)) (by kernel_rfl) (hSS h8.out.drew hsl.out) (fun hH => ?_)
  refine takeH_load (o := ⟨some 36, _, _, _, _, _⟩) (i := 0) rfl (by kernel_rfl) (by kernel_rfl) (by kernel_rfl) (fun _ _ _ _ h => h) rfl 55 (.tmp 9) rfl 16 arrB _ _ rfl (bv S) hsl.out (fun w h => h) hH ?_
  simp only [Act.put, List.setIfInBounds_toArray, List.set_cons_zero, List.set_cons_succ, Nat.zero_add, decide_true, beq_self_eq_true]
  refine takeH_move (o := ⟨some 37, _, _, _, _, _⟩) (i := 1) rfl (by kernel_rfl) (by kernel_rfl) (by kernel_rfl) (fun _ _ _ _ h => h) rfl (.tmp 8) rfl (.int .i64 0) rfl hH ?_
  simp only [Act.put, List.setIfInBounds_toArray, List.set_cons_zero, List.set_cons_succ, Nat.zero_add, decide_true, beq_self_eq_true]
  refine takeH_calc (o := ⟨some 38, _, _, _, _, _⟩) (i := 2) rfl (by kernel_rfl) (by kernel_rfl) (by kernel_rfl) (fun _ _ _ _ h => h) rfl (.bool true) (fun w => rfl) hH ?_
  simp only [Act.put, List.setIfInBounds_toArray, List.set_cons_zero, List.set_cons_succ, Nat.zero_add, decide_true, beq_self_eq_true]
  refine takeH_move (o := ⟨some 39, _, _, _, _, _⟩) (i := 3) rfl (by kernel_rfl) (by kernel_rfl) (by kernel_rfl) (fun _ _ _ _ h => h) rfl (.tmp 38) rfl (.bool true) rfl hH ?_
  simp only [Act.put, List.setIfInBounds_toArray, List.set_cons_zero, List.set_cons_succ, Nat.zero_add, decide_true, beq_self_eq_true]
  refine takeH_move (o := ⟨some 40, _, _, _, _, _⟩) (i := 4) rfl (by kernel_rfl) (by kernel_rfl) (by kernel_rfl) (fun _ _ _ _ h => h) rfl (.tmp 11) rfl (.int .i64 0) rfl hH ?_
  simp only [Act.put, List.setIfInBounds_toArray, List.set_cons_zero, List.set_cons_succ, Nat.zero_add, decide_true, beq_self_eq_true]
  refine takeH_calc (o := ⟨some 41, _, _, _, _, _⟩) (i := 5) rfl (by kernel_rfl) (by kernel_rfl) (by kernel_rfl) (fun _ _ _ _ h => h) rfl (.bool true) (fun w => rfl) hH ?_
  simp only [Act.put, List.setIfInBounds_toArray, List.set_cons_zero, List.set_cons_succ, Nat.zero_add, decide_true, beq_self_eq_true]
  refine takeH_pick (o := ⟨some 42, _, _, _, _, _⟩) (i := 6) rfl (by kernel_rfl) (by kernel_rfl) (by kernel_rfl) (fun _ _ _ _ h => h) rfl (.tmp 39) (.tmp 41) (.const (.bool false)) rfl true rfl _ rfl hH ?_
  simp only [Act.put, List.setIfInBounds_toArray, List.set_cons_zero, List.set_cons_succ, Nat.zero_add, decide_true, beq_self_eq_true]
  refine takeH_move (o := ⟨some 43, _, _, _, _, _⟩) (i := 7) rfl (by kernel_rfl) (by kernel_rfl) (by kernel_rfl) (fun _ _ _ _ h => h) rfl (.tmp 42) rfl (.bool true) rfl hH ?_
  simp only [Act.put, List.setIfInBounds_toArray, List.set_cons_zero, List.set_cons_succ, Nat.zero_add, decide_true, beq_self_eq_true]
  refine takeH_move (o := ⟨some 44, _, _, _, _, _⟩) (i := 8) rfl (by kernel_rfl) (by kernel_rfl) (by kernel_rfl) (fun _ _ _ _ h => h) rfl (.tmp 10) rfl (.slice A 16 c) rfl hH ?_
  simp only [Act.put, List.setIfInBounds_toArray, List.set_cons_zero, List.set_cons_succ, Nat.zero_add, decide_true, beq_self_eq_true]
  refine takeH_calc (o := ⟨some 45, _, _, _, _, _⟩) (i := 9) rfl (by kernel_rfl) (by kernel_rfl) (by kernel_rfl) (fun _ _ _ _ h => h) rfl (.slice (some ⟨g9, 0, none⟩) 16 16) (fun w => by kernel_rfl) hH ?_
  simp only [Act.put, List.setIfInBounds_toArray, List.set_cons_zero, List.set_cons_succ, Nat.zero_add, decide_true, beq_self_eq_true]
  refine wpAnyH_ready (rs := [10]) (by kernel_rfl) (by simp) ?_
  refine AllReadyH.cons rfl (fun K1 hK1 => ?_) AllReadyH.nil
  go_simp
  refine (hsm.out _ (slS.out.keep (Below.refl _ _).drew) (slB.out.keep (Below.refl _ _).drew)).mono ?_
  rintro e w10 ⟨rfl, rfl⟩
  refine hK1.out _ _ (hSS h8.out.drew hsl.out) (fun hH => ?_)
  clear hK1 K1
  refine takeH_pick (o := ⟨some 47, _, _, _, _, _⟩) (i := 11) rfl (by kernel_rfl) (by kernel_rfl) (by kernel_rfl) (fun _ _ _ _ h => h) rfl (.tmp 43) (.tmp 46) (.const (.bool false)) rfl true rfl _ rfl hH ?_
  simp only [Act.put, List.setIfInBounds_toArray, List.set_cons_zero, List.set_cons_succ, Nat.zero_add, decide_true, beq_self_eq_true]
  refine wpAnyH_ready (rs := [12]) (by kernel_rfl) (by simp) ?_
  refine AllReadyH.cons rfl (fun K1 hK1 => ?_) AllReadyH.nil
  rw [if_pos (by rfl)]
  refine wp_storeA 55 (.tmp 4) (.tmp 36) rfl 16 arrB _ _ rfl (bv S) rfl 55 _ h1.out.drew hsl.out (by simp) (ones_bv _) ?_
  intro w11 h11 hK11
  rw [putL_all (by rw [hsl.out]; simp)] at h11
  refine hK1.out _ _ (hSS (h8.out.drew.keeps hK11 (by have := hg9.out; simp only [List.mem_singleton]; omega)) hsl.out) (fun hH => ?_)
  clear hK1 K1
  refine takeH_assign (o := ⟨some 5, _, _, _, _, _⟩) (i := 13) rfl (by kernel_rfl) (by kernel_rfl) (by kernel_rfl) (fun _ _ _ _ h => h) rfl (.tmp 47) rfl (.bool true) rfl hH ?_
  simp only [Act.put, List.setIfInBounds_toArray, List.set_cons_zero, List.set_cons_succ, Nat.zero_add, decide_true, beq_self_eq_true]
  refine wpAnyH_done (by kernel_rfl) ?_ _
  go_wp2
  exact bodyPost_ret (v := .tuple #[.agg (bv S).toArray, .bool true]) (res_cell2 Try.results18 _ _ _ 55 _ arrB hsl.out _ rfl h11 rfl) rfl ⟨rfl, hB.out.drew.trans (hK11.below hB.out.drew.size (by simp))⟩
end Go.Proofs.Ytokphnfhajljmaa
