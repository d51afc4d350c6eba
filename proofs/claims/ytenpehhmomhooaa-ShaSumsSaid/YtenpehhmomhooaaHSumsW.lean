/- The walk of ShaSums. -/
import Derived.Test.YtenpehhmomhooaaShL
import Derived.Test.YtenpehhmomhooaaRgx
import Derived.Test.YtenpehhmomhooaaScH
set_option linter.unusedVariables false
set_option linter.unusedSimpArgs false
namespace Go.Proofs.Ytenpehhmomhooaa.w_ShaSums
open Go.RowKit
open Go.Proofs.PlainAes
open Go.Proofs.PlainSha

set_option maxRecDepth 100000 in
set_option maxHeartbeats 2000000 in
theorem core (A : Option Addr) (n c : Nat) (l x : List Nat) (W : World) (hs : Sl W (.slice A n c) (bv l)) (bl : Byt l) (hn : n = l.length) (hx : x.length = 32) (bx : Byt x) :
    Calls Try.prog 3 #[.slice A n c, .agg (bv x).toArray] W fun e w' => e = .returned (.bool true) ∧ Below W.heap.size W w' := by
  have hal := Lib.hid (fun w => alive_any w)
  have hxl := Lib.hid (show (bv x).length = 32 by rw [bv_length, hx])
  by_cases hbig : (1000 : Int) < (n : Int)
  · go_enter Try.func3, Try.ntmps3
    go_wp2_with fail
    refine (hal.out _).mono ?_
    rintro e w1 ⟨rfl, hB1⟩
    have hB2 := Lib.hid (below_call ((Below.refl _ W).alloc (Nat.le_refl _) (.cells (bv x).toArray 24)) (by simp) hB1)
    clear hB1
    go_wp2
    go_ret
    exact ⟨rfl, hB2.out⟩
  · have hsum := Lib.hid (fun w (h : Sl w (.slice A n c) (bv l)) => shasum_any l _ w h bl (by omega))
    have hrs := Lib.hid (fun w (h : Sl w (.slice A n c) (bv l)) => refsum_any _ l w h bl (by omega))
    have hhex := Lib.hid (fun w => hex_any x w hx bx)
    have hrhex := Lib.hid (fun w => rhex_any x w hx bx)
    have hOl := Lib.hid (show (shaL l).length = 32 from outL_length _)
    replace hs := Lib.hid hs
    clear hx bx bl hn
    generalize shaL l = O at *
    generalize bstr (hexL x) = T at *
    go_enter Try.func3, Try.ntmps3
    go_wp2_with fail
    refine (hal.out _).mono ?_
    rintro e w1 ⟨rfl, hB1⟩
    have b1 : Blk w1 W.heap.size 24 (bv x) := (Blk.new W 24 (bv x).toArray).keep hB1
    have hB2 := Lib.hid (below_call ((Below.refl _ W).alloc (Nat.le_refl _) (.cells (bv x).toArray 24)) (by simp) hB1)
    clear hB1
    go_wp2
    refine wp_region_held_drew (S := fun w' => Below w1.heap.size w1 w') (by kernel_rfl) ((Below.refl _ _).drew) (fun hH => ?_)
    refine takeH_move (o := ⟨some 10, _, _, _, _, _⟩) (i := 0) rfl (by kernel_rfl) (by kernel_rfl) (by kernel_rfl) (fun _ _ _ _ h => h) rfl (.tmp 0) rfl (.slice A n c) rfl hH ?_
    simp only [Act.put, List.setIfInBounds_toArray, List.set_cons_zero, List.set_cons_succ, Nat.zero_add, decide_true, beq_self_eq_true]
    refine takeH_move (o := ⟨some 12, _, _, _, _, _⟩) (i := 2) rfl (by kernel_rfl) (by kernel_rfl) (by kernel_rfl) (fun _ _ _ _ h => h) rfl (.tmp 0) rfl (.slice A n c) rfl hH ?_
    simp only [Act.put, List.setIfInBounds_toArray, List.set_cons_zero, List.set_cons_succ, Nat.zero_add, decide_true, beq_self_eq_true]
    refine wpAnyH_ready (rs := [1]) (by kernel_rfl) (by simp) ?_
    refine AllReadyH.cons rfl (fun K1 hK1 => ?_) AllReadyH.nil
    rw [if_pos (by rfl)]
    go_wp2_with fail
    refine (hsum.out _ (hs.out.keep (below_call hB2.out hB2.out.size hH))).mono ?_
    rintro e wa ⟨rfl, hBa⟩
    refine hK1.out _ _ (below_call hH hH.size hBa) (fun hH => ?_)
    clear hK1 K1
    refine wpAnyH_ready (rs := [3]) (by kernel_rfl) (by simp) ?_
    refine AllReadyH.cons rfl (fun K1 hK1 => ?_) AllReadyH.nil
    rw [if_pos (by rfl)]
    go_wp2_with fail
    refine (hrs.out _ (hs.out.keep (below_call hB2.out hB2.out.size hH))).mono ?_
    rintro e wa ⟨rfl, hBa⟩
    refine hK1.out _ _ (below_call hH hH.size hBa) (fun hH => ?_)
    clear hK1 K1
    refine takeH_eqlT (o := ⟨some 14, _, _, _, _, _⟩) (i := 4) rfl (by kernel_rfl) (by kernel_rfl) (by kernel_rfl) (fun _ _ _ _ h => h) rfl 24 (.tmp 11) (.tmp 13) 24 rfl 32 bytH _ _ rfl rfl hOl.out rfl hH ?_
    simp only [Act.put, List.setIfInBounds_toArray, List.set_cons_zero, List.set_cons_succ, Nat.zero_add, decide_true, beq_self_eq_true]
    refine takeH_move (o := ⟨some 15, _, _, _, _, _⟩) (i := 5) rfl (by kernel_rfl) (by kernel_rfl) (by kernel_rfl) (fun _ _ _ _ h => h) rfl (.tmp 14) rfl (.bool true) rfl hH ?_
    simp only [Act.put, List.setIfInBounds_toArray, List.set_cons_zero, List.set_cons_succ, Nat.zero_add, decide_true, beq_self_eq_true]
    refine takeH_load (o := ⟨some 16, _, _, _, _, _⟩) (i := 6) rfl (by kernel_rfl) (by kernel_rfl) (by kernel_rfl) (fun _ _ _ _ h => h) rfl 24 (.tmp 3) rfl 32 arrH W.heap.size 0 rfl (bv x) hxl.out (fun w h => hSS (b1.keep h) hxl.out) hH ?_
    simp only [Act.put, List.setIfInBounds_toArray, List.set_cons_zero, List.set_cons_succ, Nat.zero_add, decide_true, beq_self_eq_true]
    refine takeH_load (o := ⟨some 18, _, _, _, _, _⟩) (i := 8) rfl (by kernel_rfl) (by kernel_rfl) (by kernel_rfl) (fun _ _ _ _ h => h) rfl 24 (.tmp 3) rfl 32 arrH W.heap.size 0 rfl (bv x) hxl.out (fun w h => hSS (b1.keep h) hxl.out) hH ?_
    simp only [Act.put, List.setIfInBounds_toArray, List.set_cons_zero, List.set_cons_succ, Nat.zero_add, decide_true, beq_self_eq_true]
    refine wpAnyH_ready (rs := [7]) (by kernel_rfl) (by simp) ?_
    refine AllReadyH.cons rfl (fun K1 hK1 => ?_) AllReadyH.nil
    rw [if_pos (by rfl)]
    go_wp2_with fail
    refine (hhex.out _).mono ?_
    rintro e wa ⟨rfl, hBa⟩
    refine hK1.out _ _ (below_call hH hH.size hBa) (fun hH => ?_)
    clear hK1 K1
    refine wpAnyH_ready (rs := [9]) (by kernel_rfl) (by simp) ?_
    refine AllReadyH.cons rfl (fun K1 hK1 => ?_) AllReadyH.nil
    rw [if_pos (by rfl)]
    go_wp2_with fail
    refine (hrhex.out _).mono ?_
    rintro e wa ⟨rfl, hBa⟩
    refine hK1.out _ _ (below_call hH hH.size hBa) (fun hH => ?_)
    clear hK1 K1
    refine takeH_S (o := ⟨some 20, _, _, _, _, _⟩) (i := 10) rfl (by kernel_rfl) (by kernel_rfl) (by kernel_rfl) (fun _ _ _ _ h => h) rfl (.bool true) (fun w _ => by go_simp) hH ?_
    simp only [Act.put, List.setIfInBounds_toArray, List.set_cons_zero, List.set_cons_succ, Nat.zero_add, decide_true, beq_self_eq_true]
    refine takeH_pick (o := ⟨some 21, _, _, _, _, _⟩) (i := 11) rfl (by kernel_rfl) (by kernel_rfl) (by kernel_rfl) (fun _ _ _ _ h => h) rfl (.tmp 15) (.tmp 20) (.const (.bool false)) rfl true rfl (.bool true) rfl hH ?_
    simp only [Act.put, List.setIfInBounds_toArray, List.set_cons_zero, List.set_cons_succ, Nat.zero_add, decide_true, beq_self_eq_true]
    refine takeH_assign (o := ⟨some 4, _, _, _, _, _⟩) (i := 12) rfl (by kernel_rfl) (by kernel_rfl) (by kernel_rfl) (fun _ _ _ _ h => h) rfl (.tmp 21) rfl (.bool true) rfl hH ?_
    simp only [Act.put, List.setIfInBounds_toArray, List.set_cons_zero, List.set_cons_succ, Nat.zero_add, decide_true, beq_self_eq_true]
    refine wpAnyH_done (by kernel_rfl) ?_ _
    go_wp2_with fail
    go_ret
    exact ⟨rfl, below_call hB2.out hB2.out.size hH⟩
theorem walk (v : Value) (l : List Nat) (bl : Byt l) (hl : l.length ≤ 140737488351232) (x : List Nat) (hx : x.length = 32) (bx : Byt x) (W : World) (hs : Sl W v (bv l)) :
    Calls Try.prog 3 #[v, .agg (bv x).toArray] W fun e w' => e = .returned (.bool true) ∧ Below W.heap.size W w' := by
  obtain ⟨A, c, rfl, -⟩ := id hs
  exact core A _ c l x W hs bl (by simp) hx bx
end Go.Proofs.Ytenpehhmomhooaa.w_ShaSums
