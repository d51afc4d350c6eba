/- The law CtrCrypts: the walk. -/
import Derived.Test.YtokphnfhajljmaaRf5C
import Derived.Test.YtokphnfhajljmaaCtrL
import Derived.Test.YtokphnfhajljmaaCtrS
import Derived.Test.YtokphnfhajljmaaOpenA
import Derived.Test.YtokphnfhajljmaaOpenB
set_option linter.unusedVariables false
set_option linter.unusedSimpArgs false
namespace Go.Proofs.Ytokphnfhajljmaa
open Go.RowKit
open Go.Proofs.PlainAes

theorem RetOK.toB {l : List Nat} {w : World} {e : Ending} {w' : World} (h : RetOK l w e w') : RetB l 0 w e w' := by
  obtain ⟨v, h1, h2, h3⟩ := h
  exact ⟨v, h1, Sl.of_own h2, h3⟩
theorem RetE.toB {w : World} {e : Ending} {w' : World} (h : RetE w e w') : RetB [] 2 w e w' := ⟨_, h.1, Sl.nil_ _, h.2⟩
/-- Of any bytes both answer the same. -/
theorem crypts_both (k n l : List Nat) (A : Option Addr) (len cap : Nat) (hlen : len = l.length) (hk : k.length = 32) (bk : Byt k) (hn : n.length = 12) (bn : Byt n) (bl : Byt l) (hl : (l.length : Int) ≤ 140737488351232) :
    ∃ (L : List Nat) (c : Int), Byt L ∧ (∀ w, Sl w (.slice A len cap) (bv l) → Calls Try.prog 16 #[.agg (bv k).toArray, .agg (bv n).toArray, .slice A len cap] w (RetB L c w)) ∧
      (∀ w, Sl w (.slice A len cap) (bv l) → Calls Try.prog 17 #[.agg (bv (tbl box)).toArray, .agg (bv k).toArray, .agg (bv n).toArray, .slice A len cap] w (RetB L c w)) := by
  by_cases h : (l.length : Int) ≤ 65536
  · exact ⟨crypt k n l, 0, crypt_lt bk bn bl, fun w hs => (crypt_core k n l A len cap w hlen hk bk hn bn bl h hs).mono (fun e w' h => h.toB), fun w hs => (rcrypt_core k n l A len cap w hlen hk bk hn bn bl h hs).mono (fun e w' h => h.toB)⟩
  · exact ⟨[], 2, (by intro x hx; cases hx), fun w hs => (crypt_err k n A len cap w hk hn (by omega) (by omega)).mono (fun e w' h => h.toB), fun w hs => (rcrypt_err k n A len cap w hk hn (by omega) (by omega)).mono (fun e w' h => h.toB)⟩
namespace w_CtrCrypts
set_option maxRecDepth 100000 in
set_option maxHeartbeats 2000000 in
theorem core (k : List Nat) (hk : k.length = 32) (bk : Byt k) (n : List Nat) (hn : n.length = 12) (bn : Byt n) (A : Option Addr) (len cap : Nat) (l : List Nat) (hlen : len = l.length) (bl : Byt l) (ml : (l.length : Int) ≤ 140737488351232) (W : World) (hs : Sl W (.slice A len cap) (bv l)) :
    Calls Try.prog 4 #[.agg (bv k).toArray, .agg (bv n).toArray, .slice A len cap] W fun e w' => e = .returned (.bool true) ∧ Below W.heap.size W w' := by
  obtain ⟨L, cd, bL, hx0, hy0⟩ := crypts_both k n l A len cap hlen hk bk hn bn bl ml
  have hx := Lib.hid hx0
  have hy := Lib.hid hy0
  have htb : Hid (∀ w, Calls Try.prog 13 #[] w (RetA (tbl box) w)) := fun w => rtable_any w
  have hsm := Lib.hid (fun va vb w ha hb => same_self va vb L w ha hb bL)
  have hal := Lib.hid (fun w => alive_any w)
  have hkl := Lib.hid (show (bv k).length = 32 by simp [hk])
  have hnl := Lib.hid (show (bv n).length = 12 by simp [hn])
  have hI : (len : Int) ≤ 140737488351232 := by omega
  clear hx0 hy0 bL hk bk hn bn bl ml hlen
  have k0 := (Blk.new_at (w := W) (t := 22) (cs := (bv k).toArray) rfl rfl).alloc (.cells (bv n).toArray 29)
  have n0 := Blk.new_at (w := W.alloc (.cells (bv k).toArray 22)) (n := W.heap.size + 1) (t := 29) (cs := (bv n).toArray) (by simp) rfl
  have hB0 : Below W.heap.size W ((W.alloc (.cells (bv k).toArray 22)).alloc (.cells (bv n).toArray 29)) := ((Below.refl _ _).alloc (Nat.le_refl _) _).alloc (by simp) _
  replace k0 := Lib.hid k0
  replace n0 := Lib.hid n0
  replace hB0 := Lib.hid hB0
  replace hs := Lib.hid hs
  by_cases hg : 100 < (len : Int) ∧ (len : Int) ≤ 65536
  · obtain ⟨hg1, hg2⟩ := hg
    go_enter Try.func4, Try.ntmps4
    go_wp2_with (first
      | (go_at_call 9; refine (hal.out _).mono ?_; rintro e w1 ⟨rfl, hB1⟩))
    go_ret
    exact ⟨rfl, below_call hB0.out hB0.out.size hB1⟩
  · have hg' : (len : Int) ≤ 100 ∨ 65536 < (len : Int) := by omega
    clear hg
    -- TAIL
    rcases hg' with hg' | hg'
    all_goals
      go_enter Try.func4, Try.ntmps4
      go_wp2_with (first
        | (go_at_call 9; refine (hal.out _).mono ?_; rintro e w1 ⟨rfl, hB1⟩; have k1 := k0.out.keep hB1; have n1 := n0.out.keep hB1; have hs1 := hs.out.keep (below_call hB0.out hB0.out.size hB1))
        | refine wpList_loadW rfl 22 (.tmp 3) rfl 32 arr32' _ rfl 22 _ k1 hkl.out ?_
        | refine wpList_loadW rfl 29 (.tmp 4) rfl 12 arr12' _ rfl 29 _ n1 hnl.out ?_
        | (go_at_call 16; refine (hx.out _ hs1).mono ?_; rintro e w2 ⟨v1, rfl, s1, hB2⟩; replace k1 := k1.keep hB2; replace n1 := n1.keep hB2; replace hs1 := hs1.keep hB2; replace hB2 := Lib.hid (below_call (below_call hB0.out hB0.out.size hB1) (below_call hB0.out hB0.out.size hB1).size hB2))
        | (go_not_at_region 6; go_in))
      replace k1 := Lib.hid k1
      replace n1 := Lib.hid n1
      replace hs1 := Lib.hid hs1
      replace s1 := Lib.hid s1
      refine wp_region_held_drew (S := fun w' => Below w2.heap.size w2 w') (by kernel_rfl) ((Below.refl _ _).drew) (fun hH => ?_)
      refine takeH_load (o := ⟨some 30, _, _, _, _, _⟩) (i := 1) rfl (by kernel_rfl) (by kernel_rfl) (by kernel_rfl) (fun _ _ _ _ h => h) rfl 22 (.tmp 3) rfl 32 arr32' _ _ rfl (bv k) hkl.out (fun w h => hSS (k1.out.keep h) hkl.out) hH ?_
      simp only [Act.put, List.setIfInBounds_toArray, List.set_cons_zero, List.set_cons_succ, Nat.zero_add, decide_true, beq_self_eq_true]
      refine takeH_load (o := ⟨some 31, _, _, _, _, _⟩) (i := 2) rfl (by kernel_rfl) (by kernel_rfl) (by kernel_rfl) (fun _ _ _ _ h => h) rfl 29 (.tmp 4) rfl 12 arr12' _ _ rfl (bv n) hnl.out (fun w h => hSS (n1.out.keep h) hnl.out) hH ?_
      simp only [Act.put, List.setIfInBounds_toArray, List.set_cons_zero, List.set_cons_succ, Nat.zero_add, decide_true, beq_self_eq_true]
      refine takeH_move (o := ⟨some 32, _, _, _, _, _⟩) (i := 3) rfl (by kernel_rfl) (by kernel_rfl) (by kernel_rfl) (fun _ _ _ _ h => h) rfl (.tmp 2) rfl (.slice A len cap) rfl hH ?_
      simp only [Act.put, List.setIfInBounds_toArray, List.set_cons_zero, List.set_cons_succ, Nat.zero_add, decide_true, beq_self_eq_true]
      refine wpAnyH_ready (rs := [0]) (by kernel_rfl) (by simp) ?_
      refine AllReadyH.cons rfl (fun K1 hK1 => ?_) AllReadyH.nil
      rw [if_pos (by rfl)]
      go_wp2_with fail
      refine (htb.out _).mono ?_
      rintro e w3 ⟨rfl, hBa⟩
      have hB3 : Below w2.heap.size w2 w3 := below_call hH hH.size hBa
      refine hK1.out _ _ hB3 (fun hH => ?_)
      clear hK1 K1 hBa
      refine wpAnyH_ready (rs := [4]) (by kernel_rfl) (by simp) ?_
      refine AllReadyH.cons rfl (fun K1 hK1 => ?_) AllReadyH.nil
      rw [if_pos (by rfl)]
      go_wp2_with fail
      refine (hy.out _ (hs1.out.keep hB3)).mono ?_
      rintro e w4 ⟨v2, rfl, s2, hBa⟩
      have hB4 : Below w2.heap.size w2 w4 := below_call hB3 hB3.size hBa
      replace s2 := Lib.hid s2
      refine hK1.out _ _ hB4 (fun hH => ?_)
      clear hK1 K1 hBa
      refine takeH_move (o := ⟨some 28, _, _, _, _, _⟩) (i := 5) rfl (by kernel_rfl) (by kernel_rfl) (by kernel_rfl) (fun _ _ _ _ h => h) rfl (.tmp 33) rfl (.tuple #[v2, .int .i64 cd]) rfl hH ?_
      simp only [Act.put, List.setIfInBounds_toArray, List.set_cons_zero, List.set_cons_succ, Nat.zero_add, decide_true, beq_self_eq_true]
      refine takeH_S (o := ⟨some 34, _, _, _, _, _⟩) (i := 6) rfl (by kernel_rfl) (by kernel_rfl) (by kernel_rfl) (fun _ _ _ _ h => h) rfl v2 (fun w _ => by go_simp) hH ?_
      simp only [Act.put, List.setIfInBounds_toArray, List.set_cons_zero, List.set_cons_succ, Nat.zero_add, decide_true, beq_self_eq_true]
      refine takeH_S (o := ⟨some 35, _, _, _, _, _⟩) (i := 7) rfl (by kernel_rfl) (by kernel_rfl) (by kernel_rfl) (fun _ _ _ _ h => h) rfl (.int .i64 cd) (fun w _ => by go_simp) hH ?_
      simp only [Act.put, List.setIfInBounds_toArray, List.set_cons_zero, List.set_cons_succ, Nat.zero_add, decide_true, beq_self_eq_true]
      refine takeH_assign (o := ⟨some 9, _, _, _, _, _⟩) (i := 8) rfl (by kernel_rfl) (by kernel_rfl) (by kernel_rfl) (fun _ _ _ _ h => h) rfl (.tmp 34) rfl v2 rfl hH ?_
      simp only [Act.put, List.setIfInBounds_toArray, List.set_cons_zero, List.set_cons_succ, Nat.zero_add, decide_true, beq_self_eq_true]
      refine takeH_assign (o := ⟨some 10, _, _, _, _, _⟩) (i := 9) rfl (by kernel_rfl) (by kernel_rfl) (by kernel_rfl) (fun _ _ _ _ h => h) rfl (.tmp 35) rfl (.int .i64 cd) rfl hH ?_
      simp only [Act.put, List.setIfInBounds_toArray, List.set_cons_zero, List.set_cons_succ, Nat.zero_add, decide_true, beq_self_eq_true]
      refine wpAnyH_done (by kernel_rfl) ?_ _
      have hss := Lib.hid (hsm.out v1 v2 w4 (s1.out.keep hB4) s2.out)
      have hBf := Lib.hid (below_call hB2.out hB2.out.size hB4)
      go_wp2_with (first
        | (go_at_call 15; refine hss.out.mono ?_; rintro e w5 ⟨rfl, rfl⟩))
      go_ret
      exact ⟨rfl, hBf.out⟩
theorem walk (k : List Nat) (hk : k.length = 32) (bk : Byt k) (n : List Nat) (hn : n.length = 12) (bn : Byt n) (v : Value) (l : List Nat) (b : Byt l) (m : l.length ≤ 140737488351232) (W : World) (s : Sl W v (bv l)) :
    Calls Try.prog 4 #[.agg (bv k).toArray, .agg (bv n).toArray, v] W fun e w' => e = .returned (.bool true) ∧ Below W.heap.size W w' := by
  obtain ⟨A, c, rfl, -⟩ := id s
  exact core k hk bk n hn bn A _ c l (bv_length l) b (by omega) W s
end w_CtrCrypts
end Go.Proofs.Ytokphnfhajljmaa
