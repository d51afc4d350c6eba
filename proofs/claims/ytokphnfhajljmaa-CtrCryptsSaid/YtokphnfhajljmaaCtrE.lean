/- Contracts of package ctr: where it is refused. -/
import Derived.Test.YtokphnfhajljmaaCtrC
set_option linter.unusedVariables false
set_option linter.unusedSimpArgs false
namespace Go.Proofs.Ytokphnfhajljmaa
open Go.RowKit
open Go.Proofs.PlainAes

/-- Nothing, and that the arguments may not be. -/
def RetE (w : World) (e : Ending) (w' : World) : Prop := e = .returned (.tuple #[.slice none 0 0, .int .i64 2]) ∧ Below w.heap.size w w'
set_option maxRecDepth 100000 in
set_option maxHeartbeats 1000000 in
theorem stream_err (k n : List Nat) (p m : Int) (w : World) (hp0 : -9223372036854775808 ≤ p) (hp1 : p ≤ 9223372036854775807) (hm0 : -9223372036854775808 ≤ m) (hm1 : m ≤ 9223372036854775807) (hbad : p < 0 ∨ 65536 < p ∨ m < 0 ∨ 65536 < m) :
    Calls Try.prog 11 #[.agg (bv k).toArray, .agg (bv n).toArray, .int .i64 p, .int .i64 m] w (RetE w) := by
  have hB := Lib.hid (show Below w.heap.size w ((w.alloc (.cells (bv k).toArray 28)).alloc (.cells (bv n).toArray 30)) from ((Below.refl _ _).alloc (Nat.le_refl _) _).alloc (by simp) _)
  have hR : Hid (∀ w', Below w.heap.size w w' → RetE w (.returned (.tuple #[.slice none 0 0, .int .i64 2])) w') := fun w' h => ⟨rfl, h⟩
  generalize RetE w = RX at *
  replace hbad := Lib.hid hbad
  by_cases h1 : p < 0
  · go_enter Try.func11, Try.ntmps11
    go_wp2
    go_wp2_with fail
    exact hR.out _ hB.out
  · by_cases h2 : 65536 < p
    · go_enter Try.func11, Try.ntmps11
      go_wp2
      go_wp2_with fail
      exact hR.out _ hB.out
    · by_cases h3 : m < 0
      · go_enter Try.func11, Try.ntmps11
        go_wp2
        go_wp2_with fail
        exact hR.out _ hB.out
      · have h4 : 65536 < m := by have := hbad.out; omega
        go_enter Try.func11, Try.ntmps11
        go_wp2
        go_wp2_with fail
        exact hR.out _ hB.out

set_option maxRecDepth 100000 in
set_option maxHeartbeats 1000000 in
theorem crypt_err (k n : List Nat) (A : Option Addr) (len cap : Nat) (w : World) (hk : k.length = 32) (hn : n.length = 12) (hl : 65536 < (len : Int)) (hl2 : (len : Int) ≤ 9223372036854775807) :
    Calls Try.prog 16 #[.agg (bv k).toArray, .agg (bv n).toArray, .slice A len cap] w (RetE w) := by
  have hst := Lib.hid (fun w => stream_err k n 0 len w (by omega) (by omega) (by omega) hl2 (.inr (.inr (.inr hl))))
  have hkl := Lib.hid (show (bv k).length = 32 by simp [hk])
  have hnl := Lib.hid (show (bv n).length = 12 by simp [hn])
  have k0 := (Blk.new_at (w := w) (t := 28) (cs := (bv k).toArray) rfl rfl).alloc (.cells (bv n).toArray 30)
  have n0 := Blk.new_at (w := w.alloc (.cells (bv k).toArray 28)) (n := w.heap.size + 1) (t := 30) (cs := (bv n).toArray) (by simp) rfl
  have hB0 := Lib.hid (show Below w.heap.size w ((w.alloc (.cells (bv k).toArray 28)).alloc (.cells (bv n).toArray 30)) from ((Below.refl _ _).alloc (Nat.le_refl _) _).alloc (by simp) _)
  have hR : Hid (∀ w', Below w.heap.size w w' → RetE w (.returned (.tuple #[.slice none 0 0, .int .i64 2])) w') := fun w' h => ⟨rfl, h⟩
  simp only [List.size_toArray] at k0 n0
  clear hk hn hl
  generalize RetE w = RX at *
  go_enter Try.func16, Try.ntmps16
  go_wp2_with (first
    | refine wpList_loadW rfl 28 (.tmp 3) rfl 32 arrK _ rfl 28 _ k0 hkl.out ?_
    | refine wpList_loadW rfl 30 (.tmp 4) rfl 12 arrN _ rfl 30 _ n0 hnl.out ?_
    | (go_at_call 11; refine (hst.out _).mono ?_; rintro e w2 ⟨rfl, hB2⟩))
  go_wp2_with fail
  exact hR.out _ (below_call hB0.out hB0.out.size hB2)
end Go.Proofs.Ytokphnfhajljmaa
