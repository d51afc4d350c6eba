/- The argument of CtrSums, opened. -/
import Derived.Test.YtokphnfhajljmaaOpenC
set_option linter.unusedVariables false
set_option linter.unusedSimpArgs false
namespace Go.Proofs.Ytokphnfhajljmaa
open Go.ChangeShapes Go.WideShapes Go.ChangeAt Go.RowKit
theorem open_both {H : Type} {enc : TypeId × Value → H} {W : World} {base : Nat} {v : Value} {d : DataW H} {p : List MemPlace} (hv : Value.okWide Try.prog W .any base 62 v) (h : DataW.Trod enc Try.prog W 0 (fun _ => true) true 62 v d p) :
    ∃ (k n : List Nat) (a : Value) (l : List Nat) (b : Value) (l2 : List Nat), v = .agg (bv k ++ (bv n ++ [a, b])).toArray ∧ k.length = 32 ∧ Byt k ∧ n.length = 12 ∧ Byt n ∧ Sl W a (bv l) ∧ Byt l ∧ Sl W b (bv l2) ∧ Byt l2 := by
  obtain ⟨k, n, a, b, m, x, y, rfl, lk, bk, ln, bn, e2, e3⟩ := open_four (t0 := 22) (t1 := 29) (t2 := 32) (t3 := 32) Try.underlying62 (by kernel_rfl) rfl rfl rfl rfl rfl Try.underlying22 Try.underlying29 Try.underlying5 (by kernel_rfl) (by kernel_rfl) (by kernel_rfl) (by kernel_rfl) (by kernel_rfl) hv h
  obtain ⟨l, sl, bl⟩ := open_bytes1 e2
  obtain ⟨l2, sl2, bl2⟩ := open_bytes1 e3
  exact ⟨k, n, a, l, b, l2, rfl, lk, bk, ln, bn, sl, bl, sl2, bl2⟩
end Go.Proofs.Ytokphnfhajljmaa
