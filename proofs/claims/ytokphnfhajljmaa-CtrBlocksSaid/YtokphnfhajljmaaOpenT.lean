/- The argument of CtrBlocks, opened. -/
import Derived.Test.YtokphnfhajljmaaOpenS
set_option linter.unusedVariables false
set_option linter.unusedSimpArgs false
namespace Go.Proofs.Ytokphnfhajljmaa
open Go.ChangeShapes Go.WideShapes Go.ChangeAt Go.RowKit
theorem open_two {H : Type} {enc : TypeId × Value → H} {W : World} {base : Nat} {v : Value} {d : DataW H} {p : List MemPlace} (hv : Value.okWide Try.prog W .any base 53 v) (h : DataW.Trod enc Try.prog W 0 (fun _ => true) true 53 v d p) :
    ∃ (k n : List Nat) (a b : Nat), v = .agg (bv k ++ (bv n ++ [Value.int .u8 (a : Int), Value.int .u8 (b : Int)])).toArray ∧ k.length = 32 ∧ Byt k ∧ n.length = 12 ∧ Byt n ∧ a < 256 ∧ b < 256 := by
  obtain ⟨k, n, a, b, m, x, y, rfl, lk, bk, ln, bn, e2, e3⟩ := open_four (t0 := 22) (t1 := 29) (t2 := 5) (t3 := 5) Try.underlying53 (by kernel_rfl) rfl rfl rfl rfl rfl Try.underlying22 Try.underlying29 Try.underlying5 (by kernel_rfl) (by kernel_rfl) (by kernel_rfl) (by kernel_rfl) (by kernel_rfl) hv h
  obtain ⟨i, ei, -, wi⟩ := DataW.trod_int Try.underlying5 e2
  obtain ⟨j, ej, -, wj⟩ := DataW.trod_int Try.underlying5 e3
  have hi := bounds_u8 wi
  have hj := bounds_u8 wj
  obtain ⟨i', rfl⟩ := Int.eq_ofNat_of_zero_le hi.1
  obtain ⟨j', rfl⟩ := Int.eq_ofNat_of_zero_le hj.1
  injection ei with ei
  injection ej with ej
  subst ei ej
  exact ⟨k, n, i', j', rfl, lk, bk, ln, bn, by omega, by omega⟩
end Go.Proofs.Ytokphnfhajljmaa
