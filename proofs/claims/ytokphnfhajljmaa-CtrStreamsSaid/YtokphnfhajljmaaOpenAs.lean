/- The argument of CtrStreams, opened. -/
import Derived.Test.YtokphnfhajljmaaOpenB
set_option linter.unusedVariables false
set_option linter.unusedSimpArgs false
namespace Go.Proofs.Ytokphnfhajljmaa
open Go.ChangeShapes Go.WideShapes Go.ChangeAt Go.RowKit

theorem open_natA {H : Type} {enc : TypeId × Value → H} {P : Program} {W : World} {m : Nat} {t : TypeId} {k : IntKind} {v : Value} {x : DataW H × List MemPlace} (hu : P.underlying t = some (.int k)) (hk : ∀ n, (Lit.int k n).wf = true → 0 ≤ n) (hf : DataW.trod enc P W 0 (fun _ => true) true m t [v] = some x) :
    ∃ i : Nat, v = .int k (i : Int) ∧ (Lit.int k (i : Int)).wf = true := by
  obtain ⟨i, ei, -, wi⟩ := DataW.trod_int hu hf
  injection ei with ei
  obtain ⟨j, rfl⟩ := Int.eq_ofNat_of_zero_le (hk i wi)
  exact ⟨j, ei, wi⟩
theorem arr_moreA {α : Type} {l : List α} {n : Nat} (h : l.length = 32 + n) : ∃ X r, l = X ++ r ∧ X.length = 32 ∧ r.length = n := ⟨l.take 32, l.drop 32, (List.take_append_drop 32 l).symm, by simp [h], by simp [h]⟩
set_option maxRecDepth 100000 in
theorem open_asked {H : Type} {enc : TypeId × Value → H} {W : World} {base : Nat} {v : Value} {d : DataW H} {p : List MemPlace} (hv : Value.okWide Try.prog W .any base 26 v) (h : DataW.Trod enc Try.prog W 0 (fun _ => true) true 26 v d p) :
    ∃ (a b : Nat) (c d : Int) (k : List Nat), v = .agg (bv k ++ ([.int .u64 (a : Int), .int .u32 (b : Int), .int .i64 c, .int .i64 d] : List Value)).toArray ∧ k.length = 32 ∧ (∀ x ∈ k, x < 256) ∧ (a : Int) ≤ 18446744073709551615 ∧ (b : Int) ≤ 4294967295 ∧ (-9223372036854775808 ≤ c ∧ c ≤ 9223372036854775807) ∧ (-9223372036854775808 ≤ d ∧ d ≤ 9223372036854775807) := by
  simp only [Value.okWide, Try.underlying26] at hv
  obtain ⟨cs, rfl, -⟩ := hv
  obtain ⟨L, rfl⟩ : ∃ L : List Value, cs = L.toArray := ⟨cs.toList, by simp⟩
  obtain ⟨fuel, hf⟩ := h
  obtain ⟨xs, q, -, hx, hl, hxl, hi⟩ := DataW.trod_struct Try.underlying26 hf
  try simp only [Value.cells] at hl hi
  rw [show Try.prog.cellsOf 26 = 36 by kernel_rfl] at hl
  obtain ⟨X, r, rfl, hXl, hrl⟩ := arr_moreA (n := 4) (show L.length = 32 + 4 by simpa using hl)
  obtain ⟨b, c, e, f, rfl⟩ : ∃ b c e f, r = [b, c, e, f] := by
    match r, hrl with
    | [b, c, e, f], _ => exact ⟨b, c, e, f, rfl⟩
  obtain ⟨x0, x1, x2, x3, x4, rfl⟩ : ∃ a b c e f, xs = [a, b, c, e, f] := by
    match xs, (show xs.length = 5 by simpa using hxl) with
    | [a, b, c, e, f], _ => exact ⟨a, b, c, e, f, rfl⟩
  have e0 : DataW.trod enc Try.prog W 0 (fun _ => true) true q 22 X = some x0 := by
    have h := hi 0 _ rfl
    have e : (List.take (Try.prog.cellsOf 22) (List.drop 0 (X ++ [b, c, e, f]))) = X := by
      rw [show Try.prog.cellsOf 22 = 32 by kernel_rfl, List.drop_zero, List.take_left' hXl]
    rw [← e]
    exact h
  have hd : ∀ j, List.drop (32 + j) (X ++ [b, c, e, f]) = List.drop j [b, c, e, f] := fun j => by rw [← List.drop_drop, List.drop_left' hXl]
  have e1 : DataW.trod enc Try.prog W 0 (fun _ => true) true q 23 [b] = some x1 := by
    have h := hi 1 _ rfl
    have e : (List.take (Try.prog.cellsOf 23) (List.drop 32 (X ++ [b, c, e, f]))) = [b] := by
      rw [show Try.prog.cellsOf 23 = 1 by kernel_rfl, hd 0]; rfl
    rw [← e]
    exact h
  have e2 : DataW.trod enc Try.prog W 0 (fun _ => true) true q 24 [c] = some x2 := by
    have h := hi 2 _ rfl
    have e : (List.take (Try.prog.cellsOf 24) (List.drop 33 (X ++ [b, c, e, f]))) = [c] := by
      rw [show Try.prog.cellsOf 24 = 1 by kernel_rfl, hd 1]; rfl
    rw [← e]
    exact h
  have e3 : DataW.trod enc Try.prog W 0 (fun _ => true) true q 3 [e] = some x3 := by
    have h := hi 3 _ rfl
    have e : (List.take (Try.prog.cellsOf 3) (List.drop 34 (X ++ [b, c, e, f]))) = [e] := by
      rw [show Try.prog.cellsOf 3 = 1 by kernel_rfl, hd 2]; rfl
    rw [← e]
    exact h
  have e4 : DataW.trod enc Try.prog W 0 (fun _ => true) true q 3 [f] = some x4 := by
    have h := hi 4 _ rfl
    have e : (List.take (Try.prog.cellsOf 3) (List.drop 35 (X ++ [b, c, e, f]))) = [f] := by
      rw [show Try.prog.cellsOf 3 = 1 by kernel_rfl, hd 3]; rfl
    rw [← e]
    exact h
  obtain ⟨k, rfl, lk, bk⟩ := trod_bytes Try.underlying22 Try.underlying5 (by kernel_rfl) (by kernel_rfl) e0
  obtain ⟨i, rfl, wi⟩ := open_natA Try.underlying23 (fun n h => (bounds_u64 h).1) e1
  obtain ⟨j, rfl, wj⟩ := open_natA Try.underlying24 (fun n h => (bounds_u32 h).1) e2
  obtain ⟨u, eu, -, wu⟩ := DataW.trod_int Try.underlying3 e3
  obtain ⟨v, ev, -, wv⟩ := DataW.trod_int Try.underlying3 e4
  injection eu with eu
  injection ev with ev
  subst eu ev
  exact ⟨i, j, u, v, k, rfl, lk, bk, (bounds_u64 wi).2, (bounds_u32 wj).2, bounds_i64 wu, bounds_i64 wv⟩
end Go.Proofs.Ytokphnfhajljmaa
