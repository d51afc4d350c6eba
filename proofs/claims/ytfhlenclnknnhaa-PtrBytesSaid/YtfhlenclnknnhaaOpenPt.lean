/- A pointer's record, opened. -/
import Derived.Test.YtfhlenclnknnhaaPtR
import Derived.Test.YtfhlenclnknnhaaOpenB
set_option linter.unusedVariables false
set_option linter.unusedSimpArgs false
namespace Go.Proofs.Ytfhlenclnknnhaa
open Go.ChangeShapes Go.WideShapes Go.ChangeAt Go.RowKit
open Go.Proofs.PlainPtr

theorem open_natZ {H : Type} {enc : TypeId × Value → H} {P : Program} {W : World} {m t : Nat} {k : IntKind} {v : Value} {x : DataW H × List MemPlace} (hu : P.underlying t = some (.int k)) (h0 : ∀ n : Int, (Lit.int k n).wf = true → 0 ≤ n) (hf : DataW.trod enc P W 0 (fun _ => true) true m t [v] = some x) :
    ∃ a : Nat, v = .int k (a : Int) ∧ (Lit.int k (a : Int)).wf = true := by
  obtain ⟨i, ei, -, wi⟩ := DataW.trod_int hu hf
  obtain ⟨a, rfl⟩ := Int.eq_ofNat_of_zero_le (h0 i wi)
  injection ei with ei
  exact ⟨a, ei, wi⟩
theorem arr_two {α : Type} {l : List α} {n m : Nat} (h : l.length = n + m) : ∃ X r, l = X ++ r ∧ X.length = n ∧ r.length = m := ⟨l.take n, l.drop n, (List.take_append_drop n l).symm, by simp [h], by simp [h]⟩
theorem two_of {α : Type} {l : List α} (h : l.length = 2) : ∃ u v, l = [u, v] := by
  match l, h with
  | [u, v], _ => exact ⟨u, v, rfl⟩
/-- A pointer's cells, opened. -/
theorem open_pt1 {H : Type} {enc : TypeId × Value → H} {W : World} {m : Nat} {Y : List Value} {x : DataW H × List MemPlace} (hf : DataW.trod enc Try.prog W 0 (fun _ => true) true m 27 Y = some x) :
    ∃ p : PtrD, Y = pcl p ∧ PtOk p := by
  obtain ⟨xs, q, -, -, hl, hxl, hi⟩ := DataW.trod_struct Try.underlying27 hf
  rw [show Try.prog.cellsOf 27 = 34 by kernel_rfl] at hl
  obtain ⟨p2, Z, rfl, h2, hZ⟩ := arr_two (n := 2) (m := 32) (show Y.length = 2 + 32 from hl)
  obtain ⟨u, v, rfl⟩ := two_of h2
  change DataW.trod enc Try.prog W 0 (fun _ => true) true m 27 (u :: v :: Z) = some x at hf
  obtain ⟨x0, x1, x2, rfl⟩ : ∃ a b c, xs = [a, b, c] := by
    match xs, (show xs.length = 3 by simpa using hxl) with
    | [a, b, c], _ => exact ⟨a, b, c, rfl⟩
  have e0 : DataW.trod enc Try.prog W 0 (fun _ => true) true q 22 [u] = some x0 := by
    have h := hi 0 _ rfl
    have e : (List.take (Try.prog.cellsOf 22) (List.drop 0 (u :: v :: Z))) = [u] := by
      rw [show Try.prog.cellsOf 22 = 1 by kernel_rfl]; rfl
    rw [← e]
    exact h
  have e1 : DataW.trod enc Try.prog W 0 (fun _ => true) true q 23 [v] = some x1 := by
    have h := hi 1 _ rfl
    have e : (List.take (Try.prog.cellsOf 23) (List.drop 1 (u :: v :: Z))) = [v] := by
      rw [show Try.prog.cellsOf 23 = 1 by kernel_rfl]; rfl
    rw [← e]
    exact h
  have e2 : DataW.trod enc Try.prog W 0 (fun _ => true) true q 25 Z = some x2 := by
    have h := hi 2 _ rfl
    have e : (List.take (Try.prog.cellsOf 25) (List.drop 2 (u :: v :: Z))) = Z := by
      rw [show Try.prog.cellsOf 25 = 32 by kernel_rfl, show List.drop 2 (u :: v :: Z) = Z from rfl, List.take_of_length_le (by omega)]
    rw [← e]
    exact h
  obtain ⟨s, rfl, ls, bs⟩ := trod_bytes Try.underlying25 Try.underlying5 (by kernel_rfl) (by kernel_rfl) e2
  obtain ⟨i, rfl, wi⟩ := open_natZ Try.underlying22 (fun n h => (bounds_u32 h).1) e0
  obtain ⟨j, rfl, wj⟩ := open_natZ Try.underlying23 (fun n h => (bounds_u64 h).1) e1
  exact ⟨⟨i, j, s⟩, rfl, (bounds_u32 wi).2, (bounds_u64 wj).2, ls, bs⟩

set_option maxRecDepth 100000 in
theorem open_pt {H : Type} {enc : TypeId × Value → H} {W : World} {base : Nat} {v : Value} {d : DataW H} {p : List MemPlace} (hv : Value.okWide Try.prog W .any base 27 v) (h : DataW.Trod enc Try.prog W 0 (fun _ => true) true 27 v d p) :
    ∃ q : PtrD, v = .agg (pcl q).toArray ∧ PtOk q := by
  simp only [Value.okWide, Try.underlying27] at hv
  obtain ⟨cs, rfl, -⟩ := hv
  obtain ⟨L, rfl⟩ : ∃ L : List Value, cs = L.toArray := ⟨cs.toList, by simp⟩
  obtain ⟨fuel, hf⟩ := h
  simp only [Value.cells] at hf
  obtain ⟨q, e, hq⟩ := open_pt1 hf
  exact ⟨q, by rw [← e], hq⟩
end Go.Proofs.Ytfhlenclnknnhaa
