/- An argument that is a struct of a key, a nonce, and two fields of one cell, opened. -/
import Derived.Test.YtokphnfhajljmaaOpenB
set_option linter.unusedVariables false
set_option linter.unusedSimpArgs false
namespace Go.Proofs.Ytokphnfhajljmaa
open Go.ChangeShapes Go.WideShapes Go.ChangeAt Go.RowKit

section
variable {H : Type} {enc : TypeId × Value → H} {P : Program} {W : World} {base : Nat} {sp : Nat → Bool} {held : Bool}
theorem open_four {t t0 t1 t2 t3 : TypeId} {fs : Array Field} {v : Value} {d : DataW H} {p : List MemPlace} (hu : P.underlying t = some (.struct fs)) (hc : P.cellsOf t = 46)
    (h0 : (fs[0]?).map (fun f => (f.type, f.offset)) = some (t0, 0)) (h1 : (fs[1]?).map (fun f => (f.type, f.offset)) = some (t1, 32)) (h2 : (fs[2]?).map (fun f => (f.type, f.offset)) = some (t2, 44)) (h3 : (fs[3]?).map (fun f => (f.type, f.offset)) = some (t3, 45))
    (hs : fs.size = 4) (u0 : P.underlying t0 = some (.array 32 5)) (u1 : P.underlying t1 = some (.array 12 5)) (ue : P.underlying 5 = some (.int .u8)) (k0 : P.cellsOf t0 = 32) (k1 : P.cellsOf t1 = 12) (k2 : P.cellsOf t2 = 1) (k3 : P.cellsOf t3 = 1) (ke : P.cellsOf 5 = 1)
    (hv : Value.okWide P W .any base t v) (h : DataW.Trod enc P W 0 (fun _ => true) true t v d p) :
    ∃ (k n : List Nat) (a b : Value) (m : Nat) (x y : DataW H × List MemPlace), v = .agg (bv k ++ (bv n ++ [a, b])).toArray ∧ k.length = 32 ∧ Byt k ∧ n.length = 12 ∧ Byt n ∧
      DataW.trod enc P W 0 (fun _ => true) true m t2 [a] = some x ∧ DataW.trod enc P W 0 (fun _ => true) true m t3 [b] = some y := by
  simp only [Value.okWide, hu] at hv
  obtain ⟨cs, rfl, -⟩ := hv
  obtain ⟨L, rfl⟩ : ∃ L : List Value, cs = L.toArray := ⟨cs.toList, by simp⟩
  obtain ⟨fuel, hf⟩ := h
  obtain ⟨xs, m, rfl, -, hl, hxl, hi⟩ := DataW.trod_struct hu hf
  simp only [Value.cells] at hl hi
  rw [hc] at hl
  have get : ∀ (i : Nat) (ty off : Nat), (fs[i]?).map (fun f => (f.type, f.offset)) = some (ty, off) → i < 4 → ∃ x, DataW.trod enc P W 0 (fun _ => true) true m ty ((L.drop off).take (P.cellsOf ty)) = some x := by
    intro i ty off he hlt
    cases hq : fs[i]? with
    | none => simp [hq] at he
    | some f =>
      simp only [hq, Option.map_some, Option.some.injEq, Prod.mk.injEq] at he
      obtain ⟨rfl, rfl⟩ := he
      have := hi i f hq
      rw [List.getElem?_eq_getElem (by omega)] at this
      exact ⟨_, this⟩
  obtain ⟨x0, e0⟩ := get 0 _ _ h0 (by decide)
  obtain ⟨x1, e1⟩ := get 1 _ _ h1 (by decide)
  obtain ⟨x2, e2⟩ := get 2 _ _ h2 (by decide)
  obtain ⟨x3, e3⟩ := get 3 _ _ h3 (by decide)
  obtain ⟨k, hk, lk, bk⟩ := trod_bytes u0 ue k0 ke e0
  obtain ⟨n, hn, ln, bn⟩ := trod_bytes u1 ue k1 ke e1
  rw [k0] at hk
  rw [k1] at hn
  rw [k2] at e2
  rw [k3] at e3
  have hl' : L.length = 46 := by simpa using hl
  obtain ⟨a, ha⟩ := get_lt (l := L) (k := 44) (by omega)
  obtain ⟨b, hb⟩ := get_lt (l := L) (k := 45) (by omega)
  have ea : (L.drop 44).take 1 = [a] := by
    apply List.ext_getElem?
    intro i
    cases i with
    | zero => simp [List.getElem?_take, ha]
    | succ i => simp [List.getElem?_take]
  have eb : (L.drop 45).take 1 = [b] := by
    apply List.ext_getElem?
    intro i
    cases i with
    | zero => simp [List.getElem?_take, hb]
    | succ i => simp [List.getElem?_take]
  rw [ea] at e2
  rw [eb] at e3
  refine ⟨k, n, a, b, m, x2, x3, ?_, lk, bk, ln, bn, e2, e3⟩
  simp only [Value.agg.injEq]
  congr 1
  have d1 : L.drop 44 = [a] ++ L.drop 45 := by
    rw [← ea]
    have := (List.take_append_drop 1 (L.drop 44)).symm
    rwa [List.drop_drop] at this
  have d2 : L.drop 45 = [b] := by
    rw [← eb, List.take_of_length_le (by simp; omega)]
  have d3 : L.drop 32 = bv n ++ L.drop 44 := by
    rw [← hn]
    have := (List.take_append_drop 12 (L.drop 32)).symm
    rwa [List.drop_drop] at this
  have d4 : L = bv k ++ L.drop 32 := by
    rw [← hk, List.drop_zero]
    exact (List.take_append_drop 32 L).symm
  rw [d3, d1, d2] at d4
  simpa using d4
end
end Go.Proofs.Ytokphnfhajljmaa
