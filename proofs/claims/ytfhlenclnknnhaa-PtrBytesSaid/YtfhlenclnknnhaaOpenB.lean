/- An argument that is an array of bytes, opened. -/
import Derived.Test.YtfhlenclnknnhaaArrB
import Derived.ProofKit
import Derived.OpenShut
import Derived.WideKeyArr2
set_option linter.unusedVariables false
set_option linter.unusedSimpArgs false
namespace Go.Proofs.Ytfhlenclnknnhaa
open Go.ChangeShapes Go.WideShapes Go.ChangeAt Go.RowKit

section
variable {H : Type} {enc : TypeId × Value → H} {P : Program} {W : World} {base : Nat} {sp : Nat → Bool} {held : Bool}
/-- Cells that read as an array of bytes. -/
theorem trod_bytes {t e n fuel : Nat} {cs : List Value} {x : DataW H × List MemPlace} (hu : P.underlying t = some (.array n e)) (he : P.underlying e = some (.int .u8)) (hc : P.cellsOf t = n) (hce : P.cellsOf e = 1)
    (h : DataW.trod enc P W base sp held fuel t cs = some x) : ∃ l : List Nat, cs = bv l ∧ l.length = n ∧ Byt l := by
  obtain ⟨xs, m, rfl, -, hl, hxl, hi⟩ := DataW.trod_array hu h
  rw [hc] at hl
  have hcell : ∀ i, i < n → ∃ a : Nat, cs[i]? = some (.int .u8 (a : Int)) ∧ a < 256 := by
    intro i hi'
    have h1 := hi i hi'
    rw [hce, Nat.mul_one, List.getElem?_eq_getElem (by omega)] at h1
    obtain ⟨a, ea, -, wa⟩ := DataW.trod_int he h1
    have hb := bounds_u8 wa
    obtain ⟨b, rfl⟩ := Int.eq_ofNat_of_zero_le hb.1
    refine ⟨b, ?_, by omega⟩
    have h2 : ((cs.drop i).take 1)[0]? = some (.int .u8 (b : Int)) := by rw [ea]; rfl
    rw [List.getElem?_take, if_pos (by decide), List.getElem?_drop, Nat.add_zero] at h2
    exact h2
  refine ⟨cs.map fun v => match v with | .int _ k => k.toNat | _ => 0, ?_, by simpa using hl, ?_⟩
  · apply List.ext_getElem?
    intro i
    rw [bv_get, List.getElem?_map]
    rcases Nat.lt_or_ge i n with hi' | hi'
    · obtain ⟨a, ha, -⟩ := hcell i hi'
      rw [ha]; simp
    · rw [List.getElem?_eq_none (by omega)]; rfl
  · intro b hb
    obtain ⟨v, hv, rfl⟩ := List.mem_map.1 hb
    obtain ⟨i, hi'⟩ := List.getElem?_of_mem hv
    have hlt : i < n := by have := (List.getElem?_eq_some_iff.1 hi').1; omega
    obtain ⟨a, ha, hlt'⟩ := hcell i hlt
    rw [ha] at hi'
    cases hi'
    simpa using hlt'
theorem open_barr {t e n : Nat} {v : Value} {d : DataW H} {p : List MemPlace} (hu : P.underlying t = some (.array n e)) (he : P.underlying e = some (.int .u8)) (hc : P.cellsOf t = n) (hce : P.cellsOf e = 1)
    (hv : Value.okWide P W .any base t v) (h : DataW.Trod enc P W 0 (fun _ => true) true t v d p) : ∃ l : List Nat, v = .agg (bv l).toArray ∧ l.length = n ∧ Byt l := by
  simp only [Value.okWide, hu] at hv
  obtain ⟨cs, rfl, h2, _⟩ := hv
  obtain ⟨fuel, hf⟩ := h
  obtain ⟨l, hl, h3, h4⟩ := trod_bytes hu he hc hce hf
  refine ⟨l, ?_, h3, h4⟩
  simp only [Value.cells] at hl
  rw [← hl]
end
end Go.Proofs.Ytfhlenclnknnhaa
