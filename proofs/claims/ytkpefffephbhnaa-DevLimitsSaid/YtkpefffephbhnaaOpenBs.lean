/- An argument that is a slice of bools, opened: it reads as a list of bools. -/
import Derived.Test.YtkpefffephbhnaaArrB
import Derived.ProofKit
import Derived.OpenShut
import Derived.Deep.Grids
set_option linter.unusedVariables false
set_option linter.unusedSimpArgs false
namespace Go.Proofs.Ytkpefffephbhnaa
open Go.ChangeShapes Go.WideShapes Go.ChangeAt Go.RowKit Go.Deep

/-- Bools as values. -/
def bbl (l : List Bool) : List Value := l.map Value.bool
theorem bbl_length (l : List Bool) : (bbl l).length = l.length := by simp [bbl]
theorem bbl_get (l : List Bool) (i : Nat) : (bbl l)[i]? = l[i]?.map Value.bool := by simp [bbl]
theorem open_bls {H : Type} {enc : TypeId × Value → H} {W : World} {base : Nat} {v : Value} {d : DataW H} {p : List MemPlace}
    (hv : Value.okWide Try.prog W .any base 40 v) (h : DataW.Trod enc Try.prog W 0 (fun _ => true) true 40 v d p) :
    ∃ l : List Bool, Sl W v (bbl l) := by
  obtain ⟨a, len, cap, rfl⟩ := okWide_slice Try.underlying40 hv
  obtain ⟨fuel, hf⟩ := h
  rcases open_bools Try.underlying40 Try.underlying4 (by kernel_rfl) hf with ⟨hcs, _⟩ | ⟨x, len', cap', B, hcs, _, hl, hm, hx, hcell⟩
  · simp [Value.cells] at hcs
    obtain ⟨rfl, rfl, rfl⟩ := hcs
    exact ⟨[], Sl.nil_ W⟩
  · simp [Value.cells] at hcs
    obtain ⟨rfl, rfl, rfl⟩ := hcs
    refine ⟨(List.range len).map B, some x, cap, ?_, ?_, hm, ?_⟩
    · simp [bbl]
    · simpa [bbl] using hl
    · intro hp
      have hlen : 0 < len := by simpa [bbl] using hp
      obtain ⟨b, o, s⟩ := x
      have hc0 := hcell 0 (by omega)
      have hs : s = none := by simpa [Addr.add] using World.cell?_spot hc0
      subst hs
      refine ⟨b, o, rfl, fun i u hu => ?_⟩
      rw [bbl_get, List.getElem?_map] at hu
      by_cases hi : i < len
      · rw [List.getElem?_range hi] at hu
        simp only [Option.map_some, Option.some.injEq] at hu
        subst hu
        have hc := hcell i (by omega)
        have ha : (⟨b, o, none⟩ : Addr).add i = ⟨b, o + i, none⟩ := by unfold Addr.add; split <;> simp_all
        rwa [ha] at hc
      · rw [List.getElem?_eq_none (by simpa using hi)] at hu
        cases hu
end Go.Proofs.Ytkpefffephbhnaa
