/- A slice whose elements are structs: it reads as a list of rows of cells. -/
import Derived.Test.YtfhlenclnknnhaaOwn
import Derived.ProofKit
import Derived.OpenShut
import Derived.Deep.Slices
set_option linter.unusedVariables false
set_option linter.unusedSimpArgs false
namespace Go.Proofs.Ytfhlenclnknnhaa
open Go.ChangeShapes Go.WideShapes Go.ChangeAt Go.RowKit

/-- The slice v reads as these rows, of sz cells each. -/
def Slm (w : World) (v : Value) (sz : Nat) (rows : List (List Value)) : Prop :=
  ∃ A c, v = .slice A rows.length c ∧ rows.length ≤ c ∧ c ≤ maxLen ∧ (∀ r ∈ rows, r.length = sz) ∧
    (0 < rows.length → ∃ g o, A = some ⟨g, o, none⟩ ∧ ∀ i r, rows[i]? = some r → ∀ j u, r[j]? = some u → w.cell? ⟨g, o + i * sz + j, none⟩ = some u)
section
variable {w w' : World} {v : Value} {sz : Nat} {rows : List (List Value)}
theorem Slm.keep (h : Slm w v sz rows) (hb : Below w.heap.size w w') : Slm w' v sz rows := by
  obtain ⟨A, c, rfl, h1, h2, h3, h4⟩ := h
  refine ⟨A, c, rfl, h1, h2, h3, fun hp => ?_⟩
  obtain ⟨g, o, rfl, h5⟩ := h4 hp
  refine ⟨g, o, rfl, fun i r hr j u hu => ?_⟩
  have := h5 i r hr j u hu
  rw [(bcell hb).1 _ _ (cell_lt this)]; exact this
theorem Slm.at_ {A : Option Addr} {n c i : Nat} {r : List Value} (h : Slm w (.slice A n c) sz rows) (hr : rows[i]? = some r) : ∃ g o, A = some ⟨g, o, none⟩ ∧ r.length = sz ∧ w.rangeAt g (o + i * sz) r := by
  obtain ⟨A', c', e, h1, h2, h3, h4⟩ := h
  injection e with e1 e2 e3
  subst e1 e2 e3
  obtain ⟨g, o, rfl, h5⟩ := h4 (by have := (List.getElem?_eq_some_iff.1 hr).1; omega)
  exact ⟨g, o, rfl, h3 r (List.mem_of_getElem? hr), fun j u hu => h5 i r hr j u hu⟩
theorem Slm.cap {A : Option Addr} {n c : Nat} (h : Slm w (.slice A n c) sz rows) : n ≤ c ∧ c ≤ maxLen ∧ rows.length = n := by
  obtain ⟨A', c', e, h1, h2, h3, h4⟩ := h
  injection e with e1 e2 e3
  subst e1 e2 e3
  exact ⟨h1, h2, rfl⟩
end
/-- Opened. -/
theorem open_slm {H : Type} {enc : TypeId × Value → H} {P : Program} {W : World} {base t e sz : Nat} {v : Value} {d : DataW H} {p : List MemPlace} (ht : P.underlying t = some (.slice e)) (hc : P.cellsOf e = sz) (hsz : 0 < sz)
    (hv : Value.okWide P W .any base t v) (h : DataW.Trod enc P W 0 (fun _ => true) true t v d p) :
    ∃ rows : List (List Value), Slm W v sz rows ∧ ∀ r ∈ rows, ∃ n x, DataW.trod enc P W 0 (fun _ => true) true n e r = some x := by
  obtain ⟨a, len, cap, rfl⟩ := okWide_slice ht hv
  obtain ⟨fuel, hf⟩ := h
  rcases Go.Deep.open_slice ht hf with ⟨hcs, _⟩ | ⟨a', len', cap', m, n, D, Pl, hcs, hb, hl, hm, hmm, hx, hi⟩
  · simp [Value.cells] at hcs
    obtain ⟨rfl, rfl, rfl⟩ := hcs
    exact ⟨[], ⟨none, 0, rfl, Nat.le_refl _, Nat.zero_le _, by simp, fun h => absurd h (by simp)⟩, by simp⟩
  · simp [Value.cells] at hcs
    obtain ⟨rfl, rfl, rfl⟩ := hcs
    have hmlen : len ≤ m := by rw [hmm]; split <;> omega
    obtain ⟨R, hR⟩ := Go.Deep.choose_lt (α := List Value) (n := len) (p := fun i r => W.cells? 0 (a'.add (i * P.cellsOf e)) (P.cellsOf e) = some r ∧ DataW.trod enc P W 0 (fun _ => true) true n e r = some (D i, Pl i)) (fun i hil => hi i (by omega))
    refine ⟨(List.range len).map R, ⟨some a', cap, by simp, by simpa using hl, hm, ?_, ?_⟩, ?_⟩
    · intro r hr
      obtain ⟨i, hi2, rfl⟩ := List.mem_map.1 hr
      obtain ⟨h1, h2⟩ := hR i (List.mem_range.1 hi2)
      obtain ⟨_, hcl, _⟩ := World.cells?_some h1
      omega
    · intro hp
      have hlen : 0 < len := by simpa using hp
      have hspot : a'.spot = none := by
        obtain ⟨h1, _⟩ := hR 0 hlen
        obtain ⟨_, hcl0, hat0⟩ := World.cells?_some h1
        have h0 := hat0 0 (by omega)
        rw [List.getElem?_eq_getElem (by omega)] at h0
        have := World.cell?_spot h0
        simpa [Addr.add] using this
      obtain ⟨bb, o, s⟩ := a'
      obtain rfl : s = none := hspot
      refine ⟨bb, o, rfl, fun i r hr j u hu => ?_⟩
      rw [List.getElem?_map, Option.map_eq_some_iff] at hr
      obtain ⟨i', hi2, rfl⟩ := hr
      have hil : i < len := by have := (List.getElem?_eq_some_iff.1 hi2).1; simpa using this
      obtain rfl : i' = i := by
        rw [List.getElem?_range hil] at hi2
        injection hi2 with h
        exact h.symm
      obtain ⟨h1, _⟩ := hR i' hil
      obtain ⟨_, hcl, hat⟩ := World.cells?_some h1
      have hj : j < (R i').length := (List.getElem?_eq_some_iff.1 hu).1
      have := hat j (by omega)
      rw [Go.Deep.add_add, hc] at this
      have had : ∀ j, (⟨bb, o, none⟩ : Addr).add j = ⟨bb, o + j, none⟩ := fun j => by unfold Addr.add; split <;> simp_all
      rw [had] at this
      rw [Nat.add_assoc, this]
      exact hu
    · intro r hr
      obtain ⟨i, hi2, rfl⟩ := List.mem_map.1 hr
      exact ⟨n, _, (hR i (List.mem_range.1 hi2)).2⟩
end Go.Proofs.Ytfhlenclnknnhaa
