/- A row of slices of bytes that the call makes, each slice in new memory of its own. -/
import Derived.Test.YtkpefffephbhnaaOwn2
set_option linter.unusedVariables false
set_option linter.unusedSimpArgs false
namespace Go.Proofs.Ytkpefffephbhnaa
open Go.RowKit

/-- n slices: the j-th reads as F j; the row and they lie behind C, apart from each other. -/
def Rws (C : Nat) (w : World) (v : Value) (n : Nat) (F : Nat → List Nat) (rows : List Value) : Prop :=
  w.ownsRow C 22 1 v n rows ∧ rows.length = n ∧ ∀ j u, rows[j]? = some u → ∃ k c, u = .slice (some ⟨k, 0, none⟩) (F j).length c ∧ Sl w u (bv (F j)) ∧ C ≤ k ∧ k < w.heap.size ∧ v.ownBlock ≠ some k
section
variable {C n : Nat} {w w' : World} {v : Value} {F : Nat → List Nat} {rows : List Value}
theorem Rws.nil (C : Nat) (w : World) (F : Nat → List Nat) : Rws C w (.slice none 0 0) 0 F [] := ⟨World.ownsRow_nil _ _ _ _, rfl, fun j u h => by simp at h⟩
theorem Rws.keeps {G : List Nat} (h : Rws C w v n F rows) (hK : Keeps G w w') (hG : ∀ k ∈ G, k < C ∨ w.heap.size ≤ k) : Rws C w' v n F rows := by
  obtain ⟨h1, h2, h3⟩ := h
  refine ⟨own_keeps h1 hK (fun k hk hv hm => ?_), h2, fun j u hu => ?_⟩
  · have := h1.lt k hv
    rcases hG k hm with h | h <;> omega
  · obtain ⟨k, c, rfl, hs, hk, hl, hn⟩ := h3 j u hu
    refine ⟨k, c, rfl, hs.keeps hK (fun A m c' e hm => ?_), hk, Nat.lt_of_lt_of_le hl hK.size, hn⟩
    injection e with e1 e2 e3
    injection e1 with e1
    subst e1
    rcases hG k hm with h | h <;> omega
theorem Rws.keep (h : Rws C w v n F rows) (hB : Below w.heap.size w w') : Rws C w' v n F rows := h.keeps (Keeps.of_below (G := []) hB) (by simp)
theorem Rws.own (h : Rws C w v n F rows) : ∀ q ∈ v.ownBlock.toList, C ≤ q ∧ q < w.heap.size := fun q hq => by
  cases hu : v.ownBlock with
  | none => rw [hu] at hq; simp at hq
  | some r => rw [hu] at hq; simp at hq; subst hq; exact h.1.lt q hu
/-- The j-th. -/
theorem Rws.at_ {g c : Nat} (h : Rws C w (.slice (some ⟨g, 0, none⟩) n c) n F rows) {j : Nat} (hj : j < n) : ∃ k d, w.cell? ⟨g, j, none⟩ = some (.slice (some ⟨k, 0, none⟩) (F j).length d) ∧ Sl w (.slice (some ⟨k, 0, none⟩) (F j).length d) (bv (F j)) := by
  obtain ⟨h1, h2, h3⟩ := h
  obtain ⟨u, hu⟩ : ∃ u, rows[j]? = some u := ⟨_, List.getElem?_eq_getElem (by omega)⟩
  obtain ⟨k, d, rfl, hs, -⟩ := h3 j u hu
  exact ⟨k, d, by rw [h1.cellAt j (by omega)]; exact hu, hs⟩
/-- One more. -/
theorem Rws.app {o : Obj} {w2 : World} {v2 : Value} {k c m : Nat} (h : Rws C w v n F rows) (hC : C ≤ w.heap.size) (hk : C ≤ k) (hl : k < w.heap.size) (hn : v.ownBlock ≠ some k) (hm : (F n).length = m) (hs : Sl w (.slice (some ⟨k, 0, none⟩) m c) (bv (F n)))
    (own : w2.ownsRow C 22 1 v2 (n + 1) (rows ++ [.slice (some ⟨k, 0, none⟩) m c])) (hg : (w.alloc o).grownBy w2 v.ownBlock) (hmv : Moved (w.heap.size + 1) v.ownBlock v2.ownBlock) :
    Rws C w2 v2 (n + 1) F (rows ++ [.slice (some ⟨k, 0, none⟩) m c]) ∧ Keeps v.ownBlock.toList w w2 := by
  subst hm
  have hK : Keeps v.ownBlock.toList w w2 := ((Keeps.refl _ w).alloc o).trans (Keeps.grown hg)
  have hsz : w.heap.size < (w.alloc o).heap.size := by rw [World.size_alloc]; omega
  obtain ⟨h1, h2, h3⟩ := h
  refine ⟨⟨own, by simp [h2], fun j u hu => ?_⟩, hK⟩
  have key : ∀ (q : Nat) (d : Nat) (l : List Nat), C ≤ q → q < w.heap.size → v.ownBlock ≠ some q → Sl w (.slice (some ⟨q, 0, none⟩) l.length d) (bv l) → Sl w2 (.slice (some ⟨q, 0, none⟩) l.length d) (bv l) ∧ C ≤ q ∧ q < w2.heap.size ∧ v2.ownBlock ≠ some q := fun q d l a1 a2 a3 a4 =>
    ⟨a4.keeps hK (fun A m c' e hm => by
      injection e with e1 e2 e3
      injection e1 with e1
      subst e1
      cases hv : v.ownBlock with
      | none => rw [hv] at hm; simp at hm
      | some r => rw [hv] at hm; simp at hm; exact a3 (by rw [hv, hm])), a1, Nat.lt_of_lt_of_le a2 hK.size, hmv.ne (by omega) a3⟩
  rcases Nat.lt_or_ge j rows.length with hj | hj
  · rw [List.getElem?_append_left hj] at hu
    obtain ⟨q, d, rfl, b1, b2, b3, b4⟩ := h3 j u hu
    obtain ⟨c1, c2, c3, c4⟩ := key q d _ b2 b3 b4 b1
    exact ⟨q, d, rfl, c1, c2, c3, c4⟩
  · rw [List.getElem?_append_right hj] at hu
    have hj0 : j - rows.length = 0 := by
      have := (List.getElem?_eq_some_iff.1 hu).1
      simp at this; omega
    rw [hj0] at hu
    simp only [List.getElem?_cons_zero, Option.some.injEq] at hu
    subst hu
    obtain rfl : j = n := by omega
    obtain ⟨c1, c2, c3, c4⟩ := key k c _ hk hl hn hs
    exact ⟨k, c, rfl, c1, c2, c3, c4⟩
end
end Go.Proofs.Ytkpefffephbhnaa
