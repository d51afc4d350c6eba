/- Rows of the call's own, kept and read; parts of slices. -/
import Derived.Test.YtfhlenclnknnhaaApp
import Derived.Test.YtfhlenclnknnhaaArr
import Derived.Deep.MidRow
set_option linter.unusedVariables false
set_option linter.unusedSimpArgs false
namespace Go.Proofs.Ytfhlenclnknnhaa
open Go.RowKit

theorem ownsRow_mono {b b' : Nat} {w : World} {e : TypeId} {v : Value} {n : Nat} {xs : List Value} (h : w.ownsRow b e 1 v n xs) (hb : b' ≤ b) : w.ownsRow b' e 1 v n xs := by
  obtain ⟨h1, h2⟩ := h
  refine ⟨h1, ?_⟩
  rcases h2 with h | ⟨g, cap, cur, a, hb2, r⟩
  · exact .inl h
  · exact .inr ⟨g, cap, cur, a, by omega, r⟩
theorem own_keep {b : Nat} {w w' : World} {e : TypeId} {v : Value} {n : Nat} {xs : List Value} (h : w.ownsRow b e 1 v n xs) (hB : Below w.heap.size w w') : w'.ownsRow b e 1 v n xs := by
  obtain ⟨h1, h2⟩ := h
  refine ⟨h1, ?_⟩
  rcases h2 with h | ⟨g, cap, cur, a, hb2, hg, r⟩
  · exact .inl h
  · exact .inr ⟨g, cap, cur, a, hb2, (hB.block g (by obtain ⟨h, _⟩ := Array.getElem?_eq_some_iff.1 hg; exact h)).trans hg, r⟩
theorem own_form {b : Nat} {w : World} {e : TypeId} {v : Value} {n : Nat} {xs : List Value} (h : w.ownsRow b e 1 v n xs) (hn : 0 < n) : ∃ g c, v = .slice (some ⟨g, 0, none⟩) n c ∧ n ≤ c ∧ c ≤ maxLen := by
  rcases h.2 with ⟨rfl, h0⟩ | ⟨g, cap, cur, rfl, hb2, hg, h3, h4, _⟩
  · omega
  · exact ⟨g, cap, rfl, h3, h4⟩
theorem own_part {b w_g n c : Nat} {w : World} {e : TypeId} {xs : List Value} (h : w.ownsRow b e 1 (.slice (some ⟨w_g, 0, none⟩) n c) n xs) (o m : Nat) (hm : o + m ≤ n) (hc : c ≤ maxLen) (hn : n ≤ c) :
    Sl w (.slice (some ⟨w_g, o, none⟩) m (c - o)) ((xs.drop o).take m) := by
  have hl : xs.length = n := by simpa using h.1
  have hl2 : ((xs.drop o).take m).length = m := by simp [hl]; omega
  refine ⟨some ⟨w_g, o, none⟩, c - o, by rw [hl2], by rw [hl2]; omega, by omega, fun _ => ⟨w_g, o, rfl, fun i u hu => ?_⟩⟩
  have hi : i < m := by
    obtain ⟨h, _⟩ := List.getElem?_eq_some_iff.1 hu
    omega
  rw [h.cellAt (o + i) (by omega), ← hu, List.getElem?_take_of_lt hi, List.getElem?_drop]

/-- A part of a slice. -/
theorem Sl.part {w : World} {A : Option Addr} {n c : Nat} {xs : List Value} (h : Sl w (.slice A n c) xs) (o m : Nat) (hm : 0 < m) (ho : o + m ≤ n) (hn : xs.length = n) :
    ∃ g p, A = some ⟨g, p, none⟩ ∧ Sl w (.slice (some ⟨g, p + o, none⟩) m (c - o)) ((xs.drop o).take m) := by
  obtain ⟨A', c', e, h1, h2, h3⟩ := h
  injection e with e1 e2 e3
  subst e1 e3
  obtain ⟨g, p, rfl, hc⟩ := h3 (by omega)
  refine ⟨g, p, rfl, some ⟨g, p + o, none⟩, c - o, ?_, ?_, by omega, fun _ => ⟨g, p + o, rfl, fun i u hu => ?_⟩⟩
  · congr 1; simp; omega
  · simp; omega
  · rw [List.getElem?_take] at hu
    split at hu
    · rw [List.getElem?_drop] at hu
      have := hc _ _ hu
      rwa [Nat.add_assoc]
    · cases hu

theorem Sl.cap {w : World} {A : Option Addr} {n c : Nat} {xs : List Value} (h : Sl w (.slice A n c) xs) : n ≤ c ∧ c ≤ maxLen ∧ xs.length = n := by
  obtain ⟨A', c', e, h1, h2, h3⟩ := h
  injection e with e1 e2 e3
  subst e1 e2 e3
  exact ⟨h1, h2, rfl⟩

theorem Sl.at_ {w : World} {A : Option Addr} {n c k : Nat} {xs : List Value} {u : Value} (h : Sl w (.slice A n c) xs) (hk : xs[k]? = some u) : ∃ g o, A = some ⟨g, o, none⟩ ∧ w.cell? ⟨g, o + k, none⟩ = some u := by
  obtain ⟨A', c', e, h1, h2, h3⟩ := h
  injection e with e1 e2 e3
  subst e1 e2 e3
  obtain ⟨g, o, rfl, hc⟩ := h3 (by have := (List.getElem?_eq_some_iff.1 hk).1; omega)
  exact ⟨g, o, rfl, hc _ _ hk⟩
/-- Cells that lie one behind the other. -/
def At (w : World) (g o : Nat) (xs : List Value) : Prop := ∀ i u, xs[i]? = some u → w.cell? ⟨g, o + i, none⟩ = some u
theorem At.keep {w w' : World} {g o : Nat} {xs : List Value} (h : At w g o xs) (hb : Below w.heap.size w w') : At w' g o xs := fun i u hu => by
  have := h i u hu
  rw [(bcell hb).1 _ _ (cell_lt this)]; exact this
theorem At.of_blk {w : World} {g t : Nat} {cs : List Value} (h : Blk w g t cs) (o n : Nat) : At w g o ((cs.drop o).take n) := fun i u hu => by
  rw [List.getElem?_take] at hu
  split at hu
  · rw [List.getElem?_drop] at hu
    rw [h.cell]; exact hu
  · cases hu
theorem Keeps.grown {w w' : World} {r : Option Nat} (h : w.grownBy w' r) : Keeps r.toList w w' :=
  ⟨h.os, h.tape, h.output, h.size, fun b hb hr => h.block b hb (by cases r <;> simp_all)⟩
theorem own_keeps {b : Nat} {G : List Nat} {w w' : World} {e : TypeId} {v : Value} {n : Nat} {xs : List Value} (h : w.ownsRow b e 1 v n xs) (hK : Keeps G w w') (hG : ∀ k, b ≤ k → v.ownBlock = some k → k ∉ G) : w'.ownsRow b e 1 v n xs := by
  have hl := h.lt
  obtain ⟨h1, h2⟩ := h
  refine ⟨h1, ?_⟩
  rcases h2 with h | ⟨g, cap, cur, rfl, hb2, hg, r⟩
  · exact .inl h
  · exact .inr ⟨g, cap, cur, rfl, hb2, (hK.block g (hl g rfl).2 (hG g hb2 rfl)).trans hg, r⟩
theorem hSS {w : World} {g t m : Nat} {l : List Value} (h : Blk w g t l) (hl : l.length = m) : w.rangeAt g 0 l := fun j v hv => by rw [h.cell, Nat.zero_add, hv]
end Go.Proofs.Ytfhlenclnknnhaa
