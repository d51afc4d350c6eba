/- Cuts of slices; a store into a row of the call's own. -/
import Derived.Test.YtfhlenclnknnhaaOwn
set_option linter.unusedVariables false
set_option linter.unusedSimpArgs false
namespace Go.Proofs.Ytfhlenclnknnhaa
open Go.RowKit
theorem Sl.head {w : World} {A : Option Addr} {m c i : Nat} {xs : List Value} (h : Sl w (.slice A m c) xs) (hl : xs.length = m) (hi : i ≤ m) : Sl w (.slice A i c) (xs.take i) := by
  obtain ⟨A', c', e, h1, h2, h3⟩ := h
  injection e with e1 e2 e3
  subst e1 e3
  have hd : (xs.take i).length = i := by simp; omega
  refine ⟨A, c, by rw [hd], by omega, h2, fun hp => ?_⟩
  obtain ⟨g, o, rfl, hc⟩ := h3 (by omega)
  refine ⟨g, o, rfl, fun t u hu => hc t u ?_⟩
  rw [List.getElem?_take] at hu
  by_cases ht : t < i
  · rwa [if_pos ht] at hu
  · rw [if_neg ht] at hu; cases hu
theorem bv_take (l : List Nat) (i : Nat) : (bv l).take i = bv (l.take i) := by simp [bv]
theorem Sl.tail {w : World} {A : Option Addr} {i j c : Nat} {xs : List Value} (h : Sl w (.slice A (i + j) c) xs) (hl : xs.length = i + j) : Sl w (.slice (A.map fun x => x.add i) j (c - i)) (xs.drop i) := by
  obtain ⟨A', c', e, h1, h2, h3⟩ := h
  injection e with e1 e2 e3
  subst e1 e3
  have hd : (xs.drop i).length = j := by simp; omega
  refine ⟨_, _, by rw [hd], by omega, by omega, fun hp => ?_⟩
  obtain ⟨g, o, rfl, hc⟩ := h3 (by omega)
  refine ⟨g, o + i, ?_, fun t u hu => ?_⟩
  · have : (⟨g, o, none⟩ : Addr).add i = ⟨g, o + i, none⟩ := by unfold Addr.add; split <;> simp_all
    simp [this]
  · rw [List.getElem?_drop] at hu
    rw [Nat.add_assoc]
    exact hc (i + t) u hu
theorem Sl.tail0 {w : World} {A : Option Addr} {i j c : Nat} {xs : List Value} (h : Sl w (.slice A (i + j) c) xs) (hl : xs.length = i + j) (hc : c = i) : Sl w (.slice A j 0) (xs.drop i) := by
  obtain ⟨A', c', e, h1, h2, h3⟩ := h
  injection e with e1 e2 e3
  subst e1 e3
  have hj : j = 0 := by omega
  subst hj
  have hx : xs.drop i = [] := List.drop_eq_nil_of_le (by omega)
  rw [hx]
  exact ⟨_, _, rfl, Nat.zero_le _, by omega, fun h => absurd h (by simp)⟩
theorem bv_drop (l : List Nat) (i : Nat) : (bv l).drop i = bv (l.drop i) := by simp [bv]
theorem own_set {b : Nat} {w : World} {e : TypeId} {A : Option Addr} {n c : Nat} {xs : List Value} (h : w.ownsRow b e 1 (.slice A n c) n xs) {i : Nat} (hi : i < n) :
    ∃ g, A = some ⟨g, 0, none⟩ ∧ b ≤ g ∧ g < w.heap.size ∧ w.frozen? ⟨g, i, none⟩ = false ∧ w.cell? ⟨g, i, none⟩ = xs[i]? ∧ ∀ u, (w.setCell ⟨g, i, none⟩ u).ownsRow b e 1 (.slice A n c) n (xs.set i u) ∧ Keeps [g] w (w.setCell ⟨g, i, none⟩ u) := by
  obtain ⟨h1, h2⟩ := h
  rcases h2 with ⟨-, h0⟩ | ⟨g, cap, cur, e1, hb, hg, hn, hm, hs, ht⟩
  · omega
  injection e1 with e1 e2 e3
  subst e1 e3
  have hB : Blk w g e cur.toList := hg
  refine ⟨g, rfl, hb, hB.lt, hB.frozen i, ?_, fun u => ⟨⟨by simpa using h1, .inr ⟨g, c, (cur.toList.set i u).toArray, rfl, hb, hB.set_ i u, hn, hm, by simpa using hs, ?_⟩⟩, (Keeps.refl [g] w).setCell (by simp) u⟩⟩
  · rw [hB.cell, ← ht, List.getElem?_take_of_lt (by omega)]
  · rw [← ht, List.take_set]
theorem own_nil {b : Nat} {w : World} {e : TypeId} {A : Option Addr} {n c : Nat} {xs : List Value} (h : w.ownsRow b e 1 (.slice A n c) n xs) : n ≤ c ∧ c ≤ maxLen ∧ ∀ a, A = some a → b ≤ a.block ∧ a.block < w.heap.size := by
  obtain ⟨h1, h2⟩ := h
  rcases h2 with ⟨e1, h0⟩ | ⟨g, cap, cur, e1, hb, hg, hn, hm, hs, ht⟩
  · injection e1 with e1 e2 e3
    subst e1 e2 e3
    exact ⟨Nat.le_refl _, Nat.zero_le _, by simp⟩
  · injection e1 with e1 e2 e3
    subst e1 e3
    have hB : Blk w g e cur.toList := hg
    exact ⟨hn, hm, fun a e => by injection e with e; subst e; exact ⟨hb, hB.lt⟩⟩
end Go.Proofs.Ytfhlenclnknnhaa
