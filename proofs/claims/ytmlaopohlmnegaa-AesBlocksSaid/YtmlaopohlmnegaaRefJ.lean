/- The document's columns back are the program's mix, three times. -/
import Derived.Test.YtmlaopohlmnegaaRefI
import Derived.Test.YtmlaopohlmnegaaBackP
set_option linter.unusedVariables false
set_option linter.unusedSimpArgs false
namespace Go.Proofs.PlainAes
def N4 (q : Nat × Nat × Nat × Nat) : Nat × Nat × Nat × Nat :=
  (mul 14 q.1 ^^^ mul 11 q.2.1 ^^^ mul 13 q.2.2.1 ^^^ mul 9 q.2.2.2, mul 14 q.2.1 ^^^ mul 11 q.2.2.1 ^^^ mul 13 q.2.2.2 ^^^ mul 9 q.1,
   mul 14 q.2.2.1 ^^^ mul 11 q.2.2.2 ^^^ mul 13 q.1 ^^^ mul 9 q.2.1, mul 14 q.2.2.2 ^^^ mul 11 q.1 ^^^ mul 13 q.2.1 ^^^ mul 9 q.2.2.1)
theorem M12_add {p q : Nat × Nat × Nat × Nat} (hp : B4 p) (hq : B4 q) : M4 (M4 (M4 (X4 p q))) = X4 (M4 (M4 (M4 p))) (M4 (M4 (M4 q))) := by
  rw [M4_add hp hq, M4_add (M4_lt hp) (M4_lt hq), M4_add (M4_lt (M4_lt hp)) (M4_lt (M4_lt hq))]
theorem xs16 (a b c d a' b' c' d' : Nat) : (a ^^^ a') ^^^ (b ^^^ b') ^^^ (c ^^^ c') ^^^ (d ^^^ d') = (a ^^^ b ^^^ c ^^^ d) ^^^ (a' ^^^ b' ^^^ c' ^^^ d') := xs4 a b c d a' b' c' d'
theorem N4_add (p q : Nat × Nat × Nat × Nat) : N4 (X4 p q) = X4 (N4 p) (N4 q) := by
  unfold N4 X4
  simp only [mul_right, Prod.mk.injEq]
  exact ⟨xs16 _ _ _ _ _ _ _ _, xs16 _ _ _ _ _ _ _ _, xs16 _ _ _ _ _ _ _ _, xs16 _ _ _ _ _ _ _ _⟩
theorem unit3 : (List.range 256).all (fun b => decide (M4 (M4 (M4 (b, 0, 0, 0))) = N4 (b, 0, 0, 0)) && decide (M4 (M4 (M4 (0, b, 0, 0))) = N4 (0, b, 0, 0)) &&
    decide (M4 (M4 (M4 (0, 0, b, 0))) = N4 (0, 0, b, 0)) && decide (M4 (M4 (M4 (0, 0, 0, b))) = N4 (0, 0, 0, b))) = true := by decide +kernel
theorem M4_three {q : Nat × Nat × Nat × Nat} (h : B4 q) : M4 (M4 (M4 q)) = N4 q := by
  obtain ⟨a, b, c, d⟩ := q
  obtain ⟨h1, h2, h3, h4⟩ := h
  simp only at h1 h2 h3 h4
  have u : ∀ b, b < 256 → (M4 (M4 (M4 (b, 0, 0, 0))) = N4 (b, 0, 0, 0) ∧ M4 (M4 (M4 (0, b, 0, 0))) = N4 (0, b, 0, 0)) ∧ (M4 (M4 (M4 (0, 0, b, 0))) = N4 (0, 0, b, 0) ∧ M4 (M4 (M4 (0, 0, 0, b))) = N4 (0, 0, 0, b)) := by
    intro b hb
    have := List.all_eq_true.1 unit3 b (List.mem_range.2 hb)
    simp only [Bool.and_eq_true, decide_eq_true_eq] at this
    exact ⟨⟨this.1.1.1, this.1.1.2⟩, this.1.2, this.2⟩
  have e : (a, b, c, d) = X4 (X4 (a, 0, 0, 0) (0, b, 0, 0)) (X4 (0, 0, c, 0) (0, 0, 0, d)) := by simp [X4]
  have z : (0 : Nat) < 256 := by decide
  have b1 : B4 (a, 0, 0, 0) := ⟨h1, z, z, z⟩
  have b2 : B4 (0, b, 0, 0) := ⟨z, h2, z, z⟩
  have b3 : B4 (0, 0, c, 0) := ⟨z, z, h3, z⟩
  have b4 : B4 (0, 0, 0, d) := ⟨z, z, z, h4⟩
  rw [e, M12_add (X4_lt b1 b2) (X4_lt b3 b4), M12_add b1 b2, M12_add b3 b4, (u a h1).1.1, (u b h2).1.2, (u c h3).2.1, (u d h4).2.2, ← N4_add, ← N4_add, ← N4_add]
theorem colL_unmix (b : List Nat) (hb : ∀ x ∈ b, x < 256) : colL [14, 11, 13, 9] b = mix (mix (mix b)) := by
  have hl : (mix (mix (mix b))).length = 16 := by simp [mix]
  have key : ∀ c, c < 4 → col (mix (mix (mix b))) (4 * c) = N4 (col b (4 * c)) := fun c hc => by
    rw [col_mix _ (by omega) (by omega), col_mix _ (by omega) (by omega), col_mix _ (by omega) (by omega), M4_three (col_lt hb _)]
  unfold colL
  refine (mk_eq _ hl (fun p hp => ?_)).symm
  obtain ⟨c, i, hc, hi, rfl⟩ : ∃ c i, c < 4 ∧ i < 4 ∧ p = 4 * c + i := ⟨p / 4, p % 4, by omega, by omega, by omega⟩
  have k := key c hc
  unfold col N4 at k
  simp only [Prod.mk.injEq] at k
  obtain ⟨k1, k2, k3, k4⟩ := k
  rw [show (4 * c + i) / 4 = c from by omega, show (4 * c + i) % 4 = i from by omega]
  have e : colK [14, 11, 13, 9] b c i 4 = (((0 ^^^ mul 14 (gd b (4 * c + (i + 0) % 4))) ^^^ mul 11 (gd b (4 * c + (i + 1) % 4))) ^^^ mul 13 (gd b (4 * c + (i + 2) % 4))) ^^^ mul 9 (gd b (4 * c + (i + 3) % 4)) := rfl
  rw [e, Nat.zero_xor]
  rcases (by omega : i = 0 ∨ i = 1 ∨ i = 2 ∨ i = 3) with rfl | rfl | rfl | rfl
  · exact k1
  · exact k2
  · exact k3
  · exact k4
end Go.Proofs.PlainAes
