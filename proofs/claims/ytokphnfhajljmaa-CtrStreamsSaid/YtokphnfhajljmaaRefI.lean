/- The document's columns are the program's mix. -/
import Derived.Test.YtokphnfhajljmaaRefH
set_option linter.unusedVariables false
set_option linter.unusedSimpArgs false
namespace Go.Proofs.PlainAes
theorem mul2 : ∀ x, x < 256 → mul 2 x = dbl x := cases8 (by decide +kernel)
theorem mul3 : ∀ x, x < 256 → mul 3 x = dbl x ^^^ x := cases8 (by decide +kernel)
theorem mul1 : ∀ x, x < 256 → mul 1 x = x := cases8 (by decide +kernel)
theorem colK_mix (b : List Nat) (hb : ∀ x ∈ b, x < 256) (c i : Nat) (hi : i < 4) : colK [2, 3, 1, 1] b c i 4 = mixAt b (4 * c + i) := by
  have hx := fun j => gd_lt hb j
  have e : colK [2, 3, 1, 1] b c i 4 = (((0 ^^^ mul 2 (gd b (4 * c + (i + 0) % 4))) ^^^ mul 3 (gd b (4 * c + (i + 1) % 4))) ^^^ mul 1 (gd b (4 * c + (i + 2) % 4))) ^^^ mul 1 (gd b (4 * c + (i + 3) % 4)) := rfl
  rw [e, mul2 _ (hx _), mul3 _ (hx _), mul1 _ (hx _), mul1 _ (hx _)]
  unfold mixAt all4
  rw [show (4 * c + i) / 4 * 4 = 4 * c from by omega, show (4 * c + i) % 4 = i from by omega, dbl_xor (hx _) (hx _)]
  rcases (by omega : i = 0 ∨ i = 1 ∨ i = 2 ∨ i = 3) with rfl | rfl | rfl | rfl
  all_goals
    simp only [Nat.add_zero, Nat.zero_xor, Nat.reduceAdd, Nat.reduceMod]
    generalize gd b (4 * c) = p
    generalize gd b (4 * c + 1) = q
    generalize gd b (4 * c + 2) = r
    generalize gd b (4 * c + 3) = s
    apply Nat.eq_of_testBit_eq
    intro j
    simp only [Nat.testBit_xor]
    cases (dbl p).testBit j <;> cases (dbl q).testBit j <;> cases (dbl r).testBit j <;> cases (dbl s).testBit j <;> cases p.testBit j <;> cases q.testBit j <;> cases r.testBit j <;> cases s.testBit j <;> rfl
theorem colL_mix (b : List Nat) (hb : ∀ x ∈ b, x < 256) : colL [2, 3, 1, 1] b = mix b := by
  unfold colL mix mk
  refine List.map_congr_left (fun p hp => ?_)
  rw [colK_mix b hb _ _ (Nat.mod_lt _ (by decide))]
  congr 1
  omega
end Go.Proofs.PlainAes
