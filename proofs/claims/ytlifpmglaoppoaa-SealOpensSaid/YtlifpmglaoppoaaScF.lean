/- Plain laws for banyanref02's block. -/
import Derived.Test.YtlifpmglaoppoaaScD
set_option linter.unusedVariables false
set_option linter.unusedSimpArgs false
namespace Go.Proofs.Ytlifpmglaoppoaa
open Go.RowKit
open Go.Proofs.PlainAes
open Go.Proofs.PlainSha

theorem not_bit {x : Nat} (hx : x < 4294967296) (i : Nat) : (4294967295 - x).testBit i = (decide (i < 32) && !x.testBit i) := by
  have h := Nat.testBit_two_pow_sub_succ (x := x) (n := 32) hx i
  rw [show 4294967295 - x = 2 ^ 32 - (x + 1) by omega, h]
theorem ch_form {x y z : Nat} (hx : x < 4294967296) (hy : y < 4294967296) (hz : z < 4294967296) : (x &&& y) ||| ((4294967295 - x) &&& z) = z ^^^ (x &&& (y ^^^ z)) := by
  apply Nat.eq_of_testBit_eq
  intro i
  simp only [Nat.testBit_or, Nat.testBit_and, Nat.testBit_xor, not_bit hx]
  by_cases hi : i < 32
  · simp only [hi, decide_true, Bool.true_and]
    cases x.testBit i <;> cases y.testBit i <;> cases z.testBit i <;> rfl
  · have h1 : z.testBit i = false := Nat.testBit_lt_two_pow (Nat.lt_of_lt_of_le hz (by have := Nat.pow_le_pow_right (show 0 < 2 by decide) (show 32 ≤ i by omega); omega))
    have h2 : y.testBit i = false := Nat.testBit_lt_two_pow (Nat.lt_of_lt_of_le hy (by have := Nat.pow_le_pow_right (show 0 < 2 by decide) (show 32 ≤ i by omega); omega))
    rw [h1, h2]
    simp
theorem maj_form (x y z : Nat) : ((x &&& y) ||| (x &&& z)) ||| (y &&& z) = (x &&& (y ||| z)) ||| (y &&& z) := by
  rw [Nat.and_or_distrib_left]
theorem not32 {x : Nat} (hx : x < 4294967296) : bits .xor .u32 (x : Int) 4294967295 = ((4294967295 - x : Nat) : Int) := by
  have h := (x32 hx (show 4294967295 < 4294967296 by decide)).1
  have e : x ^^^ 4294967295 = 4294967295 - x := by
    apply Nat.eq_of_testBit_eq
    intro i
    rw [Nat.testBit_xor, not_bit hx, show (4294967295 : Nat) = 2 ^ 32 - 1 by decide, Nat.testBit_two_pow_sub_one]
    by_cases hi : i < 32
    · simp [hi]
    · have h1 : x.testBit i = false := Nat.testBit_lt_two_pow (Nat.lt_of_lt_of_le hx (by have := Nat.pow_le_pow_right (show 0 < 2 by decide) (show 32 ≤ i by omega); omega))
      simp [hi, h1]
  rw [e] at h
  exact h
end Go.Proofs.Ytlifpmglaoppoaa
