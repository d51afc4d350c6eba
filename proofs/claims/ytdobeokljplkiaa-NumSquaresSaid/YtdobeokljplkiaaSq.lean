/- Plain laws on the roots of squares and cubes. -/
import Derived.Test.YtdobeokljplkiaaRoot
namespace Go.Proofs.PlainRoot
theorem t2_lt {p : Nat} (hp : p ≤ 65535) : p * 2 ^ (32 * 2) < (2 ^ 41) ^ 2 := by omega
theorem t3_lt {p : Nat} (hp : p ≤ 65535) : p * 2 ^ (32 * 3) < (2 ^ 41) ^ 3 := by omega

theorem frac_square {n : Nat} (hn : n * n ≤ 65535) : frac (n * n) 2 = 0 := by
  have h : fr (n * n * 2 ^ (32 * 2)) 2 41 0 = n * 4294967296 := by
    refine fr_eq (by omega) (t2_lt hn) ?_ ?_
    · rw [Nat.pow_two, Nat.mul_mul_mul_comm]; omega
    · rw [Nat.pow_two, Nat.add_mul, Nat.mul_add, Nat.mul_mul_mul_comm]; omega
  rw [frac, h]; omega

theorem frac_cube {n : Nat} (hn : n * n * n ≤ 65535) : frac (n * n * n) 3 = 0 := by
  have h : fr (n * n * n * 2 ^ (32 * 3)) 3 41 0 = n * 4294967296 := by
    have e : (n * 4294967296) ^ 3 = n * n * n * 2 ^ (32 * 3) := by
      rw [Nat.mul_pow, show n ^ 3 = n * n * n from by rw [Nat.pow_succ, Nat.pow_two]]
    refine fr_eq (by omega) (t3_lt hn) (by omega) ?_
    rw [← e]
    exact Nat.pow_lt_pow_left (by omega) (by omega)
  rw [frac, h]; omega

/-- The root of p, n² < p < (n + 1)²: n before the point, something behind it. -/
theorem root_between {n p : Nat} (hp : p ≤ 65535) (h1 : n * n + 1 + n ≤ p) (h2 : p < (n + 1) * (n + 1)) (hn : 1 ≤ n) :
    n * 4294967296 + 1 ≤ fr (p * 2 ^ (32 * 2)) 2 41 0 ∧ fr (p * 2 ^ (32 * 2)) 2 41 0 < (n + 1) * 4294967296 := by
  constructor
  · refine fr_ge (by omega) (t2_lt hp) ?_
    rw [Nat.pow_two, Nat.add_mul, Nat.mul_add, Nat.mul_mul_mul_comm]
    have : n * 4294967296 * 1 + 1 * (n * 4294967296 + 1) ≤ (1 + n) * 18446744073709551616 := by omega
    omega
  · refine fr_lt (by omega) (t2_lt hp) ?_
    rw [Nat.pow_two, Nat.mul_mul_mul_comm]
    omega

theorem frac_pos {n p : Nat} (hp : p ≤ 65535) (h1 : n * n + 1 + n ≤ p) (h2 : p < (n + 1) * (n + 1)) (hn : 1 ≤ n) : 0 < frac p 2 := by
  obtain ⟨a, b⟩ := root_between hp h1 h2 hn
  unfold frac
  rw [Nat.add_mul] at b
  omega

theorem frac_le {n p q : Nat} (hq : q ≤ 65535) (h1 : n * n + 1 + n ≤ p) (hpq : p ≤ q) (h2 : q < (n + 1) * (n + 1)) (hn : 1 ≤ n) : frac p 2 ≤ frac q 2 := by
  obtain ⟨a, b⟩ := root_between (by omega) h1 (by omega) hn
  obtain ⟨c, d⟩ := root_between hq (Nat.le_trans h1 hpq) h2 hn
  have := fr_mono (k := 2) (n := 41) (by omega) (t2_lt hq) (Nat.mul_le_mul_right (2 ^ (32 * 2)) hpq)
  unfold frac
  rw [Nat.add_mul] at b d
  omega
end Go.Proofs.PlainRoot
