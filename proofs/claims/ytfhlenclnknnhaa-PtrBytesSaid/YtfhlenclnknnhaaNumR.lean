/- Plain laws on the bit-by-bit root: the greatest r with r^k at most T, and what the squares' statement needs of it. -/
namespace Go.Proofs.PlainRoot

/-- The root found bit by bit: n bits are still to be tried. -/
def fr (T k : Nat) : Nat → Nat → Nat
  | 0, r => r
  | n + 1, r => fr T k n (if (r + 2 ^ n) ^ k ≤ T then r + 2 ^ n else r)

theorem fr_spec (T k : Nat) : ∀ n r, r ^ k ≤ T → T < (r + 2 ^ n) ^ k → (fr T k n r) ^ k ≤ T ∧ T < (fr T k n r + 1) ^ k
  | 0, r, h1, h2 => by simpa [fr] using And.intro h1 h2
  | n + 1, r, h1, h2 => by
    unfold fr
    by_cases h : (r + 2 ^ n) ^ k ≤ T
    · rw [if_pos h]
      exact fr_spec T k n _ h (by rw [show r + 2 ^ n + 2 ^ n = r + 2 ^ (n + 1) from by rw [Nat.pow_succ]; omega]; exact h2)
    · rw [if_neg h]
      exact fr_spec T k n _ h1 (by omega)

theorem pow_lt_cancel {a b k : Nat} (h : a ^ k < b ^ k) : a < b := by
  rcases Nat.lt_or_ge a b with h1 | h1
  · exact h1
  · have := Nat.pow_le_pow_left h1 k; omega

/-- The root's bounds decide it. -/
theorem fr_eq {T k n c : Nat} (hk : 0 < k) (hT : T < (2 ^ n) ^ k) (h1 : c ^ k ≤ T) (h2 : T < (c + 1) ^ k) : fr T k n 0 = c := by
  have h0 : (0 : Nat) ^ k ≤ T := by rw [Nat.zero_pow hk]; omega
  obtain ⟨a1, a2⟩ := fr_spec T k n 0 h0 (by simpa using hT)
  have b1 : fr T k n 0 < c + 1 := pow_lt_cancel (k := k) (by omega)
  have b2 : c < fr T k n 0 + 1 := pow_lt_cancel (k := k) (by omega)
  omega

theorem fr_ge {T k n c : Nat} (hk : 0 < k) (hT : T < (2 ^ n) ^ k) (h1 : c ^ k ≤ T) : c ≤ fr T k n 0 := by
  have h0 : (0 : Nat) ^ k ≤ T := by rw [Nat.zero_pow hk]; omega
  obtain ⟨_, a2⟩ := fr_spec T k n 0 h0 (by simpa using hT)
  have b2 : c < fr T k n 0 + 1 := pow_lt_cancel (k := k) (by omega)
  omega

theorem fr_lt {T k n c : Nat} (hk : 0 < k) (hT : T < (2 ^ n) ^ k) (h1 : T < c ^ k) : fr T k n 0 < c := by
  have h0 : (0 : Nat) ^ k ≤ T := by rw [Nat.zero_pow hk]; omega
  obtain ⟨a1, _⟩ := fr_spec T k n 0 h0 (by simpa using hT)
  exact pow_lt_cancel (k := k) (by omega)

theorem fr_mono {T S k n : Nat} (hk : 0 < k) (hS : S < (2 ^ n) ^ k) (h : T ≤ S) : fr T k n 0 ≤ fr S k n 0 := by
  have h0 : (0 : Nat) ^ k ≤ T := by rw [Nat.zero_pow hk]; omega
  obtain ⟨a1, _⟩ := fr_spec T k n 0 h0 (by simp; omega)
  exact fr_ge hk hS (by omega)

/-- What Frac answers. -/
def frac (p k : Nat) : Nat := fr (p * 2 ^ (32 * k)) k 41 0 % 4294967296

end Go.Proofs.PlainRoot
