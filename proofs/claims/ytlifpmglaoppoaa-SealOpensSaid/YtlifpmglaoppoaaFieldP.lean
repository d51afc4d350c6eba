/- Plain laws on the product of bytes: it spreads over sums, goes both ways, and on over three. -/
import Derived.Test.YtlifpmglaoppoaaAesP
set_option linter.unusedVariables false
set_option linter.unusedSimpArgs false
namespace Go.Proofs.PlainAes

theorem cases8 {p : Nat → Prop} [DecidablePred p] (h : (List.range 256).all (fun x => decide (p x)) = true) : ∀ x, x < 256 → p x := by
  intro x hx
  have := List.all_eq_true.1 h x (List.mem_range.2 hx)
  simpa using this
theorem dbl_all : (List.range 256).all (fun x => (List.range 256).all fun y => dbl (x ^^^ y) == (dbl x ^^^ dbl y)) = true := by decide +kernel
theorem dbl_xor {x y : Nat} (hx : x < 256) (hy : y < 256) : dbl (x ^^^ y) = dbl x ^^^ dbl y := by
  have := List.all_eq_true.1 (List.all_eq_true.1 dbl_all x (List.mem_range.2 hx)) y (List.mem_range.2 hy)
  simpa using this
theorem xor_half (b c : Nat) : (b ^^^ c) / 2 = b / 2 ^^^ c / 2 := by
  apply Nat.eq_of_testBit_eq
  intro i
  simp [Nat.testBit_div_two, Nat.testBit_xor]
theorem xor_odd (b c : Nat) : (b ^^^ c) % 2 = 1 ↔ ¬ (b % 2 = 1 ↔ c % 2 = 1) := by
  have h : (b ^^^ c).testBit 0 = (b.testBit 0 ^^ c.testBit 0) := Nat.testBit_xor ..
  simp only [Nat.testBit_zero] at h
  by_cases h1 : b % 2 = 1 <;> by_cases h2 : c % 2 = 1 <;> simp [h1, h2] at h ⊢ <;> omega
theorem xor4 (a b c d : Nat) : (a ^^^ b) ^^^ (c ^^^ d) = (a ^^^ c) ^^^ (b ^^^ d) := by
  rw [Nat.xor_assoc, Nat.xor_assoc, ← Nat.xor_assoc b, Nat.xor_comm b c, Nat.xor_assoc c b]
theorem mulGo_right : ∀ n o p a b c, mulGo n (o ^^^ p) a (b ^^^ c) = mulGo n o a b ^^^ mulGo n p a c
  | 0, _, _, _, _, _ => rfl
  | n + 1, o, p, a, b, c => by
    simp only [mulGo]
    rw [xor_half, ← mulGo_right]
    congr 1
    have h := xor_odd b c
    by_cases h1 : b % 2 = 1 <;> by_cases h2 : c % 2 = 1
    · rw [if_neg (by rw [h]; simp [h1, h2]), if_pos h1, if_pos h2, xor4, Nat.xor_self]
    · rw [if_pos (by rw [h]; simp [h1, h2]), if_pos h1, if_neg h2, xor4, Nat.xor_zero]
    · rw [if_pos (by rw [h]; simp [h1, h2]), if_neg h1, if_pos h2, xor4, Nat.zero_xor]
    · rw [if_neg (by rw [h]; simp [h1, h2]), if_neg h1, if_neg h2]; simp
theorem mul_right (a b c : Nat) : mul a (b ^^^ c) = mul a b ^^^ mul a c := by
  have := mulGo_right 8 0 0 a b c
  simpa [mul] using this
theorem mulGo_left : ∀ n o p a c b, a < 256 → c < 256 → mulGo n (o ^^^ p) (a ^^^ c) b = mulGo n o a b ^^^ mulGo n p c b
  | 0, _, _, _, _, _, _, _ => rfl
  | n + 1, o, p, a, c, b, ha, hc => by
    simp only [mulGo]
    rw [dbl_xor ha hc, ← mulGo_left n _ _ _ _ _ (dbl_lt a) (dbl_lt c)]
    congr 1
    by_cases h : b % 2 = 1
    · rw [if_pos h, if_pos h, if_pos h, xor4]
    · rw [if_neg h, if_neg h, if_neg h]; simp
theorem mul_left {a c : Nat} (b : Nat) (ha : a < 256) (hc : c < 256) : mul (a ^^^ c) b = mul a b ^^^ mul c b := by
  have := mulGo_left 8 0 0 a c b ha hc
  simpa [mul] using this
/-- What spreads over sums. -/
def Lin (f : Nat → Nat) : Prop := ∀ x y, x < 256 → y < 256 → f (x ^^^ y) = f x ^^^ f y
theorem split8 : (List.range 8).all (fun n => (List.range 256).all fun b => if 2 ^ n ≤ b ∧ b < 2 ^ (n + 1) then b == (2 ^ n ^^^ (b - 2 ^ n)) else true) = true := by decide +kernel
theorem lin_ext {f g : Nat → Nat} (hf : Lin f) (hg : Lin g) (h : ∀ i, i < 8 → f (2 ^ i) = g (2 ^ i)) : ∀ b, b < 256 → f b = g b := by
  have h0 : f 0 = g 0 := by
    have a1 := hf 0 0 (by decide) (by decide)
    have a2 := hg 0 0 (by decide) (by decide)
    simp at a1 a2
    rw [a1, a2]
  have key : ∀ n, n ≤ 8 → ∀ b, b < 2 ^ n → f b = g b := by
    intro n
    induction n with
    | zero =>
      intro _ b hb
      have hz : b = 0 := by have : b < 1 := hb; omega
      rw [hz, h0]
    | succ n ih =>
      intro hn b hb
      rcases Nat.lt_or_ge b (2 ^ n) with h1 | h1
      · exact ih (by omega) b h1
      · have h256 : 2 ^ (n + 1) ≤ 2 ^ 8 := Nat.pow_le_pow_right (by decide) hn
        have hb8 : b < 256 := by omega
        have := List.all_eq_true.1 (List.all_eq_true.1 split8 n (List.mem_range.2 (by omega))) b (List.mem_range.2 hb8)
        rw [if_pos ⟨h1, hb⟩] at this
        have e : b = 2 ^ n ^^^ (b - 2 ^ n) := by simpa using this
        have hp : 2 ^ n < 256 := by omega
        rw [e, hf _ _ hp (by omega), hg _ _ hp (by omega), h n (by omega), ih (by omega) (b - 2 ^ n) (by rw [Nat.pow_succ] at hb; omega)]
  exact fun b hb => key 8 (by omega) b (by simpa using hb)
theorem lin_right (a : Nat) : Lin (mul a) := fun x y _ _ => mul_right a x y
theorem lin_left (b : Nat) : Lin (fun a => mul a b) := fun x y hx hy => mul_left b hx hy
theorem basis_comm : (List.range 8).all (fun i => (List.range 8).all fun j => mul (2 ^ i) (2 ^ j) == mul (2 ^ j) (2 ^ i)) = true := by decide +kernel
theorem mul_comm {a b : Nat} (ha : a < 256) (hb : b < 256) : mul a b = mul b a := by
  refine lin_ext (f := fun b => mul a b) (g := fun b => mul b a) (lin_right a) (lin_left a) (fun j hj => ?_) b hb
  refine lin_ext (f := fun a => mul a (2 ^ j)) (g := fun a => mul (2 ^ j) a) (lin_left _) (lin_right _) (fun i hi => ?_) a ha
  have := List.all_eq_true.1 (List.all_eq_true.1 basis_comm i (List.mem_range.2 hi)) j (List.mem_range.2 hj)
  simpa using this
theorem basis_assoc : (List.range 8).all (fun i => (List.range 8).all fun j => (List.range 8).all fun k => mul (2 ^ i) (mul (2 ^ j) (2 ^ k)) == mul (mul (2 ^ i) (2 ^ j)) (2 ^ k)) = true := by decide +kernel
theorem mul_assoc {a b c : Nat} (ha : a < 256) (hb : b < 256) (hc : c < 256) : mul a (mul b c) = mul (mul a b) c := by
  have pw : ∀ i, i < 8 → 2 ^ i < 256 := fun i hi => Nat.pow_lt_pow_right (by decide) (show i < 8 from hi)
  refine lin_ext (f := fun c => mul a (mul b c)) (g := fun c => mul (mul a b) c) (fun x y hx hy => ?_) (lin_right _) (fun k hk => ?_) c hc
  · show mul a (mul b (x ^^^ y)) = _
    rw [mul_right, mul_right]
  refine lin_ext (f := fun b => mul a (mul b (2 ^ k))) (g := fun b => mul (mul a b) (2 ^ k)) (fun x y hx hy => ?_) (fun x y hx hy => ?_) (fun j hj => ?_) b hb
  · show mul a (mul (x ^^^ y) _) = _
    rw [mul_left _ hx hy, mul_right]
  · show mul (mul a (x ^^^ y)) _ = _
    rw [mul_right, mul_left _ (mul_lt _ ha) (mul_lt _ ha)]
  refine lin_ext (f := fun a => mul a (mul (2 ^ j) (2 ^ k))) (g := fun a => mul (mul a (2 ^ j)) (2 ^ k)) (lin_left _) (fun x y hx hy => ?_) (fun i hi => ?_) a ha
  · show mul (mul (x ^^^ y) _) _ = _
    rw [mul_left _ hx hy, mul_left _ (mul_lt _ hx) (mul_lt _ hy)]
  have := List.all_eq_true.1 (List.all_eq_true.1 (List.all_eq_true.1 basis_assoc i (List.mem_range.2 hi)) j (List.mem_range.2 hj)) k (List.mem_range.2 hk)
  simpa using this
theorem mul_one : ∀ a, a < 256 → mul a 1 = a := cases8 (by decide +kernel)
theorem mul_zero (a : Nat) : mul a 0 = 0 := mulGo_zero 8 0 a
theorem zero_mul {b : Nat} (hb : b < 256) : mul 0 b = 0 := by rw [mul_comm (by decide) hb, mul_zero]
theorem mul_inv_all : (List.range 256).all (fun a => a == 0 || mul a (inv a) == 1) = true := by decide +kernel
theorem mul_inv {a : Nat} (ha : a < 256) (h0 : a ≠ 0) : mul a (inv a) = 1 := by
  have := List.all_eq_true.1 mul_inv_all a (List.mem_range.2 ha)
  simpa [h0] using this
theorem mul_eq_zero {a b : Nat} (ha : a < 256) (hb : b < 256) : mul a b = 0 ↔ a = 0 ∨ b = 0 := by
  constructor
  · intro h
    by_cases h0 : a = 0
    · exact .inl h0
    · right
      have h1 := mul_assoc (inv_lt ha) ha hb
      rw [h, mul_zero, mul_comm (inv_lt ha) ha, mul_inv ha h0, mul_comm (by decide) hb, mul_one b hb] at h1
      exact h1.symm
  · rintro (rfl | rfl)
    · exact zero_mul hb
    · exact mul_zero a
end Go.Proofs.PlainAes
