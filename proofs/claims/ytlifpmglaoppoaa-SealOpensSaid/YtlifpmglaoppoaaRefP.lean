/- Plain laws on bits: a number's bits as a row; the document's product of bytes. -/
import Derived.Test.YtlifpmglaoppoaaFieldP
set_option linter.unusedVariables false
set_option linter.unusedSimpArgs false
namespace Go.Proofs.PlainAes

/-- Bit p. -/
def bit (x p : Nat) : Nat := x / 2 ^ p % 2
theorem bit_eq (x p : Nat) : bit x p = (x.testBit p).toNat := by
  rw [Nat.testBit_eq_decide_div_mod_eq, bit]
  have := Nat.mod_lt (x / 2 ^ p) (show 0 < 2 by decide)
  by_cases h : x / 2 ^ p % 2 = 1 <;> simp [h] <;> omega
theorem bit_le (x p : Nat) : bit x p ≤ 1 := by unfold bit; omega
/-- A number's bits, the lowest first. -/
def bitsL (x n : Nat) : List Nat := mk n (bit x)
@[simp] theorem bitsL_length (x n : Nat) : (bitsL x n).length = n := by simp [bitsL]
theorem gd_bitsL {x n p : Nat} (h : p < n) : gd (bitsL x n) p = bit x p := gd_mk _ h
theorem bitsL_lt (x n : Nat) : ∀ b ∈ bitsL x n, b < 256 := mk_lt (fun i _ => by have := bit_le x i; omega)
theorem bitsL_zero (n : Nat) : bitsL 0 n = List.replicate n 0 := by
  apply ext_gd
  · simp
  · intro i hi
    have hi' : i < n := by simpa using hi
    rw [gd_bitsL hi', bit_eq]
    simp [gd, hi']
theorem bitsL_set (x n p v : Nat) (hv : v ≤ 1) (hp : p < n) : (bitsL x n).set p (bit x p ^^^ v) = bitsL (x ^^^ v * 2 ^ p) n := by
  apply ext_gd
  · simp
  · intro i hi
    have hi' : i < n := by simpa using hi
    have e : gd ((bitsL x n).set p (bit x p ^^^ v)) i = if p = i then bit x p ^^^ v else bit x i := by
      simp only [gd, List.getD_eq_getElem?_getD, List.getElem?_set, bitsL_length]
      by_cases h : p = i
      · subst h; rw [if_pos rfl, if_pos hp, if_pos rfl]; rfl
      · rw [if_neg h, if_neg h]; exact gd_bitsL hi'
    rw [e, gd_bitsL hi', bit_eq (x ^^^ v * 2 ^ p), Nat.testBit_xor]
    have hb : (v * 2 ^ p).testBit i = (decide (v = 1) && decide (p = i)) := by
      rcases (by omega : v = 0 ∨ v = 1) with rfl | rfl
      · simp
      · rw [Nat.one_mul, Nat.testBit_two_pow]; simp
    rw [hb, bit_eq x i, bit_eq x p]
    by_cases h : p = i
    · subst h
      rw [if_pos rfl]
      rcases (by omega : v = 0 ∨ v = 1) with rfl | rfl <;> cases x.testBit p <;> simp
    · rw [if_neg h]; simp [h]
/-- Bits' number. -/
def ofL : List Nat → Nat
  | [] => 0
  | b :: l => ofL l * 2 + b
theorem ofL_bits : ∀ (n x : Nat), ofL (bitsL x n) = x % 2 ^ n
  | 0, x => by simp [bitsL, mk, ofL, Nat.mod_one]
  | n + 1, x => by
    have e : bitsL x (n + 1) = bit x 0 :: bitsL (x / 2) n := by
      unfold bitsL mk
      rw [List.range_succ_eq_map, List.map_cons, List.map_map]
      congr 1
      apply List.map_congr_left
      intro i _
      simp only [Function.comp, bit, Nat.div_div_eq_div_mul, Nat.pow_succ, Nat.succ_eq_add_one]
      rw [Nat.mul_comm]
    rw [e, ofL, ofL_bits n (x / 2)]
    unfold bit
    have h1 := Nat.mod_mul (x := x) (a := 2) (b := 2 ^ n)
    rw [Nat.pow_succ, Nat.mul_comm (2 ^ n) 2, h1]
    simp
    omega
theorem take_bitsL (x : Nat) {n m : Nat} (h : m ≤ n) : (bitsL x n).take m = bitsL x m := by
  apply ext_gd
  · simp; omega
  · intro i hi
    have hi' : i < m := by simp at hi; omega
    rw [gd_bitsL hi']
    have : gd ((bitsL x n).take m) i = gd (bitsL x n) i := by simp [gd, List.getElem?_take, hi']
    rw [this, gd_bitsL (by omega)]

/-- The product of polynomials: so many rows. -/
def clN (a b : Nat) : Nat → Nat
  | 0 => 0
  | i + 1 => clN a b i ^^^ (bit a i * b) * 2 ^ i
/-- .. and of the next row so many bits. -/
def clK (a b i k : Nat) : Nat := clN a b i ^^^ (bit a i * (b % 2 ^ k)) * 2 ^ i
theorem clK_zero (a b i : Nat) : clK a b i 0 = clN a b i := by simp [clK, Nat.mod_one]
theorem clK_all (a b i : Nat) (hb : b < 256) : clK a b i 8 = clN a b (i + 1) := by rw [clK, clN, Nat.mod_eq_of_lt (by simpa using hb)]
theorem mod_step (b k : Nat) : b % 2 ^ (k + 1) = b % 2 ^ k ^^^ bit b k * 2 ^ k := by
  apply Nat.eq_of_testBit_eq
  intro i
  rw [Nat.testBit_xor, Nat.testBit_mod_two_pow, Nat.testBit_mod_two_pow]
  have hb : (bit b k * 2 ^ k).testBit i = (b.testBit k && decide (k = i)) := by
    rw [bit_eq]
    cases h : b.testBit k
    · simp
    · simp [Nat.testBit_two_pow]
  rw [hb]
  by_cases h1 : k = i
  · subst h1; simp
  · by_cases h2 : i < k
    · simp [h1, h2, show i < k + 1 from by omega]
    · simp [h1, h2, show ¬ i < k + 1 from by omega]
theorem clK_step (a b i k : Nat) : clK a b i k ^^^ (bit a i * bit b k) * 2 ^ (i + k) = clK a b i (k + 1) := by
  unfold clK
  rw [mod_step b k]
  have hx := bit_le a i
  rcases (by omega : bit a i = 0 ∨ bit a i = 1) with h | h
  · simp [h]
  · rw [h, Nat.one_mul, Nat.one_mul, Nat.one_mul, Nat.xor_assoc]
    congr 1
    rw [Nat.pow_add, ← Nat.mul_assoc, Nat.mul_comm (bit b k) (2 ^ i), Nat.mul_assoc, Nat.mul_comm (2 ^ i)]
    apply Nat.eq_of_testBit_eq
    intro j
    simp [Nat.testBit_xor, Nat.testBit_mul_two_pow]
    by_cases hj : i ≤ j <;> simp [hj]
/-- The rest: one bit. -/
def red (O i : Nat) : Nat := if bit O i = 1 then O ^^^ 283 * 2 ^ (i - 8) else O
def redN (O : Nat) : Nat → Nat
  | 0 => O
  | j + 1 => red (redN O j) (14 - j)
/-- Where a one is turned. -/
def kat : Nat → Nat
  | 0 => 8
  | 1 => 4
  | 2 => 3
  | 3 => 1
  | _ => 0
def flips (O i : Nat) : Nat → Nat
  | 0 => O
  | m + 1 => flips O i m ^^^ 2 ^ (i - 8 + kat m)
theorem flips_pow : (List.range 7).all (fun i => decide (((((2 ^ (i + 8) ^^^ 2 ^ (i + 4)) ^^^ 2 ^ (i + 3)) ^^^ 2 ^ (i + 1)) ^^^ 2 ^ (i + 0)) = 283 * 2 ^ i)) = true := by decide +kernel
theorem flips_all (O i : Nat) (h8 : 8 ≤ i) (hi : i ≤ 14) : flips O i 5 = O ^^^ 283 * 2 ^ (i - 8) := by
  have := List.all_eq_true.1 flips_pow (i - 8) (List.mem_range.2 (by omega))
  have e : ((((2 ^ (i - 8 + 8) ^^^ 2 ^ (i - 8 + 4)) ^^^ 2 ^ (i - 8 + 3)) ^^^ 2 ^ (i - 8 + 1)) ^^^ 2 ^ (i - 8 + 0)) = 283 * 2 ^ (i - 8) := by simpa using this
  rw [← e]
  simp only [flips, kat, Nat.xor_assoc]
/-- The document's product. -/
def rmul (a b : Nat) : Nat := redN (clN a b 8) 7 % 256
theorem rmul_b0 : (List.range 32).all (fun a => (List.range 256).all fun b => rmul (0 + a) b == mul (0 + a) b) = true := by decide +kernel
theorem rmul_b1 : (List.range 32).all (fun a => (List.range 256).all fun b => rmul (32 + a) b == mul (32 + a) b) = true := by decide +kernel
theorem rmul_b2 : (List.range 32).all (fun a => (List.range 256).all fun b => rmul (64 + a) b == mul (64 + a) b) = true := by decide +kernel
theorem rmul_b3 : (List.range 32).all (fun a => (List.range 256).all fun b => rmul (96 + a) b == mul (96 + a) b) = true := by decide +kernel
theorem rmul_b4 : (List.range 32).all (fun a => (List.range 256).all fun b => rmul (128 + a) b == mul (128 + a) b) = true := by decide +kernel
theorem rmul_b5 : (List.range 32).all (fun a => (List.range 256).all fun b => rmul (160 + a) b == mul (160 + a) b) = true := by decide +kernel
theorem rmul_b6 : (List.range 32).all (fun a => (List.range 256).all fun b => rmul (192 + a) b == mul (192 + a) b) = true := by decide +kernel
theorem rmul_b7 : (List.range 32).all (fun a => (List.range 256).all fun b => rmul (224 + a) b == mul (224 + a) b) = true := by decide +kernel
theorem rmul_eq {a b : Nat} (ha : a < 256) (hb : b < 256) : rmul a b = mul a b := by
  have key : ∀ r, ((List.range 32).all (fun a => (List.range 256).all fun b => rmul (r * 32 + a) b == mul (r * 32 + a) b) = true) → r * 32 ≤ a → a < r * 32 + 32 → rmul a b = mul a b := by
    intro r h h1 h2
    have := List.all_eq_true.1 (List.all_eq_true.1 h (a - r * 32) (List.mem_range.2 (by omega))) b (List.mem_range.2 hb)
    rw [show r * 32 + (a - r * 32) = a from by omega] at this
    simpa using this
  rcases (by omega : a < 32 ∨ (32 ≤ a ∧ a < 64) ∨ (64 ≤ a ∧ a < 96) ∨ (96 ≤ a ∧ a < 128) ∨ (128 ≤ a ∧ a < 160) ∨ (160 ≤ a ∧ a < 192) ∨ (192 ≤ a ∧ a < 224) ∨ (224 ≤ a ∧ a < 256)) with h | h | h | h | h | h | h | h
  · exact key 0 rmul_b0 (by omega) (by omega)
  · exact key 1 rmul_b1 (by omega) (by omega)
  · exact key 2 rmul_b2 (by omega) (by omega)
  · exact key 3 rmul_b3 (by omega) (by omega)
  · exact key 4 rmul_b4 (by omega) (by omega)
  · exact key 5 rmul_b5 (by omega) (by omega)
  · exact key 6 rmul_b6 (by omega) (by omega)
  · exact key 7 rmul_b7 (by omega) (by omega)
end Go.Proofs.PlainAes
