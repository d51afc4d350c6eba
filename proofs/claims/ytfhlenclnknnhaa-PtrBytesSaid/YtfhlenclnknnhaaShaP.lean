/- Plain laws of hashes: numbers of 32 bits turned and mixed; the words of a block; the state. -/
import Derived.Test.YtfhlenclnknnhaaNumR
import Derived.Test.YtfhlenclnknnhaaAesQ
set_option linter.unusedVariables false
set_option linter.unusedSimpArgs false
namespace Go.Proofs.PlainSha
open Go.Proofs.PlainAes

/-- A number's 32 bits, moved around by k places. -/
def turn (x k : Nat) : Nat := (x * 2 ^ k % 4294967296) ||| (x / 2 ^ (32 - k))
theorem turn_lt {x k : Nat} (hx : x < 4294967296) : turn x k < 4294967296 := by
  unfold turn
  exact Nat.or_lt_two_pow (n := 32) (Nat.mod_lt _ (by decide)) (Nat.lt_of_le_of_lt (Nat.div_le_self _ _) hx)
/-- A number's bytes, the highest first. -/
def putB (x n : Nat) : List Nat := (List.range n).map fun i => x / 2 ^ (8 * (n - 1 - i)) % 256
@[simp] theorem putB_length (x n : Nat) : (putB x n).length = n := by simp [putB]
theorem putB_lt (x n : Nat) : ∀ b ∈ putB x n, b < 256 := by
  intro b hb
  simp only [putB, List.mem_map] at hb
  obtain ⟨i, _, rfl⟩ := hb
  exact Nat.mod_lt _ (by decide)
/-- Bytes' number. -/
def num (l : List Nat) : Nat := l.foldl (fun x c => x * 256 + c) 0
theorem num_snoc (l : List Nat) (c : Nat) : num (l ++ [c]) = num l * 256 + c := by simp [num]
theorem foldl_lt : ∀ (l : List Nat) (x : Nat), (∀ b ∈ l, b < 256) → l.foldl (fun x c => x * 256 + c) x < (x + 1) * 256 ^ l.length
  | [], x, _ => by simp
  | c :: l, x, h => by
    have h1 := foldl_lt l (x * 256 + c) (fun b hb => h b (by simp [hb]))
    have h2 := h c (by simp)
    simp only [List.foldl_cons, List.length_cons, Nat.pow_succ]
    refine Nat.lt_of_lt_of_le h1 ?_
    have h3 : (x * 256 + c + 1) * 256 ^ l.length ≤ ((x + 1) * 256) * 256 ^ l.length := Nat.mul_le_mul_right _ (by omega)
    rw [Nat.mul_comm (256 ^ l.length) 256, ← Nat.mul_assoc]
    exact h3
theorem num_lt (l : List Nat) (h : ∀ b ∈ l, b < 256) : num l < 256 ^ l.length := by
  have := foldl_lt l 0 h
  simpa [num] using this
theorem take_snoc {α : Type} (l : List α) (k : Nat) (h : k < l.length) : l.take (k + 1) = l.take k ++ [l[k]] := by
  rw [List.take_succ_eq_append_getElem h]

/-! ### Words -/
def W32 (x : Nat) : Prop := x < 4294967296
theorem xor32 {a b : Nat} (ha : a < 4294967296) (hb : b < 4294967296) : a ^^^ b < 4294967296 := Nat.xor_lt_two_pow (n := 32) ha hb
theorem or32 {a b : Nat} (ha : a < 4294967296) (hb : b < 4294967296) : a ||| b < 4294967296 := Nat.or_lt_two_pow (n := 32) ha hb
theorem and32 {a b : Nat} (ha : a < 4294967296) : a &&& b < 4294967296 := Nat.lt_of_le_of_lt Nat.and_le_left ha
/-- A number turned by three, together. -/
def mixW (x a b c : Nat) : Nat := turn x a ^^^ turn x b ^^^ turn x c
theorem mixW_lt {x : Nat} (a b c : Nat) (h : x < 4294967296) : mixW x a b c < 4294967296 := xor32 (xor32 (turn_lt h) (turn_lt h)) (turn_lt h)
def s0 (x : Nat) : Nat := turn x 25 ^^^ turn x 14 ^^^ x / 8
def s1 (y : Nat) : Nat := turn y 15 ^^^ turn y 13 ^^^ y / 1024
theorem s0_lt {x : Nat} (h : x < 4294967296) : s0 x < 4294967296 := xor32 (xor32 (turn_lt h) (turn_lt h)) (by omega)
theorem s1_lt {x : Nat} (h : x < 4294967296) : s1 x < 4294967296 := xor32 (xor32 (turn_lt h) (turn_lt h)) (by omega)
/-- Words: all below 2^32. -/
def Wds (l : List Nat) : Prop := ∀ x ∈ l, x < 4294967296
theorem Wds.gd {l : List Nat} (h : Wds l) (i : Nat) : gd l i < 4294967296 := by
  rcases Nat.lt_or_ge i l.length with h1 | h1
  · exact h _ (List.mem_of_getElem? (gd_get h1))
  · simp [PlainAes.gd, List.getElem?_eq_none h1]
theorem Wds.mk {n : Nat} {f : Nat → Nat} (h : ∀ i, i < n → f i < 4294967296) : Wds (mk n f) := by
  intro b hb
  simp only [PlainAes.mk, List.mem_map, List.mem_range] at hb
  obtain ⟨i, hi, rfl⟩ := hb
  exact h i hi
/-- The next word of a block's. -/
def wnext (l : List Nat) : Nat :=
  (gd l (l.length - 16) + gd l (l.length - 7) + s0 (gd l (l.length - 15)) + s1 (gd l (l.length - 2))) % 4294967296
def wfirst (b : List Nat) : List Nat := mk 16 (fun i => num (seg b (4 * i) 4))
def wN (b : List Nat) : Nat → List Nat
  | 0 => wfirst b
  | n + 1 => wN b n ++ [wnext (wN b n)]
/-- A block's words. -/
def spread (b : List Nat) : List Nat := wN b 48
theorem wN_length (b : List Nat) : ∀ n, (wN b n).length = 16 + n
  | 0 => by simp [wN, wfirst]
  | n + 1 => by simp [wN, wN_length b n]; omega
@[simp] theorem spread_length (b : List Nat) : (spread b).length = 64 := wN_length b 48
theorem num4_lt {b : List Nat} (h : ∀ x ∈ b, x < 256) (i : Nat) : num (seg b i 4) < 4294967296 := by
  have := num_lt (seg b i 4) (seg_lt h _ _)
  have h2 : (256 : Nat) ^ (seg b i 4).length ≤ 256 ^ 4 := Nat.pow_le_pow_right (by decide) (by simp [seg]; omega)
  omega
theorem wN_wds {b : List Nat} (h : ∀ x ∈ b, x < 256) : ∀ n, Wds (wN b n)
  | 0 => Wds.mk (fun i _ => num4_lt h _)
  | n + 1 => by
    intro x hx
    rcases List.mem_append.1 hx with h1 | h1
    · exact wN_wds h n x h1
    · simp only [List.mem_cons, List.not_mem_nil, or_false] at h1
      rw [h1]; exact Nat.mod_lt _ (by decide)
theorem spread_wds {b : List Nat} (h : ∀ x ∈ b, x < 256) : Wds (spread b) := wN_wds h 48
theorem wN_prefix (b : List Nat) (n : Nat) : ∀ d, (wN b (n + d)).take (16 + n) = wN b n
  | 0 => by rw [Nat.add_zero, List.take_of_length_le (by rw [wN_length]; omega)]
  | d + 1 => by
    rw [← Nat.add_assoc, wN, List.take_append_of_le_length (by rw [wN_length]; omega)]
    exact wN_prefix b n d
theorem gd_spread (b : List Nat) {n i : Nat} (hn : n ≤ 48) (hi : i < 16 + n) : gd (spread b) i = gd (wN b n) i := by
  have h := wN_prefix b n (48 - n)
  rw [show n + (48 - n) = 48 from by omega] at h
  rw [← h]
  simp [gd, spread, List.getElem?_take, hi]
attribute [irreducible] spread
theorem spread_low (b : List Nat) {i : Nat} (h : i < 16) : gd (spread b) i = num (seg b (4 * i) 4) := by
  rw [gd_spread b (n := 0) (by decide) (by omega), wN, wfirst, gd_mk _ h]
theorem wN_succ (b : List Nat) (n : Nat) : wN b (n + 1) = wN b n ++ [wnext (wN b n)] := by rw [wN]
theorem gd_last (l : List Nat) (y k : Nat) (h : l.length = k) : gd (l ++ [y]) k = y := by
  subst h
  simp [gd]
theorem wN_last (b : List Nat) (n : Nat) : gd (wN b (n + 1)) (16 + n) = wnext (wN b n) := by
  rw [wN_succ]
  exact gd_last _ _ _ (wN_length b n)
theorem spread_high (b : List Nat) {i : Nat} (h16 : 16 ≤ i) (h : i < 64) :
    gd (spread b) i = (gd (spread b) (i - 16) + gd (spread b) (i - 7) + s0 (gd (spread b) (i - 15)) + s1 (gd (spread b) (i - 2))) % 4294967296 := by
  obtain ⟨n, rfl⟩ : ∃ n, i = 16 + n := ⟨i - 16, by omega⟩
  have e0 := gd_spread b (n := n + 1) (i := 16 + n) (by omega) (by omega)
  have e1 := gd_spread b (n := n) (i := 16 + n - 16) (by omega) (by omega)
  have e2 := gd_spread b (n := n) (i := 16 + n - 7) (by omega) (by omega)
  have e3 := gd_spread b (n := n) (i := 16 + n - 15) (by omega) (by omega)
  have e4 := gd_spread b (n := n) (i := 16 + n - 2) (by omega) (by omega)
  have e5 := wN_last b n
  have e6 := wN_length b n
  rw [e0, e1, e2, e3, e4, e5]
  generalize wN b n = l at *
  unfold wnext
  rw [e6]

/-! ### Rounds -/
def t1 (x : List Nat) (k w : Nat) : Nat := (gd x 7 + mixW (gd x 4) 26 21 7 + (gd x 6 ^^^ (gd x 4 &&& (gd x 5 ^^^ gd x 6))) + k + w) % 4294967296
def t2 (x : List Nat) : Nat := (mixW (gd x 0) 30 19 10 + ((gd x 0 &&& (gd x 1 ||| gd x 2)) ||| (gd x 1 &&& gd x 2))) % 4294967296
def rstep (x : List Nat) (k w : Nat) : List Nat := [(t1 x k w + t2 x) % 4294967296, gd x 0, gd x 1, gd x 2, (gd x 3 + t1 x k w) % 4294967296, gd x 4, gd x 5, gd x 6]
def roundsN (K W x : List Nat) : Nat → List Nat
  | 0 => x
  | n + 1 => rstep (roundsN K W x n) (gd K n) (gd W n)
/-- The state behind a block. -/
def takeS (K s b : List Nat) : List Nat := mk 8 (fun i => (gd (roundsN K (spread b) s 64) i + gd s i) % 4294967296)
@[simp] theorem takeS_length (K s b : List Nat) : (takeS K s b).length = 8 := by simp [takeS]
theorem takeS_wds (K s b : List Nat) : Wds (takeS K s b) := Wds.mk (fun i _ => Nat.mod_lt _ (by decide))
theorem roundsN_length {K W x : List Nat} (h : x.length = 8) : ∀ n, (roundsN K W x n).length = 8
  | 0 => h
  | n + 1 => rfl
theorem rstep_wds {x : List Nat} (h : Wds x) (k w : Nat) : Wds (rstep x k w) := by
  intro y hy
  simp only [rstep, List.mem_cons, List.not_mem_nil, or_false] at hy
  rcases hy with rfl | rfl | rfl | rfl | rfl | rfl | rfl | rfl
  all_goals first | exact Nat.mod_lt _ (by decide) | exact h.gd _
theorem roundsN_wds {K W x : List Nat} (h : Wds x) : ∀ n, Wds (roundsN K W x n)
  | 0 => h
  | n + 1 => rstep_wds (roundsN_wds h n) _ _
/-- The state behind so many blocks. -/
def states (K s l : List Nat) : Nat → List Nat
  | 0 => s
  | n + 1 => takeS K (states K s l n) (seg l (64 * n) 64)
theorem states_length {K s l : List Nat} (h : s.length = 8) : ∀ n, (states K s l n).length = 8
  | 0 => h
  | n + 1 => by simp [states]
theorem states_wds {K s l : List Nat} (h : Wds s) : ∀ n, Wds (states K s l n)
  | 0 => h
  | n + 1 => takeS_wds _ _ _
theorem states_append (K s l m : List Nat) : ∀ n, 64 * n ≤ l.length → states K s (l ++ m) n = states K s l n
  | 0, _ => rfl
  | n + 1, h => by
    rw [states, states, states_append K s l m n (by omega)]
    congr 1
    unfold seg
    rw [List.drop_append_of_le_length (by omega), List.take_append_of_le_length (by simp; omega)]
theorem states_add (K s l : List Nat) (a : Nat) : ∀ n, states K s l (a + n) = states K (states K s l a) (l.drop (64 * a)) n
  | 0 => rfl
  | n + 1 => by
    rw [← Nat.add_assoc, states, states, states_add K s l a n]
    congr 1
    unfold seg
    rw [List.drop_drop]
    congr 2
    omega
/-! ### The consts -/
/-- The primes below p. -/
def pl : Nat → List Nat
  | 0 => []
  | p + 1 => if p < 2 then [] else if (pl p).any (fun q => p % q == 0) then pl p else pl p ++ [p]
def H0 : List Nat := (pl 20).map (fun p => PlainRoot.frac p 2)
def K0 : List Nat := (pl 312).map (fun p => PlainRoot.frac p 3)
theorem pl20_length : (pl 20).length = 8 := by decide +kernel
theorem pl312_length : (pl 312).length = 64 := by decide +kernel
theorem frac_lt (p k : Nat) : PlainRoot.frac p k < 4294967296 := Nat.mod_lt _ (by decide)
theorem H0_length : H0.length = 8 := by rw [H0, List.length_map, pl20_length]
theorem K0_length : K0.length = 64 := by rw [K0, List.length_map, pl312_length]
theorem H0_wds : Wds H0 := by
  intro x hx
  simp only [H0, List.mem_map] at hx
  obtain ⟨p, _, rfl⟩ := hx
  exact frac_lt _ _
theorem K0_wds : Wds K0 := by
  intro x hx
  simp only [K0, List.mem_map] at hx
  obtain ⟨p, _, rfl⟩ := hx
  exact frac_lt _ _
def hasDiv (l : List Nat) (p : Nat) : Bool := l.any (fun q => p % q == 0)
theorem pl_yes {p : Nat} (h2 : 2 ≤ p) (h : hasDiv (pl p) p = true) : pl (p + 1) = pl p := by
  have h' : (pl p).any (fun q => p % q == 0) = true := h
  rw [pl, if_neg (by omega), if_pos h']
theorem pl_no {p : Nat} (h2 : 2 ≤ p) (h : hasDiv (pl p) p = false) : pl (p + 1) = pl p ++ [p] := by
  have h' : ¬ (pl p).any (fun q => p % q == 0) = true := by rw [show (pl p).any (fun q => p % q == 0) = false from h]; decide
  rw [pl, if_neg (by omega), if_neg h']
theorem pl_mem : ∀ (p : Nat), ∀ q ∈ pl p, 2 ≤ q ∧ q < p
  | 0, q, h => by simp [pl] at h
  | p + 1, q, h => by
    by_cases h2 : p < 2
    · rw [pl, if_pos h2] at h; simp at h
    · cases hd : hasDiv (pl p) p with
      | true =>
        rw [pl_yes (by omega) hd] at h
        have := pl_mem p q h
        omega
      | false =>
        rw [pl_no (by omega) hd] at h
        rcases List.mem_append.1 h with h1 | h1
        · have := pl_mem p q h1
          omega
        · simp only [List.mem_cons, List.not_mem_nil, or_false] at h1
          omega
theorem pl_prefix (p : Nat) (h2 : 2 ≤ p) : ∀ d, ∃ r, pl (p + d) = pl p ++ r
  | 0 => ⟨[], by simp⟩
  | d + 1 => by
    obtain ⟨r, hr⟩ := pl_prefix p h2 d
    cases hd : hasDiv (pl (p + d)) (p + d) with
    | true => exact ⟨r, by rw [← Nat.add_assoc, pl_yes (by omega) hd, hr]⟩
    | false => exact ⟨r ++ [p + d], by rw [← Nat.add_assoc, pl_no (by omega) hd, hr, List.append_assoc]⟩
theorem pl_len {p q : Nat} (h2 : 2 ≤ p) (h : p ≤ q) : (pl p).length ≤ (pl q).length := by
  obtain ⟨r, hr⟩ := pl_prefix p h2 (q - p)
  rw [show p + (q - p) = q from by omega] at hr
  rw [hr]; simp
theorem pl_lt {p n q : Nat} (hq : 2 ≤ q) (hn : (pl q).length = n) (h : (pl p).length < n) : p < q := by
  rcases Nat.lt_or_ge p q with h1 | h1
  · exact h1
  · have := pl_len hq h1
    omega
theorem pl_at {p q : Nat} (h2 : 2 ≤ p) (h : p < q) (hd : hasDiv (pl p) p = false) : (pl q)[(pl p).length]? = some p := by
  obtain ⟨r, hr⟩ := pl_prefix (p + 1) (by omega) (q - (p + 1))
  rw [show p + 1 + (q - (p + 1)) = q from by omega, pl_no h2 hd] at hr
  rw [hr]
  simp
theorem H0_at {p : Nat} (h2 : 2 ≤ p) (h8 : (pl p).length < 8) (hd : hasDiv (pl p) p = false) : H0[(pl p).length]? = some (PlainRoot.frac p 2) := by
  rw [H0, List.getElem?_map, pl_at h2 (pl_lt (by decide) pl20_length h8) hd]; rfl
theorem K0_at {p : Nat} (h2 : 2 ≤ p) (h8 : (pl p).length < 64) (hd : hasDiv (pl p) p = false) : K0[(pl p).length]? = some (PlainRoot.frac p 3) := by
  rw [K0, List.getElem?_map, pl_at h2 (pl_lt (by decide) pl312_length h8) hd]; rfl
/-- What stands behind the bytes. -/
def noughts (n : Nat) : Nat := (119 - n % 64) % 64
def pad (l : List Nat) : List Nat := l ++ [128] ++ List.replicate (noughts l.length) 0 ++ putB (l.length * 8 % 18446744073709551616) 8
theorem pad_length (l : List Nat) : (pad l).length % 64 = 0 := by
  simp [pad, noughts]; omega
def outL (s : List Nat) : List Nat := (mk 8 (gd s)).flatMap (fun x => putB x 4)
/-- Bytes' hash. -/
def shaL (l : List Nat) : List Nat := outL (states K0 H0 (pad l) ((pad l).length / 64))
def abc : List Nat := [97, 98, 99]
theorem shaL_abc : shaL abc = [0xba, 0x78, 0x16, 0xbf, 0x8f, 0x01, 0xcf, 0xea, 0x41, 0x41, 0x40, 0xde, 0x5d, 0xae, 0x22, 0x23, 0xb0, 0x03, 0x61, 0xa3, 0x96, 0x17, 0x7a, 0x9c, 0xb4, 0x10, 0xff, 0x61, 0xf2, 0x00, 0x15, 0xad] := by decide +kernel
end Go.Proofs.PlainSha
