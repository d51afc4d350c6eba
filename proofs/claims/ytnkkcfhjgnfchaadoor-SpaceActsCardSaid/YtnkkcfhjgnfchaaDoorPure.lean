/- Plain laws of a space: a list of bools, its words of 64 bits, how many are taken, which; no program in sight. -/
import Derived.Lib.TrailingZeros
set_option linter.unusedVariables false
set_option linter.unusedSimpArgs false
namespace Go.Proofs.PlainSpace
open Go

/-- Sector a is taken. -/
def has (S : List Bool) (a : Nat) : Bool := S.getD a false
/-- Those that are taken below k, rising. -/
def upto (S : List Bool) (k : Nat) : List Nat := (List.range k).filter (has S)
def taken (S : List Bool) : List Nat := upto S S.length
def cnt (S : List Bool) : Nat := (taken S).length
/-- A space as it may be. -/
def Ok (S : List Bool) : Prop := 16 ≤ S.length ∧ S.length ≤ 4096 ∧ has S 0 = false ∧ has S 1 = false
/-- An address is a sector's. -/
def isA (S : List Bool) (a : Nat) : Prop := 2 ≤ a ∧ a < S.length
instance (S : List Bool) (a : Nat) : Decidable (isA S a) := inferInstanceAs (Decidable (_ ∧ _))
def Rep (S : List Bool) (ws : List Nat) : Prop := ws.length = (S.length + 63) / 64 ∧ ∀ (i x : Nat), ws[i]? = some x → x < 18446744073709551616 ∧ ∀ j, j < 64 → x.testBit j = has S (64 * i + j)

theorem has_lt {S : List Bool} {a : Nat} (h : has S a = true) : a < S.length := by
  rcases Nat.lt_or_ge a S.length with h1 | h1
  · exact h1
  · unfold has at h; rw [List.getD_eq_getElem?_getD, List.getElem?_eq_none h1] at h; cases h
theorem has_ge {S : List Bool} {a : Nat} (h : S.length ≤ a) : has S a = false := by
  cases e : has S a with
  | false => rfl
  | true => have := has_lt e; omega
theorem has_set (S : List Bool) (a : Nat) (v : Bool) (ha : a < S.length) (b : Nat) : has (S.set a v) b = if a = b then v else has S b := by
  unfold has
  rw [List.getD_eq_getElem?_getD, List.getElem?_set, List.getD_eq_getElem?_getD]
  split
  · rename_i e; subst e; simp [ha]
  · rfl

theorem has_set_ne (S : List Bool) {a : Nat} (v : Bool) (ha : a < S.length) {b : Nat} (h : a ≠ b) : has (S.set a v) b = has S b := by rw [has_set S a v ha]; exact if_neg h
theorem has_set_eq (S : List Bool) {a : Nat} (v : Bool) (ha : a < S.length) : has (S.set a v) a = v := by rw [has_set S a v ha]; exact if_pos rfl

theorem upto_succ (S : List Bool) (k : Nat) : upto S (k + 1) = upto S k ++ (if has S k then [k] else []) := by
  unfold upto
  rw [List.range_succ, List.filter_append]
  congr 1
  cases h : has S k <;> simp [h]
theorem upto_skip (S : List Bool) (k : Nat) : ∀ d, (∀ j, k ≤ j → j < k + d → has S j = false) → upto S (k + d) = upto S k
  | 0, _ => rfl
  | d + 1, h => by
    rw [← Nat.add_assoc, upto_succ, h (k + d) (by omega) (by omega), upto_skip S k d (fun j h1 h2 => h j h1 (by omega))]
    simp
theorem upto_ge (S : List Bool) {k : Nat} (h : S.length ≤ k) : upto S k = taken S := by
  obtain ⟨d, rfl⟩ : ∃ d, k = S.length + d := ⟨k - S.length, by omega⟩
  exact upto_skip S _ d (fun j h1 _ => has_ge h1)
theorem upto_length_le (S : List Bool) (k : Nat) : (upto S k).length ≤ k := by
  have := List.length_filter_le (has S) (List.range k)
  simpa [upto] using this
theorem cnt_le (S : List Bool) : cnt S ≤ S.length := upto_length_le S _
theorem mem_taken {S : List Bool} {a : Nat} : a ∈ taken S ↔ has S a = true := by
  simp only [taken, upto, List.mem_filter, List.mem_range]
  exact ⟨fun h => h.2, fun h => ⟨has_lt h, h⟩⟩
theorem upto_cut (S : List Bool) (a : Nat) (v : Bool) (ha : a < S.length) : ∀ k, k ≤ a → upto (S.set a v) k = upto S k
  | 0, _ => rfl
  | k + 1, h => by rw [upto_succ, upto_succ, upto_cut S a v ha k (by omega), has_set_ne S v ha (by omega)]
theorem upto_set_length (S : List Bool) (a : Nat) (ha : a < S.length) (h0 : has S a = false) : ∀ k, a < k → (upto (S.set a true) k).length = (upto S k).length + 1
  | 0, h => by omega
  | k + 1, h => by
    rw [upto_succ, upto_succ]
    rcases Nat.lt_or_ge a k with h1 | h1
    · have := upto_set_length S a ha h0 k h1
      rw [has_set_ne S true ha (by omega)]
      simp only [List.length_append]
      omega
    · obtain rfl : a = k := by omega
      rw [upto_cut S a true ha a (Nat.le_refl _), has_set_eq S true ha, h0]
      simp
theorem cnt_set (S : List Bool) (a : Nat) (ha : a < S.length) (h0 : has S a = false) : cnt (S.set a true) = cnt S + 1 := by
  unfold cnt taken
  rw [List.length_set]
  exact upto_set_length S a ha h0 _ ha
theorem set_back (S : List Bool) (a : Nat) (v u : Bool) (ha : a < S.length) (h0 : has S a = v) : (S.set a u).set a v = S := by
  apply List.ext_getElem?
  intro i
  rw [List.set_set, List.getElem?_set]
  split
  · rename_i e
    subst e
    unfold has at h0
    rw [List.getD_eq_getElem?_getD, List.getElem?_eq_getElem ha] at h0
    rw [List.getElem?_eq_getElem ha, ← h0]; simp [ha]
  · rfl
theorem cnt_unset (S : List Bool) (a : Nat) (ha : a < S.length) (h0 : has S a = true) : cnt S = cnt (S.set a false) + 1 := by
  have e := set_back S a true false ha h0
  have := cnt_set (S.set a false) a (by simpa using ha) (by rw [has_set S a false ha, if_pos rfl])
  rw [e] at this
  exact this
theorem Ok.set {S : List Bool} (h : Ok S) {a : Nat} (ha : isA S a) (v : Bool) : Ok (S.set a v) := by
  obtain ⟨h1, h2, h3, h4⟩ := h
  obtain ⟨a1, a2⟩ := ha
  refine ⟨by simpa using h1, by simpa using h2, ?_, ?_⟩
  · rw [has_set S a v a2, if_neg (by omega)]; exact h3
  · rw [has_set S a v a2, if_neg (by omega)]; exact h4
theorem has_new (n a : Nat) : has (List.replicate n false) a = false := by
  unfold has
  rw [List.getD_eq_getElem?_getD, List.getElem?_replicate]
  split <;> rfl
theorem Ok.new {n : Nat} (h1 : 16 ≤ n) (h2 : n ≤ 4096) : Ok (List.replicate n false) := ⟨by simpa using h1, by simpa using h2, has_new _ _, has_new _ _⟩
theorem taken_new (n : Nat) : taken (List.replicate n false) = [] := by
  unfold taken upto
  rw [List.filter_eq_nil_iff]
  intro a _
  rw [has_new]; simp
theorem cnt_new (n : Nat) : cnt (List.replicate n false) = 0 := by simp [cnt, taken_new]
theorem ext {S T : List Bool} (hl : S.length = T.length) (h : ∀ a, has S a = has T a) : S = T := by
  apply List.ext_getElem hl
  intro i h1 h2
  have := h i
  unfold has at this
  rw [List.getD_eq_getElem?_getD, List.getD_eq_getElem?_getD, List.getElem?_eq_getElem h1, List.getElem?_eq_getElem h2] at this
  simpa using this

/-! ### The words -/
theorem Rep.new (n : Nat) : Rep (List.replicate n false) (List.replicate ((n + 63) / 64) 0) := by
  refine ⟨by simp, fun i x h => ?_⟩
  rw [List.getElem?_replicate] at h
  split at h
  · cases h
    refine ⟨by omega, fun j _ => ?_⟩
    rw [has_new]; simp
  · cases h
theorem Rep.put {S : List Bool} {ws : List Nat} (h : Rep S ws) {a x y : Nat} (v : Bool) (ha : a < S.length) (hx : ws[a / 64]? = some x) (hy : y < 18446744073709551616)
    (hb : ∀ j, j < 64 → y.testBit j = if j = a % 64 then v else x.testBit j) : Rep (S.set a v) (ws.set (a / 64) y) := by
  refine ⟨by simpa using h.1, fun i z hz => ?_⟩
  rw [List.getElem?_set] at hz
  split at hz
  · rename_i e
    subst e
    split at hz
    · cases hz
      refine ⟨hy, fun j hj => ?_⟩
      rw [hb j hj, has_set S a v ha, (h.2 _ _ hx).2 j hj]
      by_cases e : j = a % 64
      · rw [if_pos e, if_pos (by omega)]
      · rw [if_neg e, if_neg (by omega)]
    · cases hz
  · rename_i e
    refine ⟨(h.2 _ _ hz).1, fun j hj => ?_⟩
    rw [has_set S a v ha, if_neg (by omega)]
    exact (h.2 _ _ hz).2 j hj
theorem Rep.mark {S : List Bool} {ws : List Nat} (h : Rep S ws) {a x : Nat} (ha : a < S.length) (hx : ws[a / 64]? = some x) : Rep (S.set a true) (ws.set (a / 64) (x ||| 2 ^ (a % 64))) := by
  refine h.put true ha hx (Nat.or_lt_two_pow (n := 64) (h.2 _ _ hx).1 (Nat.pow_lt_pow_right (by omega) (by omega))) (fun j hj => ?_)
  rw [Nat.testBit_or, Nat.testBit_two_pow]
  by_cases e : j = a % 64
  · rw [if_pos e, e]; simp
  · rw [if_neg e]
    have : ¬ a % 64 = j := fun h => e h.symm
    simp [this]
/-- What x reads as without 2^k. -/
def off (x k : Nat) : Nat := x &&& (2 ^ 64 - 1 - 2 ^ k)
theorem testBit_off (x k j : Nat) (hk : k < 64) (hj : j < 64) : (off x k).testBit j = if j = k then false else x.testBit j := by
  unfold off
  rw [Nat.testBit_and, Nat.sub_sub, Nat.add_comm 1, Nat.testBit_two_pow_sub_succ (Nat.pow_lt_pow_right (by omega) hk), Nat.testBit_two_pow]
  by_cases e : j = k
  · subst e; simp
  · rw [if_neg e]
    have : ¬ k = j := fun h => e h.symm
    simp [this, hj]
theorem Rep.free {S : List Bool} {ws : List Nat} (h : Rep S ws) {a x : Nat} (ha : a < S.length) (hx : ws[a / 64]? = some x) : Rep (S.set a false) (ws.set (a / 64) (off x (a % 64))) := by
  refine h.put false ha hx (Nat.lt_of_le_of_lt Nat.and_le_left (h.2 _ _ hx).1) (fun j hj => testBit_off x _ j (by omega) hj)
theorem Rep.word {S : List Bool} {ws : List Nat} (h : Rep S ws) {a : Nat} (ha : a < S.length) : ∃ x, ws[a / 64]? = some x ∧ x < 18446744073709551616 ∧ x.testBit (a % 64) = has S a := by
  have hl : a / 64 < ws.length := by have := h.1; omega
  refine ⟨ws[a / 64], List.getElem?_eq_getElem hl, (h.2 _ _ (List.getElem?_eq_getElem hl)).1, ?_⟩
  rw [(h.2 _ _ (List.getElem?_eq_getElem hl)).2 _ (by omega)]
  congr 1; omega
theorem and_pow (x k : Nat) : x &&& 2 ^ k = if x.testBit k then 2 ^ k else 0 := by
  apply Nat.eq_of_testBit_eq
  intro j
  rw [Nat.testBit_and, Nat.testBit_two_pow]
  by_cases e : k = j
  · subst e
    cases h : x.testBit k <;> simp [h]
  · cases h : x.testBit k <;> simp [e]

/-! ### The lowest bit -/
theorem ctz_spec (x : Nat) (hx : x < 18446744073709551616) (h0 : x ≠ 0) : ∃ m, x = 2 ^ Lib.ctz 64 x * (2 * m + 1) ∧ Lib.ctz 64 x < 64 := by
  unfold Lib.ctz
  rw [if_neg h0]
  exact Lib.ctzFrom_spec 64 x (by omega) hx
theorem ctz_zero : Lib.ctz 64 0 = 64 := by simp [Lib.ctz]
theorem ctz_le (x : Nat) (hx : x < 18446744073709551616) : Lib.ctz 64 x ≤ 64 := by
  by_cases h0 : x = 0
  · subst h0; rw [ctz_zero]; exact Nat.le_refl _
  · obtain ⟨m, _, h⟩ := ctz_spec x hx h0; omega
theorem odd_bits (k m j : Nat) : (2 ^ k * (2 * m + 1)).testBit j = (decide (k ≤ j) && (2 * m + 1).testBit (j - k)) := by
  rw [Nat.mul_comm, Nat.testBit_mul_two_pow]
theorem ctz_low {x : Nat} (hx : x < 18446744073709551616) {j : Nat} (hj : j < Lib.ctz 64 x) : x.testBit j = false := by
  by_cases h0 : x = 0
  · subst h0; simp
  · obtain ⟨m, e, h⟩ := ctz_spec x hx h0
    generalize Lib.ctz 64 x = k at *
    subst e
    rw [odd_bits]
    have : ¬ k ≤ j := by omega
    simp [this]
theorem ctz_bit {x : Nat} (hx : x < 18446744073709551616) (h0 : x ≠ 0) : x.testBit (Lib.ctz 64 x) = true := by
  obtain ⟨m, e, h⟩ := ctz_spec x hx h0
  generalize Lib.ctz 64 x = k at *
  subst e
  rw [odd_bits]
  simp
theorem ctz_lt {x : Nat} (hx : x < 18446744073709551616) (h0 : x ≠ 0) : Lib.ctz 64 x < 64 := by obtain ⟨m, _, h⟩ := ctz_spec x hx h0; exact h
/-- x without its lowest bit. -/
theorem strip_bits {x : Nat} (hx : x < 18446744073709551616) (h0 : x ≠ 0) (j : Nat) : (x &&& (x - 1)).testBit j = (x.testBit j && decide (j ≠ Lib.ctz 64 x)) := by
  obtain ⟨m, e, h⟩ := ctz_spec x hx h0
  generalize Lib.ctz 64 x = k at *
  subst e
  have hp := Nat.two_pow_pos k
  have e2 : 2 ^ k * (2 * m + 1) - 1 = 2 ^ k * (2 * m) + (2 ^ k - 1) := by rw [Nat.mul_add]; omega
  rw [Nat.testBit_and, e2, Nat.testBit_two_pow_mul_add _ (by omega), odd_bits]
  by_cases h1 : j < k
  · have : ¬ k ≤ j := by omega
    simp [h1, this]
  · rw [if_neg h1]
    by_cases h2 : j = k
    · subst h2; simp
    · obtain ⟨d, rfl⟩ : ∃ d, j = k + (d + 1) := ⟨j - k - 1, by omega⟩
      have e3 : k + (d + 1) - k = d + 1 := by omega
      rw [e3, Nat.testBit_succ, Nat.testBit_succ, show (2 * m + 1) / 2 = m from by omega, show 2 * m / 2 = m from by omega]
      cases m.testBit d <;> simp

/-! ### Taking the lowest free one -/
/-- What Take answers, and what is left. -/
inductive TakeP (S : List Bool) : Nat → Int → List Bool → Prop
  | some (a : Nat) (h : isA S a) (hf : has S a = false) (hlow : ∀ b, 2 ≤ b → b < a → has S b = true) : TakeP S a 0 (S.set a true)
  | none (h : ∀ b, 2 ≤ b → b < S.length → has S b = true) : TakeP S 0 6 S
/-- All below 64 i are taken. -/
def Full (S : List Bool) (k : Nat) : Prop := ∀ b, 2 ≤ b → b < k → b < S.length → has S b = true
theorem Full.zero (S : List Bool) : Full S 0 := fun b _ h => by omega

theorem TakeP.unique {S T U : List Bool} {a b : Nat} {e f : Int} (h : TakeP S a e T) (h' : TakeP S b f U) : a = b ∧ e = f ∧ T = U := by
  cases h with
  | some a ha hf hl =>
    cases h' with
    | some b hb hf' hl' =>
      have : a = b := by
        rcases Nat.lt_trichotomy a b with h | h | h
        · have := hl' a ha.1 h; rw [hf] at this; cases this
        · exact h
        · have := hl b hb.1 h; rw [hf'] at this; cases this
      subst this; exact ⟨rfl, rfl, rfl⟩
    | none h => have := h a ha.1 ha.2; rw [hf] at this; cases this
  | none h =>
    cases h' with
    | some b hb hf' hl' => have := h b hb.1 hb.2; rw [hf'] at this; cases this
    | none h' => exact ⟨rfl, rfl, rfl⟩

/-- The word as Take looks at it. -/
def mask (i x : Nat) : Nat := if i = 0 then x ||| 3 else x
theorem mask_lt {i x : Nat} (h : x < 18446744073709551616) : mask i x < 18446744073709551616 := by
  unfold mask; split
  · exact Nat.or_lt_two_pow (n := 64) h (by omega)
  · exact h
theorem three_bit (j : Nat) : (3 : Nat).testBit j = decide (j < 2) := by
  match j with
  | 0 => rfl
  | 1 => rfl
  | j + 2 => rw [Nat.testBit_succ, Nat.testBit_succ]; simp
theorem mask_bit {S : List Bool} {ws : List Nat} (h : Rep S ws) {i x : Nat} (hx : ws[i]? = some x) {j : Nat} (hj : j < 64) : (mask i x).testBit j = (has S (64 * i + j) || decide (64 * i + j < 2)) := by
  unfold mask; split
  · rename_i e; subst e
    rw [Nat.testBit_or, (h.2 _ _ hx).2 j hj, three_bit]; simp
  · rw [(h.2 _ _ hx).2 j hj]
    have : ¬ 64 * i + j < 2 := by omega
    simp [this]
theorem comp_bit {x : Nat} (hx : x < 18446744073709551616) {j : Nat} (hj : j < 64) : (18446744073709551615 - x).testBit j = !x.testBit j := by
  have := Nat.testBit_two_pow_sub_succ (n := 64) hx j
  rw [show (18446744073709551615 : Nat) - x = 2 ^ 64 - (x + 1) from by omega, this]
  simp [hj]
/-- The word's lowest free one. -/
theorem word_free {S : List Bool} {ws : List Nat} (h : Rep S ws) {i x k : Nat} (hx : ws[i]? = some x) (hf : Full S (64 * i)) (hk : Lib.ctz 64 (18446744073709551615 - mask i x) = k) :
    (k < 64 → 2 ≤ 64 * i + k ∧ has S (64 * i + k) = false ∧ (∀ b, 2 ≤ b → b < 64 * i + k → b < S.length → has S b = true)) ∧ (¬ k < 64 → Full S (64 * (i + 1))) := by
  have hm := mask_lt (i := i) (h.2 _ _ hx).1
  have hc : 18446744073709551615 - mask i x < 18446744073709551616 := by omega
  have low : ∀ j, j < k → j < 64 → has S (64 * i + j) = true ∨ 64 * i + j < 2 := by
    intro j h1 h2
    have := ctz_low hc (j := j) (by omega)
    rw [comp_bit hm h2, mask_bit h hx h2] at this
    cases e : has S (64 * i + j) with
    | true => exact .inl rfl
    | false => rw [e] at this; simp at this; exact .inr this
  have low' : ∀ b, 2 ≤ b → b < 64 * i + k → b < 64 * i + 64 → b < S.length → has S b = true := by
    intro b h1 h2 h3 h4
    rcases Nat.lt_or_ge b (64 * i) with h5 | h5
    · exact hf b h1 h5 h4
    · obtain ⟨j, rfl⟩ : ∃ j, b = 64 * i + j := ⟨b - 64 * i, by omega⟩
      rcases low j (by omega) (by omega) with h | h
      · exact h
      · omega
  constructor
  · intro hk64
    have h0 : 18446744073709551615 - mask i x ≠ 0 := by
      intro e; rw [e, ctz_zero] at hk; omega
    have hb := ctz_bit hc h0
    rw [hk, comp_bit hm hk64, mask_bit h hx hk64] at hb
    have hb1 : has S (64 * i + k) = false := by cases e : has S (64 * i + k) <;> simp_all
    have hb2 : ¬ 64 * i + k < 2 := by intro e; simp [e] at hb
    exact ⟨by omega, hb1, fun b h1 h2 h3 => low' b h1 h2 (by omega) h3⟩
  · intro hk64 b h1 h2 h3
    exact low' b h1 (by omega) (by omega) h3

/-! ### Which are taken, off the words -/
/-- z holds the bits of word i that lie from k on. -/
def Rest (S : List Bool) (i k z : Nat) : Prop := z < 18446744073709551616 ∧ k ≤ 64 ∧ ∀ j, j < 64 → z.testBit j = (decide (k ≤ j) && has S (64 * i + j))
theorem Rest.first {S : List Bool} {ws : List Nat} (h : Rep S ws) {i x : Nat} (hx : ws[i]? = some x) : Rest S i 0 x := ⟨(h.2 _ _ hx).1, by omega, fun j hj => by rw [(h.2 _ _ hx).2 j hj]; simp⟩
theorem Rest.last {S : List Bool} {i k : Nat} (h : Rest S i k 0) : upto S (64 * (i + 1)) = upto S (64 * i + k) := by
  rw [show 64 * (i + 1) = 64 * i + k + (64 - k) from by have := h.2.1; omega]
  refine upto_skip S _ _ (fun j h1 h2 => ?_)
  obtain ⟨d, rfl⟩ : ∃ d, j = 64 * i + d := ⟨j - 64 * i, by omega⟩
  have := h.2.2 d (by omega)
  rw [Nat.zero_testBit] at this
  have hd : k ≤ d := by omega
  simpa [hd] using this.symm
theorem Rest.step {S : List Bool} {i k z : Nat} (h : Rest S i k z) (hz : z ≠ 0) : Rest S i (Lib.ctz 64 z + 1) (z &&& (z - 1)) ∧ has S (64 * i + Lib.ctz 64 z) = true ∧ upto S (64 * i + (Lib.ctz 64 z + 1)) = upto S (64 * i + k) ++ [64 * i + Lib.ctz 64 z] ∧ k ≤ Lib.ctz 64 z := by
  have hlt := ctz_lt h.1 hz
  have hbit := ctz_bit h.1 hz
  have hlow := fun j hj => ctz_low (j := j) h.1 hj
  have hstrip := strip_bits h.1 hz
  generalize Lib.ctz 64 z = t at *
  have hb := h.2.2 t hlt
  rw [hbit] at hb
  have hkt : k ≤ t := by
    rcases Nat.lt_or_ge t k with h1 | h1
    · have : ¬ k ≤ t := by omega
      simp [this] at hb
    · exact h1
  have hht : has S (64 * i + t) = true := by simpa [hkt] using hb.symm
  refine ⟨⟨Nat.lt_of_le_of_lt Nat.and_le_left h.1, by omega, fun j hj => ?_⟩, hht, ?_, hkt⟩
  · rw [hstrip, h.2.2 j hj]
    rcases Nat.lt_trichotomy j t with h1 | h1 | h1
    · have := hlow j h1
      rw [h.2.2 j hj] at this
      have e : ¬ t + 1 ≤ j := by omega
      simp [this, e]
    · subst h1
      have e : ¬ j + 1 ≤ j := by omega
      simp [e]
    · have e1 : k ≤ j := by omega
      have e2 : t + 1 ≤ j := by omega
      have e3 : j ≠ t := by omega
      simp [e1, e2, e3]
  · rw [← Nat.add_assoc, upto_succ, hht]
    simp only [if_true]
    congr 1
    rw [show 64 * i + t = 64 * i + k + (t - k) from by omega]
    refine upto_skip S _ _ (fun j h1 h2 => ?_)
    obtain ⟨d, rfl⟩ : ∃ d, j = 64 * i + d := ⟨j - 64 * i, by omega⟩
    have := hlow d (by omega)
    rw [h.2.2 d (by omega)] at this
    have hd : k ≤ d := by omega
    simpa [hd] using this
end Go.Proofs.PlainSpace
