/- Plain laws on numbers as rows of digits by 10000, the lowest first: what the reference's long product does to their value. -/
namespace Go.Proofs.PlainLong

/-- A row's value. -/
def V : List Nat → Nat
  | [] => 0
  | d :: l => d + 10000 * V l

theorem V_append : ∀ (l m : List Nat), V (l ++ m) = V l + 10000 ^ l.length * V m
  | [], m => by simp [V]
  | d :: l, m => by
    simp only [List.cons_append, V, V_append l m, List.length_cons, Nat.pow_succ]
    rw [Nat.mul_add, Nat.mul_comm (10000 ^ l.length) 10000, Nat.mul_assoc]
    omega

theorem V_set : ∀ (l : List Nat) (j x : Nat) (h : j < l.length), V (l.set j x) + l[j] * 10000 ^ j = V l + x * 10000 ^ j
  | d :: l, 0, x, _ => by simp [V]; omega
  | d :: l, j + 1, x, h => by
    have hj : j < l.length := by simpa using h
    have ih := V_set l j x hj
    simp only [List.set_cons_succ, V, List.getElem_cons_succ, Nat.pow_succ]
    have e1 : l[j] * (10000 ^ j * 10000) = 10000 * (l[j] * 10000 ^ j) := by rw [← Nat.mul_assoc, Nat.mul_comm]
    have e2 : x * (10000 ^ j * 10000) = 10000 * (x * 10000 ^ j) := by rw [← Nat.mul_assoc, Nat.mul_comm]
    rw [e1, e2]
    omega

theorem V_zeros (n : Nat) : V (List.replicate n 0) = 0 := by
  induction n with
  | zero => rfl
  | succ n ih => simp [List.replicate_succ, V, ih]

theorem V_lt : ∀ (l : List Nat), (∀ d ∈ l, d < 10000) → V l < 10000 ^ l.length
  | [], _ => by simp [V]
  | d :: l, h => by
    have h1 := V_lt l (fun c hc => h c (by simp [hc]))
    have h2 := h d (by simp)
    simp only [V, List.length_cons, Nat.pow_succ]
    omega

theorem V_take_succ (l : List Nat) (k : Nat) (h : k < l.length) : V (l.take (k + 1)) = V (l.take k) + 10000 ^ k * l[k] := by
  rw [List.take_succ_eq_append_getElem h, V_append]
  simp [V, Nat.min_eq_left (Nat.le_of_lt h)]

/-- A product on its way: rows 0 to i - 1 are done, of row i the first k places. -/
def Inv (a b L : List Nat) (i k : Nat) : Prop :=
  L.length = a.length + b.length + 1 ∧ V L = V (a.take i) * V b + 10000 ^ i * a.getD i 0 * V (b.take k) ∧ ∀ (j d : Nat), L[j]? = some d → d ≤ 20000 * (i * b.length + k + 1)

theorem inv_start (a b : List Nat) : Inv a b (List.replicate (a.length + b.length + 1) 0) 0 0 := by
  refine ⟨by simp, by rw [V_zeros]; simp [V], ?_⟩
  intro j d hd
  have := (List.getElem?_eq_some_iff.1 hd).2
  rw [List.getElem_replicate] at this
  omega

theorem inv_next {a b L : List Nat} {i : Nat} (h : Inv a b L i b.length) (hi : i < a.length) : Inv a b L (i + 1) 0 := by
  obtain ⟨h1, h2, h3⟩ := h
  refine ⟨h1, ?_, fun j d hd => ?_⟩
  · rw [h2, V_take_succ a i hi, List.take_length, Nat.add_mul]
    simp [V, List.getD, hi]
  · have := h3 j d hd
    rw [Nat.add_mul]; omega

/-- One carry: the value stays. -/
theorem V_carry (L : List Nat) (j : Nat) (h : j + 1 < L.length) :
    V ((L.set (j + 1) (L[j + 1] + L[j] / 10000)).set j (L[j] % 10000)) = V L := by
  have h1 := V_set L (j + 1) (L[j + 1] + L[j] / 10000) h
  have h2 := V_set (L.set (j + 1) (L[j + 1] + L[j] / 10000)) j (L[j] % 10000) (by simp; omega)
  rw [List.getElem_set_ne (by omega)] at h2
  rw [Nat.add_mul, Nat.pow_succ] at h1
  have h3 : L[j] / 10000 * (10000 ^ j * 10000) + L[j] % 10000 * 10000 ^ j = L[j] * 10000 ^ j := by
    have e : L[j] / 10000 * (10000 ^ j * 10000) = (L[j] / 10000 * 10000) * 10000 ^ j := by rw [Nat.mul_comm (10000 ^ j) 10000, Nat.mul_assoc]
    rw [e, ← Nat.add_mul]
    congr 1; omega
  omega

theorem inv_step {a b L : List Nat} {i k : Nat} (h : Inv a b L i k) (hi : i < a.length) (hk : k < b.length) (ha : a.length ≤ 50) (hb : b.length ≤ 50)
    (da : ∀ d ∈ a, d < 10000) (db : ∀ d ∈ b, d < 10000) (x0 x1 : Nat) (e0 : L[i + k]? = some x0) (e1 : L[i + k + 1]? = some x1) :
    x0 ≤ 60000000 ∧ x1 ≤ 60000000 ∧ Inv a b ((((L.set (i + k) (x0 + a[i] * b[k])).set (i + k + 1) (x1 + (x0 + a[i] * b[k]) / 10000))).set (i + k) ((x0 + a[i] * b[k]) % 10000)) i (k + 1) := by
  obtain ⟨h1, h2, h3⟩ := h
  have hl0 : i + k < L.length := by omega
  have hl1 : i + k + 1 < L.length := by omega
  have g0 : L[i + k] = x0 := by rw [List.getElem?_eq_getElem hl0] at e0; exact Option.some.inj e0
  have g1 : L[i + k + 1] = x1 := by rw [List.getElem?_eq_getElem hl1] at e1; exact Option.some.inj e1
  have m0 := h3 _ _ e0
  have m1 := h3 _ _ e1
  have hT : i * b.length + k + 1 ≤ 2500 := by
    have : (i + 1) * b.length ≤ 50 * 50 := Nat.mul_le_mul (by omega) hb
    rw [Nat.add_mul] at this; omega
  have da' := da a[i] (List.getElem_mem hi)
  have db' := db b[k] (List.getElem_mem hk)
  have hp : a[i] * b[k] ≤ 9999 * 9999 := Nat.mul_le_mul (by omega) (by omega)
  refine ⟨by omega, by omega, by simp [h1], ?_, ?_⟩
  · have hs := V_set L (i + k) (x0 + a[i] * b[k]) hl0
    rw [g0, Nat.add_mul] at hs
    have hc := V_carry (L.set (i + k) (x0 + a[i] * b[k])) (i + k) (by simpa using hl1)
    rw [List.getElem_set_self, List.getElem_set_ne (by omega), g1] at hc
    rw [hc, V_take_succ b k hk]
    have e : 10000 ^ i * a.getD i 0 * (V (b.take k) + 10000 ^ k * b[k]) = 10000 ^ i * a.getD i 0 * V (b.take k) + a[i] * b[k] * 10000 ^ (i + k) := by
      rw [Nat.mul_add, Nat.pow_add]
      congr 1
      rw [List.getD_eq_getElem?_getD, List.getElem?_eq_getElem hi, Option.getD_some]
      rw [Nat.mul_assoc, Nat.mul_assoc, Nat.mul_comm (10000 ^ i), Nat.mul_comm (10000 ^ k)]
      simp only [Nat.mul_assoc]
      congr 2
      rw [Nat.mul_comm]
    rw [e]
    omega
  · intro j d hd
    have : i * b.length + (k + 1) + 1 = (i * b.length + k + 1) + 1 := by omega
    rw [this, Nat.mul_add]
    generalize i * b.length + k + 1 = T at *
    rw [List.getElem?_set] at hd
    split at hd
    · split at hd
      · have := Option.some.inj hd; omega
      · cases hd
    · rw [List.getElem?_set] at hd
      split at hd
      · split at hd
        · have := Option.some.inj hd; omega
        · cases hd
      · rw [List.getElem?_set_ne (by omega)] at hd
        have := h3 j d hd; omega

/-! ### The carries behind the product; the noughts at the end -/
/-- So many places are below 10000; the others are small. -/
def Car (L : List Nat) (n i v : Nat) : Prop := L.length = n ∧ V L = v ∧ (∀ (j d : Nat), j < i → L[j]? = some d → d < 10000) ∧ (∀ (j d : Nat), L[j]? = some d → d ≤ 100000000 ∧ (i < j → d ≤ 50020000))

theorem car_start {a b L : List Nat} (h : Inv a b L a.length 0) (ha : a.length ≤ 50) (hb : b.length ≤ 50) : Car L (a.length + b.length + 1) 0 (V a * V b) := by
  obtain ⟨h1, h2, h3⟩ := h
  refine ⟨h1, ?_, fun j d hj => by omega, fun j d hd => ?_⟩
  · rw [h2, List.take_length]; simp [V, List.getD]
  · have := h3 j d hd
    have hT : a.length * b.length ≤ 50 * 50 := Nat.mul_le_mul ha hb
    omega

theorem car_step {L : List Nat} {n i v : Nat} (h : Car L n i v) (hi : i + 1 < n) (x0 x1 : Nat) (e0 : L[i]? = some x0) (e1 : L[i + 1]? = some x1) :
    x0 ≤ 100000000 ∧ x1 ≤ 50020000 ∧ Car ((L.set (i + 1) (x1 + x0 / 10000)).set i (x0 % 10000)) n (i + 1) v := by
  obtain ⟨h1, h2, h3, h4⟩ := h
  have hl0 : i < L.length := by omega
  have hl1 : i + 1 < L.length := by omega
  have g0 : L[i] = x0 := by rw [List.getElem?_eq_getElem hl0] at e0; exact Option.some.inj e0
  have g1 : L[i + 1] = x1 := by rw [List.getElem?_eq_getElem hl1] at e1; exact Option.some.inj e1
  have m0 := (h4 _ _ e0).1
  have m1 := (h4 _ _ e1).2 (by omega)
  refine ⟨m0, m1, by simp [h1], ?_, ?_, ?_⟩
  · have hc := V_carry L i hl1
    rw [g0, g1] at hc
    rw [hc, h2]
  · intro j d hj hd
    rw [List.getElem?_set] at hd
    split at hd
    · split at hd
      · have := Option.some.inj hd; omega
      · cases hd
    · rw [List.getElem?_set_ne (by omega)] at hd
      exact h3 j d (by omega) hd
  · intro j d hd
    rw [List.getElem?_set] at hd
    split at hd
    · split at hd
      · have := Option.some.inj hd; omega
      · cases hd
    · rw [List.getElem?_set] at hd
      split at hd
      · have := Option.some.inj hd; omega
      · have := h4 j d hd
        omega

/-- At the end all places are below 10000: the last one is nought, since the value is small. -/
theorem car_end {L : List Nat} {n v : Nat} (h : Car L (n + 1) n v) (hv : v < 10000 ^ n) : ∀ d ∈ L, d < 10000 := by
  obtain ⟨h1, h2, h3, h4⟩ := h
  intro d hd
  obtain ⟨j, hj, rfl⟩ := List.getElem_of_mem hd
  by_cases hjn : j < n
  · exact h3 j _ hjn (List.getElem?_eq_getElem hj)
  · have e : j = n := by omega
    subst e
    have hs := V_set L j 0 hj
    have h0 : L[j] * 10000 ^ j ≤ V L := by omega
    rcases Nat.eq_zero_or_pos L[j] with hz | hz
    · omega
    · have : 10000 ^ j ≤ L[j] * 10000 ^ j := Nat.le_mul_of_pos_left _ hz
      omega

/-- A row that ends in no nought, of digits. -/
def Norm (l : List Nat) : Prop := (∀ d ∈ l, d < 10000) ∧ ∀ (k : Nat), l.length = k + 1 → l[k]? ≠ some 0

theorem V_drop_zero (l : List Nat) (m : Nat) (h : l[m]? = some 0) : V (l.take (m + 1)) = V (l.take m) := by
  have hm : m < l.length := (List.getElem?_eq_some_iff.1 h).1
  rw [V_take_succ l m hm]
  have : l[m] = 0 := by rw [List.getElem?_eq_getElem hm] at h; exact Option.some.inj h
  rw [this]; omega

theorem V_pos_len {l : List Nat} (h : Norm l) {k : Nat} (hk : l.length = k + 1) : 10000 ^ k ≤ V l := by
  have hl : k < l.length := by omega
  have e := V_take_succ l k hl
  rw [List.take_of_length_le (by omega)] at e
  have h0 : l[k] ≠ 0 := by
    intro hz
    exact h.2 k hk (by rw [List.getElem?_eq_getElem hl, hz])
  have : 10000 ^ k ≤ 10000 ^ k * l[k] := Nat.le_mul_of_pos_right _ (by omega)
  omega

/-- Of two rows the longer one is more. -/
theorem V_lt_of_len {a b : List Nat} (ha : Norm a) (hb : Norm b) (h : a.length < b.length) : V a < V b := by
  obtain ⟨k, hk⟩ : ∃ k, b.length = k + 1 := ⟨b.length - 1, by omega⟩
  have h1 := V_lt a ha.1
  have h2 := V_pos_len hb hk
  have h3 : 10000 ^ a.length ≤ 10000 ^ k := Nat.pow_le_pow_right (by omega) (by omega)
  omega

/-- Of two rows of one length that are the same from place j + 1 on, place j decides. -/
theorem V_lt_of_place {a b : List Nat} (ha : ∀ d ∈ a, d < 10000) (hl : a.length = b.length) {j : Nat} (hj : j < a.length) (hs : a.drop (j + 1) = b.drop (j + 1)) (h : a[j] < b[j]'(by omega)) : V a < V b := by
  have ea : V a = V (a.take j) + 10000 ^ j * (a[j] + 10000 * V (a.drop (j + 1))) := by
    conv => lhs; rw [← List.take_append_drop j a]
    rw [V_append, List.length_take, Nat.min_eq_left (by omega), List.drop_eq_getElem_cons hj, V]
  have eb : V b = V (b.take j) + 10000 ^ j * (b[j] + 10000 * V (b.drop (j + 1))) := by
    conv => lhs; rw [← List.take_append_drop j b]
    rw [V_append, List.length_take, Nat.min_eq_left (by omega), List.drop_eq_getElem_cons (by omega), V]
  have h1 := V_lt (a.take j) (fun d hd => ha d (List.mem_of_mem_take hd))
  rw [List.length_take, Nat.min_eq_left (by omega)] at h1
  rw [ea, eb, hs]
  generalize V (b.drop (j + 1)) = t at *
  have h2 : 10000 ^ j * (a[j] + 10000 * t + 1) ≤ 10000 ^ j * (b[j] + 10000 * t) := Nat.mul_le_mul_left _ (by omega)
  rw [Nat.mul_add (10000 ^ j) _ 1] at h2
  omega

/-- A number's digits. -/
def digits : Nat → Nat → List Nat
  | 0, _ => []
  | f + 1, x => if x = 0 then [] else x % 10000 :: digits f (x / 10000)
end Go.Proofs.PlainLong
