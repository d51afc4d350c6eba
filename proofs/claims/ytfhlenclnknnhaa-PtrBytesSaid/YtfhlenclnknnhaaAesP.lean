/- Plain laws on bytes: the product, the inverse, the box. -/
set_option linter.unusedVariables false
namespace Go.Proofs.PlainAes

/-- Twice a byte. -/
def dbl (a : Nat) : Nat := (a * 2 % 256) ^^^ (if 128 ≤ a then 27 else 0)
/-- The product, bit by bit. -/
def mulGo : Nat → Nat → Nat → Nat → Nat
  | 0, o, _, _ => o
  | n + 1, o, a, b => mulGo n (o ^^^ (if b % 2 = 1 then a else 0)) (dbl a) (b / 2)
def mul (a b : Nat) : Nat := mulGo 8 0 a b
def invGo : Nat → Nat → Nat → Nat
  | 0, o, _ => o
  | n + 1, o, s => invGo n (mul o (mul s s)) (mul s s)
/-- The power of 254. -/
def inv (a : Nat) : Nat := invGo 7 1 a
/-- A byte's bits, moved around. -/
def rot (b n : Nat) : Nat := (b * 2 ^ n % 256) ||| (b / 2 ^ (8 - n))
def boxed (x : Nat) : Nat := x ^^^ rot x 1 ^^^ rot x 2 ^^^ rot x 3 ^^^ rot x 4 ^^^ 99
def box (b : Nat) : Nat := boxed (inv b)
def unboxed (x : Nat) : Nat := rot x 1 ^^^ rot x 3 ^^^ rot x 6
def unbox (b : Nat) : Nat := inv (unboxed (b ^^^ 99))

theorem xor_lt {a b : Nat} (ha : a < 256) (hb : b < 256) : a ^^^ b < 256 := Nat.xor_lt_two_pow (n := 8) ha hb
theorem dbl_lt (a : Nat) : dbl a < 256 := by
  unfold dbl
  refine xor_lt (Nat.mod_lt _ (by decide)) ?_
  split <;> decide
theorem mulGo_lt : ∀ n o a b, o < 256 → a < 256 → mulGo n o a b < 256
  | 0, _, _, _, h, _ => h
  | n + 1, o, a, b, h, ha => mulGo_lt n _ _ _ (xor_lt h (by split <;> omega)) (dbl_lt a)
theorem mul_lt {a : Nat} (b : Nat) (ha : a < 256) : mul a b < 256 := mulGo_lt 8 0 a b (by decide) ha
theorem mulGo_zero : ∀ n o a, mulGo n o a 0 = o
  | 0, _, _ => rfl
  | n + 1, o, a => by rw [mulGo]; simp; exact mulGo_zero n o _
theorem invGo_lt : ∀ n o s, o < 256 → s < 256 → invGo n o s < 256
  | 0, _, _, h, _ => h
  | n + 1, o, s, h, hs => invGo_lt n _ _ (mul_lt _ h) (mul_lt _ hs)
theorem inv_lt {a : Nat} (ha : a < 256) : inv a < 256 := invGo_lt 7 1 a (by decide) ha
theorem rot_lt {a : Nat} (n : Nat) (ha : a < 256) : rot a n < 256 :=
  Nat.or_lt_two_pow (n := 8) (Nat.mod_lt _ (by decide)) (Nat.lt_of_le_of_lt (Nat.div_le_self _ _) ha)
theorem boxed_lt {x : Nat} (h : x < 256) : boxed x < 256 := xor_lt (xor_lt (xor_lt (xor_lt (xor_lt h (rot_lt _ h)) (rot_lt _ h)) (rot_lt _ h)) (rot_lt _ h)) (by decide)
theorem unboxed_lt {x : Nat} (h : x < 256) : unboxed x < 256 := xor_lt (xor_lt (rot_lt _ h) (rot_lt _ h)) (rot_lt _ h)
theorem box_lt {b : Nat} (h : b < 256) : box b < 256 := boxed_lt (inv_lt h)
theorem unbox_lt {b : Nat} (h : b < 256) : unbox b < 256 := inv_lt (unboxed_lt (xor_lt h (by decide)))

/-! ### Blocks -/
/-- A row's byte. -/
def gd (l : List Nat) (i : Nat) : Nat := l.getD i 0
theorem gd_get {l : List Nat} {i : Nat} (h : i < l.length) : l[i]? = some (gd l i) := by simp [gd, h]
theorem gd_lt {l : List Nat} (h : ∀ b ∈ l, b < 256) (i : Nat) : gd l i < 256 := by
  rcases Nat.lt_or_ge i l.length with h1 | h1
  · exact h _ (List.mem_of_getElem? (gd_get h1))
  · simp [gd, List.getElem?_eq_none h1]
theorem ext_gd {a b : List Nat} (h : a.length = b.length) (h2 : ∀ i, i < a.length → gd a i = gd b i) : a = b := by
  apply List.ext_getElem? 
  intro i
  rcases Nat.lt_or_ge i a.length with h1 | h1
  · rw [gd_get h1, gd_get (h ▸ h1), h2 i h1]
  · rw [List.getElem?_eq_none h1, List.getElem?_eq_none (h ▸ h1)]
/-- A row made of its places. -/
def mk (n : Nat) (f : Nat → Nat) : List Nat := (List.range n).map f
@[simp] theorem mk_length (n : Nat) (f : Nat → Nat) : (mk n f).length = n := by simp [mk]
theorem mk_get {n : Nat} (f : Nat → Nat) {i : Nat} (h : i < n) : (mk n f)[i]? = some (f i) := by simp [mk, h]
theorem gd_mk {n : Nat} (f : Nat → Nat) {i : Nat} (h : i < n) : gd (mk n f) i = f i := by simp [gd, mk, h]
theorem mk_lt {n : Nat} {f : Nat → Nat} (h : ∀ i, i < n → f i < 256) : ∀ b ∈ mk n f, b < 256 := by
  intro b hb
  simp only [mk, List.mem_map, List.mem_range] at hb
  obtain ⟨i, hi, rfl⟩ := hb
  exact h i hi
theorem mk_eq {n : Nat} {l : List Nat} (f : Nat → Nat) (hl : l.length = n) (h : ∀ i, i < n → gd l i = f i) : l = mk n f :=
  ext_gd (by simp [hl]) (fun i hi => by rw [h i (hl ▸ hi), gd_mk f (hl ▸ hi)])
/-- The sum of two rows of bytes. -/
def xorl (a b : List Nat) : List Nat := List.zipWith (· ^^^ ·) a b
theorem xorl_get {a b : List Nat} {k x y : Nat} (ha : a[k]? = some x) (hb : b[k]? = some y) : (xorl a b)[k]? = some (x ^^^ y) := by simp [xorl, List.getElem?_zipWith, ha, hb]
theorem xorl_length {a b : List Nat} (h : a.length = b.length) : (xorl a b).length = a.length := by simp [xorl, h]
theorem gd_xorl {a b : List Nat} (h : a.length = b.length) {i : Nat} (hi : i < a.length) : gd (xorl a b) i = gd a i ^^^ gd b i := by
  have := xorl_get (gd_get hi) (gd_get (h ▸ hi))
  simp [gd] at this ⊢
  simp [this]
theorem xorl_lt {a b : List Nat} (ha : ∀ x ∈ a, x < 256) (hb : ∀ x ∈ b, x < 256) : ∀ x ∈ xorl a b, x < 256 := by
  intro x hx
  obtain ⟨i, hi⟩ := List.getElem?_of_mem hx
  simp only [xorl, List.getElem?_zipWith] at hi
  cases h1 : a[i]? <;> cases h2 : b[i]? <;> simp [h1, h2] at hi
  rw [← hi]
  exact xor_lt (ha _ (List.mem_of_getElem? h1)) (hb _ (List.mem_of_getElem? h2))
/-- All a column's bytes, summed. -/
def all4 (b : List Nat) (c : Nat) : Nat := gd b c ^^^ gd b (c + 1) ^^^ gd b (c + 2) ^^^ gd b (c + 3)
/-- The columns mixed: place i. -/
def mixAt (b : List Nat) (i : Nat) : Nat := gd b i ^^^ (all4 b (i / 4 * 4) ^^^ dbl (gd b i ^^^ gd b (i / 4 * 4 + (i % 4 + 1) % 4)))
def mix (b : List Nat) : List Nat := mk 16 (mixAt b)
theorem all4_lt {b : List Nat} (h : ∀ x ∈ b, x < 256) (c : Nat) : all4 b c < 256 := xor_lt (xor_lt (xor_lt (gd_lt h _) (gd_lt h _)) (gd_lt h _)) (gd_lt h _)
theorem mixAt_lt {b : List Nat} (h : ∀ x ∈ b, x < 256) (i : Nat) : mixAt b i < 256 := xor_lt (gd_lt h _) (xor_lt (all4_lt h _) (dbl_lt _))
theorem mix_lt {b : List Nat} (h : ∀ x ∈ b, x < 256) : ∀ x ∈ mix b, x < 256 := mk_lt (fun i _ => mixAt_lt h i)
/-- A table: what all bytes become. -/
def tbl (f : Nat → Nat) : List Nat := mk 256 f

end Go.Proofs.PlainAes
