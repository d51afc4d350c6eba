/- Plain laws: what is sealed is opened, and the other way round. -/
import Derived.Test.YtmlaopohlmnegaaAesR
import Derived.Test.YtmlaopohlmnegaaFieldP
set_option linter.unusedVariables false
set_option linter.unusedSimpArgs false
namespace Go.Proofs.PlainAes

theorem xlc (a b c : Nat) : a ^^^ (b ^^^ c) = b ^^^ (a ^^^ c) := by rw [← Nat.xor_assoc, Nat.xor_comm a b, Nat.xor_assoc]
/-- A column mixed. -/
def M4 (q : Nat × Nat × Nat × Nat) : Nat × Nat × Nat × Nat :=
  (q.1 ^^^ ((q.1 ^^^ q.2.1 ^^^ q.2.2.1 ^^^ q.2.2.2) ^^^ dbl (q.1 ^^^ q.2.1)), q.2.1 ^^^ ((q.1 ^^^ q.2.1 ^^^ q.2.2.1 ^^^ q.2.2.2) ^^^ dbl (q.2.1 ^^^ q.2.2.1)),
   q.2.2.1 ^^^ ((q.1 ^^^ q.2.1 ^^^ q.2.2.1 ^^^ q.2.2.2) ^^^ dbl (q.2.2.1 ^^^ q.2.2.2)), q.2.2.2 ^^^ ((q.1 ^^^ q.2.1 ^^^ q.2.2.1 ^^^ q.2.2.2) ^^^ dbl (q.2.2.2 ^^^ q.1)))
def X4 (p q : Nat × Nat × Nat × Nat) : Nat × Nat × Nat × Nat := (p.1 ^^^ q.1, p.2.1 ^^^ q.2.1, p.2.2.1 ^^^ q.2.2.1, p.2.2.2 ^^^ q.2.2.2)
def B4 (q : Nat × Nat × Nat × Nat) : Prop := q.1 < 256 ∧ q.2.1 < 256 ∧ q.2.2.1 < 256 ∧ q.2.2.2 < 256
theorem M4_lt {q : Nat × Nat × Nat × Nat} (h : B4 q) : B4 (M4 q) := by
  obtain ⟨h1, h2, h3, h4⟩ := h
  have hs := xor_lt (xor_lt (xor_lt h1 h2) h3) h4
  exact ⟨xor_lt h1 (xor_lt hs (dbl_lt _)), xor_lt h2 (xor_lt hs (dbl_lt _)), xor_lt h3 (xor_lt hs (dbl_lt _)), xor_lt h4 (xor_lt hs (dbl_lt _))⟩
theorem X4_lt {p q : Nat × Nat × Nat × Nat} (h : B4 p) (h' : B4 q) : B4 (X4 p q) := ⟨xor_lt h.1 h'.1, xor_lt h.2.1 h'.2.1, xor_lt h.2.2.1 h'.2.2.1, xor_lt h.2.2.2 h'.2.2.2⟩
theorem mstep (a b s t x y : Nat) {u v u' v' : Nat} (h1 : u < 256) (h2 : v < 256) (h3 : u' < 256) (h4 : v' < 256) :
    (a ^^^ b) ^^^ ((s ^^^ t) ^^^ dbl ((u ^^^ u') ^^^ (v ^^^ v'))) = (a ^^^ (s ^^^ dbl (u ^^^ v))) ^^^ (b ^^^ (t ^^^ dbl (u' ^^^ v'))) := by
  rw [xor4 u u' v v', dbl_xor (xor_lt h1 h2) (xor_lt h3 h4)]
  simp only [Nat.xor_assoc, Nat.xor_comm, xlc]
theorem xs4 (a b c d a' b' c' d' : Nat) : (a ^^^ a') ^^^ (b ^^^ b') ^^^ (c ^^^ c') ^^^ (d ^^^ d') = (a ^^^ b ^^^ c ^^^ d) ^^^ (a' ^^^ b' ^^^ c' ^^^ d') := by
  simp only [Nat.xor_assoc, Nat.xor_comm, xlc]
theorem M4_add {p q : Nat × Nat × Nat × Nat} (hp : B4 p) (hq : B4 q) : M4 (X4 p q) = X4 (M4 p) (M4 q) := by
  obtain ⟨a, b, c, d⟩ := p
  obtain ⟨a', b', c', d'⟩ := q
  obtain ⟨h1, h2, h3, h4⟩ := hp
  obtain ⟨k1, k2, k3, k4⟩ := hq
  simp only [M4, X4] at *
  rw [xs4]
  simp only [Prod.mk.injEq]
  exact ⟨mstep _ _ _ _ 0 0 h1 h2 k1 k2, mstep _ _ _ _ 0 0 h2 h3 k2 k3, mstep _ _ _ _ 0 0 h3 h4 k3 k4, mstep _ _ _ _ 0 0 h4 h1 k4 k1⟩
theorem M16_add {p q : Nat × Nat × Nat × Nat} (hp : B4 p) (hq : B4 q) : M4 (M4 (M4 (M4 (X4 p q)))) = X4 (M4 (M4 (M4 (M4 p)))) (M4 (M4 (M4 (M4 q)))) := by
  rw [M4_add hp hq, M4_add (M4_lt hp) (M4_lt hq), M4_add (M4_lt (M4_lt hp)) (M4_lt (M4_lt hq)), M4_add (M4_lt (M4_lt (M4_lt hp))) (M4_lt (M4_lt (M4_lt hq)))]
theorem unit4 : (List.range 256).all (fun b => decide (M4 (M4 (M4 (M4 (b, 0, 0, 0)))) = (b, 0, 0, 0)) && decide (M4 (M4 (M4 (M4 (0, b, 0, 0)))) = (0, b, 0, 0)) &&
    decide (M4 (M4 (M4 (M4 (0, 0, b, 0)))) = (0, 0, b, 0)) && decide (M4 (M4 (M4 (M4 (0, 0, 0, b)))) = (0, 0, 0, b))) = true := by decide +kernel
theorem M4_four {q : Nat × Nat × Nat × Nat} (h : B4 q) : M4 (M4 (M4 (M4 q))) = q := by
  obtain ⟨a, b, c, d⟩ := q
  obtain ⟨h1, h2, h3, h4⟩ := h
  simp only at h1 h2 h3 h4
  have u : ∀ b, b < 256 → (M4 (M4 (M4 (M4 (b, 0, 0, 0)))) = (b, 0, 0, 0) ∧ M4 (M4 (M4 (M4 (0, b, 0, 0)))) = (0, b, 0, 0)) ∧ (M4 (M4 (M4 (M4 (0, 0, b, 0)))) = (0, 0, b, 0) ∧ M4 (M4 (M4 (M4 (0, 0, 0, b)))) = (0, 0, 0, b)) := by
    intro b hb
    have := List.all_eq_true.1 unit4 b (List.mem_range.2 hb)
    simp only [Bool.and_eq_true, decide_eq_true_eq] at this
    exact ⟨⟨this.1.1.1, this.1.1.2⟩, this.1.2, this.2⟩
  have e : (a, b, c, d) = X4 (X4 (a, 0, 0, 0) (0, b, 0, 0)) (X4 (0, 0, c, 0) (0, 0, 0, d)) := by simp [X4]
  have z : (0 : Nat) < 256 := by decide
  have b1 : B4 (a, 0, 0, 0) := ⟨h1, z, z, z⟩
  have b2 : B4 (0, b, 0, 0) := ⟨z, h2, z, z⟩
  have b3 : B4 (0, 0, c, 0) := ⟨z, z, h3, z⟩
  have b4 : B4 (0, 0, 0, d) := ⟨z, z, z, h4⟩
  rw [e, M16_add (X4_lt b1 b2) (X4_lt b3 b4), M16_add b1 b2, M16_add b3 b4, (u a h1).1.1, (u b h2).1.2, (u c h3).2.1, (u d h4).2.2]
/-- A column. -/
def col (b : List Nat) (m : Nat) : Nat × Nat × Nat × Nat := (gd b m, gd b (m + 1), gd b (m + 2), gd b (m + 3))
theorem col_lt {b : List Nat} (h : ∀ x ∈ b, x < 256) (m : Nat) : B4 (col b m) := ⟨gd_lt h _, gd_lt h _, gd_lt h _, gd_lt h _⟩
theorem col_mix (b : List Nat) {m : Nat} (h4 : m % 4 = 0) (hm : m < 16) : col (mix b) m = M4 (col b m) := by
  unfold col M4 mix
  rw [gd_mk _ (by omega), gd_mk _ (by omega), gd_mk _ (by omega), gd_mk _ (by omega)]
  unfold mixAt all4
  rw [show m / 4 * 4 = m from by omega, show (m + 1) / 4 * 4 = m from by omega, show (m + 2) / 4 * 4 = m from by omega, show (m + 3) / 4 * 4 = m from by omega,
    show m % 4 = 0 from h4, show (m + 1) % 4 = 1 from by omega, show (m + 2) % 4 = 2 from by omega, show (m + 3) % 4 = 3 from by omega]
  rfl
theorem mix_four {b : List Nat} (hl : b.length = 16) (hb : ∀ x ∈ b, x < 256) : mix (mix (mix (mix b))) = b := by
  apply ext_gd
  · simp [mix, hl]
  · intro i hi
    have hi16 : i < 16 := by simpa [mix] using hi
    obtain ⟨m, hm⟩ : ∃ m, m = i / 4 * 4 := ⟨_, rfl⟩
    have e : col (mix (mix (mix (mix b)))) m = col b m := by
      rw [col_mix _ (by omega) (by omega), col_mix _ (by omega) (by omega), col_mix _ (by omega) (by omega), col_mix _ (by omega) (by omega), M4_four (col_lt hb m)]
    simp only [col, Prod.mk.injEq] at e
    obtain ⟨e0, e1, e2, e3⟩ := e
    rcases (by omega : i = m ∨ i = m + 1 ∨ i = m + 2 ∨ i = m + 3) with h | h | h | h <;> rw [h] <;> assumption
theorem xorl_cancel {a r : List Nat} (h : a.length = r.length) : xorl (xorl a r) r = a := by
  have h1 : (xorl a r).length = r.length := by rw [xorl_length h, h]
  apply ext_gd
  · rw [xorl_length h1, h1, h]
  · intro i hi
    have hi' : i < a.length := by rw [xorl_length h1, h1, ← h] at hi; exact hi
    rw [gd_xorl h1 (by rw [xorl_length h]; exact hi'), gd_xorl h hi', Nat.xor_assoc, Nat.xor_self, Nat.xor_zero]
theorem sh_to : ∀ i, i < 16 → back ((i + 4 * (i % 4)) % 16) = i := by decide
theorem sh_back : ∀ q, q < 16 → (back q + 4 * (back q % 4)) % 16 = q := by decide
theorem sh_lt : ∀ p, p < 16 → back p < 16 := fun p _ => Nat.mod_lt _ (by decide)
section
variable {t u : Nat → Nat} (htu : ∀ x, x < 256 → u (t x) = x) (hut : ∀ x, x < 256 → t (u x) = x)
include htu in
theorem unshift_shift {c : List Nat} (hl : c.length = 16) (hc : ∀ x ∈ c, x < 256) : unshiftB u (shiftB t c) = c := by
  refine (mk_eq _ hl (fun p hp => ?_)).symm
  have hb : back p < 16 := sh_lt p hp
  rw [shiftB, gd_mk _ hb, htu _ (gd_lt hc _), sh_back p hp]
include hut in
theorem shift_unshift {c : List Nat} (hl : c.length = 16) (hc : ∀ x ∈ c, x < 256) : shiftB t (unshiftB u c) = c := by
  refine (mk_eq _ hl (fun p hp => ?_)).symm
  rw [unshiftB, gd_mk _ (Nat.mod_lt _ (by decide)), hut _ (gd_lt hc _), sh_to p hp]
variable {K : List Nat} (hK : K.length = 240) (hKb : ∀ x ∈ K, x < 256) (ht : ∀ x, x < 256 → t x < 256) (hu : ∀ x, x < 256 → u x < 256)
include htu hK ht in
theorem oround_sround {c : List Nat} (hl : c.length = 16) (hc : ∀ x ∈ c, x < 256) {n : Nat} (hn : n < 15) : oround u K n (sround t K n c) = c := by
  unfold oround omid sround
  have hr := rkey_length hK hn
  by_cases h : n < 14
  · rw [if_pos h, if_pos h, xorl_cancel (by rw [hr]; simp), mix_four (by simp) (shiftB_lt ht hc), unshift_shift htu hl hc]
  · rw [if_neg h, if_neg h, xorl_cancel (by rw [hr]; simp), unshift_shift htu hl hc]
include hut hK hKb in
theorem sround_oround {c : List Nat} (hl : c.length = 16) (hc : ∀ x ∈ c, x < 256) {n : Nat} (hn : n < 15) : sround t K n (oround u K n c) = c := by
  unfold oround omid sround
  have hr := rkey_length hK hn
  have hxl : (xorl c (rkey K n)).length = 16 := by rw [xorl_length (by rw [hl, hr]), hl]
  have hxb := xorl_lt hc (rkey_lt hKb n)
  by_cases h : n < 14
  · rw [if_pos h, if_pos h, shift_unshift hut (by simp) (mix_lt (mix_lt (mix_lt hxb))), mix_four hxl hxb, xorl_cancel (by rw [hl, hr])]
  · rw [if_neg h, if_neg h, shift_unshift hut hxl hxb, xorl_cancel (by rw [hl, hr])]
include htu hK hKb ht in
theorem open_seal {b : List Nat} (hl : b.length = 16) (hb : ∀ x ∈ b, x < 256) : openB u K (sealB t K b) = b := by
  have key : ∀ j, j ≤ 14 → openN u K (sealB t K b) j = sealN t K b (14 - j) := by
    intro j
    induction j with
    | zero => intro _; rfl
    | succ j ih =>
      intro hj
      rw [openN, ih (by omega)]
      obtain ⟨m, hm⟩ : ∃ m, 14 - j = m + 1 := ⟨13 - j, by omega⟩
      rw [hm, show 14 - (j + 1) = m from by omega, sealN]
      exact oround_sround htu hK ht (sealN_length hK hl (by omega)) (sealN_lt ht hKb hb m) (by omega)
  unfold openB
  rw [key 14 (by omega)]
  exact xorl_cancel (by rw [hl, rkey_length hK (by decide)])
include hut hK hKb hu in
theorem seal_open {b : List Nat} (hl : b.length = 16) (hb : ∀ x ∈ b, x < 256) : sealB t K (openB u K b) = b := by
  have key : ∀ n, n ≤ 14 → sealN t K (openB u K b) n = openN u K b (14 - n) := by
    intro n
    induction n with
    | zero =>
      intro _
      rw [sealN, openB]
      exact xorl_cancel (by rw [openN_length hl, rkey_length hK (by decide)])
    | succ n ih =>
      intro hn
      rw [sealN, ih (by omega)]
      obtain ⟨m, hm⟩ : ∃ m, 14 - n = m + 1 := ⟨13 - n, by omega⟩
      rw [hm, show 14 - (n + 1) = m from by omega, openN, show 14 - m = n + 1 from by omega]
      exact sround_oround hut hK hKb (openN_length hl m) (openN_lt hu hKb hb m) (by omega)
  exact key 14 (by omega)
end
end Go.Proofs.PlainAes
