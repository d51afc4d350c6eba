/- Plain laws on round keys. -/
import Derived.Test.YtfhlenclnknnhaaAesP
set_option linter.unusedVariables false
set_option linter.unusedSimpArgs false
namespace Go.Proofs.PlainAes
/-! ### Round keys -/
/-- Some bytes of a row. -/
def seg (l : List Nat) (o n : Nat) : List Nat := (l.drop o).take n
theorem seg_length {l : List Nat} {o n : Nat} (h : o + n ≤ l.length) : (seg l o n).length = n := by simp [seg]; omega
theorem gd_seg {l : List Nat} {o n i : Nat} (hi : i < n) : gd (seg l o n) i = gd l (o + i) := by
  simp [gd, seg, List.getElem?_take, hi]
theorem seg_lt {l : List Nat} (h : ∀ b ∈ l, b < 256) (o n : Nat) : ∀ b ∈ seg l o n, b < 256 := fun b hb => h b (List.mem_of_mem_drop (List.mem_of_mem_take hb))
/-- What the word ahead becomes, ahead of the sum: turned, put in the box, with a number added. -/
def kturn (n : Nat) (x : List Nat) : List Nat := if n % 8 = 0 then [gd x 1, gd x 2, gd x 3, gd x 0] else x
def ksub (t : Nat → Nat) (n : Nat) (x : List Nat) : List Nat := if n % 4 = 0 then mk 4 (fun j => t (gd x j)) else x
def krc (n : Nat) (x : List Nat) : List Nat := if n % 8 = 0 then x.set 0 (gd x 0 ^^^ (2 ^ (n / 8 - 1) % 256)) else x
def kmid (t : Nat → Nat) (n : Nat) (x : List Nat) : List Nat := krc n (ksub t n (kturn n x))
def kword (t : Nat → Nat) (k W : List Nat) (n : Nat) : List Nat :=
  if n < 8 then seg k (4 * n) 4 else mk 4 (fun j => gd W (4 * (n - 8) + j) ^^^ gd (kmid t n (seg W (4 * n - 4) 4)) j)
def kwords (t : Nat → Nat) (k : List Nat) : Nat → List Nat
  | 0 => []
  | n + 1 => kwords t k n ++ kword t k (kwords t k n) n
/-- All round keys' bytes, of a key. -/
def keys (t : Nat → Nat) (k : List Nat) : List Nat := kwords t k 60
theorem kword_length (t : Nat → Nat) {k : List Nat} (hk : k.length = 32) (W : List Nat) (n : Nat) : (kword t k W n).length = 4 := by
  unfold kword
  split
  · exact seg_length (by omega)
  · simp
theorem kwords_length (t : Nat → Nat) {k : List Nat} (hk : k.length = 32) : ∀ n, (kwords t k n).length = 4 * n
  | 0 => rfl
  | n + 1 => by rw [kwords, List.length_append, kwords_length t hk n, kword_length t hk]; omega
theorem keys_length (t : Nat → Nat) {k : List Nat} (hk : k.length = 32) : (keys t k).length = 240 := kwords_length t hk 60
theorem kwords_prefix (t : Nat → Nat) {k : List Nat} (hk : k.length = 32) (n : Nat) : ∀ d, (kwords t k (n + d)).take (4 * n) = kwords t k n
  | 0 => by rw [Nat.add_zero, List.take_of_length_le (by rw [kwords_length t hk]; omega)]
  | d + 1 => by
    rw [← Nat.add_assoc, kwords, List.take_append_of_le_length (by rw [kwords_length t hk]; omega)]
    exact kwords_prefix t hk n d
theorem keys_prefix (t : Nat → Nat) {k : List Nat} (hk : k.length = 32) {n : Nat} (hn : n ≤ 60) : (keys t k).take (4 * n) = kwords t k n := by
  have := kwords_prefix t hk n (60 - n)
  rwa [show n + (60 - n) = 60 from by omega] at this
theorem gd_kwords (t : Nat → Nat) {k : List Nat} (hk : k.length = 32) {n : Nat} (hn : n ≤ 60) {p : Nat} (hp : p < 4 * n) : gd (kwords t k n) p = gd (keys t k) p := by
  rw [← keys_prefix t hk hn]
  simp [gd, List.getElem?_take, hp]
theorem seg_kwords (t : Nat → Nat) {k : List Nat} (hk : k.length = 32) {n : Nat} (hn : n ≤ 60) {p m : Nat} (hp : p + m ≤ 4 * n) : seg (kwords t k n) p m = seg (keys t k) p m := by
  apply ext_gd
  · rw [seg_length (by rw [kwords_length t hk]; omega), seg_length (by rw [keys_length t hk]; omega)]
  · intro i hi
    rw [seg_length (by rw [kwords_length t hk]; omega)] at hi
    rw [gd_seg hi, gd_seg hi, gd_kwords t hk hn (by omega)]
/-- Word n of the round keys. -/
theorem keys_word (t : Nat → Nat) {k : List Nat} (hk : k.length = 32) {n : Nat} (hn : n < 60) : seg (keys t k) (4 * n) 4 = kword t k (kwords t k n) n := by
  rw [← seg_kwords t hk (n := n + 1) (by omega) (by omega)]
  unfold seg
  rw [kwords, List.drop_append_of_le_length (by rw [kwords_length t hk]; omega), List.drop_of_length_le (by rw [kwords_length t hk]; omega)]
  simp [List.take_of_length_le, kword_length t hk]
theorem keys_low (t : Nat → Nat) {k : List Nat} (hk : k.length = 32) {n : Nat} (hn : n < 8) : seg (keys t k) (4 * n) 4 = seg k (4 * n) 4 := by
  rw [keys_word t hk (by omega), kword, if_pos hn]
theorem keys_high (t : Nat → Nat) {k : List Nat} (hk : k.length = 32) {n : Nat} (h8 : 8 ≤ n) (hn : n < 60) {j : Nat} (hj : j < 4) :
    gd (keys t k) (4 * n + j) = gd (keys t k) (4 * (n - 8) + j) ^^^ gd (kmid t n (seg (keys t k) (4 * n - 4) 4)) j := by
  rw [← gd_seg (o := 4 * n) hj, keys_word t hk hn, kword, if_neg (by omega), gd_mk _ hj, gd_kwords t hk (by omega) (by omega), seg_kwords t hk (by omega) (by omega)]
theorem kturn_length {n : Nat} {x : List Nat} (h : x.length = 4) : (kturn n x).length = 4 := by unfold kturn; split <;> simp [h]
theorem ksub_length {t : Nat → Nat} {n : Nat} {x : List Nat} (h : x.length = 4) : (ksub t n x).length = 4 := by unfold ksub; split <;> simp [h]
theorem krc_length {n : Nat} {x : List Nat} (h : x.length = 4) : (krc n x).length = 4 := by unfold krc; split <;> simp [h]
theorem kturn_lt {n : Nat} {x : List Nat} (h : ∀ b ∈ x, b < 256) : ∀ b ∈ kturn n x, b < 256 := by
  unfold kturn; split
  · intro b hb
    simp only [List.mem_cons, List.not_mem_nil, or_false] at hb
    rcases hb with rfl | rfl | rfl | rfl <;> exact gd_lt h _
  · exact h
theorem ksub_lt {t : Nat → Nat} (ht : ∀ x, x < 256 → t x < 256) {n : Nat} {x : List Nat} (h : ∀ b ∈ x, b < 256) : ∀ b ∈ ksub t n x, b < 256 := by
  unfold ksub; split
  · exact mk_lt (fun j _ => ht _ (gd_lt h _))
  · exact h
theorem krc_lt {n : Nat} {x : List Nat} (h : ∀ b ∈ x, b < 256) : ∀ b ∈ krc n x, b < 256 := by
  unfold krc; split
  · intro b hb
    rcases List.mem_or_eq_of_mem_set hb with h1 | rfl
    · exact h b h1
    · exact xor_lt (gd_lt h _) (Nat.mod_lt _ (by decide))
  · exact h
theorem kword_lt {t : Nat → Nat} (ht : ∀ x, x < 256 → t x < 256) {k W : List Nat} (hk : ∀ b ∈ k, b < 256) (hW : ∀ b ∈ W, b < 256) (n : Nat) : ∀ b ∈ kword t k W n, b < 256 := by
  unfold kword; split
  · exact seg_lt hk _ _
  · exact mk_lt (fun j _ => xor_lt (gd_lt hW _) (gd_lt (krc_lt (ksub_lt ht (kturn_lt (seg_lt hW _ _)))) _))
theorem kwords_lt {t : Nat → Nat} (ht : ∀ x, x < 256 → t x < 256) {k : List Nat} (hk : ∀ b ∈ k, b < 256) : ∀ n, ∀ b ∈ kwords t k n, b < 256
  | 0 => by simp [kwords]
  | n + 1 => by
    intro b hb
    rcases List.mem_append.1 hb with h | h
    · exact kwords_lt ht hk n b h
    · exact kword_lt ht hk (kwords_lt ht hk n) n b h
theorem keys_lt {t : Nat → Nat} (ht : ∀ x, x < 256 → t x < 256) {k : List Nat} (hk : ∀ b ∈ k, b < 256) : ∀ b ∈ keys t k, b < 256 := kwords_lt ht hk 60
end Go.Proofs.PlainAes
