/- Plain laws on blocks sealed and opened. -/
import Derived.Test.YtlifpmglaoppoaaAesQ
set_option linter.unusedVariables false
set_option linter.unusedSimpArgs false
namespace Go.Proofs.PlainAes
/-- Bytes put in the box, and moved. -/
def shiftB (t : Nat → Nat) (b : List Nat) : List Nat := mk 16 (fun i => t (gd b ((i + 4 * (i % 4)) % 16)))
/-- Round key n. -/
def rkey (K : List Nat) (n : Nat) : List Nat := seg K (16 * n) 16
def sround (t : Nat → Nat) (K : List Nat) (n : Nat) (b : List Nat) : List Nat := xorl (if n < 14 then mix (shiftB t b) else shiftB t b) (rkey K n)
def sealN (t : Nat → Nat) (K b : List Nat) : Nat → List Nat
  | 0 => xorl b (rkey K 0)
  | n + 1 => sround t K (n + 1) (sealN t K b n)
/-- A block, sealed under round keys. -/
def sealB (t : Nat → Nat) (K b : List Nat) : List Nat := sealN t K b 14
/-- Where a byte comes from. -/
def back (p : Nat) : Nat := (p + 12 * (p % 4)) % 16
def unshiftB (u : Nat → Nat) (x : List Nat) : List Nat := mk 16 (fun p => u (gd x (back p)))
def omid (K : List Nat) (n : Nat) (b : List Nat) : List Nat := if n < 14 then mix (mix (mix (xorl b (rkey K n)))) else xorl b (rkey K n)
def oround (u : Nat → Nat) (K : List Nat) (n : Nat) (b : List Nat) : List Nat := unshiftB u (omid K n b)
def openN (u : Nat → Nat) (K b : List Nat) : Nat → List Nat
  | 0 => b
  | j + 1 => oround u K (14 - j) (openN u K b j)
/-- A block, opened. -/
def openB (u : Nat → Nat) (K b : List Nat) : List Nat := xorl (openN u K b 14) (rkey K 0)

@[simp] theorem shiftB_length (t : Nat → Nat) (b : List Nat) : (shiftB t b).length = 16 := by simp [shiftB]
@[simp] theorem mix_length (b : List Nat) : (mix b).length = 16 := by simp [mix]
@[simp] theorem unshiftB_length (u : Nat → Nat) (b : List Nat) : (unshiftB u b).length = 16 := by simp [unshiftB]
section
variable {t u : Nat → Nat} {K b : List Nat}
theorem rkey_length (hK : K.length = 240) {n : Nat} (hn : n < 15) : (rkey K n).length = 16 := seg_length (by omega)
theorem rkey_lt (hK : ∀ x ∈ K, x < 256) (n : Nat) : ∀ x ∈ rkey K n, x < 256 := seg_lt hK _ _
theorem shiftB_lt (ht : ∀ x, x < 256 → t x < 256) (hb : ∀ x ∈ b, x < 256) : ∀ x ∈ shiftB t b, x < 256 := mk_lt (fun i _ => ht _ (gd_lt hb _))
theorem unshiftB_lt (ht : ∀ x, x < 256 → u x < 256) (hb : ∀ x ∈ b, x < 256) : ∀ x ∈ unshiftB u b, x < 256 := mk_lt (fun i _ => ht _ (gd_lt hb _))
theorem sround_length (hK : K.length = 240) {n : Nat} (hn : n < 15) : (sround t K n b).length = 16 := by
  unfold sround
  rw [xorl_length]
  · split <;> simp
  · rw [rkey_length hK hn]; split <;> simp
theorem sealN_length (hK : K.length = 240) (hb : b.length = 16) : ∀ {n : Nat}, n < 15 → (sealN t K b n).length = 16
  | 0, _ => by rw [sealN, xorl_length (by rw [hb, rkey_length hK (by omega)]), hb]
  | n + 1, h => by rw [sealN]; exact sround_length hK h
theorem sround_lt (ht : ∀ x, x < 256 → t x < 256) (hK : ∀ x ∈ K, x < 256) (n : Nat) (hb : ∀ x ∈ b, x < 256) : ∀ x ∈ sround t K n b, x < 256 := by
  unfold sround
  refine xorl_lt ?_ (rkey_lt hK n)
  split
  · exact mix_lt (shiftB_lt ht hb)
  · exact shiftB_lt ht hb
theorem sealN_lt (ht : ∀ x, x < 256 → t x < 256) (hK : ∀ x ∈ K, x < 256) (hb : ∀ x ∈ b, x < 256) : ∀ n, ∀ x ∈ sealN t K b n, x < 256
  | 0 => xorl_lt hb (rkey_lt hK 0)
  | n + 1 => sround_lt ht hK (n + 1) (sealN_lt ht hK hb n)
theorem omid_length (hK : K.length = 240) (hb : b.length = 16) {n : Nat} (hn : n < 15) : (omid K n b).length = 16 := by
  unfold omid
  split
  · simp
  · rw [xorl_length (by rw [hb, rkey_length hK hn]), hb]
theorem omid_lt (hK : ∀ x ∈ K, x < 256) (n : Nat) (hb : ∀ x ∈ b, x < 256) : ∀ x ∈ omid K n b, x < 256 := by
  unfold omid
  split
  · exact mix_lt (mix_lt (mix_lt (xorl_lt hb (rkey_lt hK n))))
  · exact xorl_lt hb (rkey_lt hK n)
theorem openN_length (hb : b.length = 16) : ∀ n, (openN u K b n).length = 16
  | 0 => hb
  | n + 1 => by rw [openN, oround]; simp
theorem openN_lt (hu : ∀ x, x < 256 → u x < 256) (hK : ∀ x ∈ K, x < 256) (hb : ∀ x ∈ b, x < 256) : ∀ n, ∀ x ∈ openN u K b n, x < 256
  | 0 => hb
  | n + 1 => unshiftB_lt hu (omid_lt hK _ (openN_lt hu hK hb n))
theorem sealB_length (hK : K.length = 240) (hb : b.length = 16) : (sealB t K b).length = 16 := sealN_length hK hb (by decide)
theorem sealB_lt (ht : ∀ x, x < 256 → t x < 256) (hK : ∀ x ∈ K, x < 256) (hb : ∀ x ∈ b, x < 256) : ∀ x ∈ sealB t K b, x < 256 := sealN_lt ht hK hb 14
theorem openB_length (hK : K.length = 240) (hb : b.length = 16) : (openB u K b).length = 16 := by
  unfold openB
  rw [xorl_length (by rw [openN_length hb, rkey_length hK (by decide)]), openN_length hb]
theorem openB_lt (hu : ∀ x, x < 256 → u x < 256) (hK : ∀ x ∈ K, x < 256) (hb : ∀ x ∈ b, x < 256) : ∀ x ∈ openB u K b, x < 256 := xorl_lt (openN_lt hu hK hb 14) (rkey_lt hK 0)
end
end Go.Proofs.PlainAes
