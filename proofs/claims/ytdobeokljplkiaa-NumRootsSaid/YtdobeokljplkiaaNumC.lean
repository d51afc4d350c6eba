/- Contracts of banyanref01.Same, num.Turn, num.Put. -/
import Derived.Test.YtdobeokljplkiaaNumB
import Derived.Deep.OwnRows
set_option linter.unusedVariables false
set_option linter.unusedSimpArgs false
namespace Go.Proofs.Ytdobeokljplkiaa
open Go.RowKit

theorem bstr_beq {l k : List Nat} (hl : ∀ b ∈ l, b < 256) (hk : ∀ b ∈ k, b < 256) : ((bstr l).toList == (bstr k).toList) = decide (l = k) := by
  rw [ByteArray.toList_eq, ByteArray.toList_eq, Bool.eq_iff_iff]
  simp only [beq_iff_eq, decide_eq_true_eq]
  constructor
  · intro h
    exact bstr_inj hl hk (by cases h1 : bstr l; cases h2 : bstr k; simp_all)
  · rintro rfl; rfl

set_option maxHeartbeats 1000000 in
theorem same_core (A B : Option Addr) (n m c d : Nat) (l k : List Nat) (w : World) (ha : Sl w (.slice A n c) (bv l)) (hb : Sl w (.slice B m d) (bv k)) (hl : ∀ b ∈ l, b < 256) (hk : ∀ b ∈ k, b < 256) :
    Calls Try.prog 16 #[.slice A n c, .slice B m d] w fun e w' => e = .returned (.bool (decide (l = k))) ∧ w = w' := by
  have k1 := run_conv w _ l ha
  have k2 := run_conv w _ k hb
  have e := bstr_beq hl hk
  go_enter Try.func16, Try.ntmps16
  go_wp2
  go_ret
  exact ⟨rfl, rfl⟩

theorem same_any (va vb : Value) (l k : List Nat) (w : World) (ha : Sl w va (bv l)) (hb : Sl w vb (bv k)) (hl : ∀ b ∈ l, b < 256) (hk : ∀ b ∈ k, b < 256) :
    Calls Try.prog 16 #[va, vb] w fun e w' => e = .returned (.bool (decide (l = k))) ∧ w = w' := by
  obtain ⟨A, c, rfl, _⟩ := id ha
  obtain ⟨B, d, rfl, _⟩ := id hb
  exact same_core A B _ _ c d l k w ha hb hl hk

/-- A number's 32 bits, moved around by k places. -/
def turn (x k : Nat) : Nat := (x * 2 ^ k % 4294967296) ||| (x / 2 ^ (32 - k))

theorem mask31 (n : Int) : bits .and .u64 (IntKind.u64.wrap n) 31 = (((n % 32).toNat : Nat) : Int) := by
  have h : bits .and .u64 (IntKind.u64.wrap n) 31 = IntKind.u64.wrap n % 32 := by
    rw [IntKind.wrap_u64]
    have h0 : 0 ≤ n % 18446744073709551616 := by omega
    have h1 : n % 18446744073709551616 < 18446744073709551616 := by omega
    generalize n % 18446744073709551616 = z at *
    obtain ⟨y, rfl⟩ := Int.eq_ofNat_of_zero_le h0
    have := u64_and_nat y 31 (by omega) (by omega)
    rw [nat_mask5] at this
    simpa using this
  rw [h, IntKind.wrap_u64]
  omega

theorem turn_lt {x k : Nat} (hx : x < 4294967296) : turn x k < 4294967296 := by
  unfold turn
  exact Nat.or_lt_two_pow (n := 32) (Nat.mod_lt _ (by decide)) (Nat.lt_of_le_of_lt (Nat.div_le_self _ _) hx)

theorem turn_cast {x k : Nat} (hx : x < 4294967296) (hk : k < 32) : bits .or .u32 ((x : Int) * 2 ^ (k : Int).toNat % 4294967296) ((x : Int) / 2 ^ (32 - (k : Int)).toNat) = ((turn x k : Nat) : Int) := by
  have e1 : (x : Int) * 2 ^ (k : Int).toNat % 4294967296 = ((x * 2 ^ k % 4294967296 : Nat) : Int) := by simp
  have e2 : (x : Int) / 2 ^ (32 - (k : Int)).toNat = ((x / 2 ^ (32 - k) : Nat) : Int) := by
    have : (32 - (k : Int)).toNat = 32 - k := by omega
    rw [this]; simp
  rw [e1, e2, u32_or_nat _ _ (Nat.mod_lt _ (by decide)) (Nat.lt_of_le_of_lt (Nat.div_le_self _ _) hx)]
  rfl

set_option maxHeartbeats 400000 in
theorem turn_any (x : Nat) (n : Int) (w : World) (hx : x < 4294967296) (hn : -9223372036854775808 ≤ n) (hn' : n ≤ 9223372036854775807) :
    Calls Try.prog 13 #[.int .u32 (x : Int), .int .i64 n] w fun e w' => e = .returned (.int .u32 (turn x (n % 32).toNat : Nat)) ∧ w = w' := by
  have hk := mask31 n
  have hk1 : (n % 32).toNat < 32 := by omega
  generalize (n % 32).toNat = k at *
  have H := Lib.hid (turn_cast hx hk1)
  have hx1 : (x : Int) ≤ 4294967295 := by omega
  have hk2 : (k : Int) ≤ 31 := by omega
  go_enter Try.func13, Try.ntmps13
  go_wp2
  go_ret
  refine ⟨?_, rfl⟩
  rw [← H.out]
  simp

end Go.Proofs.Ytdobeokljplkiaa
