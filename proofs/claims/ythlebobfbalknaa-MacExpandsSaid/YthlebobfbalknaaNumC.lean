/- Contracts of banyanref01.Same, num.Turn, num.Put. -/
import Derived.Test.YthlebobfbalknaaBase
import Derived.Test.YthlebobfbalknaaShaP
import Derived.Deep.OwnRows
set_option linter.unusedVariables false
set_option linter.unusedSimpArgs false
namespace Go.Proofs.Ythlebobfbalknaa
open Go.RowKit
open Go.Proofs.PlainSha

theorem mask31 (n : Int) : bits .and .u64 (IntKind.u64.wrap n) 31 = (((n % 32).toNat : Nat) : Int) := by
  have h : bits .and .u64 (IntKind.u64.wrap n) 31 = IntKind.u64.wrap n % 32 := by
    rw [IntKind.wrap_u64]
    have h0 : 0 ≤ n % 18446744073709551616 := by omega
    have h1 : n % 18446744073709551616 < 18446744073709551616 := by omega
    generalize n % 18446744073709551616 = z at *
    obtain ⟨y, rfl⟩ := Int.eq_ofNat_of_zero_le h0
    have := u64_and_nat y 31 (by omega) (by omega)
    rw [nat_mask5] at this
    simpa using this
  rw [h, IntKind.wrap_u64]
  omega

theorem turn_cast {x k : Nat} (hx : x < 4294967296) (hk : k < 32) : bits .or .u32 ((x : Int) * 2 ^ (k : Int).toNat % 4294967296) ((x : Int) / 2 ^ (32 - (k : Int)).toNat) = ((turn x k : Nat) : Int) := by
  have e1 : (x : Int) * 2 ^ (k : Int).toNat % 4294967296 = ((x * 2 ^ k % 4294967296 : Nat) : Int) := by simp
  have e2 : (x : Int) / 2 ^ (32 - (k : Int)).toNat = ((x / 2 ^ (32 - k) : Nat) : Int) := by
    have : (32 - (k : Int)).toNat = 32 - k := by omega
    rw [this]; simp
  rw [e1, e2, u32_or_nat _ _ (Nat.mod_lt _ (by decide)) (Nat.lt_of_le_of_lt (Nat.div_le_self _ _) hx)]
  rfl

set_option maxHeartbeats 400000 in
theorem turn_any (x : Nat) (n : Int) (w : World) (hx : x < 4294967296) (hn : -9223372036854775808 ≤ n) (hn' : n ≤ 9223372036854775807) :
    Calls Try.prog 57 #[.int .u32 (x : Int), .int .i64 n] w fun e w' => e = .returned (.int .u32 (turn x (n % 32).toNat : Nat)) ∧ w = w' := by
  have hk := mask31 n
  have hk1 : (n % 32).toNat < 32 := by omega
  generalize (n % 32).toNat = k at *
  have H := Lib.hid (turn_cast hx hk1)
  have hx1 : (x : Int) ≤ 4294967295 := by omega
  have hk2 : (k : Int) ≤ 31 := by omega
  go_enter Try.func57, Try.ntmps57
  go_wp2
  go_ret
  refine ⟨?_, rfl⟩
  rw [← H.out]
  simp

end Go.Proofs.Ythlebobfbalknaa
