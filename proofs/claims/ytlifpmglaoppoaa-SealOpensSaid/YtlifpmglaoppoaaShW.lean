/- Rows of numbers of 32 bits; bits of such numbers. -/
import Derived.Test.YtlifpmglaoppoaaArrB
import Derived.Test.YtlifpmglaoppoaaApp
import Derived.Test.YtlifpmglaoppoaaShaP
import Derived.IntWalk
set_option linter.unusedVariables false
set_option linter.unusedSimpArgs false
namespace Go.Proofs.Ytlifpmglaoppoaa
open Go.RowKit
open Go.Proofs.PlainAes
open Go.Proofs.PlainSha

/-- Numbers of 32 bits as values. -/
def wv (l : List Nat) : List Value := l.map fun (b : Nat) => Value.int .u32 (b : Int)
@[simp] theorem wv_length (l : List Nat) : (wv l).length = l.length := by simp [wv]
theorem wv_get (l : List Nat) (i : Nat) : (wv l)[i]? = (l[i]?).map fun (b : Nat) => Value.int .u32 (b : Int) := by simp [wv]
theorem wv_some {l : List Nat} {k x : Nat} (h : l[k]? = some x) : (wv l)[k]? = some (.int .u32 (x : Int)) := by rw [wv_get, h]; rfl
theorem wv_set (l : List Nat) (k x : Nat) : (wv l).set k (.int .u32 (x : Int)) = wv (l.set k x) := by simp [wv]
theorem ones_wv (l : List Nat) : Ones (wv l) := by
  intro y hy
  simp only [wv, List.mem_map] at hy
  obtain ⟨b, _, rfl⟩ := hy
  rfl
theorem wv_app (l m : List Nat) : wv (l ++ m) = wv l ++ wv m := by simp [wv]
theorem bv_app (l m : List Nat) : bv (l ++ m) = bv l ++ bv m := by simp [bv]
theorem gd_wv {l : List Nat} {k : Nat} (h : k < l.length) : (wv l)[k]? = some (.int .u32 ((gd l k : Nat) : Int)) := wv_some (gd_get h)
theorem gd_bv {l : List Nat} {k : Nat} (h : k < l.length) : (bv l)[k]? = some (.int .u8 ((gd l k : Nat) : Int)) := bv_some (gd_get h)

theorem x32 {a b : Nat} (ha : a < 4294967296) (hb : b < 4294967296) : bits .xor .u32 (a : Int) (b : Int) = ((a ^^^ b : Nat) : Int) ∧ a ^^^ b < 4294967296 := ⟨u32_xor_nat a b ha hb, xor32 ha hb⟩
theorem o32 {a b : Nat} (ha : a < 4294967296) (hb : b < 4294967296) : bits .or .u32 (a : Int) (b : Int) = ((a ||| b : Nat) : Int) ∧ a ||| b < 4294967296 := ⟨u32_or_nat a b ha hb, or32 ha hb⟩
theorem a32 {a b : Nat} (ha : a < 4294967296) (hb : b < 4294967296) : bits .and .u32 (a : Int) (b : Int) = ((a &&& b : Nat) : Int) ∧ a &&& b < 4294967296 := ⟨u32_and_nat a b ha hb, and32 ha⟩
theorem wrap32 (a b : Nat) : ∃ z : Nat, IntKind.u32.wrap ((a : Int) + (b : Int)) = (z : Int) ∧ z < 4294967296 ∧ z = (a + b) % 4294967296 :=
  ⟨(a + b) % 4294967296, by rw [IntKind.wrap_u32]; omega, Nat.mod_lt _ (by decide), rfl⟩
theorem sum4 {a b c d z1 z2 z3 : Nat} (h1 : z1 = (a + b) % 4294967296) (h2 : z2 = (z1 + c) % 4294967296) (h3 : z3 = (z2 + d) % 4294967296) : z3 = (a + b + c + d) % 4294967296 := by omega
theorem sum5 {a b c d e z1 z2 z3 z4 : Nat} (h1 : z1 = (a + b) % 4294967296) (h2 : z2 = (z1 + c) % 4294967296) (h3 : z3 = (z2 + d) % 4294967296) (h4 : z4 = (z3 + e) % 4294967296) : z4 = (a + b + c + d + e) % 4294967296 := by omega
end Go.Proofs.Ytlifpmglaoppoaa
