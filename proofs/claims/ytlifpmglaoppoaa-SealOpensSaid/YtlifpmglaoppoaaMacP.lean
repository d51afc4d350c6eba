/- HMAC on plain lists. -/
import Derived.Test.YtlifpmglaoppoaaShaP
set_option linter.unusedVariables false
set_option linter.unusedSimpArgs false
namespace Go.Proofs.PlainMac
open Go.Proofs.PlainSha

def padK (k : List Nat) : List Nat := (if 64 < k.length then shaL k else k) ++ List.replicate (64 - (if 64 < k.length then shaL k else k).length) 0
def xk (k : List Nat) (b : Nat) : List Nat := k.map (· ^^^ b)
def macL (k m : List Nat) : List Nat := shaL (xk (padK k) 92 ++ shaL (xk (padK k) 54 ++ m))
def jefe : List Nat := [74, 101, 102, 101]
def what : List Nat := [119, 104, 97, 116, 32, 100, 111, 32, 121, 97, 32, 119, 97, 110, 116, 32, 102, 111, 114, 32, 110, 111, 116, 104, 105, 110, 103, 63]
theorem macL_jefe : macL jefe what = [0x5b, 0xdc, 0xc1, 0x46, 0xbf, 0x60, 0x75, 0x4e, 0x6a, 0x04, 0x24, 0x26, 0x08, 0x95, 0x75, 0xc7, 0x5a, 0x00, 0x3f, 0x08, 0x9d, 0x27, 0x39, 0x83, 0x9d, 0xec, 0x58, 0xb9, 0x64, 0xec, 0x38, 0x43] := by decide +kernel
theorem padK_pad {k : List Nat} {n : Nat} (h : k.length + n ≤ 64) : padK (k ++ List.replicate n 0) = padK k := by
  unfold padK
  rw [if_neg (by simp; omega), if_neg (by omega), List.append_assoc, List.replicate_append_replicate]
  congr 2
  simp
  omega
theorem macL_pad {k : List Nat} {n : Nat} (m : List Nat) (h : k.length + n ≤ 64) : macL (k ++ List.replicate n 0) m = macL k m := by
  unfold macL
  rw [padK_pad h]
theorem padK_hash {k : List Nat} (h : 64 < k.length) (hl : (shaL k).length = 32) : padK (shaL k) = padK k := by
  unfold padK
  rw [if_neg (by omega), if_pos h]
theorem macL_hash {k : List Nat} (m : List Nat) (h : 64 < k.length) (hl : (shaL k).length = 32) : macL (shaL k) m = macL k m := by
  unfold macL
  rw [padK_hash h hl]
/-- The bytes expanded: blocks of 32. -/
def expB (k l : List Nat) : Nat → List Nat
  | 0 => []
  | n + 1 => macL k (expB k l n ++ l ++ [(n + 1) % 256])
def expL (k l : List Nat) : Nat → List Nat
  | 0 => []
  | n + 1 => expL k l n ++ expB k l (n + 1)
theorem expL_take (k l : List Nat) (hl : ∀ m, (macL k m).length = 32) (n : Nat) : ∀ j, (expL k l (n + j)).take (32 * n) = expL k l n := by
  have hn : ∀ n, (expL k l n).length = 32 * n := by
    intro n
    induction n with
    | zero => rfl
    | succ n ih => rw [expL, List.length_append, ih, expB, hl]; omega
  intro j
  induction j with
  | zero => rw [Nat.add_zero, List.take_of_length_le (by rw [hn]; omega)]
  | succ j ih => rw [← Nat.add_assoc, expL, List.take_append_of_le_length (by rw [hn]; omega), ih]
end Go.Proofs.PlainMac
