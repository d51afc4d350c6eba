/- Plain laws of layer 12: the nonce, a sector of some bytes over and over, what is sealed, a pointer's cells. -/
import Derived.Test.YtlifpmglaoppoaaSealE
import Derived.Test.YtlifpmglaoppoaaNonP
set_option linter.unusedVariables false
set_option linter.unusedSimpArgs false
namespace Go.Proofs.PlainSeal
open Go.Proofs.PlainAes
open Go.Proofs.PlainSha
open Go.Proofs.PlainMac

/-- A sector of some bytes, over and over. -/
def blkL (l : List Nat) : List Nat := mk 512 (fun i => if 0 < l.length then gd l (i % l.length) else 0)
@[simp] theorem blkL_length (l : List Nat) : (blkL l).length = 512 := by simp [blkL]
theorem blkL_byt {l : List Nat} (h : ∀ x ∈ l, x < 256) : ∀ x ∈ blkL l, x < 256 := mk_lt (fun i _ => by split; exact gd_lt h _; decide)
theorem blkL_nil : blkL [] = List.replicate 512 0 := by decide +kernel
/-- What is sealed under a key. -/
def sealL (k : List Nat) (b a : Nat) (l : List Nat) : List Nat := crypt k (nonceL b a) l
theorem crypt_length (k n l : List Nat) : (crypt k n l).length = l.length := by simp [crypt, xorl]
@[simp] theorem sealL_length (k : List Nat) (b a : Nat) (l : List Nat) : (sealL k b a l).length = l.length := crypt_length _ _ _
theorem sealL_byt {k : List Nat} (bk : ∀ x ∈ k, x < 256) (b a : Nat) {l : List Nat} (bl : ∀ x ∈ l, x < 256) : ∀ x ∈ sealL k b a l, x < 256 := crypt_lt bk (nonceL_byt _ _) bl
theorem strm_flat {k n : List Nat} (hk : k.length = 32) (hn : n.length = 12) : ∀ j, strm k n 0 (16 * j) = (List.range j).flatMap (fun i => sblk k n i)
  | 0 => rfl
  | j + 1 => by
    have h := strm_block hk hn 0 j
    rw [Nat.mul_zero, Nat.zero_add] at h
    rw [← h, strm_flat hk hn j, List.range_succ, List.flatMap_append]
    simp
def keyE (k : List Nat) : List Nat := macL k encL
def keyM (k : List Nat) : List Nat := macL k macS
theorem outL_len (s : List Nat) : (outL s).length = 32 := rfl
@[simp] theorem shaL_len (l : List Nat) : (shaL l).length = 32 := outL_len _
@[simp] theorem keyE_length (k : List Nat) : (keyE k).length = 32 := shaL_len _
@[simp] theorem keyM_length (k : List Nat) : (keyM k).length = 32 := shaL_len _
theorem encL_byt : ∀ x ∈ encL, x < 256 := by decide
theorem macS_byt : ∀ x ∈ macS, x < 256 := by decide
set_option maxRecDepth 100000 in
theorem ex_nonce : nonceL 1 2 = exN := by decide +kernel
set_option maxRecDepth 100000 in
theorem ex_xor : xorl exS (blkL [97, 98, 99]) = exC := by decide +kernel
theorem be4_small : ∀ i, i < 32 → be4 i = [0, 0, 0, i] := by decide
theorem ex_crypt : sealL (keyE masterL) 1 2 (blkL [97, 98, 99]) = exC := by
  have h := strm_flat (k := keyE masterL) (n := exN) (by simp) rfl 32
  have e : (List.range 32).flatMap (fun i => sblk (keyE masterL) exN i) = exS := by
    rw [← ex_blocks, List.flatMap_def, List.flatMap_def]
    refine congrArg List.flatten (List.map_congr_left (fun i hi => ?_))
    unfold sblk keyE nblk
    rw [ex_key, ex_keys, be4_small i (List.mem_range.1 hi)]
  rw [e] at h
  unfold sealL crypt
  rw [ex_nonce, blkL_length, show 512 = 16 * 32 from rfl, h, ex_xor]
set_option maxRecDepth 100000 in
theorem ex_ne : exH ≠ exG := by decide +kernel
theorem ex_turned : shaL (exC.set 100 (gd exC 100 ^^^ 1)) ≠ shaL exC := by
  rw [ex_sum, ex_sum2]
  exact fun h => ex_ne h.symm
end Go.Proofs.PlainSeal
