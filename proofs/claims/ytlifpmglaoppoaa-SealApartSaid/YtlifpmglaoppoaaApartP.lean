/- Plain laws of SealApart: first blocks of a stream. -/
import Derived.Test.YtlifpmglaoppoaaSealP
import Derived.Test.YtlifpmglaoppoaaBackP
set_option linter.unusedVariables false
set_option linter.unusedSimpArgs false
namespace Go.Proofs.PlainSeal
open Go.Proofs.PlainAes
open Go.Proofs.PlainSha
open Go.Proofs.PlainMac

theorem unbox_box12 : ∀ a, a < 256 → unbox (box a) = a := by decide +kernel
theorem first16 (k : List Nat) (b a : Nat) (hk : k.length = 32) : (sealL k b a (blkL [])).take 16 = sblk k (nonceL b a) 0 := by
  rw [blkL_nil]
  unfold sealL
  rw [crypt_zeros, strm_take _ _ _ _ _ (by decide), sblk_mk hk (nonceL_length b a)]
theorem nblk_byt12 (b a : Nat) : ∀ x ∈ nblk (nonceL b a) 0, x < 256 := nblk_lt (nonceL_byt b a) 0
theorem open_first (k : List Nat) (b a : Nat) (hk : k.length = 32) (bk : ∀ x ∈ k, x < 256) : openB unbox (keys box k) (sblk k (nonceL b a) 0) = nblk (nonceL b a) 0 :=
  open_seal (t := box) (u := unbox) unbox_box12 (keys_length box hk) (keys_lt (fun x h => box_lt h) bk) (fun x h => box_lt h) (by simp [nblk]) (nblk_byt12 b a)
theorem be4_inj {x y : Nat} (hx : x < 4294967296) (hy : y < 4294967296) (h : be4 x = be4 y) : x = y := by
  unfold be4 at h
  simp only [List.cons.injEq] at h
  omega
theorem nonce_inj {m n p o : Nat} (hm : m ≤ 4294967296) (hn : n ≤ 4294967296) (hp : p < 4294967296) (ho : o < 4294967296) (h : nonceL m p = nonceL n o) : m = n ∧ p = o := by
  unfold nonceL at h
  have h1 := List.append_inj h (by simp)
  have h2 := List.append_inj h1.2 (by simp)
  have e1 := be4_inj (by omega) (by omega) h1.1
  have e2 := be4_inj (by omega) (by omega) h2.1
  have e3 := be4_inj hp ho h2.2
  omega
theorem first_iff (k : List Nat) (hk : k.length = 32) (bk : ∀ x ∈ k, x < 256) {m n p o : Nat} (hm : m ≤ 4294967296) (hn : n ≤ 4294967296) (hp : p < 4294967296) (ho : o < 4294967296) (h : sblk k (nonceL m p) 0 = sblk k (nonceL n o) 0) : m = n ∧ p = o := by
  have e := congrArg (openB unbox (keys box k)) h
  rw [open_first k m p hk bk, open_first k n o hk bk] at e
  unfold nblk at e
  exact nonce_inj hm hn hp ho (List.append_inj e (by simp)).1
theorem nblk_ne {m : Nat} (p : Nat) (h0 : 1 ≤ m) (hm : m ≤ 4294967296) : nblk (nonceL m p) 0 ≠ List.replicate 16 0 := fun h => by
  unfold nblk nonceL at h
  have e : be4 (m / 4294967296) ++ (be4 (m % 4294967296) ++ be4 p) ++ be4 0 = [0, 0, 0, 0] ++ ([0, 0, 0, 0] ++ [0, 0, 0, 0]) ++ [0, 0, 0, 0] := h
  have h1 := (List.append_inj e (by simp)).1
  have h2 := List.append_inj h1 (by simp)
  have h3 := List.append_inj h2.2 (by simp)
  have e1 := be4_inj (x := m / 4294967296) (y := 0) (by omega) (by omega) h2.1
  have e2 := be4_inj (x := m % 4294967296) (y := 0) (by omega) (by omega) h3.1
  omega
theorem sblk_len12 (k : List Nat) (b a : Nat) (hk : k.length = 32) : (sblk k (nonceL b a) 0).length = 16 := sblk_length hk (nonceL_length b a) 0
theorem sblk_byt12 (k : List Nat) (b a : Nat) (bk : ∀ x ∈ k, x < 256) : ∀ x ∈ sblk k (nonceL b a) 0, x < 256 := sblk_lt bk (nonceL_byt b a) 0
end Go.Proofs.PlainSeal
