/- Plain laws of the stream: its blocks in a row, its parts. -/
import Derived.Test.YtokphnfhajljmaaCtrA
set_option linter.unusedVariables false
set_option linter.unusedSimpArgs false
namespace Go.Proofs.PlainAes

theorem sblk_length {k n : List Nat} (hk : k.length = 32) (hn : n.length = 12) (i : Nat) : (sblk k n i).length = 16 := sealB_length (keys_length box hk) (by simp [nblk, hn])
theorem nblk_lt {n : List Nat} (bn : ∀ b ∈ n, b < 256) (i : Nat) : ∀ b ∈ nblk n i, b < 256 := by
  intro x hx
  rcases List.mem_append.1 hx with h | h
  · exact bn x h
  · exact be4_byt i x h
theorem sblk_lt {k n : List Nat} (bk : ∀ b ∈ k, b < 256) (bn : ∀ b ∈ n, b < 256) (i : Nat) : ∀ b ∈ sblk k n i, b < 256 := sealB_lt (fun x h => box_lt h) (keys_lt (fun x h => box_lt h) bk) (nblk_lt bn i)
theorem strm_lt {k n : List Nat} (bk : ∀ b ∈ k, b < 256) (bn : ∀ b ∈ n, b < 256) (p m : Nat) : ∀ b ∈ strm k n p m, b < 256 := mk_lt (fun i _ => gd_lt (sblk_lt bk bn _) _)
theorem mk_append (a b : Nat) (f : Nat → Nat) : mk a f ++ mk b (fun i => f (a + i)) = mk (a + b) f := by
  unfold mk
  rw [List.range_add, List.map_append, List.map_map]
  rfl
theorem sblk_mk {k n : List Nat} (hk : k.length = 32) (hn : n.length = 12) (i : Nat) : sblk k n i = strm k n (16 * i) 16 := by
  refine mk_eq _ (sblk_length hk hn i) (fun j hj => ?_)
  unfold sby
  rw [show (16 * i + j) / 16 = i from by omega, show (16 * i + j) % 16 = j from by omega]
theorem strm_append (k n : List Nat) (p a b : Nat) : strm k n p a ++ strm k n (p + a) b = strm k n p (a + b) := by
  unfold strm
  rw [← mk_append]
  simp only [Nat.add_assoc]
theorem strm_block {k n : List Nat} (hk : k.length = 32) (hn : n.length = 12) (q j : Nat) : strm k n (16 * q) (16 * j) ++ sblk k n (q + j) = strm k n (16 * q) (16 * (j + 1)) := by
  rw [sblk_mk hk hn, show 16 * (q + j) = 16 * q + 16 * j from by omega, strm_append, Nat.mul_succ]
theorem mk_drop (m a : Nat) (f : Nat → Nat) : (mk m f).drop a = mk (m - a) (fun i => f (a + i)) := by
  apply ext_gd
  · simp
  · intro i hi
    have hi' : i < m - a := by simpa using hi
    have : gd ((mk m f).drop a) i = gd (mk m f) (a + i) := by simp [gd]
    rw [this, gd_mk f (by omega), gd_mk _ hi']
theorem mk_take (m a : Nat) (f : Nat → Nat) (h : a ≤ m) : (mk m f).take a = mk a f := by
  apply ext_gd
  · simp; omega
  · intro i hi
    have hi' : i < a := by simp at hi; omega
    have : gd ((mk m f).take a) i = gd (mk m f) i := by simp [gd, hi']
    rw [this, gd_mk f (by omega), gd_mk _ hi']
theorem strm_drop (k n : List Nat) (p m a : Nat) : (strm k n p m).drop a = strm k n (p + a) (m - a) := by
  unfold strm
  rw [mk_drop]
  simp only [Nat.add_assoc]
theorem strm_take (k n : List Nat) (p m a : Nat) (h : a ≤ m) : (strm k n p m).take a = strm k n p a := mk_take _ _ _ h
/-- The part asked for, of the blocks made. -/
theorem strm_part (k n : List Nat) (p m j : Nat) (h : p % 16 + m ≤ 16 * j) : ((strm k n (16 * (p / 16)) (16 * j)).drop (p % 16)).take m = strm k n p m := by
  rw [strm_drop, strm_take _ _ _ _ _ (by omega), show 16 * (p / 16) + p % 16 = p from by omega]
/-- What is crypted. -/
def crypt (k n l : List Nat) : List Nat := xorl (strm k n 0 l.length) l
@[simp] theorem crypt_length (k n l : List Nat) : (crypt k n l).length = l.length := by rw [crypt, xorl_length (by simp)]; simp
theorem crypt_lt {k n l : List Nat} (bk : ∀ b ∈ k, b < 256) (bn : ∀ b ∈ n, b < 256) (bl : ∀ b ∈ l, b < 256) : ∀ b ∈ crypt k n l, b < 256 := xorl_lt (strm_lt bk bn _ _) bl
theorem gd_crypt (k n l : List Nat) {i : Nat} (h : i < l.length) : gd (crypt k n l) i = sby k n i ^^^ gd l i := by
  rw [crypt, gd_xorl (by simp) (by simpa using h), strm, gd_mk _ h, Nat.zero_add]
theorem crypt_twice (k n l : List Nat) : crypt k n (crypt k n l) = l := by
  apply ext_gd
  · simp
  · intro i hi
    have hi' : i < l.length := by simpa using hi
    rw [gd_crypt _ _ _ (by simpa using hi'), gd_crypt _ _ _ hi', ← Nat.xor_assoc, Nat.xor_self, Nat.zero_xor]
theorem gd_take {l : List Nat} {a i : Nat} (h : i < a) : gd (l.take a) i = gd l i := by simp [gd, h]
theorem crypt_take (k n l : List Nat) (a : Nat) (h : a ≤ l.length) : crypt k n (l.take a) = (crypt k n l).take a := by
  apply ext_gd
  · simp
  · intro i hi
    have hi' : i < a := by simp at hi; omega
    rw [gd_crypt _ _ _ (by simp; omega), gd_take hi', gd_take hi', gd_crypt _ _ _ (by omega)]
theorem crypt_zeros (k n : List Nat) (m : Nat) : crypt k n (List.replicate m 0) = strm k n 0 m := by
  apply ext_gd
  · simp
  · intro i hi
    have hi' : i < m := by simpa using hi
    rw [gd_crypt _ _ _ (by simpa using hi'), strm, gd_mk _ hi', Nat.zero_add]
    have : gd (List.replicate m 0) i = 0 := by simp [gd, hi']
    rw [this, Nat.xor_zero]
end Go.Proofs.PlainAes
