/- Plain laws of the stream: the blocks of a nonce, its bytes. -/
import Derived.Test.YtokphnfhajljmaaAesS
import Derived.Test.YtokphnfhajljmaaApp
set_option linter.unusedVariables false
set_option linter.unusedSimpArgs false
namespace Go.Proofs.PlainAes

/-- A number's four bytes. -/
def be4 (x : Nat) : List Nat := [x / 16777216 % 256, x / 65536 % 256, x / 256 % 256, x % 256]
@[simp] theorem be4_length (x : Nat) : (be4 x).length = 4 := rfl
theorem be4_byt (x : Nat) : ∀ b ∈ be4 x, b < 256 := by
  intro b hb
  simp only [be4, List.mem_cons, List.not_mem_nil, or_false] at hb
  omega
/-- A block of the stream. -/
def nblk (n : List Nat) (i : Nat) : List Nat := n ++ be4 i
def sblk (k n : List Nat) (i : Nat) : List Nat := sealB box (keys box k) (nblk n i)
/-- The stream's byte at a place. -/
def sby (k n : List Nat) (p : Nat) : Nat := gd (sblk k n (p / 16)) (p % 16)
/-- The stream from a place on. -/
def strm (k n : List Nat) (p m : Nat) : List Nat := mk m (fun j => sby k n (p + j))
@[simp] theorem strm_length (k n : List Nat) (p m : Nat) : (strm k n p m).length = m := by simp [strm]
end Go.Proofs.PlainAes
