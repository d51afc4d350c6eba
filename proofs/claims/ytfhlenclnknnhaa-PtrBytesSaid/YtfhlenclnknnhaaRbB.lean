/- Contract of banyanref01's Bytes. -/
import Derived.Test.YtfhlenclnknnhaaRbP
set_option linter.unusedVariables false
set_option linter.unusedSimpArgs false
namespace Go.Proofs.Ytfhlenclnknnhaa
open Go.RowKit
open Go.Proofs.PlainSha

theorem rputL_fit {x n : Nat} (hn : n ≤ 8) (h : x / 2 ^ (8 * n) = 0) : rputL x n = putB x n := by
  unfold rputL
  rw [if_neg]
  · rfl
  · rintro (h1 | h1 | h1)
    · omega
    · omega
    · rw [Int.toNat_natCast, h] at h1; omega
def RetBs (l : List Nat) (w : World) (e : Ending) (w' : World) : Prop := ∃ v, e = .returned v ∧ Sl w' v (bv l) ∧ Below w.heap.size w w'
set_option maxRecDepth 100000 in
theorem rbytes_any (x n : Nat) (w : World) (hx : x < 18446744073709551616) (hn : n ≤ 8) (hf : x / 2 ^ (8 * n) = 0) :
    Calls Try.prog 41 #[.int .u64 (x : Int), .int .i64 (n : Int)] w (RetBs (putB x n) w) := by
  have hp := Lib.hid (fun w => rput_any x n w hx (by omega) (by omega))
  rw [rputL_fit hn hf] at hp
  clear hx hf
  go_enter Try.func41, Try.ntmps41
  go_wp2_with fail
  refine (hp.out _).mono ?_
  rintro e w1 ⟨v, rfl, hs, hB⟩
  replace hs := Lib.hid hs
  go_wp2
  go_ret
  exact ⟨v, rfl, hs.out, hB⟩
end Go.Proofs.Ytfhlenclnknnhaa
