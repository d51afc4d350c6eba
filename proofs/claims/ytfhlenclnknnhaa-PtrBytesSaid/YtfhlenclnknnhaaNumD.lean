/- Contract of num.Put; the statements' own example (alive). -/
import Derived.Test.YtfhlenclnknnhaaNumD0
set_option linter.unusedVariables false
set_option linter.unusedSimpArgs false
namespace Go.Proofs.Ytfhlenclnknnhaa
open Go.RowKit
open Go.Proofs.PlainSha

set_option maxHeartbeats 1000000 in
theorem put_ok (x n : Nat) (w : World) (hx : x < 18446744073709551616) (hn : n ≤ 8) (hf : x / 2 ^ (8 * n) = 0) :
    Calls Try.prog 46 #[.int .u64 (x : Int), .int .i64 (n : Int)] w (RetB (putB x n) 0 w) := by
  have hmk := run_make_row' (P := Try.prog) 35 5 (.int .u8 0) 1 Try.underlying35 infoU8 rfl .i64 .i64 n (by omega) (by omega)
  have hs : n < 8 → (x : Int) / 2 ^ (8 * (n : Int)).toNat = 0 := by
    intro _
    have : (8 * (n : Int)).toNat = 8 * n := by omega
    rw [this]
    have h := congrArg (fun z : Nat => (z : Int)) hf
    simpa using h
  have hn8 : (n : Int) ≤ 8 := by omega
  have hlen := Lib.hid (putB_length x n)
  by_cases h8 : (8 : Int) ≤ n
  all_goals
    have hs' : ¬ (8 : Int) ≤ n → (x : Int) / 2 ^ (8 * (n : Int)).toNat = 0 := fun h => hs (by omega)
    go_enter Try.func46, Try.ntmps46
    go_wp2
    go_loopw [30] (fun i wr => ∃ k : Nat, k ≤ n ∧ i = .int .i64 k ∧ Below w.heap.size w wr ∧ Blk wr w.heap.size 5 (fill (bv (putB x n)) (.int .u8 0) k)) (fun i _ => n - (intOf i).toNat)
    case atStart =>
      refine ⟨0, Nat.zero_le _, rfl, (Below.refl _ _).alloc (Nat.le_refl _) _, ?_⟩
      have := Blk.new w 5 (madeCells #[.int .u8 0] n)
      rw [toList_madeCells_one] at this
      simpa [fill_zero] using this
    case round =>
      obtain ⟨k, hk, rfl, hB, hb⟩ := hrel
      by_cases hlt : k < n
      · have c0 := hb.cell k
        have f0 := hb.frozen k
        obtain ⟨u, hu⟩ := fill_get (bv (putB x n)) (.int .u8 0) (k := k) (by simpa using hlt)
        rw [hu] at c0
        go_wp2
        go_roundw
        case rel =>
          refine ⟨k + 1, by omega, by go_num, hB.setCell (by simp) _, ?_⟩
          rw [← fill_set _ _ _ (putB_get x n k hlt)]
          exact hb.set_ k _
        case measure => simp [intOf]; omega
      · obtain rfl : k = n := by omega
        go_wp2
        go_ret2
        refine ⟨_, rfl, ?_, hB⟩
        have e := fill_all (bv (putB x k)) (.int .u8 0)
        simp only [bv_length, putB_length] at e
        rw [e] at hb
        have := Sl.of_blk (n := k) (c := k) hb (Nat.le_refl _) (by simp) (by unfold maxLen; omega)
        rwa [List.take_of_length_le (by simp)] at this

set_option maxHeartbeats 1000000 in
theorem put_bad (x : Nat) (n : Int) (w : World) (hx : x < 18446744073709551616) (hn0 : -9223372036854775808 ≤ n) (hn1 : n ≤ 9223372036854775807)
    (h : n < 0 ∨ 8 < n ∨ (0 ≤ n ∧ n < 8 ∧ 0 < x / 2 ^ (8 * n.toNat))) :
    Calls Try.prog 46 #[.int .u64 (x : Int), .int .i64 n] w fun e w' => e = .returned (.tuple #[.slice none 0 0, .int .i64 2]) ∧ w = w' := by
  rcases h with h | h | ⟨h1, h2, h3⟩
  · go_enter Try.func46, Try.ntmps46
    go_wp2
    go_ret2
    exact ⟨rfl, rfl⟩
  · go_enter Try.func46, Try.ntmps46
    go_wp2
    go_ret2
    exact ⟨rfl, rfl⟩
  · have hs : 0 < (x : Int) / 2 ^ (8 * n).toNat := by
      have : (8 * n).toNat = 8 * n.toNat := by omega
      rw [this]
      have h : (0 : Int) < ((x / 2 ^ (8 * n.toNat) : Nat) : Int) := by omega
      simpa using h
    go_enter Try.func46, Try.ntmps46
    go_wp2
    go_ret2
    exact ⟨rfl, rfl⟩

end Go.Proofs.Ytfhlenclnknnhaa
