/- Contracts of num.Narrow and num.Top; the law NumNarrow's walk. -/
import Derived.Test.YtdobeokljplkiaaNumD
import Derived.Test.YtdobeokljplkiaaShelf
set_option linter.unusedVariables false
set_option linter.unusedSimpArgs false
namespace Go.Proofs.Ytdobeokljplkiaa
open Go.RowKit

theorem lt_bitLenAux : ∀ (f x : Nat), x < 2 ^ f → x < 2 ^ Lib.bitLenAux f x
  | 0, x, h => by simpa [Lib.bitLenAux] using h
  | f + 1, x, h => by
    unfold Lib.bitLenAux
    by_cases h0 : x = 0
    · simp [h0]
    · rw [if_neg h0]
      have := lt_bitLenAux f (x / 2) (by rw [Nat.pow_succ] at h; omega)
      rw [Nat.pow_add]; omega
theorem bitLen_le_iff {x n : Nat} (hx : x < 18446744073709551616) : Lib.bitLen x ≤ n ↔ x < 2 ^ n := by
  constructor
  · intro h
    have := lt_bitLenAux 64 x (by simpa using hx)
    exact Nat.lt_of_lt_of_le this (Nat.pow_le_pow_right (by omega) h)
  · exact Lib.bitLenAux_le 64 x n

theorem top_any (x : Nat) (w : World) (hx : x < 18446744073709551616) :
    Calls Try.prog 18 #[.int .u64 (x : Int)] w fun e w' => e = .returned (.int .i64 ((Lib.bitLen x : Nat) - 1)) ∧ w = w' := by
  have hl : Lib.bitLen x ≤ 64 := (bitLen_le_iff hx).2 (by simpa using hx)
  have hc := fun W => Try.bits_Len64 (x : Int) W (by omega) (by omega)
  simp only [Int.toNat_natCast] at hc
  generalize Lib.bitLen x = b at *
  have hc := Lib.hid hc
  go_enter Try.func18, Try.ntmps18
  go_wp2_with fail
  refine (hc.out _).mono ?_
  rintro e w1 ⟨rfl, rfl⟩
  go_wp2
  go_ret
  exact ⟨rfl, rfl⟩

set_option maxHeartbeats 1000000 in
theorem narrow_ok (x n : Nat) (w : World) (hx : x ≤ 9223372036854775807) (hn : n ≤ 63) (hf : x / 2 ^ n = 0) :
    Calls Try.prog 17 #[.int .i64 (x : Int), .int .i64 (n : Int)] w fun e w' => e = .returned (.tuple #[.int .u64 (x : Int), .int .i64 0]) ∧ w = w' := by
  have hs : (x : Int) / 2 ^ n = 0 := by
    have h := congrArg (fun z : Nat => (z : Int)) hf
    simpa using h
  have hxI : (x : Int) ≤ 9223372036854775807 := by omega
  go_enter Try.func17, Try.ntmps17
  go_wp2
  go_ret2
  exact ⟨rfl, rfl⟩

set_option maxHeartbeats 1000000 in
theorem narrow_bad (x n : Int) (w : World) (hx0 : -9223372036854775808 ≤ x) (hx : x ≤ 9223372036854775807) (hn0 : -9223372036854775808 ≤ n) (hn : n ≤ 9223372036854775807)
    (h : n < 0 ∨ 63 < n ∨ x < 0 ∨ 0 < x / 2 ^ n.toNat) :
    Calls Try.prog 17 #[.int .i64 x, .int .i64 n] w fun e w' => e = .returned (.tuple #[.int .u64 0, .int .i64 2]) ∧ w = w' := by
  by_cases c1 : n < 0
  · go_enter Try.func17, Try.ntmps17
    go_wp2
    go_ret2
    exact ⟨rfl, rfl⟩
  · by_cases c2 : 63 < n
    · go_enter Try.func17, Try.ntmps17
      go_wp2
      go_ret2
      exact ⟨rfl, rfl⟩
    · by_cases c3 : x < 0
      · go_enter Try.func17, Try.ntmps17
        go_wp2
        go_ret2
        exact ⟨rfl, rfl⟩
      · have c4 : 0 < x / 2 ^ n.toNat := by
          rcases h with h | h | h | h
          · exact absurd h c1
          · exact absurd h c2
          · exact absurd h c3
          · exact h
        go_enter Try.func17, Try.ntmps17
        go_wp2
        go_ret2
        exact ⟨rfl, rfl⟩

namespace w_NumNarrow
set_option maxHeartbeats 1000000 in
theorem walk (x : Int) (b0 : -9223372036854775808 ≤ x) (c0 : x ≤ 9223372036854775807) (a1 : Int) (b1 : 0 ≤ a1) (c1 : a1 ≤ 255) (w : World) :
    Calls Try.prog 7 #[.int .i64 x, .int .u8 a1] w fun e w' => e = .returned (.bool true) ∧ Below w.heap.size w w' := by
  have ha := Lib.hid (fun W => alive_any W)
  obtain ⟨m, rfl⟩ := Int.eq_ofNat_of_zero_le b1
  by_cases hx : x < 0
  · have hb := Lib.hid (fun W => narrow_bad x ((m : Int) % 63) W (by omega) (by omega) (by omega) (by omega) (Or.inr (Or.inr (Or.inl hx))))
    go_enter Try.func7, Try.ntmps7
    go_wp2_with fail
    refine (ha.out _).mono ?_
    rintro e w1 ⟨rfl, hB1⟩
    go_wp2_with fail
    refine (hb.out _).mono ?_
    rintro e w2 ⟨rfl, rfl⟩
    go_wp2
    go_ret
    exact ⟨rfl, hB1⟩
  · obtain ⟨y, rfl⟩ := Int.eq_ofNat_of_zero_le (show 0 ≤ x by omega)
    have hl := bitLen_le_iff (x := y) (n := m % 63) (by omega)
    have ht := Lib.hid (fun W => top_any y W (by omega))
    by_cases hy : y < 2 ^ (m % 63)
    · have hz : y / 2 ^ (m % 63) = 0 := Nat.div_eq_of_lt hy
      have hz1 : y / 2 ^ (m % 63 + 1) = 0 := Nat.div_eq_of_lt (by rw [Nat.pow_succ]; omega)
      have h1 := Lib.hid (fun W => narrow_ok y (m % 63) W (by omega) (by omega) hz)
      have h2 := Lib.hid (fun W => narrow_ok y (m % 63 + 1) W (by omega) (by omega) hz1)
      have hlt : ((Lib.bitLen y : Nat) : Int) - 1 < (m : Int) % 63 := by have := hl.2 hy; omega
      generalize Lib.bitLen y = b at *
      clear hl hy hz hz1
      go_enter Try.func7, Try.ntmps7
      go_wp2_with fail
      refine (ha.out _).mono ?_
      rintro e w1 ⟨rfl, hB1⟩
      go_wp2_with fail
      refine (h1.out _).mono ?_
      rintro e w2 ⟨rfl, rfl⟩
      go_wp2_with fail
      refine (ht.out _).mono ?_
      rintro e w2 ⟨rfl, rfl⟩
      go_wp2_with fail
      refine (h2.out _).mono ?_
      rintro e w2 ⟨rfl, rfl⟩
      go_wp2
      go_ret
      exact ⟨rfl, hB1⟩
    · have hz : 0 < (y : Int) / 2 ^ ((m : Int) % 63).toNat := by
        have e : ((m : Int) % 63).toNat = m % 63 := by omega
        rw [e]
        have h1 : 0 < y / 2 ^ (m % 63) := Nat.div_pos (by omega) (Nat.two_pow_pos _)
        have h2 : (0 : Int) < ((y / 2 ^ (m % 63) : Nat) : Int) := by omega
        simpa using h2
      have h1 := Lib.hid (fun W => narrow_bad (y : Int) ((m : Int) % 63) W (by omega) (by omega) (by omega) (by omega) (Or.inr (Or.inr (Or.inr hz))))
      have hlt : ¬ ((Lib.bitLen y : Nat) : Int) - 1 < (m : Int) % 63 := by
        intro h; exact hy (hl.1 (by omega))
      generalize Lib.bitLen y = b at *
      clear hl hy hz
      go_enter Try.func7, Try.ntmps7
      go_wp2_with fail
      refine (ha.out _).mono ?_
      rintro e w1 ⟨rfl, hB1⟩
      go_wp2_with fail
      refine (h1.out _).mono ?_
      rintro e w2 ⟨rfl, rfl⟩
      go_wp2_with fail
      refine (ht.out _).mono ?_
      rintro e w2 ⟨rfl, rfl⟩
      go_wp2
      go_ret
      exact ⟨rfl, hB1⟩
end w_NumNarrow
end Go.Proofs.Ytdobeokljplkiaa
