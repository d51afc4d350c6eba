/- The law NumTurns: plain laws on turned bits; the walk. -/
import Derived.Test.YtdobeokljplkiaaNumD
set_option linter.unusedVariables false
set_option linter.unusedSimpArgs false
namespace Go.Proofs.Ytdobeokljplkiaa
open Go.RowKit

theorem turn_rot {x k : Nat} (hx : x < 4294967296) (hk : k < 32) : turn x k = ((BitVec.ofNat 32 x).rotateLeft k).toNat := by
  rw [BitVec.toNat_rotateLeft]
  simp only [BitVec.toNat_ofNat, turn, Nat.mod_eq_of_lt hk, Nat.shiftLeft_eq, Nat.shiftRight_eq_div_pow]
  rw [Nat.mod_eq_of_lt (a := x) (by simpa using hx)]

theorem rot_rot (x : BitVec 32) {a b : Nat} (ha : a < 32) (hb : b < 32) : (x.rotateLeft a).rotateLeft b = x.rotateLeft ((a + b) % 32) := by
  apply BitVec.eq_of_getLsbD_eq
  intro i hi
  simp only [BitVec.getLsbD_rotateLeft, Nat.mod_eq_of_lt ha, Nat.mod_eq_of_lt hb, Nat.mod_mod, Bool.cond_decide]
  by_cases h1 : i < b
  · rw [if_pos h1]
    by_cases h2 : a + b < 32
    · rw [Nat.mod_eq_of_lt h2, if_neg (show ¬ 32 - b + i < a from by omega), if_pos (show i < a + b from by omega)]
      simp only [show (32 - b + i < 32) from by omega, decide_true, Bool.true_and]
      congr 1; omega
    · have e : (a + b) % 32 = a + b - 32 := by omega
      rw [e]
      by_cases h3 : 32 - b + i < a
      · rw [if_pos h3, if_pos (by omega)]; congr 1; omega
      · rw [if_neg h3, if_neg (by omega)]
        simp only [show (32 - b + i < 32) from by omega, decide_true, Bool.true_and, hi]
        congr 1; omega
  · rw [if_neg h1]
    simp only [hi, decide_true, Bool.true_and]
    by_cases h2 : a + b < 32
    · rw [Nat.mod_eq_of_lt h2]
      by_cases h3 : i - b < a
      · rw [if_pos h3, if_pos (by omega)]; congr 1; omega
      · rw [if_neg h3, if_neg (by omega)]
        simp only [show (i - b < 32) from by omega, decide_true, Bool.true_and]
        congr 1; omega
    · have e : (a + b) % 32 = a + b - 32 := by omega
      rw [e]
      rw [if_pos (by omega), if_neg (by omega)]; congr 1; omega

theorem turn_turn {x a b : Nat} (hx : x < 4294967296) (ha : a < 32) (hb : b < 32) : turn (turn x a) b = turn x ((a + b) % 32) := by
  rw [turn_rot (turn_lt hx) hb, turn_rot hx ha, BitVec.ofNat_toNat, BitVec.setWidth_eq, rot_rot _ ha hb, turn_rot hx (Nat.mod_lt _ (by decide))]
theorem turn_zero {x : Nat} (hx : x < 4294967296) : turn x 0 = x := by
  have h : x / 4294967296 = 0 := by omega
  simp [turn, h]; omega
theorem turn_of_zero (k : Nat) : turn 0 k = 0 := by simp [turn]
theorem turn_ones {k : Nat} (hk : k < 32) : turn 4294967295 k = 4294967295 := by
  have : ∀ k, k < 32 → turn 4294967295 k = 4294967295 := by decide +kernel
  exact this k hk

namespace w_NumTurns
set_option maxHeartbeats 2000000 in
theorem walk_core (x : Nat) (m n : Int) (w : World) (hx : x < 4294967296) (bm : -32768 ≤ m) (cm : m ≤ 32767) (bn : -32768 ≤ n) (cn : n ≤ 32767) :
    Calls Try.prog 4 #[.int .u32 (x : Int), .int .i16 m, .int .i16 n] w fun e w' => e = .returned (.bool true) ∧ Below w.heap.size w w' := by
  have ha := Lib.hid (fun W => alive_any W)
  have ht := Lib.hid (fun (x : Nat) (n : Int) W h1 h2 h3 => turn_any x n W h1 h2 h3)
  have E1 : turn (turn x (m % 32).toNat) (-m % 32).toNat = x := by
    rw [turn_turn hx (by omega) (by omega), show ((m % 32).toNat + (-m % 32).toNat) % 32 = 0 from by omega, turn_zero hx]
  have E2 : turn (turn x (m % 32).toNat) (n % 32).toNat = turn x ((m + n) % 32).toNat := by
    rw [turn_turn hx (by omega) (by omega), show ((m % 32).toNat + (n % 32).toNat) % 32 = ((m + n) % 32).toNat from by omega]
  have E3 : turn x ((32 : Int) % 32).toNat = x := turn_zero hx
  have E4 : turn x ((0 : Int) % 32).toNat = x := turn_zero hx
  have E5 : turn 0 (m % 32).toNat = 0 := turn_of_zero _
  have E6 : turn 4294967295 (m % 32).toNat = 4294967295 := turn_ones (by omega)
  have E1 := Lib.hid E1; have E2 := Lib.hid E2; have E3 := Lib.hid E3; have E4 := Lib.hid E4; have E5 := Lib.hid E5; have E6 := Lib.hid E6
  go_enter Try.func4, Try.ntmps4
  go_wp2_with fail
  refine (ha.out _).mono ?_
  rintro e w1 ⟨rfl, hB1⟩
  go_wp2_with fail
  refine (ht.out _ _ _ hx (by omega) (by omega)).mono ?_
  rintro e w2 ⟨rfl, rfl⟩
  go_wp2_with fail
  refine (ht.out _ _ _ (turn_lt hx) (by omega) (by omega)).mono ?_
  rintro e w2 ⟨rfl, rfl⟩
  rw [E1.out]
  go_wp2_with fail
  refine (ht.out _ _ _ hx (by omega) (by omega)).mono ?_
  rintro e w2 ⟨rfl, rfl⟩
  go_wp2_with fail
  refine (ht.out _ _ _ (turn_lt hx) (by omega) (by omega)).mono ?_
  rintro e w2 ⟨rfl, rfl⟩
  rw [E2.out]
  go_wp2_with fail
  refine (ht.out _ _ _ hx (by omega) (by omega)).mono ?_
  rintro e w2 ⟨rfl, rfl⟩
  go_wp2_with fail
  refine (ht.out _ _ _ hx (by omega) (by omega)).mono ?_
  rintro e w2 ⟨rfl, rfl⟩
  rw [E3.out]
  go_wp2_with fail
  refine (ht.out _ _ _ hx (by omega) (by omega)).mono ?_
  rintro e w2 ⟨rfl, rfl⟩
  rw [E4.out]
  go_wp2_with fail
  refine (ht.out 0 _ _ (by omega) (by omega) (by omega)).mono ?_
  rintro e w2 ⟨rfl, rfl⟩
  rw [E5.out]
  go_wp2_with fail
  refine (ht.out 4294967295 _ _ (by omega) (by omega) (by omega)).mono ?_
  rintro e w2 ⟨rfl, rfl⟩
  rw [E6.out]
  go_wp2_with fail
  go_ret
  exact ⟨rfl, hB1⟩

theorem walk (a0 : Int) (b0 : 0 ≤ a0) (c0 : a0 ≤ 4294967295) (a1 : Int) (b1 : -32768 ≤ a1) (c1 : a1 ≤ 32767) (a2 : Int) (b2 : -32768 ≤ a2) (c2 : a2 ≤ 32767) (w : World) :
    Calls Try.prog 4 #[.int .u32 a0, .int .i16 a1, .int .i16 a2] w fun e w' => e = .returned (.bool true) ∧ Below w.heap.size w w' := by
  obtain ⟨x, rfl⟩ := Int.eq_ofNat_of_zero_le b0
  exact walk_core x a1 a2 w (by omega) b1 c1 b2 c2
end w_NumTurns
end Go.Proofs.Ytdobeokljplkiaa
