/- The law AesField: the walk. -/
import Derived.Test.YtmlaopohlmnegaaAesL
import Derived.Test.YtmlaopohlmnegaaFieldP
set_option linter.unusedVariables false
set_option linter.unusedSimpArgs false
namespace Go.Proofs.Ytmlaopohlmnegaa
open Go.RowKit
open Go.Proofs.PlainAes
namespace w_AesField
set_option maxRecDepth 100000 in
set_option maxHeartbeats 2000000 in
theorem core (a b c : Nat) (ha : a < 256) (hb : b < 256) (hc : c < 256) (w : World) : Calls Try.prog 5 #[.int .u8 (a : Int), .int .u8 (b : Int), .int .u8 (c : Int)] w fun e w' => e = .returned (.bool true) ∧ Below w.heap.size w w' := by
  have hal := Lib.hid (fun w => alive_any w)
  have haI : (a : Int) ≤ 255 := by omega
  have hbI : (b : Int) ≤ 255 := by omega
  have hcI : (c : Int) ≤ 255 := by omega
  have m1 := Lib.hid (fun w => times_any a b ha hb w)
  have m2 := Lib.hid (fun w => times_any b a hb ha w)
  have m3 := Lib.hid (fun w => times_any b c hb hc w)
  have m4 := Lib.hid (fun w => times_any a (mul b c) ha (mul_lt c hb) w)
  have m5 := Lib.hid (fun w => times_any (mul a b) c (mul_lt b ha) hc w)
  obtain ⟨q, ql⟩ := x8 hb hc
  have m6 := Lib.hid (fun w => times_any a (b ^^^ c) ha ql w)
  have m7 := Lib.hid (fun w => times_any a c ha hc w)
  have m8 : Hid (∀ w, Calls Try.prog 12 #[.int .u8 (a : Int), .int .u8 1] w fun e w' => e = .returned (.int .u8 (mul a 1 : Nat)) ∧ w = w') := fun w => times_any a 1 ha (by decide) w
  have m9 : Hid (∀ w, Calls Try.prog 12 #[.int .u8 (a : Int), .int .u8 0] w fun e w' => e = .returned (.int .u8 (mul a 0 : Nat)) ∧ w = w') := fun w => times_any a 0 ha (by decide) w
  obtain ⟨q2, ql2⟩ := x8 (mul_lt b ha) (mul_lt c ha)
  rw [← mul_right] at q2
  rw [mul_comm hb ha] at m2
  rw [← mul_assoc ha hb hc] at m5
  rw [mul_one a ha] at m8
  rw [mul_zero] at m9
  have hz : (((mul a b : Nat) : Int) == 0) = (((a : Int) == 0) || ((b : Int) == 0)) := by
    rw [Bool.eq_iff_iff]
    simp [mul_eq_zero ha hb]
  generalize mul a (mul b c) = X1 at *
  generalize mul a (b ^^^ c) = X2 at *
  generalize mul a b = X3 at *
  generalize mul b c = X4 at *
  generalize mul a c = X5 at *
  generalize b ^^^ c = X6 at *
  clear ql ql2
  have hcase : (((a : Int) == 0) = true ∧ (((X3 : Nat) : Int) == 0) = true) ∨ (((a : Int) == 0) = false ∧ (((X3 : Nat) : Int) == 0) = ((b : Int) == 0)) := by
    cases h : ((a : Int) == 0)
    · right; exact ⟨rfl, by rw [hz, h, Bool.false_or]⟩
    · left; exact ⟨rfl, by rw [hz, h, Bool.true_or]⟩
  clear hz
  rcases hcase with ⟨z1, z2⟩ | ⟨z1, z2⟩
  all_goals
    go_enter Try.func5, Try.ntmps5
    go_wp2_with (first
      | (go_at_call 10; refine (hal.out _).mono ?_; rintro e w1 ⟨rfl, hB⟩)
      | (go_at_call 12; (with_reducible refine (m1.out _).mono ?_); rintro e w2 ⟨rfl, rfl⟩)
      | (go_at_call 12; (with_reducible refine (m2.out _).mono ?_); rintro e w2 ⟨rfl, rfl⟩)
      | (go_at_call 12; (with_reducible refine (m3.out _).mono ?_); rintro e w2 ⟨rfl, rfl⟩)
      | (go_at_call 12; (with_reducible refine (m4.out _).mono ?_); rintro e w2 ⟨rfl, rfl⟩)
      | (go_at_call 12; (with_reducible refine (m5.out _).mono ?_); rintro e w2 ⟨rfl, rfl⟩)
      | (go_at_call 12; (with_reducible refine (m6.out _).mono ?_); rintro e w2 ⟨rfl, rfl⟩)
      | (go_at_call 12; (with_reducible refine (m7.out _).mono ?_); rintro e w2 ⟨rfl, rfl⟩)
      | (go_at_call 12; (with_reducible refine (m8.out _).mono ?_); rintro e w2 ⟨rfl, rfl⟩)
      | (go_at_call 12; (with_reducible refine (m9.out _).mono ?_); rintro e w2 ⟨rfl, rfl⟩))
    go_ret
    exact ⟨rfl, hB⟩
theorem walk (a0 : Int) (b0 : 0 ≤ a0) (c0 : a0 ≤ 255) (a1 : Int) (b1 : 0 ≤ a1) (c1 : a1 ≤ 255) (a2 : Int) (b2 : 0 ≤ a2) (c2 : a2 ≤ 255) (w : World) :
    Calls Try.prog 5 #[.int .u8 a0, .int .u8 a1, .int .u8 a2] w fun e w' => e = .returned (.bool true) ∧ Below w.heap.size w w' := by
  obtain ⟨a, rfl⟩ := Int.eq_ofNat_of_zero_le b0
  obtain ⟨b, rfl⟩ := Int.eq_ofNat_of_zero_le b1
  obtain ⟨c, rfl⟩ := Int.eq_ofNat_of_zero_le b2
  exact core a b c (by omega) (by omega) (by omega) w
end w_AesField
end Go.Proofs.Ytmlaopohlmnegaa
