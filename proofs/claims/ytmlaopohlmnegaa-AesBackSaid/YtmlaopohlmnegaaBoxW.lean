/- The law AesBox: plain laws; the walk. -/
import Derived.Test.YtmlaopohlmnegaaAesL
set_option linter.unusedVariables false
set_option linter.unusedSimpArgs false
namespace Go.Proofs.Ytmlaopohlmnegaa
open Go.RowKit
open Go.Proofs.PlainAes
theorem unbox_box : ∀ a, a < 256 → unbox (box a) = a := byte_cases (by decide +kernel)
theorem box_unbox : ∀ a, a < 256 → box (unbox a) = a := byte_cases (by decide +kernel)
theorem box_ne : ∀ a, a < 256 → box a ≠ a := byte_cases (by decide +kernel)
theorem box_opp : ∀ a, a < 256 → box a ≠ 255 - a := byte_cases (by decide +kernel)
theorem box_inj {a b : Nat} (ha : a < 256) (hb : b < 256) (h : box a = box b) : a = b := by rw [← unbox_box a ha, ← unbox_box b hb, h]

theorem opp_bits : ∀ a, a < 256 → bits .xor .u8 IntKind.u8.max ((a : Nat) : Int) = ((255 - a : Nat) : Int) := byte_cases (by decide +kernel)

namespace w_AesBox
set_option maxHeartbeats 1000000 in
theorem core (a b : Nat) (ha : a < 256) (hb : b < 256) (w : World) : Calls Try.prog 6 #[.int .u8 (a : Int), .int .u8 (b : Int)] w fun e w' => e = .returned (.bool true) ∧ Below w.heap.size w w' := by
  have hal := Lib.hid (fun w => alive_any w)
  have haI : (a : Int) ≤ 255 := by omega
  have hbI : (b : Int) ≤ 255 := by omega
  have e1 := unbox_box a ha
  have e2 := box_unbox a ha
  have h1 := Lib.hid (fun w => box_any a ha w)
  have h2 := Lib.hid (fun w => unbox_any (box a) (box_lt ha) w)
  have h3 := Lib.hid (fun w => unbox_any a ha w)
  have h4 := Lib.hid (fun w => box_any (unbox a) (unbox_lt ha) w)
  have h5 := Lib.hid (fun w => box_any b hb w)
  rw [e1] at h2
  rw [e2] at h4
  have n1 : (((box a : Nat) : Int) != (a : Int)) = true := by have := box_ne a ha; simp; omega
  have n2 : (((box a : Nat) : Int) != bits .xor .u8 IntKind.u8.max (a : Int)) = true := by rw [opp_bits a ha]; have := box_opp a ha; simp; omega
  have n3 : (((box a : Nat) : Int) == ((box b : Nat) : Int)) = ((a : Int) == (b : Int)) := by
    rw [Bool.eq_iff_iff]
    simp only [beq_iff_eq, Int.natCast_inj]
    exact ⟨box_inj ha hb, fun h => by rw [h]⟩
  generalize box a = A at *
  generalize box b = B at *
  generalize unbox a = C at *
  clear e1 e2
  go_enter Try.func6, Try.ntmps6
  go_wp2_with (first
    | (go_at_call 10; refine (hal.out _).mono ?_; rintro e w1 ⟨rfl, hB⟩)
    | (go_at_call 14; (with_reducible refine (h1.out _).mono ?_); rintro e w2 ⟨rfl, rfl⟩)
    | (go_at_call 15; (with_reducible refine (h2.out _).mono ?_); rintro e w2 ⟨rfl, rfl⟩)
    | (go_at_call 15; (with_reducible refine (h3.out _).mono ?_); rintro e w2 ⟨rfl, rfl⟩)
    | (go_at_call 14; (with_reducible refine (h4.out _).mono ?_); rintro e w2 ⟨rfl, rfl⟩)
    | (go_at_call 14; (with_reducible refine (h5.out _).mono ?_); rintro e w2 ⟨rfl, rfl⟩))
  go_ret
  exact ⟨rfl, hB⟩
theorem walk (a0 : Int) (b0 : 0 ≤ a0) (c0 : a0 ≤ 255) (a1 : Int) (b1 : 0 ≤ a1) (c1 : a1 ≤ 255) (w : World) :
    Calls Try.prog 6 #[.int .u8 a0, .int .u8 a1] w fun e w' => e = .returned (.bool true) ∧ Below w.heap.size w w' := by
  obtain ⟨a, rfl⟩ := Int.eq_ofNat_of_zero_le b0
  obtain ⟨b, rfl⟩ := Int.eq_ofNat_of_zero_le b1
  exact core a b (by omega) (by omega) w
end w_AesBox
end Go.Proofs.Ytmlaopohlmnegaa
