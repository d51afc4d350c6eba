/- The walk of AesBytes. -/
import Derived.Test.YtmlaopohlmnegaaAesL
import Derived.Test.YtmlaopohlmnegaaRefD
set_option linter.unusedVariables false
set_option linter.unusedSimpArgs false
namespace Go.Proofs.Ytmlaopohlmnegaa.w_AesBytes
open Go.RowKit
open Go.Proofs.PlainAes
theorem unbox_box : ∀ a, a < 256 → unbox (box a) = a := cases8 (by decide +kernel)
set_option maxHeartbeats 1000000 in
theorem core (a b : Nat) (ha : a < 256) (hb : b < 256) (w : World) : Calls Try.prog 3 #[.int .u8 (a : Int), .int .u8 (b : Int)] w fun e w' => e = .returned (.bool true) ∧ Below w.heap.size w w' := by
  have hal := Lib.hid (fun w => alive_any w)
  have haI : (a : Int) ≤ 255 := by omega
  have hbI : (b : Int) ≤ 255 := by omega
  have e1 := unbox_box a ha
  have h1 := Lib.hid (fun w => rbox_any a w haI)
  have h2 := Lib.hid (fun w => atimes_any a b ha hb w)
  have h3 := Lib.hid (fun w => rtimes_any a b w haI hbI)
  have h4 := Lib.hid (fun w => box_any a ha w)
  have h5 := Lib.hid (fun w => unbox_any (box a) (box_lt ha) w)
  rw [e1] at h5
  generalize box a = A at *
  generalize mul a b = M at *
  clear e1
  go_enter Try.func3, Try.ntmps3
  go_wp2_with fail
  refine (hal.out _).mono ?_
  rintro e w1 ⟨rfl, hB⟩
  go_wp2_with fail
  refine (h1.out _).mono ?_
  rintro e w2 ⟨rfl, hB2⟩
  replace hB := below_call hB hB.size hB2
  clear hB2
  go_wp2_with fail
  refine (h2.out _).mono ?_
  rintro e w3 ⟨rfl, rfl⟩
  go_wp2_with fail
  refine (h3.out _).mono ?_
  rintro e w4 ⟨rfl, hB4⟩
  replace hB := below_call hB hB.size hB4
  clear hB4
  go_wp2_with fail
  refine (h4.out _).mono ?_
  rintro e w5 ⟨rfl, rfl⟩
  go_wp2_with fail
  refine (h5.out _).mono ?_
  rintro e w6 ⟨rfl, rfl⟩
  go_wp2
  go_ret
  exact ⟨rfl, hB⟩
theorem walk (a0 : Int) (b0 : 0 ≤ a0) (c0 : a0 ≤ 255) (a1 : Int) (b1 : 0 ≤ a1) (c1 : a1 ≤ 255) (w : World) :
    Calls Try.prog 3 #[.int .u8 a0, .int .u8 a1] w fun e w' => e = .returned (.bool true) ∧ Below w.heap.size w w' := by
  obtain ⟨a, rfl⟩ := Int.eq_ofNat_of_zero_le b0
  obtain ⟨b, rfl⟩ := Int.eq_ofNat_of_zero_le b1
  exact core a b (by omega) (by omega) w
end Go.Proofs.Ytmlaopohlmnegaa.w_AesBytes
