/- Contracts of banyanref04: inverse, Box. -/
import Derived.Test.YtmlaopohlmnegaaRefC
set_option linter.unusedVariables false
set_option linter.unusedSimpArgs false
namespace Go.Proofs.PlainAes
theorem one_mul12 : ∀ a, a < 256 → mul 1 a = a := cases8 (by decide +kernel)
theorem inv_zero : inv 0 = 0 := by decide +kernel
theorem mul_uniq {a b : Nat} (ha : a < 256) (hb : b < 256) (h : mul a b = 1) : b = inv a := by
  have h0 : a ≠ 0 := fun e => by rw [e, zero_mul hb] at h; cases h
  have hi := inv_lt ha
  have h1 := mul_assoc hi ha hb
  rw [h, mul_one _ hi, mul_comm hi ha, mul_inv ha h0, one_mul12 b hb] at h1
  exact h1.symm
theorem inv_pos {a : Nat} (ha : a < 256) (h0 : a ≠ 0) : 1 ≤ inv a := by
  rcases Nat.eq_zero_or_pos (inv a) with h | h
  · have := mul_inv ha h0
    rw [h, mul_zero] at this
    cases this
  · exact h
end Go.Proofs.PlainAes
namespace Go.Proofs.Ytmlaopohlmnegaa
open Go.RowKit
open Go.Proofs.PlainAes

def RetI (a : Nat) (w : World) (e : Ending) (w' : World) : Prop := e = .returned (.int .u8 (inv a : Nat)) ∧ Below w.heap.size w w'
set_option maxRecDepth 100000 in
set_option maxHeartbeats 1000000 in
theorem rinverse_any (a : Nat) (w : World) (ha : (a : Int) ≤ 255) : Calls Try.prog 24 #[.int .u8 (a : Int)] w (RetI a w) := by
  have hti := Lib.hid (fun (k : Nat) (hk : (k : Int) ≤ 255) w => rtimes_any a k w ha hk)
  have ha' : a < 256 := by omega
  have hun : Hid (∀ k, k < 256 → mul a k = 1 → k = inv a) := fun k hk h => mul_uniq ha' hk h
  have hend : Hid ((∀ j, 1 ≤ j → j < 256 → mul a j ≠ 1) → inv a = 0) := fun h => by
    by_cases h0 : a = 0
    · rw [h0]; exact inv_zero
    · exact absurd (mul_inv ha' h0) (h _ (inv_pos ha' h0) (inv_lt ha'))
  have hml : Hid (∀ k, mul a k < 256) := fun k => mul_lt k ha'
  have hR : Hid (∀ w', Below w.heap.size w w' → RetI a w (.returned (.int .u8 ((inv a : Nat) : Int))) w') := fun w' h => ⟨rfl, h⟩
  clear ha'
  generalize RetI a w = RX at *
  go_enter Try.func24, Try.ntmps24
  go_wp2
  go_loopw [3] (fun s wr => ∃ k : Nat, 1 ≤ (k : Int) ∧ (k : Int) ≤ 256 ∧ s = .int .i64 (k : Int) ∧ Hid (∀ j, 1 ≤ j → j < k → mul a j ≠ 1) ∧ Below w.heap.size w wr) (fun s _ => 256 - (intOf s).toNat)
  case atStart => exact ⟨1, by omega, by omega, rfl, fun j h1 h2 => by omega, Below.refl _ _⟩
  case round =>
    obtain ⟨k, hk1, hk2, rfl, hno, hB⟩ := hrel
    by_cases hlt : (k : Int) < 256
    · have q1 : IntKind.u8.wrap (k : Int) = (k : Int) := by rw [IntKind.wrap_u8]; omega
      go_wp2_with fail
      refine (hti.out k (by omega) _).mono ?_
      rintro e w2 ⟨rfl, hB2⟩
      replace hB2 := below_call hB hB.size hB2
      by_cases h1 : mul a k = 1
      · have e1 := hun.out k (by omega) h1
        rw [h1]
        rw [← e1] at hR
        clear e1 h1 hno hun hend
        go_wp2
        exact hR.out _ hB2
      · have hno' : Hid (∀ j, 1 ≤ j → j < k + 1 → mul a j ≠ 1) := fun j hj1 hj2 => by
          by_cases e : j = k
          · rw [e]; exact h1
          · exact hno.out j hj1 (by omega)
        have e1 : (((mul a k : Nat) : Int) == 1) = false := by simp; omega
        clear hno hun hend h1
        generalize mul a k = y at *
        go_wp2
        go_roundw
        case rel => exact ⟨k + 1, by omega, by omega, by go_num, hno', hB2⟩
        case measure => simp [intOf]; omega
    · obtain rfl : k = 256 := by omega
      have e0 := hend.out hno.out
      rw [e0] at hR
      clear e0 hno hun hend
      go_wp2
      exact hR.out _ hB
set_option maxHeartbeats 1000000 in
theorem rbox_any (a : Nat) (w : World) (ha : (a : Int) ≤ 255) : Calls Try.prog 11 #[.int .u8 (a : Int)] w fun e w' => e = .returned (.int .u8 (box a : Nat)) ∧ Below w.heap.size w w' := by
  have h1 : Hid (∀ w, Calls Try.prog 24 #[.int .u8 (a : Int)] w (RetI a w)) := fun w => rinverse_any a w ha
  have hi := inv_lt (a := a) (by omega)
  have h2 := Lib.hid (fun w => rboxed_any (inv a) w (by omega))
  have hbx : box a = boxed (inv a) := rfl
  rw [hbx]
  unfold RetI at h1
  clear hi hbx
  generalize boxed (inv a) = z at *
  generalize inv a = y at *
  go_enter Try.func11, Try.ntmps11
  go_wp2_with fail
  refine (h1.out _).mono ?_
  rintro e w1 ⟨rfl, hB1⟩
  go_wp2_with fail
  refine (h2.out _).mono ?_
  rintro e w2 ⟨rfl, hB2⟩
  replace hB2 := below_call hB1 hB1.size hB2
  go_wp2
  go_ret
  exact ⟨rfl, hB2⟩
end Go.Proofs.Ytmlaopohlmnegaa
