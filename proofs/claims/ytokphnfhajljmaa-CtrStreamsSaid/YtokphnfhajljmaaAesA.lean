/- Contracts of package aes: double, Times, inverse, turn, Box, Unbox. -/
import Derived.Test.YtokphnfhajljmaaBase
import Derived.Test.YtokphnfhajljmaaAesP
set_option linter.unusedVariables false
set_option linter.unusedSimpArgs false
namespace Go.Proofs.Ytokphnfhajljmaa
open Go.RowKit
open Go.Proofs.PlainAes

theorem byte_cases {p : Nat → Prop} [DecidablePred p] (h : (List.range 256).all (fun x => decide (p x)) = true) : ∀ x, x < 256 → p x := by
  intro x hx
  have := List.all_eq_true.1 h x (List.mem_range.2 hx)
  simpa using this

theorem dbl_bits : ∀ a, a < 256 → bits .xor .u8 ((a : Nat) * 2 % 256) (bits .and .u8 27 (-((a : Nat) / 128) % 256)) = ((dbl a : Nat) : Int) := byte_cases (by decide +kernel)
theorem double_any (a : Nat) (ha : a < 256) (w : World) : Calls Try.prog 41 #[.int .u8 (a : Int)] w fun e w' => e = .returned (.int .u8 (dbl a : Nat)) ∧ w = w' := by
  have haI : (a : Int) ≤ 255 := by omega
  have h := dbl_bits a ha
  go_enter Try.func41, Try.ntmps41
  go_wp2
  go_ret
  exact ⟨rfl, rfl⟩

theorem neg_bit : ∀ b, b < 256 → -(bits .and .u8 ((b : Nat) : Int) 1) % 256 = ((if b % 2 = 1 then 255 else 0 : Nat) : Int) := byte_cases (by decide +kernel)
theorem and_all : ∀ a, a < 256 → a &&& 255 = a := byte_cases (by decide +kernel)
theorem times_step {o a b : Nat} (ho : o < 256) (ha : a < 256) (hb : b < 256) : bits .xor .u8 (o : Int) (bits .and .u8 (a : Int) (-(bits .and .u8 (b : Int) 1) % 256)) = ((o ^^^ (if b % 2 = 1 then a else 0) : Nat) : Int) := by
  rw [neg_bit b hb, u8_and_nat a _ ha (by split <;> decide)]
  have e : (a &&& if b % 2 = 1 then 255 else 0) = if b % 2 = 1 then a else 0 := by
    split
    · exact and_all a ha
    · simp
  rw [e, u8_xor_nat _ _ ho (by split <;> omega)]

set_option maxHeartbeats 400000 in
theorem atimes_any (a b : Nat) (ha : a < 256) (hb : b < 256) (w : World) : Calls Try.prog 42 #[.int .u8 (a : Int), .int .u8 (b : Int)] w fun e w' => e = .returned (.int .u8 (mul a b : Nat)) ∧ w = w' := by
  have hd := Lib.hid (fun a ha w => double_any a ha w)
  go_enter Try.func42, Try.ntmps42
  go_wp2
  go_loop [4, 0, 1] (fun o x y => ∃ (n o' a' b' : Nat), o = .int .u8 (o' : Int) ∧ x = .int .u8 (a' : Int) ∧ y = .int .u8 (b' : Int) ∧ o' < 256 ∧ a' < 256 ∧ b' < 256 ∧ Hid (b' < 2 ^ n ∧ mulGo n o' a' b' = mul a b)) (fun _ _ y => (intOf y).toNat)
  case atStart => exact ⟨8, 0, a, b, rfl, rfl, rfl, by decide, ha, hb, hb, rfl⟩
  case round =>
    obtain ⟨n, o', a', b', rfl, rfl, rfl, ho, ha', hb', hH⟩ := hrel
    have hoI : (o' : Int) ≤ 255 := by omega
    have haI : (a' : Int) ≤ 255 := by omega
    have hbI : (b' : Int) ≤ 255 := by omega
    obtain ⟨h1, h2⟩ := hH.out
    by_cases h0 : b' = 0
    · have h3 := Lib.hid (show o' = mul a b by rw [← h2, h0, mulGo_zero])
      have hz : (b' : Int) ≤ 0 := by omega
      clear h2 h0 h1
      go_wp2
      go_ret
      exact ⟨by rw [h3.out]; rfl, rfl⟩
    · obtain ⟨m, rfl⟩ : ∃ m, n = m + 1 := ⟨n - 1, by cases n with | zero => simp at h1; omega | succ n => rfl⟩
      have ht := times_step ho ha' hb'
      have hbp : (0 : Int) < b' := by omega
      have h2 := Lib.hid (show mulGo m (o' ^^^ (if b' % 2 = 1 then a' else 0)) (dbl a') (b' / 2) = mul a b from h2)
      have hlt := Lib.hid (show b' / 2 < 2 ^ m by rw [Nat.pow_succ] at h1; omega)
      have hx := xor_lt ho (show (if b' % 2 = 1 then a' else 0) < 256 by split <;> omega)
      generalize o' ^^^ (if b' % 2 = 1 then a' else 0) = o2 at *
      clear h1
      go_wp2_with fail
      refine (hd.out a' ha' _).mono ?_
      rintro e w' ⟨rfl, rfl⟩
      go_wp2
      go_round
      case rel => exact ⟨m, o2, dbl a', b' / 2, rfl, rfl, by simp, hx, dbl_lt a', by omega, hlt.out, h2.out⟩
      case measure => simp [intOf]; omega

set_option maxHeartbeats 400000 in
theorem inverse_any (a : Nat) (ha : a < 256) (w : World) : Calls Try.prog 39 #[.int .u8 (a : Int)] w fun e w' => e = .returned (.int .u8 (inv a : Nat)) ∧ w = w' := by
  have hd := Lib.hid (fun a b ha hb w => atimes_any a b ha hb w)
  go_enter Try.func39, Try.ntmps39
  go_wp2
  go_loop [3, 4, 6] (fun o x y => ∃ (n o' a' : Nat), o = .int .u8 (o' : Int) ∧ x = .int .u8 (a' : Int) ∧ y = .int .i64 (n : Int) ∧ n ≤ 7 ∧ o' < 256 ∧ a' < 256 ∧ Hid (invGo (7 - n) o' a' = inv a)) (fun _ _ y => (7 - intOf y).toNat)
  case atStart => exact ⟨0, 1, a, rfl, rfl, rfl, by decide, by decide, ha, rfl⟩
  case round =>
    obtain ⟨n, o', a', rfl, rfl, rfl, hn, ho, ha', hH⟩ := hrel
    by_cases h7 : n = 7
    · have h3 := Lib.hid (show o' = inv a by have h := hH.out; rw [h7] at h; exact h)
      have hz : (7 : Int) ≤ n := by omega
      clear h7
      go_wp2
      go_ret
      exact ⟨by rw [h3.out]; rfl, rfl⟩
    · have hlt : (n : Int) < 7 := by omega
      have h2 : Hid (invGo (7 - (n + 1)) (mul o' (mul a' a')) (mul a' a') = inv a) := by
        have h := hH.out
        rw [show 7 - n = (7 - (n + 1)) + 1 from by omega] at h
        exact h
      have hs := mul_lt a' ha'
      have hm := mul_lt (mul a' a') ho
      go_wp2_with fail
      refine (hd.out a' a' ha' ha' _).mono ?_
      rintro e w' ⟨rfl, rfl⟩
      go_wp2_with fail
      refine (hd.out o' (mul a' a') ho hs _).mono ?_
      rintro e w' ⟨rfl, rfl⟩
      go_wp2
      go_round
      case rel => exact ⟨n + 1, _, _, rfl, rfl, by go_num, by omega, hm, hs, h2.out⟩
      case measure => simp [intOf]; omega

theorem rot_bits {b n : Nat} (hb : b < 256) (hn : n < 8) : bits .or .u8 ((b : Int) * 2 ^ (n : Int).toNat % 256) ((b : Int) / 2 ^ (8 - (n : Int)).toNat) = ((rot b n : Nat) : Int) := by
  have e1 : (b : Int) * 2 ^ (n : Int).toNat % 256 = ((b * 2 ^ n % 256 : Nat) : Int) := by simp
  have e2 : (b : Int) / 2 ^ (8 - (n : Int)).toNat = ((b / 2 ^ (8 - n) : Nat) : Int) := by
    have : (8 - (n : Int)).toNat = 8 - n := by omega
    rw [this]; simp
  rw [e1, e2, u8_or_nat _ _ (Nat.mod_lt _ (by decide)) (Nat.lt_of_le_of_lt (Nat.div_le_self _ _) hb)]
  rfl
theorem rot_any (b n : Nat) (hb : b < 256) (hn : n < 8) (w : World) : Calls Try.prog 40 #[.int .u8 (b : Int), .int .u64 (n : Int)] w fun e w' => e = .returned (.int .u8 (rot b n : Nat)) ∧ w = w' := by
  have H := Lib.hid (rot_bits hb hn)
  have hx1 : (b : Int) ≤ 255 := by omega
  have hk2 : (n : Int) ≤ 7 := by omega
  go_enter Try.func40, Try.ntmps40
  go_wp2
  go_ret
  refine ⟨?_, rfl⟩
  rw [← H.out]
  simp
theorem rot_at (b n : Nat) (ni : Int) (e : ni = n) (hb : b < 256) (hn : n < 8) (w : World) : Calls Try.prog 40 #[.int .u8 (b : Int), .int .u64 ni] w fun e w' => e = .returned (.int .u8 (rot b n : Nat)) ∧ w = w' := by
  subst e; exact rot_any b n hb hn w

theorem x8 {a b : Nat} (ha : a < 256) (hb : b < 256) : bits .xor .u8 (a : Int) (b : Int) = ((a ^^^ b : Nat) : Int) ∧ a ^^^ b < 256 := ⟨u8_xor_nat a b ha hb, xor_lt ha hb⟩

theorem x8c {a b : Nat} {c : Int} (ha : a < 256) (hb : b < 256) (e : c = b) : bits .xor .u8 (a : Int) c = ((a ^^^ b : Nat) : Int) ∧ a ^^^ b < 256 := by subst e; exact x8 ha hb

set_option maxHeartbeats 400000 in
theorem box_any (b : Nat) (hb : b < 256) (w : World) : Calls Try.prog 29 #[.int .u8 (b : Int)] w fun e w' => e = .returned (.int .u8 (box b : Nat)) ∧ w = w' := by
  have hd := Lib.hid (inverse_any b hb w)
  have hx := inv_lt hb
  have h1 := Lib.hid (rot_at (inv b) 1 1 rfl hx (by decide) w)
  have h2 := Lib.hid (rot_at (inv b) 2 2 rfl hx (by decide) w)
  have h3 := Lib.hid (rot_at (inv b) 3 3 rfl hx (by decide) w)
  have h4 := Lib.hid (rot_at (inv b) 4 4 rfl hx (by decide) w)
  have e0 : Hid (boxed (inv b) = box b) := rfl
  generalize inv b = x at *
  have r1 := rot_lt 1 hx
  have r2 := rot_lt 2 hx
  have r3 := rot_lt 3 hx
  have r4 := rot_lt 4 hx
  have E : Hid (x ^^^ rot x 1 ^^^ rot x 2 ^^^ rot x 3 ^^^ rot x 4 ^^^ 99 = box b) := e0
  generalize rot x 1 = y1 at *
  generalize rot x 2 = y2 at *
  generalize rot x 3 = y3 at *
  generalize rot x 4 = y4 at *
  obtain ⟨q1, z1⟩ := x8 hx r1
  obtain ⟨q2, z2⟩ := x8 z1 r2
  obtain ⟨q3, z3⟩ := x8 z2 r3
  obtain ⟨q4, z4⟩ := x8 z3 r4
  obtain ⟨q5, z5⟩ := x8c z4 (show 99 < 256 by decide) (show (99 : Int) = _ from rfl)
  go_enter Try.func29, Try.ntmps29
  go_wp2_with fail
  refine hd.out.mono ?_
  rintro e w' ⟨rfl, rfl⟩
  go_wp2_with fail
  refine h1.out.mono ?_
  rintro e w' ⟨rfl, rfl⟩
  go_wp2_with fail
  refine h2.out.mono ?_
  rintro e w' ⟨rfl, rfl⟩
  go_wp2_with fail
  refine h3.out.mono ?_
  rintro e w' ⟨rfl, rfl⟩
  go_wp2_with fail
  refine h4.out.mono ?_
  rintro e w' ⟨rfl, rfl⟩
  go_wp2
  go_ret
  exact ⟨by rw [E.out]; rfl, rfl⟩

end Go.Proofs.Ytokphnfhajljmaa
