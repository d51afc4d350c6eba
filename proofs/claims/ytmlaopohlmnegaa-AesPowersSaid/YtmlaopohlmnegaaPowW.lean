/- The law AesPowers: plain laws; the walk. -/
import Derived.Test.YtmlaopohlmnegaaBoxW
set_option linter.unusedVariables false
set_option linter.unusedSimpArgs false
namespace Go.Proofs.Ytmlaopohlmnegaa
open Go.RowKit
open Go.Proofs.PlainAes

/-- A byte's power. -/
def pw (a : Nat) : Nat → Nat
  | 0 => 1
  | n + 1 => mul (pw a n) a
theorem pw_lt {a : Nat} (ha : a < 256) : ∀ n, pw a n < 256
  | 0 => by show 1 < 256; decide
  | n + 1 => mul_lt _ (pw_lt ha n)
theorem pw_all : (List.range 256).all (fun a => if a = 0 then decide (pw a 255 = 0) else decide (pw a 255 = 1 ∧ mul a (pw a 254) = 1 ∧ pw a 254 = inv a)) = true := by decide +kernel
theorem pw_zero : pw 0 255 = 0 := by decide +kernel
theorem pw_one {a : Nat} (ha : a < 256) (h0 : a ≠ 0) : pw a 255 = 1 ∧ mul a (pw a 254) = 1 ∧ pw a 254 = inv a := by
  have := List.all_eq_true.1 pw_all a (List.mem_range.2 ha)
  rw [if_neg h0] at this
  simpa using this
/-- So many turns are summed. -/
def xs (v : Nat) : Nat → Nat
  | 0 => v
  | n + 1 => xs v n ^^^ rot v (n + 1)
theorem xs_lt {v : Nat} (hv : v < 256) : ∀ n, xs v n < 256
  | 0 => hv
  | n + 1 => xor_lt (xs_lt hv n) (rot_lt _ hv)
theorem xs_four (v : Nat) : xs v 4 ^^^ 99 = boxed v := rfl
theorem box_zero : box 0 = 99 := by decide +kernel

namespace w_AesPowers
set_option maxHeartbeats 2000000 in
theorem core (a : Nat) (ha : a < 256) (w : World) : Calls Try.prog 7 #[.int .u8 (a : Int)] w fun e w' => e = .returned (.bool true) ∧ Below w.heap.size w w' := by
  have hal := Lib.hid (fun w => alive_any w)
  have ht := Lib.hid (fun a b ha hb w => times_any a b ha hb w)
  have hbx := Lib.hid (fun a ha w => box_any a ha w)
  have haI : (a : Int) ≤ 255 := by omega
  go_enter Try.func7, Try.ntmps7
  go_wp2_with (first
    | (go_at_call 10; refine (hal.out _).mono ?_; rintro e w1 ⟨rfl, hB⟩))
  go_loop [3, 4, 10] (fun p q i => ∃ (n v : Nat), n ≤ 255 ∧ i = .int .i64 (n : Int) ∧ p = .int .u8 ((pw a n : Nat) : Int) ∧ q = .int .u8 (v : Int) ∧ Hid (n = 255 → v = pw a 254)) (fun _ _ i => (255 - intOf i).toNat)
  case atStart => exact ⟨0, 0, by decide, rfl, rfl, rfl, fun h => by omega⟩
  case round =>
    obtain ⟨n, v, hn, rfl, rfl, rfl, hH⟩ := hrel
    have hp := pw_lt ha n
    by_cases hlt : (n : Int) < 255
    · have hnx : Hid (mul (pw a n) a = pw a (n + 1)) := rfl
      have hpn := Lib.hid (pw_lt ha (n + 1))
      obtain ⟨P, hP⟩ : ∃ P, P = pw a n := ⟨_, rfl⟩
      rw [← hP] at hnx hp ⊢
      have HP := Lib.hid hP
      clear hP
      by_cases h4 : n = 254
      · subst h4
        go_wp2_with fail
        refine (ht.out P a hp ha _).mono ?_
        rintro e w' ⟨rfl, rfl⟩
        rw [hnx.out]
        go_wp2
        go_round
        case rel => exact ⟨255, P, by omega, by go_num, rfl, rfl, fun _ => HP.out⟩
        case measure => simp [intOf]
      · have t4 : ((n : Int) == 254) = false := by simp; omega
        go_wp2_with fail
        refine (ht.out P a hp ha _).mono ?_
        rintro e w' ⟨rfl, rfl⟩
        rw [hnx.out]
        go_wp2
        go_round
        case rel => exact ⟨n + 1, v, by omega, by go_num, rfl, rfl, fun h => by omega⟩
        case measure => simp [intOf]; omega
    · obtain rfl : n = 255 := by omega
      have hv := Lib.hid (hH.out rfl)
      clear hp hH
      by_cases h0 : a = 0
      · subst h0
        rw [pw_zero]
        have b0 := box_zero
        go_wp2_with fail
        refine (hbx.out 0 (by decide) _).mono ?_
        rintro e w' ⟨rfl, rfl⟩
        rw [b0]
        go_wp2
        go_ret
        exact ⟨rfl, hB⟩
      · have t0 : ((a : Int) == 0) = false := by simp; omega
        obtain ⟨e1, e2, e3⟩ := pw_one ha h0
        rw [e1]
        rw [← hv.out] at e2 e3
        have hvl := Lib.hid (show v < 256 by rw [hv.out]; exact pw_lt ha 254)
        have E2 := Lib.hid e2
        have E3 := Lib.hid e3
        clear e1 e2 e3
        go_wp2
        go_loop [6, 7] (fun x i => ∃ n : Nat, n ≤ 4 ∧ i = .int .u64 ((n : Int) + 1) ∧ x = .int .u8 ((xs v n : Nat) : Int)) (fun _ i => (5 - intOf i).toNat)
        case atStart => exact ⟨0, by decide, rfl, rfl⟩
        case round =>
          obtain ⟨n, hn, rfl, rfl⟩ := hrel
          have hvI : (v : Int) ≤ 255 := by have := hvl.out; omega
          by_cases hlt : (n : Int) + 1 < 5
          · have hb : Hid (bits .or .u8 ((v : Int) * 2 ^ (n + 1) % 256) ((v : Int) / 2 ^ (7 - n)) = ((rot v (n + 1) : Nat) : Int)) := by
              show _ = _
              have := rot_bits (b := v) (n := n + 1) hvl.out (by omega)
              rw [show ((n + 1 : Nat) : Int).toNat = n + 1 from by omega, show (8 - ((n + 1 : Nat) : Int)).toNat = 7 - n from by omega] at this
              exact this
            obtain ⟨q1, q2⟩ := x8 (xs_lt hvl.out n) (rot_lt (n + 1) hvl.out)
            have Q1 := Lib.hid q1
            clear q1
            go_wp2
            go_round
            case rel =>
              refine ⟨n + 1, by omega, by go_num, ?_⟩
              rw [hb.out, Q1.out]
              rfl
            case measure => simp [intOf]; omega
          · obtain rfl : n = 4 := by omega
            have e4 : xs v 4 ^^^ 99 = box a := by rw [xs_four, E3.out]; rfl
            obtain ⟨q1, q2⟩ := x8c (xs_lt hvl.out 4) (show 99 < 256 by decide) (show (99 : Int) = _ from rfl)
            rw [e4] at q1
            have hm := Lib.hid E2.out
            clear e4
            go_wp2_with (first
              | (go_at_call 12; refine (ht.out a v ha hvl.out _).mono ?_; rintro e w2 ⟨rfl, rfl⟩; rw [hm.out])
              | (go_at_call 14; refine (hbx.out a ha _).mono ?_; rintro e w2 ⟨rfl, rfl⟩))
            go_ret
            exact ⟨rfl, hB⟩
theorem walk (a0 : Int) (b0 : 0 ≤ a0) (c0 : a0 ≤ 255) (w : World) :
    Calls Try.prog 7 #[.int .u8 a0] w fun e w' => e = .returned (.bool true) ∧ Below w.heap.size w w' := by
  obtain ⟨a, rfl⟩ := Int.eq_ofNat_of_zero_le b0
  exact core a (by omega) w
end w_AesPowers
end Go.Proofs.Ytmlaopohlmnegaa
