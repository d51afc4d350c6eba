/- Contracts of the functions of num that the statements' own example runs through: Turn, Mul64, Add64, times, power, over. -/
import Derived.Test.YthlebobfbalknaaBase
set_option linter.unusedVariables false
set_option linter.unusedSimpArgs false
namespace Go.Proofs.Ythlebobfbalknaa
open Go.RowKit

theorem mul64_low (x1 y0 x0 : Int) (h0 : 0 ≤ x1) (h1 : x1 < 4294967296) (h2 : 0 ≤ y0) (h3 : y0 < 4294967296) (h4 : 0 ≤ x0) (h5 : x0 < 4294967296) :
    bits .and .u64 ((x1 * y0 % 18446744073709551616 + x0 * y0 % 18446744073709551616 / 4294967296) % 18446744073709551616) 4294967295 = (x1 * y0 % 18446744073709551616 + x0 * y0 % 18446744073709551616 / 4294967296) % 18446744073709551616 % 4294967296 :=
  and_low32 _ (by omega) (by omega)

set_option maxHeartbeats 1000000 in
theorem mul64_any (x y : Int) (w : World) (hx0 : 0 ≤ x) (hx : x < 18446744073709551616) (hy0 : 0 ≤ y) (hy : y < 18446744073709551616) :
    Calls Try.prog 66 #[.int .u64 x, .int .u64 y] w fun e w' => e = .returned (.tuple #[.int .u64 (x * y / 18446744073709551616), .int .u64 (x * y % 18446744073709551616)]) ∧ w = w' := by
  have e1 := and_low32 x hx0 hx
  have e2 := and_low32 y hy0 hy
  go_enter Try.func66, Try.ntmps66
  go_wp2
  go_ret2
  refine ⟨?_, rfl⟩
  show Ending.returned (.tuple #[.int .u64 _, .int .u64 _]) = _
  simp only [IntKind.wrap_u64]
  rw [mul64_low _ _ _ (by omega) (by omega) (by omega) (by omega) (by omega) (by omega), mul64_arith x y hx0 hx hy0 hy]

theorem add64_0 (x y : Int) (hx : 0 ≤ x) (hy : 0 ≤ y) (w : World) : (callFunc 67 #[.int .u64 x, .int .u64 y, .int .u64 0]).run Try.prog w =
    .ok (.value (.tuple #[.int .u64 ((x + y) % 18446744073709551616), .int .u64 ((x + y) / 18446744073709551616)])) w := by
  rw [run_callFunc_extern Try.func67 (by kernel_rfl) (by kernel_rfl) (by kernel_rfl) (e := add64Entry) (by kernel_rfl), run_add64 x y 0 hx hy (by omega) (by omega)]
  simp [Result.andThen]


/-- A number of three words. -/
def IsW (v : Nat) (r0 r1 r2 : Int) : Prop := 0 ≤ r0 ∧ r0 < 18446744073709551616 ∧ 0 ≤ r1 ∧ r1 < 18446744073709551616 ∧ 0 ≤ r2 ∧ r2 < 18446744073709551616 ∧
  r0 * 340282366920938463463374607431768211456 + r1 * 18446744073709551616 + r2 = (v : Int)
def RetW (v : Nat) (w : World) (e : Ending) (w' : World) : Prop := ∃ r0 r1 r2 : Int, IsW v r0 r1 r2 ∧ e = .returned (.agg #[.int .u64 r0, .int .u64 r1, .int .u64 r2]) ∧ Below w.heap.size w w'

theorem prod_le {a x : Int} (h0 : 0 ≤ a) (h0' : a < 18446744073709551616) (hx0 : 0 ≤ x) (hx : x < 18446744073709551616) : 0 ≤ a * x ∧ a * x ≤ 340282366920938463426481119284349108225 := by
  refine ⟨Int.mul_nonneg h0 hx0, ?_⟩
  have := Int.mul_le_mul (show a ≤ 18446744073709551615 by omega) (show x ≤ 18446744073709551615 by omega) hx0 (by omega : (0 : Int) ≤ 18446744073709551615)
  simpa using this

theorem times_math {v x : Nat} {a0 a1 a2 p0 p1 p2 : Int} (h : IsW v a0 a1 a2) (e0 : a0 * x = p0) (e1 : a1 * x = p1) (e2 : a2 * x = p2) (b0 : 0 ≤ p0) (b1 : 0 ≤ p1) (b2 : 0 ≤ p2) :
    IsW (v * x % 6277101735386680763835789423207666416102355444464034512896)
      ((p0 + (p1 / 18446744073709551616 + (p1 % 18446744073709551616 + (p2 / 18446744073709551616 + p2 % 18446744073709551616 / 18446744073709551616)) / 18446744073709551616)) % 18446744073709551616)
      ((p1 + (p2 / 18446744073709551616 + p2 % 18446744073709551616 / 18446744073709551616)) % 18446744073709551616)
      (p2 % 18446744073709551616) := by
  obtain ⟨h1, h2, h3, h4, h5, h6, h7⟩ := h
  have e : ((v * x : Nat) : Int) = p0 * 340282366920938463463374607431768211456 + p1 * 18446744073709551616 + p2 := by
    rw [Int.natCast_mul, ← h7, ← e0, ← e1, ← e2]; grind
  refine ⟨by omega, by omega, by omega, by omega, by omega, by omega, ?_⟩
  rw [Int.natCast_emod, e]
  omega
set_option maxHeartbeats 1000000 in
theorem times_core (v x' : Nat) (a0 a1 a2 x p0 p1 p2 : Int) (w : World) (hx0 : 0 ≤ x) (hx : x < 18446744073709551616) 
   (h0 : 0 ≤ a0) (h0' : a0 < 18446744073709551616) (h1 : 0 ≤ a1) (h1' : a1 < 18446744073709551616) (h2 : 0 ≤ a2) (h2' : a2 < 18446744073709551616)
   (e0 : a0 * x = p0) (e1 : a1 * x = p1) (e2 : a2 * x = p2)
   (b0 : 0 ≤ p0) (b0' : p0 ≤ 340282366920938463426481119284349108225) (b1 : 0 ≤ p1) (b1' : p1 ≤ 340282366920938463426481119284349108225)
   (b2 : 0 ≤ p2) (b2' : p2 ≤ 340282366920938463426481119284349108225) 
   (H : Hid (IsW (v * x' % 6277101735386680763835789423207666416102355444464034512896)
      ((p0 + (p1 / 18446744073709551616 + (p1 % 18446744073709551616 + (p2 / 18446744073709551616 + p2 % 18446744073709551616 / 18446744073709551616)) / 18446744073709551616)) % 18446744073709551616)
      ((p1 + (p2 / 18446744073709551616 + p2 % 18446744073709551616 / 18446744073709551616)) % 18446744073709551616)
      (p2 % 18446744073709551616))) :
    Calls Try.prog 54 #[.agg #[.int .u64 a0, .int .u64 a1, .int .u64 a2], .int .u64 x] w (RetW (v * x' % 6277101735386680763835789423207666416102355444464034512896) w) := by
  go_enter Try.func54, Try.ntmps54
  go_wp2
  refine wp_loop_rounds 4 ?_
  rw [rounds_succ]
  go_wp2_with (first | (go_at_call 66; refine (mul64_any _ _ _ (by omega) (by omega) (by omega) (by omega)).mono ?_; rintro e w' ⟨rfl, rfl⟩) | (simp (disch := omega) only [add64_0]))
  rw [rounds_succ]
  go_wp2_with (first | (go_at_call 66; refine (mul64_any _ _ _ (by omega) (by omega) (by omega) (by omega)).mono ?_; rintro e w' ⟨rfl, rfl⟩) | (simp (disch := omega) only [add64_0]))
  rw [rounds_succ]
  go_wp2_with (first | (go_at_call 66; refine (mul64_any _ _ _ (by omega) (by omega) (by omega) (by omega)).mono ?_; rintro e w' ⟨rfl, rfl⟩) | (simp (disch := omega) only [add64_0]))
  rw [rounds_succ]
  go_wp2_with (first | (go_at_call 66; refine (mul64_any _ _ _ (by omega) (by omega) (by omega) (by omega)).mono ?_; rintro e w' ⟨rfl, rfl⟩) | (simp (disch := omega) only [add64_0]))
  simp [bodyPost, results, Try.results54, go_sem]
  exact ⟨_, _, _, H.out, rfl, ((Below.refl _ _).alloc (Nat.le_refl _) _).alloc (by simp) _⟩

theorem times_any (v x' : Nat) (a0 a1 a2 : Int) (x : Int) (w : World) (hxx : x = (x' : Int)) (hx : x < 18446744073709551616) (h : IsW v a0 a1 a2) :
    Calls Try.prog 54 #[.agg #[.int .u64 a0, .int .u64 a1, .int .u64 a2], .int .u64 x] w (RetW (v * x' % 6277101735386680763835789423207666416102355444464034512896) w) := by
  obtain ⟨h1, h2, h3, h4, h5, h6, h7⟩ := id h
  have hx0 : 0 ≤ x := by omega
  obtain ⟨q0, q0'⟩ := prod_le h1 h2 hx0 hx
  obtain ⟨q1, q1'⟩ := prod_le h3 h4 hx0 hx
  obtain ⟨q2, q2'⟩ := prod_le h5 h6 hx0 hx
  refine times_core v x' a0 a1 a2 x _ _ _ w hx0 hx h1 h2 h3 h4 h5 h6 rfl rfl rfl q0 q0' q1 q1' q2 q2' ?_
  exact times_math h (by rw [hxx]) (by rw [hxx]) (by rw [hxx]) q0 q1 q2

/-- The powers' remainders. -/
theorem pow_step (x k M : Nat) : x ^ k % M * x % M = x ^ (k + 1) % M := by
  rw [Nat.pow_succ, Nat.mul_mod, Nat.mod_mod, ← Nat.mul_mod]

set_option maxHeartbeats 1000000 in
theorem power_any (x' k : Nat) (x : Int) (w : World) (hx0 : 0 ≤ x) (hx : x < 18446744073709551616) (hxx : Hid (x = (x' : Int))) (hk : k ≤ 1000) :
    Calls Try.prog 53 #[.int .u64 x, .int .i64 (k : Int)] w (RetW (x' ^ k % 6277101735386680763835789423207666416102355444464034512896) w) := by
  go_enter Try.func53, Try.ntmps53
  go_wp2
  go_loopw [8] (fun i wr => ∃ n : Nat, n ≤ k ∧ i = .int .i64 n ∧ ∃ r0 r1 r2 : Int, IsW (x' ^ n % 6277101735386680763835789423207666416102355444464034512896) r0 r1 r2 ∧ Below w.heap.size w wr ∧
     Blk wr w.heap.size 106 [.int .u64 0, .int .u64 0, .int .u64 0] ∧ Blk wr (w.heap.size + 1) 106 [.int .u64 r0, .int .u64 r1, .int .u64 r2]) (fun i _ => k - (intOf i).toNat)
  case atStart => 
    exact ⟨0, Nat.zero_le _, rfl, 0, 0, 1, by simp [IsW], ((Below.refl _ _).alloc (Nat.le_refl _) _).alloc (by simp) _, (Blk.new w 106 _).alloc _, by simpa using Blk.new (w.alloc (.cells #[.int .u64 0, .int .u64 0, .int .u64 0] 106)) 106 #[.int .u64 0, .int .u64 0, .int .u64 1]⟩
  case round =>
    obtain ⟨n, hn, rfl, r0, r1, r2, hW, hB, hb1, hb2⟩ := hrel
    have c0 := hb2.cell 0
    have c1 := hb2.cell 1
    have c2 := hb2.cell 2
    have f0 := hb2.frozen 0
    have f1 := hb2.frozen 1
    have f2 := hb2.frozen 2
    simp at c0 c1 c2
    by_cases hlt : n < k
    · have ht := fun W => times_any _ x' r0 r1 r2 x W hxx.out hx hW
      have Ht := Lib.hid ht; clear ht
      go_wp2_with (go_at_call 54; refine (Ht.out _).mono ?_; rintro e w1 ⟨s0, s1, s2, hW1, rfl, hB1⟩; have hbb := hb2.keep hB1; have c0 := hbb.cell 0; have c1 := hbb.cell 1; have c2 := hbb.cell 2; have f0 := hbb.frozen 0; have f1 := hbb.frozen 1; have f2 := hbb.frozen 2; simp at c0 c1 c2)
      go_roundw
      case rel =>
        have hlt1 := hb1.lt
        have hlt2 := hb2.lt
        rw [pow_step] at hW1
        refine ⟨n + 1, by omega, by go_num, s0, s1, s2, hW1, ?_, ?_, ?_⟩
        · exact (((below_call hB (by omega) hB1).setCell (by simp) _).setCell (by simp) _).setCell (by simp) _
        · exact (((hb1.keep hB1).far (by simp) _).far (by simp) _).far (by simp) _
        · simpa using ((hbb.set_ 0 (.int .u64 s0)).set_ 1 (.int .u64 s1)).set_ 2 (.int .u64 s2)
      case measure => simp [intOf]; omega
    · obtain rfl : n = k := by omega
      have d0 := hb1.cell 0
      have d1 := hb1.cell 1
      have d2 := hb1.cell 2
      have g0 := hb1.frozen 0
      have g1 := hb1.frozen 1
      have g2 := hb1.frozen 2
      simp at d0 d1 d2
      go_wp2
      have hz := ((hb1.set_ 0 (.int .u64 r0)).set_ 1 (.int .u64 r1)).set_ 2 (.int .u64 r2)
      have z0 := hz.cell 0
      have z1 := hz.cell 1
      have z2 := hz.cell 2
      simp at z0 z1 z2
      simp [bodyPost, results, Try.results53, go_sem, z0, z1, z2]
      exact ⟨_, _, _, hW, rfl, ((hB.setCell (by simp) _).setCell (by simp) _).setCell (by simp) _⟩


set_option maxHeartbeats 1000000 in
theorem over_any (v u : Nat) (a0 a1 a2 b0 b1 b2 : Int) (w : World) (ha : IsW v a0 a1 a2) (hb : IsW u b0 b1 b2) :
    Calls Try.prog 55 #[.agg #[.int .u64 a0, .int .u64 a1, .int .u64 a2], .agg #[.int .u64 b0, .int .u64 b1, .int .u64 b2]] w fun e w' => e = .returned (.bool (decide (u < v))) ∧ Below w.heap.size w w' := by
  have fin : ∀ b : Bool, (b = true ↔ u < v) → Ending.returned (.bool b) = .returned (.bool (decide (u < v))) := by
    intro b hb; congr 2; rw [Bool.eq_iff_iff]; simpa using hb
  obtain ⟨h1, h2, h3, h4, h5, h6, h7⟩ := ha
  obtain ⟨k1, k2, k3, k4, k5, k6, k7⟩ := hb
  have hv : u < v ↔ (b0 < a0 ∨ (a0 = b0 ∧ (b1 < a1 ∨ (a1 = b1 ∧ b2 < a2)))) := by omega
  clear h7 k7
  have Hv := Lib.hid hv; clear hv
  by_cases q0 : a0 = b0
  · subst q0
    by_cases q1 : a1 = b1
    · subst q1
      by_cases q2 : a2 = b2
      · subst q2
        go_enter Try.func55, Try.ntmps55
        go_wp2
        refine wp_loop_rounds 4 ?_
        rw [rounds_succ]
        go_wp2
        go_quiet (fail)
        go_wp2
        rw [rounds_succ]
        go_wp2
        go_quiet (fail)
        go_wp2
        rw [rounds_succ]
        go_wp2
        go_quiet (fail)
        go_wp2
        rw [rounds_succ]
        go_wp2
        go_ret
        exact ⟨fin _ (by rw [Hv.out]; simp), by repeat' (first | (with_reducible exact Below.refl _ _) | (with_reducible refine below_drewN ?_ _) | (with_reducible refine Below.drew ?_) | (with_reducible refine Below.alloc ?_ ?_ _) | go_size)⟩
      · have n2 : (a2 != b2) = true := by simpa using q2
        go_enter Try.func55, Try.ntmps55
        go_wp2
        refine wp_loop_rounds 4 ?_
        rw [rounds_succ]
        go_wp2
        go_quiet (fail)
        go_wp2
        rw [rounds_succ]
        go_wp2
        go_quiet (fail)
        go_wp2
        rw [rounds_succ]
        go_wp2
        go_quiet (fail)
        go_wp2
        go_quiet (fail)
        go_wp2
        go_ret
        exact ⟨fin _ (by rw [Hv.out]; simp), by repeat' (first | (with_reducible exact Below.refl _ _) | (with_reducible refine below_drewN ?_ _) | (with_reducible refine Below.drew ?_) | (with_reducible refine Below.alloc ?_ ?_ _) | go_size)⟩
    · have n1 : (a1 != b1) = true := by simpa using q1
      go_enter Try.func55, Try.ntmps55
      go_wp2
      refine wp_loop_rounds 4 ?_
      rw [rounds_succ]
      go_wp2
      go_quiet (fail)
      go_wp2
      rw [rounds_succ]
      go_wp2
      go_quiet (fail)
      go_wp2
      go_quiet (fail)
      go_wp2
      go_ret
      exact ⟨fin _ (by rw [Hv.out]; simp [q1]), by repeat' (first | (with_reducible exact Below.refl _ _) | (with_reducible refine below_drewN ?_ _) | (with_reducible refine Below.drew ?_) | (with_reducible refine Below.alloc ?_ ?_ _) | go_size)⟩
  · have n0 : (a0 != b0) = true := by simpa using q0
    go_enter Try.func55, Try.ntmps55
    go_wp2
    refine wp_loop_rounds 4 ?_
    rw [rounds_succ]
    go_wp2
    go_quiet (fail)
    go_wp2
    go_quiet (fail)
    go_wp2
    go_ret
    exact ⟨fin _ (by rw [Hv.out]; simp [q0]), by repeat' (first | (with_reducible exact Below.refl _ _) | (with_reducible refine below_drewN ?_ _) | (with_reducible refine Below.drew ?_) | (with_reducible refine Below.alloc ?_ ?_ _) | go_size)⟩
end Go.Proofs.Ythlebobfbalknaa
