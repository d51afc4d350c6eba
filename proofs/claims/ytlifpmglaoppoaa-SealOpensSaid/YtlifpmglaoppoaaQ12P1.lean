/- Several texts in one (written by mergetop.py): NumD0 NumA NumB NumC NumD NumE. -/
import Derived.Test.YtlifpmglaoppoaaBase
import Derived.Test.YtlifpmglaoppoaaShaP
import Derived.Deep.OwnRows
import Derived.Test.YtlifpmglaoppoaaNumR
set_option linter.unusedVariables false
set_option linter.unusedSimpArgs false

/- What a maker of bytes answers. -/
namespace Go.Proofs.Ytlifpmglaoppoaa
open Go.RowKit
open Go.Proofs.PlainSha

theorem infoU8 : (Try.prog.info? 5).map (fun i => (i.zero, i.size, i.bytes)) = some (some (.int .u8 0), 1, 1) := by kernel_rfl

theorem putB_get (x n k : Nat) (hk : k < n) : (bv (putB x n))[k]? = some (.int .u8 ((x : Int) / 2 ^ (8 * (n - 1 - k)) % 256)) := by
  rw [bv_get]
  simp [putB, hk]

/-- What a function that makes a slice of bytes answers, with an error's number. -/
def RetB (l : List Nat) (c : Int) (w : World) (e : Ending) (w' : World) : Prop := ∃ v, e = .returned (.tuple #[v, .int .i64 c]) ∧ Sl w' v (bv l) ∧ Below w.heap.size w w'

end Go.Proofs.Ytlifpmglaoppoaa

/- Contracts of the functions of num that the statements' own example runs through: Turn, Mul64, Add64, times, power, over. -/
namespace Go.Proofs.Ytlifpmglaoppoaa
open Go.RowKit

theorem mul64_low (x1 y0 x0 : Int) (h0 : 0 ≤ x1) (h1 : x1 < 4294967296) (h2 : 0 ≤ y0) (h3 : y0 < 4294967296) (h4 : 0 ≤ x0) (h5 : x0 < 4294967296) :
    bits .and .u64 ((x1 * y0 % 18446744073709551616 + x0 * y0 % 18446744073709551616 / 4294967296) % 18446744073709551616) 4294967295 = (x1 * y0 % 18446744073709551616 + x0 * y0 % 18446744073709551616 / 4294967296) % 18446744073709551616 % 4294967296 :=
  and_low32 _ (by omega) (by omega)

set_option maxHeartbeats 1000000 in
theorem mul64_any (x y : Int) (w : World) (hx0 : 0 ≤ x) (hx : x < 18446744073709551616) (hy0 : 0 ≤ y) (hy : y < 18446744073709551616) :
    Calls Try.prog 98 #[.int .u64 x, .int .u64 y] w fun e w' => e = .returned (.tuple #[.int .u64 (x * y / 18446744073709551616), .int .u64 (x * y % 18446744073709551616)]) ∧ w = w' := by
  have e1 := and_low32 x hx0 hx
  have e2 := and_low32 y hy0 hy
  go_enter Try.func98, Try.ntmps98
  go_wp2
  go_ret2
  refine ⟨?_, rfl⟩
  show Ending.returned (.tuple #[.int .u64 _, .int .u64 _]) = _
  simp only [IntKind.wrap_u64]
  rw [mul64_low _ _ _ (by omega) (by omega) (by omega) (by omega) (by omega) (by omega), mul64_arith x y hx0 hx hy0 hy]

theorem add64_0 (x y : Int) (hx : 0 ≤ x) (hy : 0 ≤ y) (w : World) : (callFunc 99 #[.int .u64 x, .int .u64 y, .int .u64 0]).run Try.prog w =
    .ok (.value (.tuple #[.int .u64 ((x + y) % 18446744073709551616), .int .u64 ((x + y) / 18446744073709551616)])) w := by
  rw [run_callFunc_extern Try.func99 (by kernel_rfl) (by kernel_rfl) (by kernel_rfl) (e := add64Entry) (by kernel_rfl), run_add64 x y 0 hx hy (by omega) (by omega)]
  simp [Result.andThen]


/-- A number of three words. -/
def IsW (v : Nat) (r0 r1 r2 : Int) : Prop := 0 ≤ r0 ∧ r0 < 18446744073709551616 ∧ 0 ≤ r1 ∧ r1 < 18446744073709551616 ∧ 0 ≤ r2 ∧ r2 < 18446744073709551616 ∧
  r0 * 340282366920938463463374607431768211456 + r1 * 18446744073709551616 + r2 = (v : Int)
def RetW (v : Nat) (w : World) (e : Ending) (w' : World) : Prop := ∃ r0 r1 r2 : Int, IsW v r0 r1 r2 ∧ e = .returned (.agg #[.int .u64 r0, .int .u64 r1, .int .u64 r2]) ∧ Below w.heap.size w w'

theorem prod_le {a x : Int} (h0 : 0 ≤ a) (h0' : a < 18446744073709551616) (hx0 : 0 ≤ x) (hx : x < 18446744073709551616) : 0 ≤ a * x ∧ a * x ≤ 340282366920938463426481119284349108225 := by
  refine ⟨Int.mul_nonneg h0 hx0, ?_⟩
  have := Int.mul_le_mul (show a ≤ 18446744073709551615 by omega) (show x ≤ 18446744073709551615 by omega) hx0 (by omega : (0 : Int) ≤ 18446744073709551615)
  simpa using this

theorem times_math {v x : Nat} {a0 a1 a2 p0 p1 p2 : Int} (h : IsW v a0 a1 a2) (e0 : a0 * x = p0) (e1 : a1 * x = p1) (e2 : a2 * x = p2) (b0 : 0 ≤ p0) (b1 : 0 ≤ p1) (b2 : 0 ≤ p2) :
    IsW (v * x % 6277101735386680763835789423207666416102355444464034512896)
      ((p0 + (p1 / 18446744073709551616 + (p1 % 18446744073709551616 + (p2 / 18446744073709551616 + p2 % 18446744073709551616 / 18446744073709551616)) / 18446744073709551616)) % 18446744073709551616)
      ((p1 + (p2 / 18446744073709551616 + p2 % 18446744073709551616 / 18446744073709551616)) % 18446744073709551616)
      (p2 % 18446744073709551616) := by
  obtain ⟨h1, h2, h3, h4, h5, h6, h7⟩ := h
  have e : ((v * x : Nat) : Int) = p0 * 340282366920938463463374607431768211456 + p1 * 18446744073709551616 + p2 := by
    rw [Int.natCast_mul, ← h7, ← e0, ← e1, ← e2]; grind
  refine ⟨by omega, by omega, by omega, by omega, by omega, by omega, ?_⟩
  rw [Int.natCast_emod, e]
  omega
set_option maxHeartbeats 1000000 in
theorem times_core (v x' : Nat) (a0 a1 a2 x p0 p1 p2 : Int) (w : World) (hx0 : 0 ≤ x) (hx : x < 18446744073709551616) 
   (h0 : 0 ≤ a0) (h0' : a0 < 18446744073709551616) (h1 : 0 ≤ a1) (h1' : a1 < 18446744073709551616) (h2 : 0 ≤ a2) (h2' : a2 < 18446744073709551616)
   (e0 : a0 * x = p0) (e1 : a1 * x = p1) (e2 : a2 * x = p2)
   (b0 : 0 ≤ p0) (b0' : p0 ≤ 340282366920938463426481119284349108225) (b1 : 0 ≤ p1) (b1' : p1 ≤ 340282366920938463426481119284349108225)
   (b2 : 0 ≤ p2) (b2' : p2 ≤ 340282366920938463426481119284349108225) 
   (H : Hid (IsW (v * x' % 6277101735386680763835789423207666416102355444464034512896)
      ((p0 + (p1 / 18446744073709551616 + (p1 % 18446744073709551616 + (p2 / 18446744073709551616 + p2 % 18446744073709551616 / 18446744073709551616)) / 18446744073709551616)) % 18446744073709551616)
      ((p1 + (p2 / 18446744073709551616 + p2 % 18446744073709551616 / 18446744073709551616)) % 18446744073709551616)
      (p2 % 18446744073709551616))) :
    Calls Try.prog 89 #[.agg #[.int .u64 a0, .int .u64 a1, .int .u64 a2], .int .u64 x] w (RetW (v * x' % 6277101735386680763835789423207666416102355444464034512896) w) := by
  go_enter Try.func89, Try.ntmps89
  go_wp2
  refine wp_loop_rounds 4 ?_
  rw [rounds_succ]
  go_wp2_with (first | (go_at_call 98; refine (mul64_any _ _ _ (by omega) (by omega) (by omega) (by omega)).mono ?_; rintro e w' ⟨rfl, rfl⟩) | (simp (disch := omega) only [add64_0]))
  rw [rounds_succ]
  go_wp2_with (first | (go_at_call 98; refine (mul64_any _ _ _ (by omega) (by omega) (by omega) (by omega)).mono ?_; rintro e w' ⟨rfl, rfl⟩) | (simp (disch := omega) only [add64_0]))
  rw [rounds_succ]
  go_wp2_with (first | (go_at_call 98; refine (mul64_any _ _ _ (by omega) (by omega) (by omega) (by omega)).mono ?_; rintro e w' ⟨rfl, rfl⟩) | (simp (disch := omega) only [add64_0]))
  rw [rounds_succ]
  go_wp2_with (first | (go_at_call 98; refine (mul64_any _ _ _ (by omega) (by omega) (by omega) (by omega)).mono ?_; rintro e w' ⟨rfl, rfl⟩) | (simp (disch := omega) only [add64_0]))
  simp [bodyPost, results, Try.results89, go_sem]
  exact ⟨_, _, _, H.out, rfl, ((Below.refl _ _).alloc (Nat.le_refl _) _).alloc (by simp) _⟩

theorem times_any (v x' : Nat) (a0 a1 a2 : Int) (x : Int) (w : World) (hxx : x = (x' : Int)) (hx : x < 18446744073709551616) (h : IsW v a0 a1 a2) :
    Calls Try.prog 89 #[.agg #[.int .u64 a0, .int .u64 a1, .int .u64 a2], .int .u64 x] w (RetW (v * x' % 6277101735386680763835789423207666416102355444464034512896) w) := by
  obtain ⟨h1, h2, h3, h4, h5, h6, h7⟩ := id h
  have hx0 : 0 ≤ x := by omega
  obtain ⟨q0, q0'⟩ := prod_le h1 h2 hx0 hx
  obtain ⟨q1, q1'⟩ := prod_le h3 h4 hx0 hx
  obtain ⟨q2, q2'⟩ := prod_le h5 h6 hx0 hx
  refine times_core v x' a0 a1 a2 x _ _ _ w hx0 hx h1 h2 h3 h4 h5 h6 rfl rfl rfl q0 q0' q1 q1' q2 q2' ?_
  exact times_math h (by rw [hxx]) (by rw [hxx]) (by rw [hxx]) q0 q1 q2

/-- The powers' remainders. -/
theorem pow_step (x k M : Nat) : x ^ k % M * x % M = x ^ (k + 1) % M := by
  rw [Nat.pow_succ, Nat.mul_mod, Nat.mod_mod, ← Nat.mul_mod]

set_option maxHeartbeats 1000000 in
theorem power_any (x' k : Nat) (x : Int) (w : World) (hx0 : 0 ≤ x) (hx : x < 18446744073709551616) (hxx : Hid (x = (x' : Int))) (hk : k ≤ 1000) :
    Calls Try.prog 88 #[.int .u64 x, .int .i64 (k : Int)] w (RetW (x' ^ k % 6277101735386680763835789423207666416102355444464034512896) w) := by
  go_enter Try.func88, Try.ntmps88
  go_wp2
  go_loopw [8] (fun i wr => ∃ n : Nat, n ≤ k ∧ i = .int .i64 n ∧ ∃ r0 r1 r2 : Int, IsW (x' ^ n % 6277101735386680763835789423207666416102355444464034512896) r0 r1 r2 ∧ Below w.heap.size w wr ∧
     Blk wr w.heap.size 146 [.int .u64 0, .int .u64 0, .int .u64 0] ∧ Blk wr (w.heap.size + 1) 146 [.int .u64 r0, .int .u64 r1, .int .u64 r2]) (fun i _ => k - (intOf i).toNat)
  case atStart => 
    exact ⟨0, Nat.zero_le _, rfl, 0, 0, 1, by simp [IsW], ((Below.refl _ _).alloc (Nat.le_refl _) _).alloc (by simp) _, (Blk.new w 146 _).alloc _, by simpa using Blk.new (w.alloc (.cells #[.int .u64 0, .int .u64 0, .int .u64 0] 146)) 146 #[.int .u64 0, .int .u64 0, .int .u64 1]⟩
  case round =>
    obtain ⟨n, hn, rfl, r0, r1, r2, hW, hB, hb1, hb2⟩ := hrel
    have c0 := hb2.cell 0
    have c1 := hb2.cell 1
    have c2 := hb2.cell 2
    have f0 := hb2.frozen 0
    have f1 := hb2.frozen 1
    have f2 := hb2.frozen 2
    simp at c0 c1 c2
    by_cases hlt : n < k
    · have ht := fun W => times_any _ x' r0 r1 r2 x W hxx.out hx hW
      have Ht := Lib.hid ht; clear ht
      go_wp2_with (go_at_call 89; refine (Ht.out _).mono ?_; rintro e w1 ⟨s0, s1, s2, hW1, rfl, hB1⟩; have hbb := hb2.keep hB1; have c0 := hbb.cell 0; have c1 := hbb.cell 1; have c2 := hbb.cell 2; have f0 := hbb.frozen 0; have f1 := hbb.frozen 1; have f2 := hbb.frozen 2; simp at c0 c1 c2)
      go_roundw
      case rel =>
        have hlt1 := hb1.lt
        have hlt2 := hb2.lt
        rw [pow_step] at hW1
        refine ⟨n + 1, by omega, by go_num, s0, s1, s2, hW1, ?_, ?_, ?_⟩
        · exact (((below_call hB (by omega) hB1).setCell (by simp) _).setCell (by simp) _).setCell (by simp) _
        · exact (((hb1.keep hB1).far (by simp) _).far (by simp) _).far (by simp) _
        · simpa using ((hbb.set_ 0 (.int .u64 s0)).set_ 1 (.int .u64 s1)).set_ 2 (.int .u64 s2)
      case measure => simp [intOf]; omega
    · obtain rfl : n = k := by omega
      have d0 := hb1.cell 0
      have d1 := hb1.cell 1
      have d2 := hb1.cell 2
      have g0 := hb1.frozen 0
      have g1 := hb1.frozen 1
      have g2 := hb1.frozen 2
      simp at d0 d1 d2
      go_wp2
      have hz := ((hb1.set_ 0 (.int .u64 r0)).set_ 1 (.int .u64 r1)).set_ 2 (.int .u64 r2)
      have z0 := hz.cell 0
      have z1 := hz.cell 1
      have z2 := hz.cell 2
      simp at z0 z1 z2
      simp [bodyPost, results, Try.results88, go_sem, z0, z1, z2]
      exact ⟨_, _, _, hW, rfl, ((hB.setCell (by simp) _).setCell (by simp) _).setCell (by simp) _⟩


set_option maxHeartbeats 1000000 in
theorem over_any (v u : Nat) (a0 a1 a2 b0 b1 b2 : Int) (w : World) (ha : IsW v a0 a1 a2) (hb : IsW u b0 b1 b2) :
    Calls Try.prog 90 #[.agg #[.int .u64 a0, .int .u64 a1, .int .u64 a2], .agg #[.int .u64 b0, .int .u64 b1, .int .u64 b2]] w fun e w' => e = .returned (.bool (decide (u < v))) ∧ Below w.heap.size w w' := by
  have fin : ∀ b : Bool, (b = true ↔ u < v) → Ending.returned (.bool b) = .returned (.bool (decide (u < v))) := by
    intro b hb; congr 2; rw [Bool.eq_iff_iff]; simpa using hb
  obtain ⟨h1, h2, h3, h4, h5, h6, h7⟩ := ha
  obtain ⟨k1, k2, k3, k4, k5, k6, k7⟩ := hb
  have hv : u < v ↔ (b0 < a0 ∨ (a0 = b0 ∧ (b1 < a1 ∨ (a1 = b1 ∧ b2 < a2)))) := by omega
  clear h7 k7
  have Hv := Lib.hid hv; clear hv
  by_cases q0 : a0 = b0
  · subst q0
    by_cases q1 : a1 = b1
    · subst q1
      by_cases q2 : a2 = b2
      · subst q2
        go_enter Try.func90, Try.ntmps90
        go_wp2
        refine wp_loop_rounds 4 ?_
        rw [rounds_succ]
        go_wp2
        go_quiet (fail)
        go_wp2
        rw [rounds_succ]
        go_wp2
        go_quiet (fail)
        go_wp2
        rw [rounds_succ]
        go_wp2
        go_quiet (fail)
        go_wp2
        rw [rounds_succ]
        go_wp2
        go_ret
        exact ⟨fin _ (by rw [Hv.out]; simp), by repeat' (first | (with_reducible exact Below.refl _ _) | (with_reducible refine below_drewN ?_ _) | (with_reducible refine Below.drew ?_) | (with_reducible refine Below.alloc ?_ ?_ _) | go_size)⟩
      · have n2 : (a2 != b2) = true := by simpa using q2
        go_enter Try.func90, Try.ntmps90
        go_wp2
        refine wp_loop_rounds 4 ?_
        rw [rounds_succ]
        go_wp2
        go_quiet (fail)
        go_wp2
        rw [rounds_succ]
        go_wp2
        go_quiet (fail)
        go_wp2
        rw [rounds_succ]
        go_wp2
        go_quiet (fail)
        go_wp2
        go_quiet (fail)
        go_wp2
        go_ret
        exact ⟨fin _ (by rw [Hv.out]; simp), by repeat' (first | (with_reducible exact Below.refl _ _) | (with_reducible refine below_drewN ?_ _) | (with_reducible refine Below.drew ?_) | (with_reducible refine Below.alloc ?_ ?_ _) | go_size)⟩
    · have n1 : (a1 != b1) = true := by simpa using q1
      go_enter Try.func90, Try.ntmps90
      go_wp2
      refine wp_loop_rounds 4 ?_
      rw [rounds_succ]
      go_wp2
      go_quiet (fail)
      go_wp2
      rw [rounds_succ]
      go_wp2
      go_quiet (fail)
      go_wp2
      go_quiet (fail)
      go_wp2
      go_ret
      exact ⟨fin _ (by rw [Hv.out]; simp [q1]), by repeat' (first | (with_reducible exact Below.refl _ _) | (with_reducible refine below_drewN ?_ _) | (with_reducible refine Below.drew ?_) | (with_reducible refine Below.alloc ?_ ?_ _) | go_size)⟩
  · have n0 : (a0 != b0) = true := by simpa using q0
    go_enter Try.func90, Try.ntmps90
    go_wp2
    refine wp_loop_rounds 4 ?_
    rw [rounds_succ]
    go_wp2
    go_quiet (fail)
    go_wp2
    go_quiet (fail)
    go_wp2
    go_ret
    exact ⟨fin _ (by rw [Hv.out]; simp [q0]), by repeat' (first | (with_reducible exact Below.refl _ _) | (with_reducible refine below_drewN ?_ _) | (with_reducible refine Below.drew ?_) | (with_reducible refine Below.alloc ?_ ?_ _) | go_size)⟩
end Go.Proofs.Ytlifpmglaoppoaa

/- Contracts of num.Frac, Put, Turn and of banyanref01.Same; the statements' own example (alive). -/
namespace Go.Proofs.Ytlifpmglaoppoaa
open Go.RowKit

set_option maxHeartbeats 1000000 in
theorem frac_bad (p k : Int) (w : World) (hp : 0 ≤ p) (hp' : p ≤ 4294967295) (h : k < 2 ∨ 3 < k ∨ p < 1 ∨ 65535 < p) :
    Calls Try.prog 72 #[.int .u32 p, .int .i64 k] w fun e w' => e = .returned (.tuple #[.int .u32 0, .int .i64 2]) ∧ w = w' := by
  by_cases c1 : k < 2
  · go_enter Try.func72, Try.ntmps72
    go_wp2
    go_ret2
    exact ⟨rfl, rfl⟩
  · by_cases c2 : 3 < k
    · go_enter Try.func72, Try.ntmps72
      go_wp2
      go_ret2
      exact ⟨rfl, rfl⟩
    · by_cases c3 : p < 1
      · go_enter Try.func72, Try.ntmps72
        go_wp2
        go_ret2
        exact ⟨rfl, rfl⟩
      · have c4 : 65535 < p := by omega
        go_enter Try.func72, Try.ntmps72
        go_wp2
        go_ret2
        exact ⟨rfl, rfl⟩

theorem or_bit {r' m : Nat} (hm : m ≤ 40) (h1 : r' % 2 ^ (m + 1) = 0) (h2 : r' + 2 ^ (m + 1) ≤ 2199023255552) :
    bits .or .u64 (r' : Int) (IntKind.u64.wrap (2 ^ m)) = ((r' + 2 ^ m : Nat) : Int) := by
  have hp : 2 ^ m ≤ 2 ^ 40 := Nat.pow_le_pow_right (by omega) hm
  have e : IntKind.u64.wrap (2 ^ m) = ((2 ^ m : Nat) : Int) := by
    rw [IntKind.wrap_u64, Int.natCast_pow]
    have : (2 : Int) ^ m = ((2 ^ m : Nat) : Int) := by simp
    simp only [Int.cast_ofNat_Int]
    rw [this]; omega
  rw [e, u64_or_nat _ _ (by omega) (by omega)]
  congr 1
  have h3 : r' = 2 ^ (m + 1) * (r' / 2 ^ (m + 1)) := by have := Nat.div_add_mod r' (2 ^ (m + 1)); omega
  rw [h3]
  rw [Nat.two_pow_add_eq_or_of_lt (i := m + 1) (by rw [Nat.pow_succ]; have := Nat.two_pow_pos m; omega)]

theorem pow_small {a k : Nat} (hk : k ≤ 3) (ha : a ≤ 2199023255552) : a ^ k % 6277101735386680763835789423207666416102355444464034512896 = a ^ k := by
  apply Nat.mod_eq_of_lt
  have h1 : a ^ k ≤ 2199023255552 ^ k := Nat.pow_le_pow_left ha k
  have h2 : 2199023255552 ^ k ≤ 2199023255552 ^ 3 := Nat.pow_le_pow_right (by omega) hk
  omega

/-- One bit more was tried: it stays. -/
theorem frac_yes {T k m r' : Nat} (hk : k ≤ 3) (e2 : r' % 2 ^ (m + 1) = 0) (e3 : r' + 2 ^ (m + 1) ≤ 2199023255552) (e5 : 2 ^ (m + 1) = 2 ^ m * 2)
    (h : (!decide (T < (r' + 2 ^ m) ^ k % 6277101735386680763835789423207666416102355444464034512896)) = true) :
    (r' + 2 ^ m) % 2 ^ m = 0 ∧ r' + 2 ^ m + 2 ^ m ≤ 2199023255552 ∧ PlainRoot.fr T k m (r' + 2 ^ m) = PlainRoot.fr T k (m + 1) r' := by
  rw [pow_small hk (by omega)] at h
  have h' : (r' + 2 ^ m) ^ k ≤ T := by simpa using h
  refine ⟨?_, by omega, by rw [PlainRoot.fr, if_pos h']⟩
  have : r' % 2 ^ m = 0 := Nat.mod_eq_zero_of_dvd (Nat.dvd_trans (Nat.pow_dvd_pow 2 (Nat.le_succ m)) (Nat.dvd_of_mod_eq_zero e2))
  simp [this]

theorem frac_no {T k m r' : Nat} (hk : k ≤ 3) (e2 : r' % 2 ^ (m + 1) = 0) (e3 : r' + 2 ^ (m + 1) ≤ 2199023255552) (e5 : 2 ^ (m + 1) = 2 ^ m * 2)
    (h : (!decide (T < (r' + 2 ^ m) ^ k % 6277101735386680763835789423207666416102355444464034512896)) = false) :
    r' % 2 ^ m = 0 ∧ r' + 2 ^ m ≤ 2199023255552 ∧ PlainRoot.fr T k m r' = PlainRoot.fr T k (m + 1) r' := by
  rw [pow_small hk (by omega)] at h
  have h' : ¬ (r' + 2 ^ m) ^ k ≤ T := by simpa using h
  refine ⟨?_, by omega, by rw [PlainRoot.fr, if_neg h']⟩
  exact Nat.mod_eq_zero_of_dvd (Nat.dvd_trans (Nat.pow_dvd_pow 2 (Nat.le_succ m)) (Nat.dvd_of_mod_eq_zero e2))

set_option maxHeartbeats 1000000 in
theorem frac_ok (p k : Nat) (w : World) (hk : 2 ≤ k) (hk' : k ≤ 3) (hp : 1 ≤ p) (hp' : p ≤ 65535) :
    Calls Try.prog 72 #[.int .u32 (p : Int), .int .i64 (k : Int)] w fun e w' => e = .returned (.tuple #[.int .u32 (PlainRoot.frac p k : Nat), .int .i64 0]) ∧ Below w.heap.size w w' := by
  have hpw := fun (x' : Nat) (x : Int) W (h0 : 0 ≤ x) (hx : x < 18446744073709551616) (hxx : Hid (x = (x' : Int))) => power_any x' k x W h0 hx hxx (by omega)
  have Hpw := Lib.hid hpw; clear hpw
  have Htm := Lib.hid (fun v (a0 a1 a2 : Int) (W : World) (h : IsW v a0 a1 a2) => times_any v p a0 a1 a2 (p : Int) W rfl (by omega) h)
  go_enter Try.func72, Try.ntmps72
  go_wp2_with (first
    | (go_at_call 88; refine (Hpw.out 4294967296 4294967296 _ (by omega) (by omega) rfl).mono ?_; rintro e w1 ⟨s0, s1, s2, hW1, rfl, hB1⟩)
    | (go_at_call 89; refine (Htm.out _ _ _ _ _ (by assumption)).mono ?_; rintro e w2 ⟨t0, t1, t2, hW2, rfl, hB2⟩))
  have hW0 : IsW (p * 2 ^ (32 * k)) t0 t1 t2 := by
    rcases (by omega : k = 2 ∨ k = 3) with rfl | rfl
    · have e : 4294967296 ^ 2 % 6277101735386680763835789423207666416102355444464034512896 * p % 6277101735386680763835789423207666416102355444464034512896 = p * 2 ^ (32 * 2) := by omega
      rw [e] at hW2; exact hW2
    · have e : 4294967296 ^ 3 % 6277101735386680763835789423207666416102355444464034512896 * p % 6277101735386680763835789423207666416102355444464034512896 = p * 2 ^ (32 * 3) := by omega
      rw [e] at hW2; exact hW2
  have hT : Hid (p * 2 ^ (32 * k) < 6277101735386680763835789423207666416102355444464034512896) := by
    rcases (by omega : k = 2 ∨ k = 3) with rfl | rfl
    · show _ < _; omega
    · show _ < _; omega
  go_loopw [7, 8] (fun r i wr => ∃ (n r' : Nat) (ri : Int), n ≤ 41 ∧ i = .int .i64 ((n : Int) - 1) ∧ r = .int .u64 ri ∧ 0 ≤ ri ∧ ri < 2199023255552 ∧ Hid (ri = (r' : Int) ∧ r' % 2 ^ n = 0 ∧ r' + 2 ^ n ≤ 2199023255552 ∧
       PlainRoot.fr (p * 2 ^ (32 * k)) k n r' = PlainRoot.fr (p * 2 ^ (32 * k)) k 41 0) ∧ 
     Below w.heap.size w wr ∧ w2.heap.size < wr.heap.size ∧ Blk wr w2.heap.size 146 [.int .u64 t0, .int .u64 t1, .int .u64 t2]) (fun _ i _ => (intOf i + 1).toNat)
  case atStart =>
    refine ⟨41, 0, 0, by omega, rfl, rfl, by omega, by omega, ⟨rfl, by simp, by simp, rfl⟩, ?_, by simp, Blk.new _ _ _⟩
    exact (below_call hB1 hB1.size hB2).alloc (Nat.le_trans hB1.size hB2.size) _
  case round =>
    obtain ⟨n, r', ri, hn, rfl, rfl, hr0, hr1, hH, hB, hsz, hb⟩ := hrel
    by_cases hlt : n = 0
    · subst hlt
      go_wp2
      go_ret2
      obtain ⟨e1, e2, e3, e4⟩ := hH.out
      refine ⟨?_, hB⟩
      show Ending.returned (.tuple #[.int .u32 (ri % 4294967296), .int .i64 0]) = _
      rw [e1, PlainRoot.frac, ← e4, PlainRoot.fr, Int.natCast_emod]
      rfl
    · obtain ⟨m, rfl⟩ : ∃ m, n = m + 1 := ⟨n - 1, by omega⟩
      have c0 := hb.cell 0
      have c1 := hb.cell 1
      have c2 := hb.cell 2
      simp at c0 c1 c2
      obtain ⟨e1, e2, e3, e4⟩ := hH.out
      have hor := or_bit (by omega) e2 e3
      rw [← e1] at hor
      have hp2 := Nat.two_pow_pos m
      have hps : 2 ^ (m + 1) = 2 ^ m * 2 := Nat.pow_succ ..
      obtain ⟨nx, hnx⟩ : ∃ nx : Int, nx = ((r' + 2 ^ m : Nat) : Int) := ⟨_, rfl⟩
      rw [← hnx] at hor
      have hnx0 : 0 ≤ nx := by omega
      have hnx1 : nx < 18446744073709551616 := by omega
      have Hnx : Hid (nx = ((r' + 2 ^ m : Nat) : Int)) := hnx
      have E : Hid (ri = ↑r' ∧ r' % 2 ^ (m + 1) = 0 ∧ r' + 2 ^ (m + 1) ≤ 2199023255552 ∧ 2 ^ (m + 1) = 2 ^ m * 2) := ⟨e1, e2, e3, hps⟩
      clear hnx e1 e2 e3 e4 hps
      go_wp2_with fail
      go_region_with (first
        | (go_at_call 88; refine (Hpw.out (r' + 2 ^ m) nx _ hnx0 hnx1 Hnx).mono ?_; rintro e w1' ⟨q0, q1, q2, hWq, rfl, hBq⟩; have hbq := hb.drew.keep hBq; have c0 := hbq.cell 0; have c1 := hbq.cell 1; have c2 := hbq.cell 2; simp at c0 c1 c2)
        | (go_at_call 90; refine (over_any _ _ _ _ _ _ _ _ _ (by assumption) hW0).mono ?_; rintro e w2' ⟨rfl, hBo⟩))
      all_goals go_wp2
      all_goals go_roundw
      all_goals first
        | (simp [intOf]; done)
        | (simp [intOf]; omega)
        | (have hy : (!decide (p * 2 ^ (32 * k) < (r' + 2 ^ m) ^ k % 6277101735386680763835789423207666416102355444464034512896)) = true := by assumption
           obtain ⟨e1, e2, e3, e5⟩ := E.out
           obtain ⟨y1, y2, y3⟩ := frac_yes hk' e2 e3 e5 hy
           refine ⟨m, r' + 2 ^ m, nx, by omega, rfl, rfl, hnx0, ?_, ⟨Hnx, y1, y2, y3.trans hH.out.2.2.2⟩, below_call (below_call hB.drew (Nat.le_trans (Nat.le_trans hB1.size hB2.size) (Nat.le_of_lt hsz)) hBq) ?_ hBo, ?_, hbq.keep hBo⟩
           · have := Hnx.out; omega
           · have := hBq.size; have := hB.size; simp at *; omega
           · have := hbq.lt; have := hBo.size; omega)
        | (have hy : (!decide (p * 2 ^ (32 * k) < (r' + 2 ^ m) ^ k % 6277101735386680763835789423207666416102355444464034512896)) = false := by assumption
           obtain ⟨e1, e2, e3, e5⟩ := E.out
           obtain ⟨y1, y2, y3⟩ := frac_no hk' e2 e3 e5 hy
           refine ⟨m, r', ri, by omega, rfl, rfl, hr0, hr1, ⟨e1, y1, y2, y3.trans hH.out.2.2.2⟩, below_call (below_call hB.drew (Nat.le_trans (Nat.le_trans hB1.size hB2.size) (Nat.le_of_lt hsz)) hBq) ?_ hBo, ?_, hbq.keep hBo⟩
           · have := hBq.size; have := hB.size; simp at *; omega
           · have := hbq.lt; have := hBo.size; omega)

end Go.Proofs.Ytlifpmglaoppoaa

/- Contracts of banyanref01.Same, num.Turn, num.Put. -/
namespace Go.Proofs.Ytlifpmglaoppoaa
open Go.RowKit
open Go.Proofs.PlainSha

theorem mask31 (n : Int) : bits .and .u64 (IntKind.u64.wrap n) 31 = (((n % 32).toNat : Nat) : Int) := by
  have h : bits .and .u64 (IntKind.u64.wrap n) 31 = IntKind.u64.wrap n % 32 := by
    rw [IntKind.wrap_u64]
    have h0 : 0 ≤ n % 18446744073709551616 := by omega
    have h1 : n % 18446744073709551616 < 18446744073709551616 := by omega
    generalize n % 18446744073709551616 = z at *
    obtain ⟨y, rfl⟩ := Int.eq_ofNat_of_zero_le h0
    have := u64_and_nat y 31 (by omega) (by omega)
    rw [nat_mask5] at this
    simpa using this
  rw [h, IntKind.wrap_u64]
  omega

theorem turn_cast {x k : Nat} (hx : x < 4294967296) (hk : k < 32) : bits .or .u32 ((x : Int) * 2 ^ (k : Int).toNat % 4294967296) ((x : Int) / 2 ^ (32 - (k : Int)).toNat) = ((turn x k : Nat) : Int) := by
  have e1 : (x : Int) * 2 ^ (k : Int).toNat % 4294967296 = ((x * 2 ^ k % 4294967296 : Nat) : Int) := by simp
  have e2 : (x : Int) / 2 ^ (32 - (k : Int)).toNat = ((x / 2 ^ (32 - k) : Nat) : Int) := by
    have : (32 - (k : Int)).toNat = 32 - k := by omega
    rw [this]; simp
  rw [e1, e2, u32_or_nat _ _ (Nat.mod_lt _ (by decide)) (Nat.lt_of_le_of_lt (Nat.div_le_self _ _) hx)]
  rfl

set_option maxHeartbeats 400000 in
theorem turn_any (x : Nat) (n : Int) (w : World) (hx : x < 4294967296) (hn : -9223372036854775808 ≤ n) (hn' : n ≤ 9223372036854775807) :
    Calls Try.prog 92 #[.int .u32 (x : Int), .int .i64 n] w fun e w' => e = .returned (.int .u32 (turn x (n % 32).toNat : Nat)) ∧ w = w' := by
  have hk := mask31 n
  have hk1 : (n % 32).toNat < 32 := by omega
  generalize (n % 32).toNat = k at *
  have H := Lib.hid (turn_cast hx hk1)
  have hx1 : (x : Int) ≤ 4294967295 := by omega
  have hk2 : (k : Int) ≤ 31 := by omega
  go_enter Try.func92, Try.ntmps92
  go_wp2
  go_ret
  refine ⟨?_, rfl⟩
  rw [← H.out]
  simp

end Go.Proofs.Ytlifpmglaoppoaa

/- Contract of num.Put; the statements' own example (alive). -/
namespace Go.Proofs.Ytlifpmglaoppoaa
open Go.RowKit
open Go.Proofs.PlainSha

set_option maxHeartbeats 1000000 in
theorem put_ok (x n : Nat) (w : World) (hx : x < 18446744073709551616) (hn : n ≤ 8) (hf : x / 2 ^ (8 * n) = 0) :
    Calls Try.prog 56 #[.int .u64 (x : Int), .int .i64 (n : Int)] w (RetB (putB x n) 0 w) := by
  have hmk := run_make_row' (P := Try.prog) 22 5 (.int .u8 0) 1 Try.underlying22 infoU8 rfl .i64 .i64 n (by omega) (by omega)
  have hs : n < 8 → (x : Int) / 2 ^ (8 * (n : Int)).toNat = 0 := by
    intro _
    have : (8 * (n : Int)).toNat = 8 * n := by omega
    rw [this]
    have h := congrArg (fun z : Nat => (z : Int)) hf
    simpa using h
  have hn8 : (n : Int) ≤ 8 := by omega
  have hlen := Lib.hid (putB_length x n)
  by_cases h8 : (8 : Int) ≤ n
  all_goals
    have hs' : ¬ (8 : Int) ≤ n → (x : Int) / 2 ^ (8 * (n : Int)).toNat = 0 := fun h => hs (by omega)
    go_enter Try.func56, Try.ntmps56
    go_wp2
    go_loopw [30] (fun i wr => ∃ k : Nat, k ≤ n ∧ i = .int .i64 k ∧ Below w.heap.size w wr ∧ Blk wr w.heap.size 5 (fill (bv (putB x n)) (.int .u8 0) k)) (fun i _ => n - (intOf i).toNat)
    case atStart =>
      refine ⟨0, Nat.zero_le _, rfl, (Below.refl _ _).alloc (Nat.le_refl _) _, ?_⟩
      have := Blk.new w 5 (madeCells #[.int .u8 0] n)
      rw [toList_madeCells_one] at this
      simpa [fill_zero] using this
    case round =>
      obtain ⟨k, hk, rfl, hB, hb⟩ := hrel
      by_cases hlt : k < n
      · have c0 := hb.cell k
        have f0 := hb.frozen k
        obtain ⟨u, hu⟩ := fill_get (bv (putB x n)) (.int .u8 0) (k := k) (by simpa using hlt)
        rw [hu] at c0
        go_wp2
        go_roundw
        case rel =>
          refine ⟨k + 1, by omega, by go_num, hB.setCell (by simp) _, ?_⟩
          rw [← fill_set _ _ _ (putB_get x n k hlt)]
          exact hb.set_ k _
        case measure => simp [intOf]; omega
      · obtain rfl : k = n := by omega
        go_wp2
        go_ret2
        refine ⟨_, rfl, ?_, hB⟩
        have e := fill_all (bv (putB x k)) (.int .u8 0)
        simp only [bv_length, putB_length] at e
        rw [e] at hb
        have := Sl.of_blk (n := k) (c := k) hb (Nat.le_refl _) (by simp) (by unfold maxLen; omega)
        rwa [List.take_of_length_le (by simp)] at this

set_option maxHeartbeats 1000000 in
theorem put_bad (x : Nat) (n : Int) (w : World) (hx : x < 18446744073709551616) (hn0 : -9223372036854775808 ≤ n) (hn1 : n ≤ 9223372036854775807)
    (h : n < 0 ∨ 8 < n ∨ (0 ≤ n ∧ n < 8 ∧ 0 < x / 2 ^ (8 * n.toNat))) :
    Calls Try.prog 56 #[.int .u64 (x : Int), .int .i64 n] w fun e w' => e = .returned (.tuple #[.slice none 0 0, .int .i64 2]) ∧ w = w' := by
  rcases h with h | h | ⟨h1, h2, h3⟩
  · go_enter Try.func56, Try.ntmps56
    go_wp2
    go_ret2
    exact ⟨rfl, rfl⟩
  · go_enter Try.func56, Try.ntmps56
    go_wp2
    go_ret2
    exact ⟨rfl, rfl⟩
  · have hs : 0 < (x : Int) / 2 ^ (8 * n).toNat := by
      have : (8 * n).toNat = 8 * n.toNat := by omega
      rw [this]
      have h : (0 : Int) < ((x / 2 ^ (8 * n.toNat) : Nat) : Int) := by omega
      simpa using h
    go_enter Try.func56, Try.ntmps56
    go_wp2
    go_ret2
    exact ⟨rfl, rfl⟩

end Go.Proofs.Ytlifpmglaoppoaa

/- Contract of num.Get. -/
namespace Go.Proofs.Ytlifpmglaoppoaa
open Go.RowKit
open Go.Proofs.PlainSha

theorem shl_or {x c : Nat} (hx : x * 256 < 18446744073709551616) (hc : c < 256) : bits .or .u64 (IntKind.u64.wrap ((x : Int) * 256)) (c : Int) = (x : Int) * 256 + c := by
  rw [IntKind.wrap_u64, Int.emod_eq_of_lt (by omega) (by omega)]
  have := u64_or_nat (x * 256) c hx (by omega)
  rw [nat_join 8 (x * 256) c (by omega) (by omega)] at this
  simpa using this

set_option maxHeartbeats 1000000 in
theorem get_core (A : Option Addr) (c : Nat) (l : List Nat) (w : World) (h3 : 0 < (bv l).length → ∃ g o, A = some ⟨g, o, none⟩ ∧ ∀ i u, (bv l)[i]? = some u → w.cell? ⟨g, o + i, none⟩ = some u) (hl : ∀ b ∈ l, b < 256) (hn : l.length ≤ 8) :
    Calls Try.prog 91 #[.slice A l.length c] w fun e w' => e = .returned (.tuple #[.int .u64 (num l : Nat), .int .i64 0]) ∧ w = w' := by
  have hnI : (l.length : Int) ≤ 8 := by omega
  go_enter Try.func91, Try.ntmps91
  go_wp2
  go_loop [2, 11] (fun x i => ∃ (k : Nat) (y : Int), k ≤ l.length ∧ i = .int .i64 k ∧ x = .int .u64 y ∧ Hid (y = (num (l.take k) : Nat))) (fun _ i => l.length - (intOf i).toNat)
  case atStart => exact ⟨0, 0, Nat.zero_le _, rfl, rfl, rfl⟩
  case round =>
    obtain ⟨k, y, hk, rfl, rfl, hy⟩ := hrel
    by_cases hlt : k < l.length
    · obtain ⟨g, o, rfl, hc⟩ := h3 (by simp; omega)
      have hc' := hc k (.int .u8 ((l[k] : Nat) : Int)) (by rw [bv_get, List.getElem?_eq_getElem hlt]; rfl)
      have hb := hl l[k] (List.getElem_mem hlt)
      have hlt' := num_lt (l.take k) (fun b hb => hl b (List.mem_of_mem_take hb))
      rw [List.length_take, Nat.min_eq_left hk] at hlt'
      have hp : (256 : Nat) ^ k ≤ 256 ^ 7 := Nat.pow_le_pow_right (by omega) (by omega)
      have hsn := num_snoc (l.take k) l[k]
      rw [← take_snoc l k hlt] at hsn
      generalize hz : num (l.take k) = z at *
      have hor := shl_or (x := z) (c := l[k]) (by omega) hb
      obtain rfl : y = (z : Int) := hy
      have hz2 : (z : Int) ≤ 72057594037927936 := by omega
      have HS := Lib.hid hsn
      clear hsn hz hlt' hp h3
      generalize hcc : l[k] = cc at *
      have hb' : (cc : Int) < 256 := by omega
      have HC := Lib.hid hcc
      clear hcc hc hl
      go_wp2
      go_round
      case rel => exact ⟨k + 1, (z : Int) * 256 + cc, by omega, by go_num, rfl, by show _ = _; rw [HS.out]; simp⟩
      case measure => simp [intOf]; omega
    · obtain rfl : k = l.length := by omega
      clear h3
      go_wp2
      go_ret2
      refine ⟨?_, rfl⟩
      have := hy.out
      rw [List.take_length] at this
      rw [← this]
      rfl

theorem get_ok (v : Value) (l : List Nat) (w : World) (h : Sl w v (bv l)) (hl : ∀ b ∈ l, b < 256) (hn : l.length ≤ 8) :
    Calls Try.prog 91 #[v] w fun e w' => e = .returned (.tuple #[.int .u64 (num l : Nat), .int .i64 0]) ∧ w = w' := by
  obtain ⟨A, c, rfl, h1, h2, h3⟩ := h
  rw [bv_length]
  exact get_core A c l w h3 hl hn

set_option maxHeartbeats 1000000 in
theorem get_bad (v : Value) (l : List Nat) (w : World) (h : Sl w v (bv l)) (hn : 8 < l.length) :
    Calls Try.prog 91 #[v] w fun e w' => e = .returned (.tuple #[.int .u64 0, .int .i64 2]) ∧ w = w' := by
  obtain ⟨A, c, rfl, h1, h2, h3⟩ := h
  rw [bv_length]
  clear h3 h1 h2
  have hnI : (8 : Int) < l.length := by omega
  generalize l.length = n at *
  go_enter Try.func91, Try.ntmps91
  go_wp2
  go_ret2
  exact ⟨rfl, rfl⟩
end Go.Proofs.Ytlifpmglaoppoaa
