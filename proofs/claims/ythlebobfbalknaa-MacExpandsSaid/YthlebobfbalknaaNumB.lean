/- Contracts of num.Frac, Put, Turn and of banyanref01.Same; the statements' own example (alive). -/
import Derived.Test.YthlebobfbalknaaNumA
import Derived.Test.YthlebobfbalknaaNumR
set_option linter.unusedVariables false
set_option linter.unusedSimpArgs false
namespace Go.Proofs.Ythlebobfbalknaa
open Go.RowKit

set_option maxHeartbeats 1000000 in
theorem frac_bad (p k : Int) (w : World) (hp : 0 ≤ p) (hp' : p ≤ 4294967295) (h : k < 2 ∨ 3 < k ∨ p < 1 ∨ 65535 < p) :
    Calls Try.prog 43 #[.int .u32 p, .int .i64 k] w fun e w' => e = .returned (.tuple #[.int .u32 0, .int .i64 2]) ∧ w = w' := by
  by_cases c1 : k < 2
  · go_enter Try.func43, Try.ntmps43
    go_wp2
    go_ret2
    exact ⟨rfl, rfl⟩
  · by_cases c2 : 3 < k
    · go_enter Try.func43, Try.ntmps43
      go_wp2
      go_ret2
      exact ⟨rfl, rfl⟩
    · by_cases c3 : p < 1
      · go_enter Try.func43, Try.ntmps43
        go_wp2
        go_ret2
        exact ⟨rfl, rfl⟩
      · have c4 : 65535 < p := by omega
        go_enter Try.func43, Try.ntmps43
        go_wp2
        go_ret2
        exact ⟨rfl, rfl⟩

theorem or_bit {r' m : Nat} (hm : m ≤ 40) (h1 : r' % 2 ^ (m + 1) = 0) (h2 : r' + 2 ^ (m + 1) ≤ 2199023255552) :
    bits .or .u64 (r' : Int) (IntKind.u64.wrap (2 ^ m)) = ((r' + 2 ^ m : Nat) : Int) := by
  have hp : 2 ^ m ≤ 2 ^ 40 := Nat.pow_le_pow_right (by omega) hm
  have e : IntKind.u64.wrap (2 ^ m) = ((2 ^ m : Nat) : Int) := by
    rw [IntKind.wrap_u64, Int.natCast_pow]
    have : (2 : Int) ^ m = ((2 ^ m : Nat) : Int) := by simp
    simp only [Int.cast_ofNat_Int]
    rw [this]; omega
  rw [e, u64_or_nat _ _ (by omega) (by omega)]
  congr 1
  have h3 : r' = 2 ^ (m + 1) * (r' / 2 ^ (m + 1)) := by have := Nat.div_add_mod r' (2 ^ (m + 1)); omega
  rw [h3]
  rw [Nat.two_pow_add_eq_or_of_lt (i := m + 1) (by rw [Nat.pow_succ]; have := Nat.two_pow_pos m; omega)]

theorem pow_small {a k : Nat} (hk : k ≤ 3) (ha : a ≤ 2199023255552) : a ^ k % 6277101735386680763835789423207666416102355444464034512896 = a ^ k := by
  apply Nat.mod_eq_of_lt
  have h1 : a ^ k ≤ 2199023255552 ^ k := Nat.pow_le_pow_left ha k
  have h2 : 2199023255552 ^ k ≤ 2199023255552 ^ 3 := Nat.pow_le_pow_right (by omega) hk
  omega

/-- One bit more was tried: it stays. -/
theorem frac_yes {T k m r' : Nat} (hk : k ≤ 3) (e2 : r' % 2 ^ (m + 1) = 0) (e3 : r' + 2 ^ (m + 1) ≤ 2199023255552) (e5 : 2 ^ (m + 1) = 2 ^ m * 2)
    (h : (!decide (T < (r' + 2 ^ m) ^ k % 6277101735386680763835789423207666416102355444464034512896)) = true) :
    (r' + 2 ^ m) % 2 ^ m = 0 ∧ r' + 2 ^ m + 2 ^ m ≤ 2199023255552 ∧ PlainRoot.fr T k m (r' + 2 ^ m) = PlainRoot.fr T k (m + 1) r' := by
  rw [pow_small hk (by omega)] at h
  have h' : (r' + 2 ^ m) ^ k ≤ T := by simpa using h
  refine ⟨?_, by omega, by rw [PlainRoot.fr, if_pos h']⟩
  have : r' % 2 ^ m = 0 := Nat.mod_eq_zero_of_dvd (Nat.dvd_trans (Nat.pow_dvd_pow 2 (Nat.le_succ m)) (Nat.dvd_of_mod_eq_zero e2))
  simp [this]

theorem frac_no {T k m r' : Nat} (hk : k ≤ 3) (e2 : r' % 2 ^ (m + 1) = 0) (e3 : r' + 2 ^ (m + 1) ≤ 2199023255552) (e5 : 2 ^ (m + 1) = 2 ^ m * 2)
    (h : (!decide (T < (r' + 2 ^ m) ^ k % 6277101735386680763835789423207666416102355444464034512896)) = false) :
    r' % 2 ^ m = 0 ∧ r' + 2 ^ m ≤ 2199023255552 ∧ PlainRoot.fr T k m r' = PlainRoot.fr T k (m + 1) r' := by
  rw [pow_small hk (by omega)] at h
  have h' : ¬ (r' + 2 ^ m) ^ k ≤ T := by simpa using h
  refine ⟨?_, by omega, by rw [PlainRoot.fr, if_neg h']⟩
  exact Nat.mod_eq_zero_of_dvd (Nat.dvd_trans (Nat.pow_dvd_pow 2 (Nat.le_succ m)) (Nat.dvd_of_mod_eq_zero e2))

set_option maxHeartbeats 1000000 in
theorem frac_ok (p k : Nat) (w : World) (hk : 2 ≤ k) (hk' : k ≤ 3) (hp : 1 ≤ p) (hp' : p ≤ 65535) :
    Calls Try.prog 43 #[.int .u32 (p : Int), .int .i64 (k : Int)] w fun e w' => e = .returned (.tuple #[.int .u32 (PlainRoot.frac p k : Nat), .int .i64 0]) ∧ Below w.heap.size w w' := by
  have hpw := fun (x' : Nat) (x : Int) W (h0 : 0 ≤ x) (hx : x < 18446744073709551616) (hxx : Hid (x = (x' : Int))) => power_any x' k x W h0 hx hxx (by omega)
  have Hpw := Lib.hid hpw; clear hpw
  have Htm := Lib.hid (fun v (a0 a1 a2 : Int) (W : World) (h : IsW v a0 a1 a2) => times_any v p a0 a1 a2 (p : Int) W rfl (by omega) h)
  go_enter Try.func43, Try.ntmps43
  go_wp2_with (first
    | (go_at_call 53; refine (Hpw.out 4294967296 4294967296 _ (by omega) (by omega) rfl).mono ?_; rintro e w1 ⟨s0, s1, s2, hW1, rfl, hB1⟩)
    | (go_at_call 54; refine (Htm.out _ _ _ _ _ (by assumption)).mono ?_; rintro e w2 ⟨t0, t1, t2, hW2, rfl, hB2⟩))
  have hW0 : IsW (p * 2 ^ (32 * k)) t0 t1 t2 := by
    rcases (by omega : k = 2 ∨ k = 3) with rfl | rfl
    · have e : 4294967296 ^ 2 % 6277101735386680763835789423207666416102355444464034512896 * p % 6277101735386680763835789423207666416102355444464034512896 = p * 2 ^ (32 * 2) := by omega
      rw [e] at hW2; exact hW2
    · have e : 4294967296 ^ 3 % 6277101735386680763835789423207666416102355444464034512896 * p % 6277101735386680763835789423207666416102355444464034512896 = p * 2 ^ (32 * 3) := by omega
      rw [e] at hW2; exact hW2
  have hT : Hid (p * 2 ^ (32 * k) < 6277101735386680763835789423207666416102355444464034512896) := by
    rcases (by omega : k = 2 ∨ k = 3) with rfl | rfl
    · show _ < _; omega
    · show _ < _; omega
  go_loopw [7, 8] (fun r i wr => ∃ (n r' : Nat) (ri : Int), n ≤ 41 ∧ i = .int .i64 ((n : Int) - 1) ∧ r = .int .u64 ri ∧ 0 ≤ ri ∧ ri < 2199023255552 ∧ Hid (ri = (r' : Int) ∧ r' % 2 ^ n = 0 ∧ r' + 2 ^ n ≤ 2199023255552 ∧
       PlainRoot.fr (p * 2 ^ (32 * k)) k n r' = PlainRoot.fr (p * 2 ^ (32 * k)) k 41 0) ∧ 
     Below w.heap.size w wr ∧ w2.heap.size < wr.heap.size ∧ Blk wr w2.heap.size 106 [.int .u64 t0, .int .u64 t1, .int .u64 t2]) (fun _ i _ => (intOf i + 1).toNat)
  case atStart =>
    refine ⟨41, 0, 0, by omega, rfl, rfl, by omega, by omega, ⟨rfl, by simp, by simp, rfl⟩, ?_, by simp, Blk.new _ _ _⟩
    exact (below_call hB1 hB1.size hB2).alloc (Nat.le_trans hB1.size hB2.size) _
  case round =>
    obtain ⟨n, r', ri, hn, rfl, rfl, hr0, hr1, hH, hB, hsz, hb⟩ := hrel
    by_cases hlt : n = 0
    · subst hlt
      go_wp2
      go_ret2
      obtain ⟨e1, e2, e3, e4⟩ := hH.out
      refine ⟨?_, hB⟩
      show Ending.returned (.tuple #[.int .u32 (ri % 4294967296), .int .i64 0]) = _
      rw [e1, PlainRoot.frac, ← e4, PlainRoot.fr, Int.natCast_emod]
      rfl
    · obtain ⟨m, rfl⟩ : ∃ m, n = m + 1 := ⟨n - 1, by omega⟩
      have c0 := hb.cell 0
      have c1 := hb.cell 1
      have c2 := hb.cell 2
      simp at c0 c1 c2
      obtain ⟨e1, e2, e3, e4⟩ := hH.out
      have hor := or_bit (by omega) e2 e3
      rw [← e1] at hor
      have hp2 := Nat.two_pow_pos m
      have hps : 2 ^ (m + 1) = 2 ^ m * 2 := Nat.pow_succ ..
      obtain ⟨nx, hnx⟩ : ∃ nx : Int, nx = ((r' + 2 ^ m : Nat) : Int) := ⟨_, rfl⟩
      rw [← hnx] at hor
      have hnx0 : 0 ≤ nx := by omega
      have hnx1 : nx < 18446744073709551616 := by omega
      have Hnx : Hid (nx = ((r' + 2 ^ m : Nat) : Int)) := hnx
      have E : Hid (ri = ↑r' ∧ r' % 2 ^ (m + 1) = 0 ∧ r' + 2 ^ (m + 1) ≤ 2199023255552 ∧ 2 ^ (m + 1) = 2 ^ m * 2) := ⟨e1, e2, e3, hps⟩
      clear hnx e1 e2 e3 e4 hps
      go_wp2_with fail
      go_region_with (first
        | (go_at_call 53; refine (Hpw.out (r' + 2 ^ m) nx _ hnx0 hnx1 Hnx).mono ?_; rintro e w1' ⟨q0, q1, q2, hWq, rfl, hBq⟩; have hbq := hb.drew.keep hBq; have c0 := hbq.cell 0; have c1 := hbq.cell 1; have c2 := hbq.cell 2; simp at c0 c1 c2)
        | (go_at_call 55; refine (over_any _ _ _ _ _ _ _ _ _ (by assumption) hW0).mono ?_; rintro e w2' ⟨rfl, hBo⟩))
      all_goals go_wp2
      all_goals go_roundw
      all_goals first
        | (simp [intOf]; done)
        | (simp [intOf]; omega)
        | (have hy : (!decide (p * 2 ^ (32 * k) < (r' + 2 ^ m) ^ k % 6277101735386680763835789423207666416102355444464034512896)) = true := by assumption
           obtain ⟨e1, e2, e3, e5⟩ := E.out
           obtain ⟨y1, y2, y3⟩ := frac_yes hk' e2 e3 e5 hy
           refine ⟨m, r' + 2 ^ m, nx, by omega, rfl, rfl, hnx0, ?_, ⟨Hnx, y1, y2, y3.trans hH.out.2.2.2⟩, below_call (below_call hB.drew (Nat.le_trans (Nat.le_trans hB1.size hB2.size) (Nat.le_of_lt hsz)) hBq) ?_ hBo, ?_, hbq.keep hBo⟩
           · have := Hnx.out; omega
           · have := hBq.size; have := hB.size; simp at *; omega
           · have := hbq.lt; have := hBo.size; omega)
        | (have hy : (!decide (p * 2 ^ (32 * k) < (r' + 2 ^ m) ^ k % 6277101735386680763835789423207666416102355444464034512896)) = false := by assumption
           obtain ⟨e1, e2, e3, e5⟩ := E.out
           obtain ⟨y1, y2, y3⟩ := frac_no hk' e2 e3 e5 hy
           refine ⟨m, r', ri, by omega, rfl, rfl, hr0, hr1, ⟨e1, y1, y2, y3.trans hH.out.2.2.2⟩, below_call (below_call hB.drew (Nat.le_trans (Nat.le_trans hB1.size hB2.size) (Nat.le_of_lt hsz)) hBq) ?_ hBo, ?_, hbq.keep hBo⟩
           · have := hBq.size; have := hB.size; simp at *; omega
           · have := hbq.lt; have := hBo.size; omega)

end Go.Proofs.Ythlebobfbalknaa
