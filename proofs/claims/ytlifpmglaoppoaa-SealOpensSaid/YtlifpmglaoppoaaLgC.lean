/- Contracts of the reference's power and Frac; the law NumRoots's walk. -/
import Derived.Test.YtlifpmglaoppoaaLgB
set_option linter.unusedVariables false
set_option linter.unusedSimpArgs false
namespace Go.Proofs.Ytlifpmglaoppoaa
open Go.RowKit
open Go.Proofs.PlainLong (V Norm Inv Car)

set_option maxRecDepth 100000 in
set_option maxHeartbeats 1000000 in
theorem rpower_any (va : Value) (a : List Nat) (k : Nat) (w : World) (ha : Sl w va (iv a)) (na : Norm a) (la : a.length ≤ 5) (hk : k ≤ 3) :
    Calls Try.prog 96 #[va, .int .i64 (k : Int)] w (RetD (V a ^ k) 19 w) := by
  have ht := Lib.hid (fun vb b W h1 h2 nb lb => rtimes_any vb va b a W h1 h2 nb na lb (show a.length ≤ 50 by omega))
  have hkI : (k : Int) ≤ 3 := by omega
  have hNa := Lib.hid na
  go_enter Try.func96, Try.ntmps96
  go_wp2
  go_loopw [5, 6] (fun u i wr => ∃ (n : Nat) (L : List Nat), n ≤ k ∧ i = .int .i64 (n : Int) ∧ Sl wr u (iv L) ∧ Hid (Norm L ∧ V L = V a ^ n ∧ L.length ≤ 1 + 6 * n) ∧ Below w.heap.size w wr) (fun _ i _ => k - (intOf i).toNat)
  case atStart =>
    refine ⟨0, [1], Nat.zero_le _, rfl, ?_, ⟨⟨by simp, by simp⟩, by simp [V], by simp⟩, (Below.refl _ _).alloc (Nat.le_refl _) _⟩
    have := Sl.of_blk (n := 1) (c := 1) (Blk.new w 3 #[.int .i64 1]) (Nat.le_refl _) (by simp) (by unfold maxLen; omega)
    simpa [iv] using this
  case round =>
    obtain ⟨n, L, hn, rfl, hs, hH, hB⟩ := hrel
    by_cases hlt : n < k
    · have ha' := ha.keep hB
      go_wp2_with (go_at_call 94; refine (ht.out _ L _ hs ha' hH.out.1 (by have := hH.out.2.2; omega)).mono ?_; rintro e w1 ⟨u1, L1, rfl, hs1, hN1, hV1, hl1, hB1⟩)
      go_roundw
      case rel =>
        obtain ⟨h1, h2, h3⟩ := hH.out
        exact ⟨n + 1, L1, by omega, by go_num, hs1, ⟨hN1, by rw [hV1, h2, Nat.pow_succ], by omega⟩, below_call hB hB.size hB1⟩
      case measure => simp [intOf]; omega
    · obtain rfl : n = k := by omega
      go_wp2
      go_ret
      obtain ⟨h1, h2, h3⟩ := hH.out
      exact ⟨_, L, rfl, hs, h1, h2, by omega, hB⟩

theorem rfrac_bad (p k : Int) (w : World) (hp : 0 ≤ p) (hp' : p ≤ 4294967295) (h : k < 2 ∨ 3 < k ∨ p < 1 ∨ 65535 < p) :
    Calls Try.prog 86 #[.int .u32 p, .int .i64 k] w fun e w' => e = .returned (.tuple #[.int .u32 0, .int .i64 2]) ∧ w = w' := by
  by_cases c1 : k = 2 ∨ k = 3
  · have c4 : p < 1 ∨ 65535 < p := by omega
    rcases c1 with rfl | rfl
    all_goals
      rcases c4 with c | c
      all_goals
        go_enter Try.func86, Try.ntmps86
        go_wp2
        go_ret2
        exact ⟨rfl, rfl⟩
  · have n2 : (k != 2) = true := by simp; omega
    have n3 : (k != 3) = true := by simp; omega
    go_enter Try.func86, Try.ntmps86
    go_wp2
    go_ret2
    exact ⟨rfl, rfl⟩

theorem rfrac_yes {T k m r bt : Nat} (hb : bt = 2 ^ m) (h : (!decide (T < (r + bt) ^ k)) = true) : PlainRoot.fr T k m (r + bt) = PlainRoot.fr T k (m + 1) r := by
  subst hb
  have h' : (r + 2 ^ m) ^ k ≤ T := by simpa using h
  rw [PlainRoot.fr, if_pos h']
theorem rfrac_no {T k m r bt : Nat} (hb : bt = 2 ^ m) (h : (!decide (T < (r + bt) ^ k)) = false) : PlainRoot.fr T k m r = PlainRoot.fr T k (m + 1) r := by
  subst hb
  have h' : ¬ (r + 2 ^ m) ^ k ≤ T := by simpa using h
  rw [PlainRoot.fr, if_neg h']

set_option maxHeartbeats 2000000 in
theorem rfrac_ok (p k : Nat) (w : World) (hk : 2 ≤ k) (hk' : k ≤ 3) (hp : 1 ≤ p) (hp' : p ≤ 65535) :
    Calls Try.prog 86 #[.int .u32 (p : Int), .int .i64 (k : Int)] w fun e w' => e = .returned (.tuple #[.int .u32 (PlainRoot.frac p k : Nat), .int .i64 0]) ∧ Below w.heap.size w w' := by
  have hof := Lib.hid (fun (x : Nat) W h => of_any' x W h)
  have hpw := Lib.hid (fun va a W h1 h2 h3 => rpower_any va a k W h1 h2 h3 hk')
  have htm := Lib.hid (fun va vb a b W h1 h2 h3 h4 h5 h6 => rtimes_any va vb a b W h1 h2 h3 h4 h5 h6)
  have hmo := Lib.hid (fun va vb a b W h1 h2 h3 h4 h5 h6 => more_any va vb a b W h1 h2 h3 h4 h5 h6)
  have hT : Hid (p * 2 ^ (32 * k) = p * (4294967296 ^ k)) := by
    show _ = _
    rw [show (4294967296 : Nat) = 2 ^ 32 from rfl, ← Nat.pow_mul]
  have hcase : (((k : Int) != 2) = false) ∨ (((k : Int) != 2) = true ∧ ((k : Int) != 3) = false) := by
    rcases (by omega : k = 2 ∨ k = 3) with rfl | rfl
    · exact .inl rfl
    · exact .inr ⟨rfl, rfl⟩
  have hpI : (p : Int) ≤ 65535 := by omega
  have hpI1 : (1 : Int) ≤ p := by omega
  rcases hcase with n2 | ⟨n2, n3⟩
  all_goals
    go_enter Try.func86, Try.ntmps86
    go_wp2_with fail
    refine (hof.out p _ (by omega)).mono ?_
    rintro e w1 ⟨u1, L1, rfl, s1, N1, V1, l1, B1⟩
    go_wp2_with fail
    refine (hof.out 4294967296 _ (by omega)).mono ?_
    rintro e w2 ⟨u2, L2, rfl, s2, N2, V2, l2, B2⟩
    go_wp2_with fail
    refine (hpw.out _ L2 _ s2 N2 l2).mono ?_
    rintro e w3 ⟨u3, L3, rfl, s3, N3, V3, l3, B3⟩
    go_wp2_with fail
    refine (htm.out _ _ L1 L3 _ ((s1.keep B2).keep B3) s3 N1 N3 (by omega) (by omega)).mono ?_
    rintro e w4 ⟨u4, L4, rfl, s4, N4, V4, l4, B4⟩
    have B : Below w.heap.size w w4 := below_call (below_call (below_call B1 B1.size B2) (by have := B1.size; have := B2.size; omega) B3) (by have := B1.size; have := B2.size; have := B3.size; omega) B4
    have HV : Hid (V L4 = p * 2 ^ (32 * k)) := by
      show _ = _
      rw [V4, V3, V1, V2, hT.out]
    have ll4 : L4.length ≤ 25 := by omega
    clear s1 s2 s3 V1 V2 V3 V4 N1 N2 N3 B1 B2 B3 B4 l1 l2 l3 l4
    go_wp2
    go_loopw [7, 8] (fun r b wr => ∃ (n r' bt : Nat), n ≤ 41 ∧ b = .int .u64 (bt : Int) ∧ r = .int .u64 (r' : Int) ∧ r' + bt * 2 ≤ 2199023255552 ∧ Hid (bt = 2 ^ n / 2 ∧ r' + 2 ^ n ≤ 2199023255552 ∧
       PlainRoot.fr (p * 2 ^ (32 * k)) k n r' = PlainRoot.fr (p * 2 ^ (32 * k)) k 41 0) ∧ 
      Below w.heap.size w wr ∧ Sl wr u4 (iv L4)) (fun _ b _ => (intOf b).toNat)
    case atStart => exact ⟨41, 0, 1099511627776, Nat.le_refl _, rfl, rfl, by omega, ⟨rfl, by omega, rfl⟩, B, s4⟩
    case round =>
      clear B s4
      obtain ⟨n, r', bt, hn, rfl, rfl, hrb, hH, B, s4⟩ := hrel
      by_cases h0 : n = 0
      · subst h0
        obtain ⟨e1, e2, e3⟩ := hH.out
        obtain rfl : bt = 0 := e1
        have E3 := Lib.hid e3
        clear e2 e3
        go_wp2
        go_ret2
        refine ⟨?_, B⟩
        show Ending.returned (.tuple #[.int .u32 ((r' : Int) % 4294967296), .int .i64 0]) = _
        rw [PlainRoot.frac, ← E3.out, PlainRoot.fr]
        simp
      · obtain ⟨m, rfl⟩ : ∃ m, n = m + 1 := ⟨n - 1, by omega⟩
        obtain ⟨e1, e2, e3⟩ := hH.out
        have hb : bt = 2 ^ m := by rw [e1, Nat.pow_succ]; omega
        have hbp : 0 < bt := by rw [hb]; exact Nat.two_pow_pos m
        have E : Hid (bt = 2 ^ m ∧ 2 ^ (m + 1) = 2 ^ m * 2 ∧ PlainRoot.fr (p * 2 ^ (32 * k)) k (m + 1) r' = PlainRoot.fr (p * 2 ^ (32 * k)) k 41 0) := ⟨hb, Nat.pow_succ .., e3⟩
        have hrI : (r' : Int) + bt ≤ 2199023255552 := by omega
        have hbI : (0 : Int) < bt := by omega
        clear e1 e2 e3 hb
        go_wp2_with fail
        refine (hof.out (r' + bt) _ (by omega)).mono ?_
        rintro e w5 ⟨u5, L5, rfl, s5, N5, V5, l5, B5⟩
        go_wp2_with fail
        refine (hpw.out _ L5 _ s5 N5 l5).mono ?_
        rintro e w6 ⟨u6, L6, rfl, s6, N6, V6, l6, B6⟩
        have s46 := (s4.keep B5).keep B6
        go_wp2_with fail
        refine (hmo.out _ _ L6 L4 _ s6 s46 N6 N4 (by omega) (by omega)).mono ?_
        rintro e w7 ⟨rfl, B7⟩
        rw [HV.out, V6, V5]
        have s47 := s46.keep B7
        have Bw : Below w.heap.size w w7 := below_call (below_call (below_call B B.size B5) (by have := B.size; have := B5.size; omega) B6) (by have := B.size; have := B5.size; have := B6.size; omega) B7
        clear s5 s6 s46 N5 N6 V5 V6 l5 l6 B5 B6 B7 B s4
        go_wp2
        all_goals go_roundw
        all_goals first
          | (simp [intOf]; done)
          | (simp [intOf]; omega)
          | (have hy : (!decide (p * 2 ^ (32 * k) < (r' + bt) ^ k)) = true := by assumption
             obtain ⟨e1, e2, e3⟩ := E.out
             have e4 := rfrac_yes e1 hy
             refine ⟨m, r' + bt, bt / 2, by omega, by simp, by simp, by omega, ⟨by rw [e1], by omega, e4.trans (by rw [e3])⟩, Bw, s47⟩)
          | (have hy : (!decide (p * 2 ^ (32 * k) < (r' + bt) ^ k)) = false := by assumption
             obtain ⟨e1, e2, e3⟩ := E.out
             have e4 := rfrac_no e1 hy
             refine ⟨m, r', bt / 2, by omega, by simp, rfl, by omega, ⟨by rw [e1], by omega, e4.trans (by rw [e3])⟩, Bw, s47⟩)
end Go.Proofs.Ytlifpmglaoppoaa
