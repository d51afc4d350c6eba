/- The law NumSquares: plain laws on roots; the walk. -/
import Derived.Test.YtdobeokljplkiaaNumD
import Derived.Test.YtdobeokljplkiaaSq
set_option linter.unusedVariables false
set_option linter.unusedSimpArgs false
namespace Go.Proofs.Ytdobeokljplkiaa
open Go.RowKit
theorem frac_at (X p k : Nat) (q r : Int) (w : World) (hX : Hid (X = PlainRoot.frac p k)) (hq : q = (p : Int)) (hr : r = (k : Int)) (hk : 2 ≤ k) (hk' : k ≤ 3) (hp : 1 ≤ p) (hp' : p ≤ 65535) :
    Calls Try.prog 11 #[.int .u32 q, .int .i64 r] w fun e w' => e = .returned (.tuple #[.int .u32 (X : Int), .int .i64 0]) ∧ Below w.heap.size w w' := by
  subst hq hr; rw [hX]; exact frac_ok p k w hk hk' hp hp'
namespace w_NumSquares
set_option maxRecDepth 100000 in
set_option maxHeartbeats 1000000 in
theorem walk_core (n m : Nat) (w : World) (hn1 : 1 ≤ n) (hn : n ≤ 254) (hm : m ≤ 255) :
    Calls Try.prog 5 #[.int .u8 (n : Int), .int .u8 (m : Int)] w fun e w' => e = .returned (.bool true) ∧ Below w.heap.size w w' := by
  have ha := Lib.hid (fun W => alive_any W)
  have ht := Lib.hid (fun (X p k : Nat) (q r : Int) W hX hq hr hk hk' hp hp' => frac_at X p k q r W hX hq hr hk hk' hp hp')
  have hnn : n * n ≤ 64516 := Nat.mul_le_mul hn hn
  have hnn' : (n : Int) * n ≤ 64516 := by have : ((n * n : Nat) : Int) ≤ 64516 := by omega
                                          simpa using this
  have hnn0 : 0 ≤ (n : Int) * n := by have : (0 : Int) ≤ ((n * n : Nat) : Int) := by omega
                                      simpa using this
  have hq0 : n % 40 < 40 := Nat.mod_lt _ (by decide)
  have hqq : ((n % 40 + 1) * (n % 40 + 1) : Nat) ≤ 1600 := Nat.mul_le_mul (show n % 40 + 1 ≤ 40 by omega) (show n % 40 + 1 ≤ 40 by omega)
  have hqqq : ((n % 40 + 1) * (n % 40 + 1) * (n % 40 + 1) : Nat) ≤ 64000 := Nat.mul_le_mul hqq (show n % 40 + 1 ≤ 40 by omega)
  have iqq : ((n : Int) % 40 + 1) * ((n : Int) % 40 + 1) ≤ 1600 := by
    have : (((n % 40 + 1) * (n % 40 + 1) : Nat) : Int) ≤ 1600 := by omega
    simpa using this
  have iqqq : ((n : Int) % 40 + 1) * ((n : Int) % 40 + 1) * ((n : Int) % 40 + 1) ≤ 64000 := by
    have : (((n % 40 + 1) * (n % 40 + 1) * (n % 40 + 1) : Nat) : Int) ≤ 64000 := by omega
    simpa using this
  have iqq0 : 0 ≤ ((n : Int) % 40 + 1) * ((n : Int) % 40 + 1) := by
    have : 0 ≤ (((n % 40 + 1) * (n % 40 + 1) : Nat) : Int) := by omega
    simpa using this
  have iqqq0 : 0 ≤ ((n : Int) % 40 + 1) * ((n : Int) % 40 + 1) * ((n : Int) % 40 + 1) := by
    have : 0 ≤ (((n % 40 + 1) * (n % 40 + 1) * (n % 40 + 1) : Nat) : Int) := by omega
    simpa using this
  have e1 : (n + 1) * (n + 1) = n * n + n + n + 1 := by rw [Nat.add_mul, Nat.mul_add]; omega
  have F1 : Hid (0 = PlainRoot.frac ((n + 1) * (n + 1)) 2) := Eq.symm (PlainRoot.frac_square (n := n + 1) (by omega))
  clear e1
  have F2 : Hid (0 = PlainRoot.frac ((n % 40 + 1) * (n % 40 + 1) * (n % 40 + 1)) 3) := Eq.symm (PlainRoot.frac_cube (n := n % 40 + 1) (by omega))
  have hmn : m % n < n := Nat.mod_lt _ (by omega)
  have hnI : (1 : Int) ≤ n := by omega
  have e2 : (n + 1) * (n + 1) = n * n + n + n + 1 := by rw [Nat.add_mul, Nat.mul_add]; omega
  have F3' := PlainRoot.frac_pos (n := n) (p := n * n + n + 1) (by omega) (by omega) (by omega) hn1
  have F4' := PlainRoot.frac_le (n := n) (p := n * n + n + 1) (q := n * n + n + 1 + m % n) (by omega) (by omega) (by omega) (by omega) hn1
  obtain ⟨X, hX⟩ : ∃ X, X = PlainRoot.frac (n * n + n + 1) 2 := ⟨_, rfl⟩
  obtain ⟨Y, hY⟩ : ∃ Y, Y = PlainRoot.frac (n * n + n + 1 + m % n) 2 := ⟨_, rfl⟩
  rw [← hX] at F3'
  rw [← hX, ← hY] at F4'
  have HX := Lib.hid hX; have HY := Lib.hid hY
  clear hX hY
  have F3 : (0 : Int) < (X : Int) := by omega
  have F4 : (X : Int) ≤ (Y : Int) := by omega
  clear F3' F4'
  clear e2
  go_enter Try.func5, Try.ntmps5
  go_wp2_with fail
  refine (ha.out _).mono ?_
  rintro e w1 ⟨rfl, hB1⟩
  go_wp2_with fail
  refine (ht.out 0 ((n + 1) * (n + 1)) 2 _ _ _ F1 ?_ rfl (by omega) (by omega) ?_ ?_).mono ?_
  · have e : (n + 1) * (n + 1) = n * n + n + n + 1 := by rw [Nat.add_mul, Nat.mul_add]; omega
    have : ((n : Int) + 1) * ((n : Int) + 1) = (((n + 1) * (n + 1) : Nat) : Int) := by simp
    rw [this]; omega
  · have e : (n + 1) * (n + 1) = n * n + n + n + 1 := by rw [Nat.add_mul, Nat.mul_add]; omega
    omega
  · have e : (n + 1) * (n + 1) = n * n + n + n + 1 := by rw [Nat.add_mul, Nat.mul_add]; omega
    omega
  rintro e w2 ⟨rfl, hB2⟩
  go_wp2_with fail
  refine (ht.out 0 ((n % 40 + 1) * (n % 40 + 1) * (n % 40 + 1)) 3 _ _ _ F2 ?_ rfl (by omega) (by omega) ?_ ?_).mono ?_
  · simp
  · exact Nat.mul_pos (Nat.mul_pos (by omega) (by omega)) (by omega)
  · omega
  rintro e w3 ⟨rfl, hB3⟩
  go_wp2_with fail
  refine (ht.out X (n * n + n + 1) 2 _ _ _ HX (by simp) rfl (by omega) (by omega) (by omega) (by omega)).mono ?_
  rintro e w4 ⟨rfl, hB4⟩
  go_wp2_with fail
  refine (ht.out Y (n * n + n + 1 + m % n) 2 _ _ _ HY ?_ rfl (by omega) (by omega) (by omega) ?_).mono ?_
  · have h1 : ((m % n : Nat) : Int) = (m : Int) % n := by simp
    have h2 : ((n * n : Nat) : Int) = (n : Int) * n := by simp
    omega
  · omega
  rintro e w5 ⟨rfl, hB5⟩
  have hn255 : ((n : Int) == 255) = false := by simp; omega
  clear iqq iqqq iqq0 iqqq0 hnn hnn' hnn0 hqq hqqq hq0 F1 F2 HX HY hmn
  go_wp2
  go_ret
  exact ⟨rfl, below_call (below_call (below_call (below_call hB1 hB1.size hB2) (by have := hB1.size; have := hB2.size; omega) hB3) (by have := hB1.size; have := hB2.size; have := hB3.size; omega) hB4) (by have := hB1.size; have := hB2.size; have := hB3.size; have := hB4.size; omega) hB5⟩

set_option maxRecDepth 1000000 in
set_option maxHeartbeats 2000000 in
theorem walk_0 (m : Nat) (w : World) (hm : m ≤ 255) :
    Calls Try.prog 5 #[.int .u8 0, .int .u8 (m : Int)] w fun e w' => e = .returned (.bool true) ∧ Below w.heap.size w w' := by
  have ha := Lib.hid (fun W => alive_any W)
  have F1 : Hid (0 = PlainRoot.frac 1 2) := Eq.symm (by decide +kernel)
  have F2 : Hid (0 = PlainRoot.frac 1 3) := Eq.symm (by decide +kernel)
  have ht := Lib.hid (fun W => frac_at 0 1 2 1 2 W F1 rfl rfl (by omega) (by omega) (by omega) (by omega))
  have hu := Lib.hid (fun W => frac_at 0 1 3 1 3 W F2 rfl rfl (by omega) (by omega) (by omega) (by omega))
  go_enter Try.func5, Try.ntmps5
  go_wp2_with fail
  refine (ha.out _).mono ?_
  rintro e w1 ⟨rfl, hB1⟩
  go_wp2_with fail
  refine (ht.out _).mono ?_
  rintro e w2 ⟨rfl, hB2⟩
  go_wp2_with fail
  refine (hu.out _).mono ?_
  rintro e w3 ⟨rfl, hB3⟩
  go_wp2_with fail
  refine (ht.out _).mono ?_
  rintro e w4 ⟨rfl, hB4⟩
  go_wp2_with fail
  refine (ht.out _).mono ?_
  rintro e w5 ⟨rfl, hB5⟩
  go_wp2
  go_ret
  exact ⟨rfl, below_call (below_call (below_call (below_call hB1 hB1.size hB2) (by have := hB1.size; have := hB2.size; omega) hB3) (by have := hB1.size; have := hB2.size; have := hB3.size; omega) hB4) (by have := hB1.size; have := hB2.size; have := hB3.size; have := hB4.size; omega) hB5⟩

set_option maxRecDepth 1000000 in
set_option maxHeartbeats 2000000 in
theorem walk_255 (m : Nat) (w : World) (hm : m ≤ 255) :
    Calls Try.prog 5 #[.int .u8 255, .int .u8 (m : Int)] w fun e w' => e = .returned (.bool true) ∧ Below w.heap.size w w' := by
  have ha := Lib.hid (fun W => alive_any W)
  have F2 : Hid (0 = PlainRoot.frac 4096 3) := Eq.symm (by decide +kernel)
  have hb := Lib.hid (fun W => frac_bad 0 2 W (by omega) (by omega) (by omega))
  have hu := Lib.hid (fun W => frac_at 0 4096 3 4096 3 W F2 rfl rfl (by omega) (by omega) (by omega) (by omega))
  have hp := Lib.hid (fun W => frac_at _ 65281 2 65281 2 W rfl rfl rfl (by omega) (by omega) (by omega) (by omega))
  have hq := Lib.hid (fun W => frac_at _ (65281 + m % 255) 2 (65281 + (m : Int) % 255) 2 W rfl (by simp) rfl (by omega) (by omega) (by omega) (by omega))
  go_enter Try.func5, Try.ntmps5
  go_wp2_with fail
  refine (ha.out _).mono ?_
  rintro e w1 ⟨rfl, hB1⟩
  go_wp2_with fail
  refine (hb.out _).mono ?_
  rintro e w2 ⟨rfl, rfl⟩
  go_wp2_with fail
  refine (hu.out _).mono ?_
  rintro e w3 ⟨rfl, hB3⟩
  go_wp2_with fail
  refine (hp.out _).mono ?_
  generalize PlainRoot.frac 65281 2 = X
  rintro e w4 ⟨rfl, hB4⟩
  go_wp2_with fail
  refine (hq.out _).mono ?_
  generalize PlainRoot.frac (65281 + m % 255) 2 = Y
  rintro e w5 ⟨rfl, hB5⟩
  go_wp2
  go_ret
  exact ⟨rfl, below_call (below_call (below_call hB1 hB1.size hB3) (by have := hB1.size; have := hB3.size; omega) hB4) (by have := hB1.size; have := hB3.size; have := hB4.size; omega) hB5⟩

theorem walk (a0 : Int) (b0 : 0 ≤ a0) (c0 : a0 ≤ 255) (a1 : Int) (b1 : 0 ≤ a1) (c1 : a1 ≤ 255) (w : World) :
    Calls Try.prog 5 #[.int .u8 a0, .int .u8 a1] w fun e w' => e = .returned (.bool true) ∧ Below w.heap.size w w' := by
  obtain ⟨n, rfl⟩ := Int.eq_ofNat_of_zero_le b0
  obtain ⟨m, rfl⟩ := Int.eq_ofNat_of_zero_le b1
  by_cases h0 : n = 0
  · subst h0; exact walk_0 m w (by omega)
  · by_cases h1 : n = 255
    · subst h1; exact walk_255 m w (by omega)
    · exact walk_core n m w (by omega) (by omega) (by omega)
end w_NumSquares
end Go.Proofs.Ytdobeokljplkiaa
