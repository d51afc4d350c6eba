/- The law NumBack: plain laws on bytes and numbers; the walk. -/
import Derived.Test.YtdobeokljplkiaaNumE
set_option linter.unusedVariables false
set_option linter.unusedSimpArgs false
namespace Go.Proofs.Ytdobeokljplkiaa
open Go.RowKit

theorem snoc_ind {P : List Nat → Prop} (h0 : P []) (h1 : ∀ l c, P l → P (l ++ [c])) (l : List Nat) : P l := by
  have : ∀ r : List Nat, P r.reverse := by
    intro r
    induction r with
    | nil => simpa using h0
    | cons c r ih => simpa using h1 _ c ih
  simpa using this l.reverse

theorem div_256 (x k : Nat) : x / 2 ^ (8 * (k + 1)) = x / 256 / 2 ^ (8 * k) := by
  rw [Nat.div_div_eq_div_mul, show 8 * (k + 1) = 8 + 8 * k from by omega, Nat.pow_add]
theorem putB_succ (x n : Nat) : putB x (n + 1) = putB (x / 256) n ++ [x % 256] := by
  unfold putB
  rw [List.range_succ, List.map_append]
  congr 1
  · apply List.map_congr_left
    intro i hi
    have hi' : i < n := List.mem_range.1 hi
    rw [show n + 1 - 1 - i = (n - 1 - i) + 1 from by omega, div_256]
  · simp
theorem num_putB : ∀ (n x : Nat), num (putB x n) = x % 256 ^ n
  | 0, x => by simp [putB, num]; omega
  | n + 1, x => by
    rw [putB_succ, num_snoc, num_putB n, Nat.pow_succ, Nat.mul_comm (256 ^ n) 256, Nat.mod_mul]
    omega
theorem putB_num (l : List Nat) : (∀ b ∈ l, b < 256) → putB (num l) l.length = l := by
  induction l using snoc_ind with
  | h0 => intro _; simp [putB]
  | h1 l c ih =>
    intro h
    have hc := h c (by simp)
    rw [List.length_append, List.length_singleton, putB_succ, num_snoc]
    rw [show (num l * 256 + c) / 256 = num l from by omega, show (num l * 256 + c) % 256 = c from by omega, ih (fun b hb => h b (by simp [hb]))]
theorem num_div {l : List Nat} (h : ∀ b ∈ l, b < 256) : num l / 2 ^ (8 * l.length) = 0 := by
  apply Nat.div_eq_of_lt
  have := num_lt l h
  rw [show (256 : Nat) = 2 ^ 8 from rfl, ← Nat.pow_mul] at this
  exact this
theorem num_lt64 {l : List Nat} (h : ∀ b ∈ l, b < 256) (hn : l.length ≤ 8) : num l < 18446744073709551616 := by
  have := num_lt l h
  have hp : (256 : Nat) ^ l.length ≤ 256 ^ 8 := Nat.pow_le_pow_right (by omega) hn
  omega

namespace w_NumBack
set_option maxHeartbeats 2000000 in
theorem walk (w : World) (a0 : Int) (b0 : 0 ≤ a0) (c0 : a0 ≤ 18446744073709551615) (v1 : Value) (l1 : List Nat) (s1 : Sl w v1 (bv l1)) (b1 : ∀ b ∈ l1, b < 256) (m1 : l1.length ≤ 140737488351232) :
    Calls Try.prog 6 #[.int .u64 a0, v1] w fun e w' => e = .returned (.bool true) ∧ Below w.heap.size w w' := by
  obtain ⟨x, rfl⟩ := Int.eq_ofNat_of_zero_le b0
  have ha := Lib.hid (fun W => alive_any W)
  have hp := Lib.hid (fun W => put_ok x 8 W (by omega) (by omega) (Nat.div_eq_of_lt (by omega)))
  have hnp : num (putB x 8) = x := by rw [num_putB]; omega
  have hg1 := fun v W h => get_ok v (putB x 8) W h (putB_lt x 8) (by simp)
  rw [hnp] at hg1
  have hg1 := Lib.hid hg1
  have hlp : (bv (putB x 8)).length = 8 := by simp
  have hlp := Lib.hid hlp
  clear hnp
  obtain ⟨A, c, rfl, hs⟩ := id s1
  rw [bv_length] at s1 ⊢
  by_cases h8 : 8 < l1.length
  · have hg := Lib.hid (fun W h => get_bad (.slice A l1.length c) l1 W h h8)
    have h8I : (8 : Int) < l1.length := by omega
    clear hs
    go_enter Try.func6, Try.ntmps6
    go_wp2_with fail
    refine (ha.out _).mono ?_
    rintro e w1 ⟨rfl, hB1⟩
    go_wp2_with fail
    refine (hp.out _).mono ?_
    rintro e w2 ⟨v, rfl, hv, hB2⟩
    obtain ⟨A', c', rfl, _⟩ := id hv
    rw [hlp.out] at hv ⊢
    go_wp2_with fail
    refine (hg1.out _ _ hv).mono ?_
    rintro e w3 ⟨rfl, rfl⟩
    go_wp2_with fail
    refine (hg.out _ ((s1.keep hB1).keep hB2)).mono ?_
    rintro e w3 ⟨rfl, rfl⟩
    go_wp2
    go_ret
    exact ⟨rfl, below_call hB1 hB1.size hB2⟩
  · have hg := Lib.hid (fun W h => get_ok (.slice A l1.length c) l1 W h b1 (by omega))
    have h8I : (l1.length : Int) ≤ 8 := by omega
    have hpn := fun W => put_ok (num l1) l1.length W (num_lt64 b1 (by omega)) (by omega) (num_div b1)
    rw [putB_num l1 b1] at hpn
    have hpn := Lib.hid hpn
    have hsame := Lib.hid (fun va vb W h1 h2 => same_any va vb l1 l1 W h1 h2 b1 b1)
    clear hs
    go_enter Try.func6, Try.ntmps6
    go_wp2_with fail
    refine (ha.out _).mono ?_
    rintro e w1 ⟨rfl, hB1⟩
    go_wp2_with fail
    refine (hp.out _).mono ?_
    rintro e w2 ⟨v, rfl, hv, hB2⟩
    obtain ⟨A', c', rfl, _⟩ := id hv
    rw [hlp.out] at hv ⊢
    go_wp2_with fail
    refine (hg1.out _ _ hv).mono ?_
    rintro e w3 ⟨rfl, rfl⟩
    go_wp2_with fail
    refine (hg.out _ ((s1.keep hB1).keep hB2)).mono ?_
    rintro e w3 ⟨rfl, rfl⟩
    go_wp2_with fail
    refine (hpn.out _).mono ?_
    rintro e w4 ⟨v4, rfl, hv4, hB4⟩
    go_wp2_with fail
    refine (hsame.out _ _ _ hv4 (((s1.keep hB1).keep hB2).keep hB4)).mono ?_
    rintro e w5 ⟨rfl, rfl⟩
    go_wp2
    go_ret
    refine ⟨?_, below_call (below_call hB1 hB1.size hB2) (by have := hB1.size; have := hB2.size; omega) hB4⟩
    simp
end w_NumBack
end Go.Proofs.Ytdobeokljplkiaa
