/- The law NumParts: plain laws; the walk. -/
import Derived.Test.YtdobeokljplkiaaBackW
import Derived.Test.YtdobeokljplkiaaNarrowW
import Derived.Test.YtdobeokljplkiaaApp
set_option linter.unusedVariables false
set_option linter.unusedSimpArgs false
namespace Go.Proofs.Ytdobeokljplkiaa
open Go.RowKit

theorem foldl_num : ∀ (l : List Nat) (x : Nat), l.foldl (fun x c => x * 256 + c) x = x * 256 ^ l.length + num l
  | [], x => by simp [num]
  | c :: l, x => by
    have e1 := foldl_num l (x * 256 + c)
    have e2 : num (c :: l) = c * 256 ^ l.length + num l := by
      have := foldl_num l c
      simpa [num] using this
    simp only [List.foldl_cons, List.length_cons, Nat.pow_succ]
    rw [e1, e2, Nat.add_mul, Nat.mul_comm (256 ^ l.length) 256, ← Nat.mul_assoc]
    omega
theorem num_append (l m : List Nat) : num (l ++ m) = num l * 256 ^ m.length + num m := by
  have := foldl_num m (num l)
  simpa [num] using this
theorem pow256 (n : Nat) : (256 : Nat) ^ n = 2 ^ (8 * n) := by rw [show (256 : Nat) = 2 ^ 8 from rfl, ← Nat.pow_mul]

theorem lt_append {l m : List Nat} (hl : ∀ b ∈ l, b < 256) (hm : ∀ b ∈ m, b < 256) : ∀ b ∈ l ++ m, b < 256 := by
  intro b hb
  rcases List.mem_append.1 hb with h | h
  · exact hl b h
  · exact hm b h

namespace w_NumParts
theorem math {l m : List Nat} (hl : ∀ b ∈ l, b < 256) (hm : ∀ b ∈ m, b < 256) (h : l.length + m.length ≤ 8) :
    bits .or .u64 (IntKind.u64.wrap ((num l : Nat) * 2 ^ (8 * m.length))) (num m : Nat) = ((num (l ++ m) : Nat) : Int) := by
  have e : num (l ++ m) = num l * 2 ^ (8 * m.length) + num m := by rw [num_append, pow256]
  have h1 := num_lt64 (l := l ++ m) (lt_append hl hm) (by simp; omega)
  have h2 := num_lt m hm
  rw [pow256] at h2
  rw [e] at h1 ⊢
  have e2 : ((num l : Nat) : Int) * 2 ^ (8 * m.length) = ((num l * 2 ^ (8 * m.length) : Nat) : Int) := by simp
  rw [e2, IntKind.wrap_u64, Int.emod_eq_of_lt (by omega) (by omega), u64_or_nat _ _ (by omega) (by omega), nat_join (8 * m.length) _ _ (by simp) h2]

set_option maxHeartbeats 2000000 in
theorem walk (w : World) (v0 : Value) (l0 : List Nat) (s0 : Sl w v0 (bv l0)) (b0 : ∀ b ∈ l0, b < 256) (m0 : l0.length ≤ 140737488351232)
    (v1 : Value) (l1 : List Nat) (s1 : Sl w v1 (bv l1)) (b1 : ∀ b ∈ l1, b < 256) (m1 : l1.length ≤ 140737488351232) :
    Calls Try.prog 8 #[v0, v1] w fun e w' => e = .returned (.bool true) ∧ Below w.heap.size w w' := by
  have ha := Lib.hid (fun W => alive_any W)
  obtain ⟨A, c, rfl, hs⟩ := id s0
  obtain ⟨B, d, rfl, ht⟩ := id s1
  rw [bv_length] at s0 s1 ⊢
  rw [bv_length]
  clear hs ht
  have m0I : (l0.length : Int) ≤ 140737488351232 := by omega
  have m1I : (l1.length : Int) ≤ 140737488351232 := by omega
  by_cases h8 : 8 < l0.length + l1.length
  · have h8I : (8 : Int) < l0.length + l1.length := by omega
    go_enter Try.func8, Try.ntmps8
    go_wp2_with fail
    refine (ha.out _).mono ?_
    rintro e w1 ⟨rfl, hB1⟩
    go_wp2
    go_ret
    exact ⟨rfl, hB1⟩
  · have h8I : (l0.length : Int) + l1.length ≤ 8 := by omega
    obtain ⟨i0, hi, hz0, hz1, hz2⟩ := info_parts Try.info5
    have hm := math b0 b1 (by omega)
    have hg0 := Lib.hid (fun W h => get_ok (.slice A l0.length c) l0 W h b0 (by omega))
    have hg1 := Lib.hid (fun W h => get_ok (.slice B l1.length d) l1 W h b1 (by omega))
    have hg2 := Lib.hid (fun v W h => get_ok v (l0 ++ l1) W h (lt_append b0 b1) (by simp; omega))
    have htop := fun W => top_any (num l1) W (num_lt64 b1 (by omega))
    have hbl : Lib.bitLen (num l1) ≤ 8 * l1.length := (bitLen_le_iff (num_lt64 b1 (by omega))).2 (by rw [← pow256]; exact num_lt l1 b1)
    generalize Lib.bitLen (num l1) = bl at *
    have htop := Lib.hid htop
    have hbl' : (bl : Int) ≤ 8 * (l1.length : Int) := by omega
    clear hbl
    go_enter Try.func8, Try.ntmps8
    go_wp2_with fail
    refine (ha.out _).mono ?_
    rintro e w1 ⟨rfl, hB1⟩
    go_wp2_with fail
    refine (hg0.out _ (s0.keep hB1)).mono ?_
    rintro e w2 ⟨rfl, rfl⟩
    go_wp2_with fail
    refine (hg1.out _ (s1.keep hB1)).mono ?_
    rintro e w2 ⟨rfl, rfl⟩
    have hz3 : w1.heap.size ≤ w1.heap.size := Nat.le_refl _
    have own0 : (w1.alloc (.cells #[] 5)).ownsRow w1.heap.size 5 1 (.slice (some ⟨w1.heap.size, 0, none⟩) 0 0) 0 [] := World.ownsRow_made w1 #[] 0 (Nat.le_refl _) (Nat.zero_le _) rfl
    have sl0 : Sl (w1.alloc (.cells #[] 5)) (.slice A l0.length c) (bv l0) := (s0.keep hB1).keep ((Below.refl _ _).alloc (Nat.le_refl _) _)
    have sl1 : Sl (w1.alloc (.cells #[] 5)) (.slice B l1.length d) (bv l1) := (s1.keep hB1).keep ((Below.refl _ _).alloc (Nat.le_refl _) _)
    have bel0 : Below w1.heap.size w1 (w1.alloc (.cells #[] 5)) := (Below.refl _ _).alloc (Nat.le_refl _) _
    go_wp2_with (at_builtin; refine wpList_append_sl rfl (.tmp 30) (.tmp 31) 33 rfl w1.heap.size 5 i0 (.int .u8 0) 1 Try.underlying33 hi hz0 hz1 hz2 rfl _ 0 [] rfl own0 _ (bv l0) rfl sl0 (bv_oneCell l0) ?_ ?_ ?_ ?_)
    · simp [maxLen]; omega
    · simp; omega
    · simp
    intro v' w2 own1 gr1
    have bel1 := own_below bel0 gr1 own0 (by simp)
    have sl1 := (s1.keep hB1).keep bel1
    clear gr1 own0 sl0 bel0
    go_wp2_with (at_builtin; refine wpList_append_sl rfl (.tmp 32) (.tmp 33) 33 rfl w1.heap.size 5 i0 (.int .u8 0) 1 Try.underlying33 hi hz0 hz1 hz2 rfl _ l0.length (bv l0) rfl own1 _ (bv l1) rfl sl1 (bv_oneCell l1) ?_ ?_ ?_ ?_)
    · simp [maxLen]; omega
    · simp; omega
    · exact bel1.size
    intro v'' w3 own2 gr2
    have bel2 := own_below bel1 gr2 own1 bel1.size
    have sl2 : Sl w3 v'' (bv (l0 ++ l1)) := by
      have := Sl.of_own own2
      simpa [bv] using this
    clear gr2 own1 own2
    go_wp2_with fail
    refine (hg2.out _ _ sl2).mono ?_
    rintro e w4 ⟨rfl, rfl⟩
    go_wp2_with fail
    refine (htop.out _).mono ?_
    rintro e w5 ⟨rfl, rfl⟩
    clear hm
    go_wp2
    go_ret
    refine ⟨congrArg (fun b => Ending.returned (.bool b)) (decide_eq_true ?_), below_call hB1 hB1.size bel2⟩
    omega
end w_NumParts
end Go.Proofs.Ytdobeokljplkiaa
