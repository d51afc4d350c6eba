/- Contract of banyanref01's Put. -/
import Derived.Test.YtfhlenclnknnhaaNumD0
import Derived.Test.YtfhlenclnknnhaaArr
set_option linter.unusedVariables false
set_option linter.unusedSimpArgs false
namespace Go.Proofs.Ytfhlenclnknnhaa
open Go.RowKit
open Go.Proofs.PlainSha

/-- A row that is filled from the right: from j on L's cells are laid, the rest holds z. -/
def fillr (L : List Value) (z : Value) (j : Nat) : List Value := List.replicate j z ++ L.drop j
theorem fillr_length (L : List Value) (z : Value) {j : Nat} (hj : j ≤ L.length) : (fillr L z j).length = L.length := by simp [fillr]; omega
theorem fillr_all (L : List Value) (z : Value) : fillr L z 0 = L := by simp [fillr]
theorem fillr_none (L : List Value) (z : Value) : fillr L z L.length = List.replicate L.length z := by simp [fillr]
theorem fillr_set (L : List Value) (z u : Value) {j : Nat} (hj : L[j]? = some u) : (fillr L z (j + 1)).set j u = fillr L z j := by
  have hl : j < L.length := (List.getElem?_eq_some_iff.1 hj).1
  apply List.ext_getElem?
  intro i
  rw [List.getElem?_set]
  unfold fillr
  by_cases h : j = i
  · subst h
    rw [if_pos rfl, if_pos (by simp; omega), List.getElem?_append_right (by simp)]
    simp [hj]
  · rw [if_neg h]
    by_cases h1 : i < j
    · rw [List.getElem?_append_left (by simp; omega), List.getElem?_append_left (by simp; omega)]
      simp [h1, show i < j + 1 from by omega]
    · rw [List.getElem?_append_right (by simp; omega), List.getElem?_append_right (by simp; omega)]
      simp only [List.length_replicate, List.getElem?_drop]
      congr 1; omega

/-- What both Puts answer. -/
def rputE (x : Nat) (n : Int) : Int := if n < 0 ∨ 8 < n ∨ 0 < x / 2 ^ (8 * n.toNat) then 2 else 0
def rputL (x : Nat) (n : Int) : List Nat := if n < 0 ∨ 8 < n ∨ 0 < x / 2 ^ (8 * n.toNat) then [] else putB x n.toNat
theorem rputL_lt (x : Nat) (n : Int) : ∀ b ∈ rputL x n, b < 256 := by
  unfold rputL
  split
  · intro b hb; cases hb
  · exact putB_lt _ _

set_option maxRecDepth 100000 in
set_option maxHeartbeats 1000000 in
theorem rput_in (x n : Nat) (w : World) (hx : x < 18446744073709551616) (hn : n ≤ 8) (L : List Nat) (E : Int) (hy : Hid (0 < x / 2 ^ (8 * n) → L = [] ∧ E = 2)) (hno : Hid (¬ 0 < x / 2 ^ (8 * n) → L = putB x n ∧ E = 0)) :
    Calls Try.prog 52 #[.int .u64 (x : Int), .int .i64 (n : Int)] w (RetB L E w) := by
  have hmk := run_make_row' (P := Try.prog) 35 5 (.int .u8 0) 1 Try.underlying35 (by kernel_rfl) rfl .i64 .i64 n (by omega) (by omega)
  have hn8 : (n : Int) ≤ 8 := by omega
  have hxI : (x : Int) ≤ 18446744073709551615 := by omega
  go_enter Try.func52, Try.ntmps52
  go_wp2
  go_loopw [0, 7] (fun y i wr => ∃ (j : Nat) (z : Nat), j ≤ n ∧ i = .int .i64 ((j : Int) - 1) ∧ y = .int .u64 (z : Int) ∧ z ≤ 18446744073709551615 ∧ Hid (z = x / 2 ^ (8 * (n - j))) ∧ Below w.heap.size w wr ∧ Blk wr w.heap.size 5 (fillr (bv (putB x n)) (.int .u8 0) j)) (fun _ i _ => (intOf i + 1).toNat)
  case atStart =>
    refine ⟨n, x, Nat.le_refl _, rfl, rfl, by omega, by show _ = _; simp, (Below.refl _ _).alloc (Nat.le_refl _) _, ?_⟩
    have := Blk.new w 5 (madeCells #[.int .u8 0] n)
    rw [toList_madeCells_one] at this
    have e := fillr_none (bv (putB x n)) (.int .u8 0)
    simp only [bv_length, putB_length] at e
    rw [e]
    exact this
  case round =>
    obtain ⟨j, z, hj, rfl, rfl, hz, hzx, hB, hb⟩ := hrel
    by_cases h0 : j = 0
    · subst h0
      have hb' := hb
      rw [fillr_all] at hb'
      have hs := Sl.of_blk (n := n) (c := n) hb' (Nat.le_refl _) (by simp) (by unfold maxLen; omega)
      rw [List.take_of_length_le (by simp)] at hs
      have hz' : z = x / 2 ^ (8 * n) := hzx
      by_cases hz0 : 0 < (z : Int)
      · obtain ⟨rfl, rfl⟩ := hy.out (by omega)
        clear hb hb' hz' hs
        go_wp2
        go_ret2
        exact ⟨_, rfl, Sl.nil_ wr, hB⟩
      · obtain ⟨rfl, rfl⟩ := hno.out (by omega)
        clear hb hb' hz'
        go_wp2
        go_ret2
        exact ⟨_, rfl, hs, hB⟩
    · obtain ⟨m, rfl⟩ : ∃ m, j = m + 1 := ⟨j - 1, by omega⟩
      have c0 := hb.cell m
      have f0 := hb.frozen m
      obtain ⟨u, hu⟩ : ∃ u, (fillr (bv (putB x n)) (.int .u8 0) (m + 1))[m]? = some u := ⟨_, List.getElem?_eq_getElem (by rw [fillr_length _ _ (by simp; omega)]; simp; omega)⟩
      rw [hu] at c0
      clear hu
      have hp := putB_get x n m (by omega)
      have hz' : z = x / 2 ^ (8 * (n - (m + 1))) := hzx
      rw [show n - 1 - m = n - (m + 1) from by omega] at hp
      have e3 : ((x : Int) / 2 ^ (8 * (n - (m + 1)))) = (z : Int) := by rw [hz']; simp
      rw [e3] at hp
      have Hz := Lib.hid hz'
      have HP := Lib.hid hp
      clear hz' e3 hp
      go_wp2
      go_roundw
      case rel =>
        refine ⟨m, z / 256, by omega, by simp, by simp, by omega, ?_, hB.setCell (by simp) _, ?_⟩
        · show _ = _
          rw [Hz.out, Nat.div_div_eq_div_mul, show n - m = (n - (m + 1)) + 1 from by omega, show 8 * ((n - (m + 1)) + 1) = 8 * (n - (m + 1)) + 8 from by omega, Nat.pow_add]
        · rw [← fillr_set _ _ _ HP.out]
          exact hb.set_ m _
      case measure => simp [intOf]

theorem rput_any (x : Nat) (n : Int) (w : World) (hx : x < 18446744073709551616) (hn0 : -9223372036854775808 ≤ n) (hn1 : n ≤ 9223372036854775807) :
    Calls Try.prog 52 #[.int .u64 (x : Int), .int .i64 n] w (RetB (rputL x n) (rputE x n) w) := by
  by_cases c1 : n < 0
  · rw [rputL, rputE, if_pos (.inl c1), if_pos (.inl c1)]
    go_enter Try.func52, Try.ntmps52
    go_wp2
    go_ret2
    exact ⟨_, rfl, Sl.nil_ w, Below.refl _ _⟩
  · by_cases c2 : 8 < n
    · rw [rputL, rputE, if_pos (.inr (.inl c2)), if_pos (.inr (.inl c2))]
      go_enter Try.func52, Try.ntmps52
      go_wp2
      go_ret2
      exact ⟨_, rfl, Sl.nil_ w, Below.refl _ _⟩
    · obtain ⟨m, rfl⟩ := Int.eq_ofNat_of_zero_le (show 0 ≤ n by omega)
      refine rput_in x m w hx (by omega) _ _ (fun h => ?_) (fun h => ?_)
      · exact ⟨by rw [rputL, if_pos (.inr (.inr h))], by rw [rputE, if_pos (.inr (.inr h))]⟩
      · have : ¬ ((m : Int) < 0 ∨ 8 < (m : Int) ∨ 0 < x / 2 ^ (8 * (m : Int).toNat)) := by
          rintro (h1 | h1 | h1)
          · omega
          · omega
          · exact h h1
        exact ⟨by rw [rputL, if_neg this]; rfl, by rw [rputE, if_neg this]⟩
end Go.Proofs.Ytfhlenclnknnhaa
