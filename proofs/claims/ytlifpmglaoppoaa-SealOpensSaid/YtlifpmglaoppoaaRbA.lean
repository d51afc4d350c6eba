/- Contracts of banyanref01's Put, Bits, Of, Num, Get, Narrow, Top. -/
import Derived.Test.YtlifpmglaoppoaaQ12P1
import Derived.Test.YtlifpmglaoppoaaQ12P7
import Derived.Test.YtlifpmglaoppoaaArr
import Derived.Deep.OwnRows
set_option linter.unusedVariables false
set_option linter.unusedSimpArgs false
namespace Go.Proofs.Ytlifpmglaoppoaa
open Go.RowKit
open Go.Proofs.PlainSha


/-- A number's bits, the lowest first; bits' number. -/
def bitsL (x n : Nat) : List Nat := (List.range n).map fun i => x / 2 ^ i % 2
@[simp] theorem bitsL_length (x n : Nat) : (bitsL x n).length = n := by simp [bitsL]
theorem bitsL_get (x n k : Nat) (hk : k < n) : (bv (bitsL x n))[k]? = some (.int .u8 ((x : Int) / 2 ^ k % 2)) := by
  rw [bv_get]
  simp [bitsL, hk]
def ofL : List Nat → Nat
  | [] => 0
  | b :: l => ofL l * 2 + b

set_option maxRecDepth 100000 in
set_option maxHeartbeats 1000000 in
theorem bits_any (x n : Nat) (w : World) (hx : x < 18446744073709551616) (hn : n ≤ 281474976710656) :
    Calls Try.prog 48 #[.int .u64 (x : Int), .int .i64 (n : Int)] w fun e w' => ∃ v, e = .returned v ∧ Sl w' v (bv (bitsL x n)) ∧ Below w.heap.size w w' := by
  have hmk := run_make_row' (P := Try.prog) 22 5 (.int .u8 0) 1 Try.underlying22 (by kernel_rfl) rfl .i64 .i64 n (by omega) (by omega)
  have hn8 : (n : Int) ≤ 281474976710656 := by omega
  have hxI : (x : Int) ≤ 18446744073709551615 := by omega
  go_enter Try.func48, Try.ntmps48
  go_wp2
  go_loopw [0, 11] (fun y i wr => ∃ (k : Nat) (z : Nat), k ≤ n ∧ i = .int .i64 (k : Int) ∧ y = .int .u64 (z : Int) ∧ z ≤ 18446744073709551615 ∧ Hid (z = x / 2 ^ k) ∧ Below w.heap.size w wr ∧ Blk wr w.heap.size 5 (fill (bv (bitsL x n)) (.int .u8 0) k)) (fun _ i _ => n - (intOf i).toNat)
  case atStart =>
    refine ⟨0, x, Nat.zero_le _, rfl, rfl, by omega, by show _ = _; simp, (Below.refl _ _).alloc (Nat.le_refl _) _, ?_⟩
    have := Blk.new w 5 (madeCells #[.int .u8 0] n)
    rw [toList_madeCells_one] at this
    simpa [fill_zero] using this
  case round =>
    obtain ⟨k, z, hk, rfl, rfl, hz, hzx, hB, hb⟩ := hrel
    by_cases hlt : k < n
    · have c0 := hb.cell k
      have f0 := hb.frozen k
      obtain ⟨u, hu⟩ := fill_get (bv (bitsL x n)) (.int .u8 0) (k := k) (by simpa using hlt)
      rw [hu] at c0
      clear hu
      have hp := bitsL_get x n k hlt
      have hz' : z = x / 2 ^ k := hzx
      have e3 : ((x : Int) / 2 ^ k) = (z : Int) := by rw [hz']; simp
      rw [e3] at hp
      have Hz := Lib.hid hz'
      have HP := Lib.hid hp
      clear hz' e3 hp
      go_wp2
      go_roundw
      case rel =>
        refine ⟨k + 1, z / 2, by omega, by simp, by simp, by omega, ?_, hB.setCell (by simp) _, ?_⟩
        · show _ = _
          rw [Hz.out, Nat.div_div_eq_div_mul, Nat.pow_succ]
        · rw [← fill_set _ _ _ HP.out]
          exact hb.set_ k _
      case measure => simp [intOf]; omega
    · obtain rfl : k = n := by omega
      have e := fill_all (bv (bitsL x k)) (.int .u8 0)
      simp only [bv_length, bitsL_length] at e
      rw [e] at hb
      have hs := Sl.of_blk (n := k) (c := k) hb (Nat.le_refl _) (by simp) (by unfold maxLen; omega)
      rw [List.take_of_length_le (by simp)] at hs
      clear hb e
      go_wp2
      go_ret
      exact ⟨_, rfl, hs, hB⟩

theorem ofL_lt : ∀ (l : List Nat), (∀ b ∈ l, b ≤ 1) → ofL l < 2 ^ l.length
  | [], _ => by simp [ofL]
  | b :: l, h => by
    have h1 := ofL_lt l (fun c hc => h c (by simp [hc]))
    have h2 := h b (by simp)
    simp only [ofL, List.length_cons, Nat.pow_succ]
    omega
theorem drop_cons (l : List Nat) (j : Nat) (h : j < l.length) : ofL (l.drop j) = ofL (l.drop (j + 1)) * 2 + l[j] := by
  rw [List.drop_eq_getElem_cons h, ofL]

set_option maxRecDepth 100000 in
set_option maxHeartbeats 1000000 in
theorem of_core (A : Option Addr) (c : Nat) (l : List Nat) (w : World) (h3 : 0 < (bv l).length → ∃ g o, A = some ⟨g, o, none⟩ ∧ ∀ i u, (bv l)[i]? = some u → w.cell? ⟨g, o + i, none⟩ = some u) (hl : ∀ b ∈ l, b ≤ 1) (hn : l.length ≤ 63) :
    Calls Try.prog 49 #[.slice A l.length c] w fun e w' => e = .returned (.int .u64 (ofL l : Nat)) ∧ w = w' := by
  have hnI : (l.length : Int) ≤ 63 := by omega
  go_enter Try.func49, Try.ntmps49
  go_wp2
  go_loop [3, 4] (fun x i => ∃ (j z : Nat), j ≤ l.length ∧ i = .int .i64 ((j : Int) - 1) ∧ x = .int .u64 (z : Int) ∧ Hid (z = ofL (l.drop j))) (fun _ i => (intOf i + 1).toNat)
  case atStart => exact ⟨l.length, 0, Nat.le_refl _, by simp, rfl, by show _ = _; simp [ofL]⟩
  case round =>
    obtain ⟨j, z, hj, rfl, rfl, hz⟩ := hrel
    by_cases h0 : j = 0
    · subst h0
      clear h3
      go_wp2
      go_ret
      refine ⟨?_, rfl⟩
      have hz' : z = ofL (l.drop 0) := hz
      rw [List.drop_zero] at hz'
      rw [← hz']
      rfl
    · obtain ⟨m, rfl⟩ : ∃ m, j = m + 1 := ⟨j - 1, by omega⟩
      obtain ⟨g, o, rfl, hc⟩ := h3 (by simp; omega)
      have hml : m < l.length := by omega
      have hc' := hc m (.int .u8 ((l[m] : Nat) : Int)) (by rw [bv_get, List.getElem?_eq_getElem hml]; rfl)
      have hb := hl l[m] (List.getElem_mem hml)
      have hlt := ofL_lt (l.drop (m + 1)) (fun b hb => hl b (List.mem_of_mem_drop hb))
      have hz' : z = ofL (l.drop (m + 1)) := hz
      rw [← hz'] at hlt
      have hpp : (2 : Nat) ^ (l.drop (m + 1)).length ≤ 2 ^ 62 := Nat.pow_le_pow_right (by omega) (by simp; omega)
      have hz2 : (z : Int) ≤ 4611686018427387904 := by omega
      have hdc := drop_cons l m hml
      rw [← hz'] at hdc
      have HD := Lib.hid hdc
      clear hdc hz' hlt hpp hz hc h3 hl
      generalize l[m] = cc at *
      have hb' : (cc : Int) ≤ 1 := by omega
      go_wp2
      go_round
      case rel => exact ⟨m, z * 2 + cc, by omega, by simp, by simp, HD.out.symm⟩
      case measure => simp [intOf]

theorem of_any (v : Value) (l : List Nat) (w : World) (h : Sl w v (bv l)) (hl : ∀ b ∈ l, b ≤ 1) (hn : l.length ≤ 63) :
    Calls Try.prog 49 #[v] w fun e w' => e = .returned (.int .u64 (ofL l : Nat)) ∧ w = w' := by
  obtain ⟨A, c, rfl, h1, h2, h3⟩ := h
  rw [bv_length]
  exact of_core A c l w h3 hl hn

/-! ### Num, Get, Narrow, Top -/
set_option maxRecDepth 100000 in
set_option maxHeartbeats 1000000 in
theorem rnum_core (A : Option Addr) (c : Nat) (l : List Nat) (w : World) (h3 : 0 < (bv l).length → ∃ g o, A = some ⟨g, o, none⟩ ∧ ∀ i u, (bv l)[i]? = some u → w.cell? ⟨g, o + i, none⟩ = some u) (hl : ∀ b ∈ l, b < 256) (hn : l.length ≤ 8) :
    Calls Try.prog 82 #[.slice A l.length c] w fun e w' => e = .returned (.int .u64 (num l : Nat)) ∧ w = w' := by
  have hnI : (l.length : Int) ≤ 8 := by omega
  go_enter Try.func82, Try.ntmps82
  go_wp2
  go_loop [3, 8] (fun x i => ∃ (k : Nat) (y : Int), k ≤ l.length ∧ i = .int .i64 k ∧ x = .int .u64 y ∧ Hid (y = (num (l.take k) : Nat))) (fun _ i => l.length - (intOf i).toNat)
  case atStart => exact ⟨0, 0, Nat.zero_le _, rfl, rfl, rfl⟩
  case round =>
    obtain ⟨k, y, hk, rfl, rfl, hy⟩ := hrel
    by_cases hlt : k < l.length
    · obtain ⟨g, o, rfl, hc⟩ := h3 (by simp; omega)
      have hc' := hc k (.int .u8 ((l[k] : Nat) : Int)) (by rw [bv_get, List.getElem?_eq_getElem hlt]; rfl)
      have hb := hl l[k] (List.getElem_mem hlt)
      have hlt' := num_lt (l.take k) (fun b hb => hl b (List.mem_of_mem_take hb))
      rw [List.length_take, Nat.min_eq_left hk] at hlt'
      have hp : (256 : Nat) ^ k ≤ 256 ^ 7 := Nat.pow_le_pow_right (by omega) (by omega)
      have hsn := num_snoc (l.take k) l[k]
      rw [← take_snoc l k hlt] at hsn
      generalize hz : num (l.take k) = z at *
      obtain rfl : y = (z : Int) := hy
      have hz2 : (z : Int) ≤ 72057594037927935 := by omega
      have HS := Lib.hid hsn
      clear hsn hz hlt' hp h3
      generalize hcc : l[k] = cc at *
      have hb' : (cc : Int) < 256 := by omega
      have HC := Lib.hid hcc
      clear hcc hc hl
      go_wp2
      go_round
      case rel => exact ⟨k + 1, (z : Int) * 256 + cc, by omega, by go_num, rfl, by show _ = _; rw [HS.out]; simp⟩
      case measure => simp [intOf]; omega
    · obtain rfl : k = l.length := by omega
      clear h3
      go_wp2
      go_ret
      refine ⟨?_, rfl⟩
      have := hy.out
      rw [List.take_length] at this
      rw [← this]
      rfl

end Go.Proofs.Ytlifpmglaoppoaa
