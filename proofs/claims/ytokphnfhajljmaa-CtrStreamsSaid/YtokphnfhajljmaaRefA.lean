/- Contracts of banyanref01: Bits, Of. -/
import Derived.Test.YtokphnfhajljmaaArr
import Derived.Test.YtokphnfhajljmaaRefP
import Derived.Deep.OwnRows
set_option linter.unusedVariables false
set_option linter.unusedSimpArgs false
namespace Go.Proofs.Ytokphnfhajljmaa
open Go.RowKit
open Go.Proofs.PlainAes
theorem madeCells_one' (v : Value) (m : Nat) : (madeCells #[v] m).toList = List.replicate m v := by
  apply List.ext_getElem
  · simp [madeCells]
  · intro i h1 h2
    simp [madeCells, Nat.mod_one]

set_option maxHeartbeats 1000000 in
theorem xbits_any (x n : Nat) (w : World) (hx : (x : Int) ≤ 18446744073709551615) (hn : (n : Int) ≤ 281474976710656) :
    Calls Try.prog 37 #[.int .u64 (x : Int), .int .i64 (n : Int)] w fun e w' => e = .returned (.slice (some ⟨w.heap.size, 0, none⟩) n n) ∧ Blk w' w.heap.size 5 (bv (bitsL x n)) ∧ Below w.heap.size w w' := by
  have hmk : ∀ w, (Instr.makeSlice 32 (.int .i64 (n : Int)) (.int .i64 (n : Int))).run Try.prog w = .ok (.slice (some ⟨w.heap.size, 0, none⟩) n n) (w.alloc (.cells (madeCells #[.int .u8 0] n) 5)) :=
    run_make_row' (P := Try.prog) 32 5 (.int .u8 0) 1 Try.underlying32 (by kernel_rfl) rfl .i64 .i64 n (by omega) (by omega)
  go_enter Try.func37, Try.ntmps37
  go_wp2
  go_loopw [0, 11] (fun y i wr => ∃ (k : Nat) (z : Nat), (k : Int) ≤ n ∧ i = .int .i64 (k : Int) ∧ y = .int .u64 (z : Int) ∧ (z : Int) ≤ 18446744073709551615 ∧ Hid (z = x / 2 ^ k) ∧ Below w.heap.size w wr ∧ Blk wr w.heap.size 5 (bv (upd (bitsL x n) (zeros n) k))) (fun _ i _ => n - (intOf i).toNat)
  case atStart =>
    refine ⟨0, x, by omega, rfl, rfl, hx, by show _ = _; simp, (Below.refl _ _).alloc (Nat.le_refl _) _, ?_⟩
    have := Blk.new w 5 (madeCells #[.int .u8 0] n)
    rw [madeCells_one'] at this
    rw [upd_zero]
    simpa [bv, zeros] using this
  case round =>
    obtain ⟨k, z, hk, rfl, rfl, hz, hzx, hB, hb⟩ := hrel
    by_cases hlt : (k : Int) < n
    · have c0 := hb.cell k
      have f0 := hb.frozen k
      rw [bv_get, upd_get (by simp) (Nat.le_refl _) (by simp; omega), zeros_get (by omega)] at c0
      simp only [Option.map_some] at c0
      have HS := Lib.hid (upd_set (new := bitsL x n) (old := zeros n) (k := k) (by simp) (by simp; omega) ((gd_get (by simp; omega)).trans (by rw [gd_bitsL (show k < n by omega), bit, ← hzx.out])))
      go_wp2
      go_roundw
      case rel =>
        refine ⟨k + 1, z / 2, by omega, by simp, by simp, by omega, ?_, hB.setCell (by simp) _, ?_⟩
        · show _ = _
          rw [hzx.out, Nat.div_div_eq_div_mul, Nat.pow_succ]
        · rw [← HS.out, ← bv_set]
          exact hb.set_ k _
      case measure => simp [intOf]; omega
    · obtain rfl : n = k := by omega
      rw [upd_all (by simp) (by simp)] at hb
      go_wp2
      go_ret
      exact ⟨rfl, hb, hB⟩

theorem xofL_lt : ∀ (l : List Nat), (∀ b ∈ l, b ≤ 1) → ofL l < 2 ^ l.length
  | [], _ => by simp [ofL]
  | b :: l, h => by
    have h1 := xofL_lt l (fun c hc => h c (by simp [hc]))
    have h2 := h b (by simp)
    simp only [ofL, List.length_cons, Nat.pow_succ]
    omega
theorem xdrop_cons (l : List Nat) (j : Nat) (h : j < l.length) : ofL (l.drop j) = ofL (l.drop (j + 1)) * 2 + l[j] := by
  rw [List.drop_eq_getElem_cons h, ofL]

set_option maxHeartbeats 1000000 in
theorem xof_core (A : Option Addr) (c : Nat) (l : List Nat) (w : World) (h3 : 0 < (bv l).length → ∃ g o, A = some ⟨g, o, none⟩ ∧ ∀ i u, (bv l)[i]? = some u → w.cell? ⟨g, o + i, none⟩ = some u) (hl : ∀ b ∈ l, b ≤ 1) (hn : l.length ≤ 63) :
    Calls Try.prog 38 #[.slice A l.length c] w fun e w' => e = .returned (.int .u64 (ofL l : Nat)) ∧ w = w' := by
  have hnI : (l.length : Int) ≤ 63 := by omega
  go_enter Try.func38, Try.ntmps38
  go_wp2
  go_loop [3, 4] (fun x i => ∃ (j z : Nat), j ≤ l.length ∧ i = .int .i64 ((j : Int) - 1) ∧ x = .int .u64 (z : Int) ∧ Hid (z = ofL (l.drop j))) (fun _ i => (intOf i + 1).toNat)
  case atStart => exact ⟨l.length, 0, Nat.le_refl _, by simp, rfl, by show _ = _; simp [ofL]⟩
  case round =>
    obtain ⟨j, z, hj, rfl, rfl, hz⟩ := hrel
    by_cases h0 : j = 0
    · subst h0
      clear h3
      go_wp2
      go_ret
      refine ⟨?_, rfl⟩
      have hz' : z = ofL (l.drop 0) := hz
      rw [List.drop_zero] at hz'
      rw [← hz']
      rfl
    · obtain ⟨m, rfl⟩ : ∃ m, j = m + 1 := ⟨j - 1, by omega⟩
      obtain ⟨g, o, rfl, hc⟩ := h3 (by simp; omega)
      have hml : m < l.length := by omega
      have hc' := hc m (.int .u8 ((l[m] : Nat) : Int)) (by rw [bv_get, List.getElem?_eq_getElem hml]; rfl)
      have hb := hl l[m] (List.getElem_mem hml)
      have hlt := xofL_lt (l.drop (m + 1)) (fun b hb => hl b (List.mem_of_mem_drop hb))
      have hz' : z = ofL (l.drop (m + 1)) := hz
      rw [← hz'] at hlt
      have hpp : (2 : Nat) ^ (l.drop (m + 1)).length ≤ 2 ^ 62 := Nat.pow_le_pow_right (by omega) (by simp; omega)
      have hz2 : (z : Int) ≤ 4611686018427387904 := by omega
      have hdc := xdrop_cons l m hml
      rw [← hz'] at hdc
      have HD := Lib.hid hdc
      clear hdc hz' hlt hpp hz hc h3 hl
      generalize l[m] = cc at *
      have hb' : (cc : Int) ≤ 1 := by omega
      go_wp2
      go_round
      case rel => exact ⟨m, z * 2 + cc, by omega, by simp, by simp, HD.out.symm⟩
      case measure => simp [intOf]

theorem xof_any (v : Value) (l : List Nat) (w : World) (h : Sl w v (bv l)) (hl : ∀ b ∈ l, b ≤ 1) (hn : l.length ≤ 63) :
    Calls Try.prog 38 #[v] w fun e w' => e = .returned (.int .u64 (ofL l : Nat)) ∧ w = w' := by
  obtain ⟨A, c, rfl, h1, h2, h3⟩ := h
  rw [bv_length]
  exact xof_core A c l w h3 hl hn

end Go.Proofs.Ytokphnfhajljmaa
