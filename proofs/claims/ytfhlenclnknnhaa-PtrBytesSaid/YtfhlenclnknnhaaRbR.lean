/- Contracts of banyanref01's Put and Bytes, of a number that fits: a new row. -/
import Derived.Test.YtfhlenclnknnhaaRbB
import Derived.Test.YtfhlenclnknnhaaOwn
set_option linter.unusedVariables false
set_option linter.unusedSimpArgs false
namespace Go.Proofs.Ytfhlenclnknnhaa
open Go.RowKit
open Go.Proofs.PlainSha

/-- A new row, full. -/
def RowAt (l : List Nat) (w : World) (v : Value) (w' : World) : Prop := ∃ g, v = .slice (some ⟨g, 0, none⟩) l.length l.length ∧ Blk w' g 5 (bv l) ∧ w.heap.size ≤ g ∧ Below w.heap.size w w'
theorem Blk.own {w : World} {g B : Nat} {l : List Nat} (h : Blk w g 5 (bv l)) (hB : B ≤ g) (hl : l.length ≤ maxLen) : w.ownsRow B 5 1 (.slice (some ⟨g, 0, none⟩) l.length l.length) l.length (bv l) :=
  ⟨by simp, .inr ⟨g, l.length, (bv l).toArray, rfl, hB, h, Nat.le_refl _, hl, by simp, by simp [List.take_of_length_le]⟩⟩
set_option maxRecDepth 100000 in
set_option maxHeartbeats 1000000 in
theorem rput_row (x n : Nat) (w : World) (hx : x < 18446744073709551616) (hn : n ≤ 8) (hf : x / 2 ^ (8 * n) = 0) :
    Calls Try.prog 52 #[.int .u64 (x : Int), .int .i64 (n : Int)] w fun e w' => ∃ v, e = .returned (.tuple #[v, .int .i64 0]) ∧ RowAt (putB x n) w v w' := by
  have hmk := run_make_row' (P := Try.prog) 35 5 (.int .u8 0) 1 Try.underlying35 (by kernel_rfl) rfl .i64 .i64 n (by omega) (by omega)
  have hn8 : (n : Int) ≤ 8 := by omega
  have hxI : (x : Int) ≤ 18446744073709551615 := by omega
  have hf := Lib.hid hf
  go_enter Try.func52, Try.ntmps52
  go_wp2
  go_loopw [0, 7] (fun y i wr => ∃ (j : Nat) (z : Nat), j ≤ n ∧ i = .int .i64 ((j : Int) - 1) ∧ y = .int .u64 (z : Int) ∧ z ≤ 18446744073709551615 ∧ Hid (z = x / 2 ^ (8 * (n - j))) ∧ Below w.heap.size w wr ∧ Blk wr w.heap.size 5 (fillr (bv (putB x n)) (.int .u8 0) j)) (fun _ i _ => (intOf i + 1).toNat)
  case atStart =>
    refine ⟨n, x, Nat.le_refl _, rfl, rfl, by omega, by show _ = _; simp, (Below.refl _ _).alloc (Nat.le_refl _) _, ?_⟩
    have := Blk.new w 5 (madeCells #[.int .u8 0] n)
    rw [toList_madeCells_one] at this
    have e := fillr_none (bv (putB x n)) (.int .u8 0)
    simp only [bv_length, putB_length] at e
    rw [e]
    exact this
  case round =>
    obtain ⟨j, z, hj, rfl, rfl, hz, hzx, hB, hb⟩ := hrel
    by_cases h0 : j = 0
    · subst h0
      have hb' := hb
      rw [fillr_all] at hb'
      have hz' : z = x / 2 ^ (8 * n) := hzx
      have hz0 : z = 0 := by rw [hz', hf.out]
      subst hz0
      have hb' := Lib.hid hb'
      have hlen := Lib.hid (putB_length x n)
      clear hb hz' hzx
      go_wp2
      go_ret2
      exact ⟨_, rfl, w.heap.size, by show Value.slice (some ⟨w.heap.size, 0, none⟩) n n = _; rw [hlen.out], hb'.out, Nat.le_refl _, hB⟩
    · obtain ⟨m, rfl⟩ : ∃ m, j = m + 1 := ⟨j - 1, by omega⟩
      have c0 := hb.cell m
      have f0 := hb.frozen m
      obtain ⟨u, hu⟩ : ∃ u, (fillr (bv (putB x n)) (.int .u8 0) (m + 1))[m]? = some u := ⟨_, List.getElem?_eq_getElem (by rw [fillr_length _ _ (by simp; omega)]; simp; omega)⟩
      rw [hu] at c0
      clear hu
      have hp := putB_get x n m (by omega)
      have hz' : z = x / 2 ^ (8 * (n - (m + 1))) := hzx
      rw [show n - 1 - m = n - (m + 1) from by omega] at hp
      have e3 : ((x : Int) / 2 ^ (8 * (n - (m + 1)))) = (z : Int) := by rw [hz']; simp
      rw [e3] at hp
      have Hz := Lib.hid hz'
      have HP := Lib.hid hp
      clear hz' e3 hp
      go_wp2
      go_roundw
      case rel =>
        refine ⟨m, z / 256, by omega, by simp, by simp, by omega, ?_, hB.setCell (by simp) _, ?_⟩
        · show _ = _
          rw [Hz.out, Nat.div_div_eq_div_mul, show n - m = (n - (m + 1)) + 1 from by omega, show 8 * ((n - (m + 1)) + 1) = 8 * (n - (m + 1)) + 8 from by omega, Nat.pow_add]
        · rw [← fillr_set _ _ _ HP.out]
          exact hb.set_ m _
      case measure => simp [intOf]
set_option maxRecDepth 100000 in
theorem rbytes_row (x n : Nat) (w : World) (hx : x < 18446744073709551616) (hn : n ≤ 8) (hf : x / 2 ^ (8 * n) = 0) :
    Calls Try.prog 41 #[.int .u64 (x : Int), .int .i64 (n : Int)] w fun e w' => ∃ v, e = .returned v ∧ RowAt (putB x n) w v w' := by
  have hp := Lib.hid (fun w => rput_row x n w hx hn hf)
  clear hx hf
  go_enter Try.func41, Try.ntmps41
  go_wp2_with fail
  refine (hp.out _).mono ?_
  rintro e w1 ⟨v, rfl, hs⟩
  replace hs := Lib.hid hs
  go_wp2
  go_ret
  exact ⟨v, rfl, hs.out⟩
end Go.Proofs.Ytfhlenclnknnhaa
