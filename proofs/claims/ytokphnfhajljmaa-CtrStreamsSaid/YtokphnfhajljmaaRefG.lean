/- Contract of banyanref04: sum. -/
import Derived.Test.YtokphnfhajljmaaAesB
set_option linter.unusedVariables false
set_option linter.unusedSimpArgs false
namespace Go.Proofs.Ytokphnfhajljmaa
open Go.RowKit
open Go.Proofs.PlainAes

theorem arrR16 : ArrTy Try.prog 54 16 := ⟨_, Try.underlying54, rfl, by kernel_rfl⟩
set_option maxRecDepth 100000 in
set_option maxHeartbeats 1000000 in
theorem rsum_any (a b : List Nat) (w : World) (ha : a.length = 16) (hb : b.length = 16) (ba : Byt a) (bb : Byt b) : Calls Try.prog 35 #[.agg (bv a).toArray, .agg (bv b).toArray] w (RetA (xorl a b) w) := by
  have hxl := xorl_length (a := a) (b := b) (by omega)
  have Hx := Lib.hid hxl
  have Ha := Lib.hid ha
  have Hb := Lib.hid hb
  have Ba := Lib.hid ba
  have Bb := Lib.hid bb
  clear hxl ha hb ba bb
  go_enter Try.func35, Try.ntmps35
  go_wp2
  go_loopw [6] (fun i wr => ∃ k : Nat, k ≤ 16 ∧ i = .int .i64 k ∧ Blk wr w.heap.size 54 (bv (upd (xorl a b) a k)) ∧ Blk wr (w.heap.size + 1) 54 (bv b) ∧ Blk wr (w.heap.size + 1 + 1) 54 (bv (zeros 16)) ∧ Below w.heap.size w wr) (fun i _ => 16 - (intOf i).toNat)
  case atStart =>
    refine ⟨0, Nat.zero_le _, rfl, ?_, ?_, ?_, ?_⟩
    · rw [upd_zero]
      exact ((Blk.new_at rfl rfl).alloc _).alloc _
    · exact (Blk.new_at (by simp) (by simp)).alloc _
    · exact Blk.new_at (by simp) rfl
    · exact (((Below.refl _ _).alloc (Nat.le_refl _) _).alloc (by simp) _).alloc (by simp; omega) _
  case round =>
    obtain ⟨k, hk, rfl, h1, h2, h3, hB⟩ := hrel
    by_cases hlt : (k : Int) < 16
    · obtain ⟨x, hx⟩ := get_lt (l := a) (k := k) (by have := Ha.out; omega)
      obtain ⟨y, hy⟩ := get_lt (l := b) (k := k) (by have := Hb.out; omega)
      have c1 := h1.cell k
      have f1 := h1.frozen k
      have c2 := h2.cell k
      rw [bv_some hy] at c2
      rw [bv_get, upd_get (by have := Ha.out; have := Hx.out; omega) (Nat.le_refl _) (by have := Ha.out; omega), hx] at c1
      simp only [Option.map_some] at c1
      obtain ⟨hxy, hl⟩ := x8 (Ba.out.get hx) (Bb.out.get hy)
      have hs := upd_set (k := k) (by have := Ha.out; have := Hx.out; omega) (by have := Ha.out; omega) (xorl_get hx hy)
      have HS := Lib.hid hs
      clear hs hx hy
      go_wp2
      go_still_tail 8, (by kernel_rfl)
      change wpList _ _ _ _ _ wr.drew
      go_wp2
      go_roundw
      case rel =>
        refine ⟨k + 1, by omega, by go_num, ?_, (h2.drew).far (by simp) _, (h3.drew).far (by simp; omega) _, hB.drew.setCell (by simp) _⟩
        rw [← HS.out, ← bv_set]
        exact h1.drew.set_ k _
      case measure => simp [intOf]; omega
    · obtain rfl : k = 16 := by omega
      rw [upd_all (by have := Ha.out; have := Hx.out; omega) Ha.out] at h1
      have hxl : (bv (xorl a b)).length = 16 := by have := Ha.out; have := Hx.out; simp; omega
      go_wp2_with (first | refine wpList_loadW rfl 54 (.tmp 2) rfl 16 arrR16 _ rfl 54 _ h1 hxl ?_ | refine wpList_storeW rfl 54 (.tmp 4) (.tmp 18) rfl 16 arrR16 _ rfl (bv (xorl a b)) rfl 54 _ h3 hxl (by simp) (ones_bv _) ?_)
      intro w' h4 hK
      go_wp2
      exact bodyPost_ret (v := .agg (bv (xorl a b)).toArray) (res_cell Try.results35 _ _ _ 54 _ arrR16 hxl rfl h4) rfl ⟨rfl, hB.trans (hK.below hB.size (by simp; omega))⟩
end Go.Proofs.Ytokphnfhajljmaa
