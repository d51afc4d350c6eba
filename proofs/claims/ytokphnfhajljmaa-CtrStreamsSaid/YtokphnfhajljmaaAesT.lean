/- Contracts of package aes: the tables. -/
import Derived.Test.YtokphnfhajljmaaAesB
set_option linter.unusedVariables false
set_option linter.unusedSimpArgs false
namespace Go.Proofs.Ytokphnfhajljmaa
open Go.RowKit
open Go.Proofs.PlainAes
theorem arrT : ArrTy Try.prog 37 256 := ⟨_, Try.underlying37, rfl, by kernel_rfl⟩

set_option maxRecDepth 100000 in
set_option maxHeartbeats 1000000 in
theorem table_box (w : World) : Calls Try.prog 28 #[.func (.func 29) #[] #[]] w (RetA (tbl box) w) := by
  have hd := Lib.hid (fun a ha w => box_any a ha w)
  go_enter Try.func28, Try.ntmps28
  go_wp2_with (refine wpList_allocA rfl 37 rfl (bv (zeros 256)) (by kernel_rfl) ?_)
  intro w1 h1 hK1 hz1
  have hB1 := hK1.below (Nat.le_refl _) (by simp)
  clear hK1
  go_wp2
  go_loopw [4] (fun i wr => ∃ k : Nat, k ≤ 256 ∧ i = .int .i64 (k : Int) ∧ Blk wr w.heap.size 37 (bv (upd (tbl box) (zeros 256) k)) ∧ Below w.heap.size w wr) (fun i _ => 256 - (intOf i).toNat)
  case atStart => exact ⟨0, Nat.zero_le _, rfl, by rw [upd_zero]; exact h1, hB1⟩
  case round =>
    clear h1 hB1 hz1
    obtain ⟨k, hk, rfl, h1, hB⟩ := hrel
    by_cases hlt : (k : Int) < 256
    · have hkI : (k : Int) ≤ 255 := by omega
      have hs := upd_set (new := tbl box) (old := zeros 256) (k := k) (by simp [tbl]) (by simp; omega) (mk_get box (show k < 256 by omega))
      have HS := Lib.hid hs
      have f0 := h1.frozen k
      have c0 := h1.cell k
      rw [bv_get, upd_get (by simp [tbl]) (Nat.le_refl _) (by simp; omega)] at c0
      rw [show (zeros 256)[k]? = some 0 from zeros_get (by omega)] at c0
      simp only [Option.map_some] at c0
      clear hs
      generalize hY : box k = Y at *
      have hY := Lib.hid hY
      go_wp2_with fail
      refine (hd.out k (by omega) _).mono ?_
      rintro e w' ⟨rfl, rfl⟩
      rw [hY.out]
      go_wp2
      go_roundw
      case rel =>
        refine ⟨k + 1, by omega, by go_num, ?_, hB.setCell (by simp) _⟩
        rw [← HS.out, ← bv_set]
        exact h1.set_ k _
      case measure => simp [intOf]; omega
    · obtain rfl : k = 256 := by omega
      have hxl : (bv (tbl box)).length = 256 := by simp [tbl]
      rw [upd_all (by simp [tbl]) (by simp)] at h1
      go_wp2_with (first | refine wpList_loadW rfl 37 (.tmp 2) rfl 256 arrT _ rfl 37 _ h1 hxl ?_ | refine wpList_storeW rfl 37 (.tmp 2) (.tmp 14) rfl 256 arrT _ rfl (bv (tbl box)) rfl 37 _ h1 hxl hxl (ones_bv _) ?_)
      intro w' h4 hK
      go_wp2
      exact bodyPost_ret (v := .agg (bv (tbl box)).toArray) (res_cell Try.results28 _ _ _ 37 _ arrT hxl rfl h4) rfl ⟨rfl, hB.trans (hK.below hB.size (by simp))⟩

end Go.Proofs.Ytokphnfhajljmaa
