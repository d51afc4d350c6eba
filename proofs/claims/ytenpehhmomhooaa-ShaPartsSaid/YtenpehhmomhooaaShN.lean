/- Contracts of package sha: Len, Sum of none. -/
import Derived.Test.YtenpehhmomhooaaShH
set_option linter.unusedVariables false
set_option linter.unusedSimpArgs false
namespace Go.Proofs.Ytenpehhmomhooaa
open Go.RowKit
open Go.Proofs.PlainAes
open Go.Proofs.PlainSha

set_option maxHeartbeats 1000000 in
theorem len_any (l : List Nat) (B g : Nat) (r : Option Nat) (w : World) (h : Hsh w B g r l) :
    Calls Try.prog 20 #[.pointer (some ⟨g, 0, none⟩)] w fun e w' => e = .returned (.int .i64 (l.length : Int)) ∧ w = w' := by
  obtain ⟨v0, hb, -⟩ := h
  have c73 := hb.cell 73
  rw [hcells_n _ _ _ (stOf_length l)] at c73
  go_enter Try.func20, Try.ntmps20
  go_wp2
  go_ret
  exact ⟨rfl, rfl⟩
set_option maxRecDepth 100000 in
set_option maxHeartbeats 1000000 in
theorem sum_none (w : World) : Calls Try.prog 17 #[.pointer none] w fun e w' => e = .returned (.tuple #[.agg (bv (zeros 32)).toArray, .int .i64 1]) ∧ Below w.heap.size w w' := by
  go_enter Try.func17, Try.ntmps17
  go_wp2_with (refine wpList_allocA rfl 24 rfl (bv (zeros 32)) (by kernel_rfl) ?_)
  intro w1 ho1 hK1 hz1
  have hB1 : Below w.heap.size w w1 := ((Below.refl _ _).alloc (Nat.le_refl _) _).trans (hK1.below (by simp) (by simp))
  have hx1 := (Blk.new_at (w := w) (t := 30) (cs := #[.pointer none]) rfl rfl).keeps hK1 (by simp)
  have c0 : w1.cell? ⟨w.heap.size, 0, none⟩ = some (.pointer none) := by have := hx1.cell 0; simpa using this
  replace ho1 : Blk w1 (w.heap.size + 1) 24 (bv (zeros 32)) := ho1
  clear hK1 hz1
  have hl := Lib.hid (show (bv (zeros 32)).length = 32 by simp)
  go_wp2_with (first | refine wpList_loadW rfl 24 (.tmp 2) rfl 32 arrH _ rfl 24 _ ho1 hl.out ?_ | refine wpList_storeW rfl 24 (.tmp 2) (.tmp 15) rfl 32 arrH _ rfl (bv (zeros 32)) rfl 24 _ ho1 hl.out (by simp) (ones_bv _) ?_)
  intro w2 ho2 hK2
  go_wp2
  exact bodyPost_ret (v := .tuple #[.agg (bv (zeros 32)).toArray, .int .i64 1]) (res_cell_tmp Try.results17 _ _ _ 24 _ arrH hl.out rfl (.int .i64 1) rfl ho2) rfl ⟨rfl, hB1.trans (hK2.below hB1.size (by simp))⟩
end Go.Proofs.Ytenpehhmomhooaa
