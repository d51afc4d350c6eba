/- Contract of num.Put of four bytes. -/
import Derived.Test.YtokphnfhajljmaaCtrS
import Derived.Deep.OwnRows
set_option linter.unusedVariables false
set_option linter.unusedSimpArgs false
namespace Go.Proofs.Ytokphnfhajljmaa
open Go.RowKit
open Go.Proofs.PlainAes

/-- A new block of bytes, whole, and no error. -/
def RetN (l : List Nat) (w : World) (e : Ending) (w' : World) : Prop := ∃ g, e = .returned (.tuple #[.slice (some ⟨g, 0, none⟩) l.length l.length, .int .i64 0]) ∧ Blk w' g 5 (bv l) ∧ w.heap.size ≤ g ∧ Below w.heap.size w w'
set_option maxHeartbeats 1000000 in
theorem nput_any (x : Nat) (w : World) (hx : (x : Int) ≤ 255) : Calls Try.prog 19 #[.int .u64 (x : Int), .int .i64 4] w (RetN (be4 x) w) := by
  have hmk : ∀ w, (Instr.makeSlice 32 (.int .i64 4) (.int .i64 4)).run Try.prog w = .ok (.slice (some ⟨w.heap.size, 0, none⟩) 4 4) (w.alloc (.cells (madeCells #[.int .u8 0] 4) 5)) :=
    run_make_row' (P := Try.prog) 32 5 (.int .u8 0) 1 Try.underlying32 (by kernel_rfl) rfl .i64 .i64 4 (by omega) (by omega)
  have h8 : Blk (w.alloc (.cells (madeCells #[.int .u8 0] 4) 5)) w.heap.size 5 (bv (zeros 4)) := by
    have := Blk.new w 5 (madeCells #[.int .u8 0] 4)
    rw [madeCells_one] at this
    simpa [bv, zeros] using this
  have hgd := Lib.hid (fun k hk => upd_set (new := be4 x) (old := zeros 4) (k := k) (by simp) (by simp; omega) (gd_get (l := be4 x) (i := k) (by simp; omega)))
  go_enter Try.func19, Try.ntmps19
  go_wp2
  go_loopw [30] (fun i wr => ∃ k : Nat, k ≤ 4 ∧ i = .int .i64 (k : Int) ∧ Blk wr w.heap.size 5 (bv (upd (be4 x) (zeros 4) k)) ∧ Below w.heap.size w wr) (fun i _ => (4 - intOf i).toNat)
  case atStart => exact ⟨0, by omega, rfl, by rw [upd_zero]; exact h8, (Below.refl _ _).alloc (Nat.le_refl _) _⟩
  case round =>
    clear h8
    obtain ⟨k, hk, rfl, h8, hB⟩ := hrel
    by_cases hlt : (k : Int) < 4
    · have c0 := h8.cell k
      have f0 := h8.frozen k
      rw [bv_get, upd_get (by simp) (Nat.le_refl _) (by simp; omega), zeros_get (by omega)] at c0
      simp only [Option.map_some] at c0
      rcases (by omega : k = 0 ∨ k = 1 ∨ k = 2 ∨ k = 3) with rfl | rfl | rfl | rfl
      · go_wp2
        go_roundw
        case rel =>
          refine ⟨1, by omega, by go_num, ?_, hB.setCell (by simp) _⟩
          have h := h8.set_ 0 (.int .u8 ((x / 16777216 % 256 : Nat) : Int))
          rw [bv_set] at h
          have h2 : (upd (be4 x) (zeros 4) 0).set 0 (x / 16777216 % 256) = upd (be4 x) (zeros 4) 1 := hgd.out 0 (by omega)
          rw [h2] at h
          exact (show ∀ z : Int, z = ((x / 16777216 % 256 : Nat) : Int) → Blk (wr.setCell ⟨w.heap.size, 0, none⟩ (.int .u8 z)) w.heap.size 5 (bv (upd (be4 x) (zeros 4) 1)) from fun z hz => by subst hz; exact h) _ (by omega)
        case measure => simp [intOf]
      · go_wp2
        go_roundw
        case rel =>
          refine ⟨2, by omega, by go_num, ?_, hB.setCell (by simp) _⟩
          have h := h8.set_ 1 (.int .u8 ((x / 65536 % 256 : Nat) : Int))
          rw [bv_set] at h
          have h2 : (upd (be4 x) (zeros 4) 1).set 1 (x / 65536 % 256) = upd (be4 x) (zeros 4) 2 := hgd.out 1 (by omega)
          rw [h2] at h
          exact (show ∀ z : Int, z = ((x / 65536 % 256 : Nat) : Int) → Blk (wr.setCell ⟨w.heap.size, 1, none⟩ (.int .u8 z)) w.heap.size 5 (bv (upd (be4 x) (zeros 4) 2)) from fun z hz => by subst hz; exact h) _ (by omega)
        case measure => simp [intOf]
      · go_wp2
        go_roundw
        case rel =>
          refine ⟨3, by omega, by go_num, ?_, hB.setCell (by simp) _⟩
          have h := h8.set_ 2 (.int .u8 ((x / 256 % 256 : Nat) : Int))
          rw [bv_set] at h
          have h2 : (upd (be4 x) (zeros 4) 2).set 2 (x / 256 % 256) = upd (be4 x) (zeros 4) 3 := hgd.out 2 (by omega)
          rw [h2] at h
          exact (show ∀ z : Int, z = ((x / 256 % 256 : Nat) : Int) → Blk (wr.setCell ⟨w.heap.size, 2, none⟩ (.int .u8 z)) w.heap.size 5 (bv (upd (be4 x) (zeros 4) 3)) from fun z hz => by subst hz; exact h) _ (by omega)
        case measure => simp [intOf]
      · go_wp2
        go_roundw
        case rel =>
          refine ⟨4, by omega, by go_num, ?_, hB.setCell (by simp) _⟩
          have h := h8.set_ 3 (.int .u8 ((x % 256 : Nat) : Int))
          rw [bv_set] at h
          have h2 : (upd (be4 x) (zeros 4) 3).set 3 (x % 256) = upd (be4 x) (zeros 4) 4 := hgd.out 3 (by omega)
          rw [h2] at h
          exact (show ∀ z : Int, z = ((x % 256 : Nat) : Int) → Blk (wr.setCell ⟨w.heap.size, 3, none⟩ (.int .u8 z)) w.heap.size 5 (bv (upd (be4 x) (zeros 4) 4)) from fun z hz => by subst hz; exact h) _ (by omega)
        case measure => simp [intOf]
    · obtain rfl : k = 4 := by omega
      rw [upd_all (by simp) (by simp)] at h8
      go_wp2
      go_returns
      exact ⟨_, rfl, h8, Nat.le_refl _, hB⟩
end Go.Proofs.Ytokphnfhajljmaa
