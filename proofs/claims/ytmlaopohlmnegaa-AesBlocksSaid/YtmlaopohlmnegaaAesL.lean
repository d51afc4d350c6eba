/- The statements' own example (alive). -/
import Derived.Test.YtmlaopohlmnegaaAesO
import Derived.Test.YtmlaopohlmnegaaRegB
set_option linter.unusedVariables false
set_option linter.unusedSimpArgs false
namespace Go.Proofs.Ytmlaopohlmnegaa
open Go.RowKit
open Go.Proofs.PlainAes

def exK : List Nat := mk 32 (fun i => i)
def exB : List Nat := mk 16 (fun i => 17 * i)
def exW : List Nat := [0x8e, 0xa2, 0xb7, 0xca, 0x51, 0x67, 0x45, 0xbf, 0xea, 0xfc, 0x49, 0x90, 0x4b, 0x49, 0x60, 0x89]
theorem ex_seal : sealB box (keys box exK) exB = exW := by decide +kernel
theorem ex_open : openB unbox (keys box exK) exW = exB := by decide +kernel
theorem arrBB : ByteArr Try.prog 28 16 := ⟨⟨_, Try.underlying28, Try.underlying5, by kernel_rfl⟩, by kernel_rfl⟩

set_option maxRecDepth 100000 in
set_option maxHeartbeats 2000000 in
theorem alive_any (w : World) : Calls Try.prog 10 #[] w fun e w' => e = .returned (.bool true) ∧ Below w.heap.size w w' := by
  have hseal := Lib.hid (fun w => seal_any exK exB w (by decide) (by unfold Byt; decide) (by decide) (by unfold Byt; decide))
  have hopen := Lib.hid (fun w => open_any exK exW w (by decide) (by unfold Byt; decide) (by decide) (by unfold Byt; decide))
  rw [ex_seal] at hseal
  rw [ex_open] at hopen
  go_enter Try.func10, Try.ntmps10
  go_wp2_with (refine wpList_allocA rfl 43 rfl (bv (zeros 32)) (by kernel_rfl) ?_)
  intro w1 h1 hK1 hz1
  have hB1 := hK1.below (Nat.le_refl _) (by simp)
  clear hK1
  go_wp2_with (refine wpList_allocA rfl 28 rfl (bv (zeros 16)) (by kernel_rfl) ?_)
  intro w2 h2 hK2 hz2
  have h1 := h1.keeps hK2 (by simp)
  have hB := hB1.trans (hK2.below hB1.size (by simp))
  clear hK2 hB1
  go_wp2
  go_loopw [6] (fun i wr => ∃ j : Nat, j ≤ 32 ∧ i = .int .i64 (j : Int) ∧ Blk wr w.heap.size 43 (bv (upd exK (zeros 32) j)) ∧ Blk wr (w.heap.size + 1) 28 (bv (zeros 16)) ∧ Below w.heap.size w wr) (fun i _ => (32 - intOf i).toNat)
  case atStart => exact ⟨0, Nat.zero_le _, rfl, by rw [upd_zero]; exact h1, h2, hB⟩
  case round =>
    clear h1 h2 hB hz1 hz2
    obtain ⟨j, hj, rfl, h1, h2, hB⟩ := hrel
    by_cases hlt : (j : Int) < 32
    · have hs := Lib.hid (upd_set (new := exK) (old := zeros 32) (k := j) (by simp [exK]) (by simp; omega) (mk_get _ (by omega)))
      have c2 := h1.cell j
      rw [bv_get, upd_get (by simp [exK]) (Nat.le_refl _) (by simp; omega), zeros_get (by omega)] at c2
      simp only [Option.map_some] at c2
      have f2 := h1.frozen j
      go_wp2
      go_roundw
      case rel =>
        refine ⟨j + 1, by omega, by go_num, ?_, h2.far (by simp) _, hB.setCell (by simp) _⟩
        rw [← hs.out, ← bv_set]
        exact h1.set_ j _
      case measure => simp [intOf]; omega
    · obtain rfl : j = 32 := by omega
      rw [upd_all (by simp [exK]) (by simp)] at h1
      go_wp2
      go_loopw [14] (fun i wr => ∃ j : Nat, j ≤ 16 ∧ i = .int .i64 (j : Int) ∧ Blk wr w.heap.size 43 (bv exK) ∧ Blk wr (w.heap.size + 1) 28 (bv (upd exB (zeros 16) j)) ∧ Below w.heap.size w wr) (fun i _ => (16 - intOf i).toNat)
      case atStart => exact ⟨0, Nat.zero_le _, rfl, h1, by rw [upd_zero]; exact h2, hB⟩
      case round =>
        clear h1 h2 hB
        obtain ⟨j, hj, rfl, h1, h2, hB⟩ := hrel
        by_cases hlt : (j : Int) < 16
        · have hs := Lib.hid (upd_set (new := exB) (old := zeros 16) (k := j) (by simp [exB]) (by simp; omega) (mk_get _ (by omega)))
          have c2 := h2.cell j
          rw [bv_get, upd_get (by simp [exB]) (Nat.le_refl _) (by simp; omega), zeros_get (by omega)] at c2
          simp only [Option.map_some] at c2
          have f2 := h2.frozen j
          go_wp2
          go_roundw
          case rel =>
            refine ⟨j + 1, by omega, by go_num, h1.far (by simp) _, ?_, hB.setCell (by simp) _⟩
            rw [← hs.out, ← bv_set]
            exact h2.set_ j _
          case measure => simp [intOf]; omega
        · obtain rfl : j = 16 := by omega
          rw [upd_all (by simp [exB]) (by simp)] at h2
          have hg : w.heap.size + 1 < wr.heap.size := h2.lt
          go_wp2_with (refine wpList_allocA rfl 28 rfl (bv (zeros 16)) (by kernel_rfl) ?_)
          intro w3 h3 hK3 hz3
          have h1 := h1.keeps hK3 (by simp)
          have h2 := h2.keeps hK3 (by simp)
          have hB := hB.trans (hK3.below hB.size (by simp))
          clear hK3
          generalize wr.heap.size = gw at *
          go_wp2_with (refine wpList_storeW rfl 28 (.tmp 5) (.tmp 23) rfl 16 arrB gw rfl (bv exW) rfl 28 _ h3 (by simp [exW]) (by simp) (ones_bv _) ?_)
          intro w4 h4 hK4
          have h1 := Lib.hid (h1.keeps hK4 (by simp; omega))
          have h2 := Lib.hid (h2.keeps hK4 (by simp; omega))
          have hB := Lib.hid (hB.trans (hK4.below hB.size (by simp; omega)))
          have h4 := Lib.hid h4
          clear hK4 h3
          go_wp2
          refine wp_region_held_drew (S := fun w' => w'.rangeAt w.heap.size 0 (bv exK) ∧ w'.rangeAt (w.heap.size + 1) 0 (bv exB) ∧ w'.rangeAt gw 0 (bv exW)) (by kernel_rfl) ⟨h1.out.drew.range 0 32, h2.out.drew.range 0 16, h4.out.drew.range 0 16⟩ (fun hH => ?_)
          refine takeH_load (o := ⟨some 24, _, _, _, _, _⟩) (i := 0) rfl (by kernel_rfl) (by kernel_rfl) (by kernel_rfl) (fun _ _ _ _ h => h) rfl 43 (.tmp 1) rfl 32 arrK _ _ rfl (bv exK) (by simp [exK]) (fun w h => h.1) hH ?_
          simp only [Act.put, List.setIfInBounds_toArray, List.set_cons_zero, List.set_cons_succ, Nat.zero_add, decide_true]
          refine takeH_load (o := ⟨some 25, _, _, _, _, _⟩) (i := 1) rfl (by kernel_rfl) (by kernel_rfl) (by kernel_rfl) (fun _ _ _ _ h => h) rfl 28 (.tmp 2) rfl 16 arrB _ _ rfl (bv exB) (by simp [exB]) (fun w h => h.2.1) hH ?_
          simp only [Act.put, List.setIfInBounds_toArray, List.set_cons_zero, List.set_cons_succ, Nat.zero_add, decide_true]
          refine takeH_load (o := ⟨some 27, _, _, _, _, _⟩) (i := 3) rfl (by kernel_rfl) (by kernel_rfl) (by kernel_rfl) (fun _ _ _ _ h => h) rfl 28 (.tmp 5) rfl 16 arrB _ _ rfl (bv exW) (by simp [exW]) (fun w h => h.2.2) hH ?_
          simp only [Act.put, List.setIfInBounds_toArray, List.set_cons_zero, List.set_cons_succ, Nat.zero_add, decide_true]
          refine wpAnyH_ready (rs := [2]) (by kernel_rfl) (by simp) ?_
          refine AllReadyH.cons rfl (fun K1 hK1 => ?_) AllReadyH.nil
          go_simp
          refine (hseal.out _).mono ?_
          rintro e w5 ⟨rfl, hB5⟩
          refine hK1.out _ _ ⟨(h1.out.drew.keep hB5).range 0 32, (h2.out.drew.keep hB5).range 0 16, (h4.out.drew.keep hB5).range 0 16⟩ (fun hH => ?_)
          clear hK1 K1
          refine takeH_eqlB (o := ⟨some 28, _, _, _, _, _⟩) (i := 4) rfl (by kernel_rfl) (by kernel_rfl) (by kernel_rfl) (fun _ _ _ _ h => h) rfl 28 (.tmp 26) (.tmp 27) 28 rfl 16 arrBB (exW) (exW) rfl rfl rfl rfl hH ?_
          simp only [Act.put, List.setIfInBounds_toArray, List.set_cons_zero, List.set_cons_succ, Nat.zero_add, decide_true]
          refine takeH_move (o := ⟨some 29, _, _, _, _, _⟩) (i := 5) rfl (by kernel_rfl) (by kernel_rfl) (by kernel_rfl) (fun _ _ _ _ h => h) rfl (.tmp 28) rfl _ rfl hH ?_
          simp only [Act.put, List.setIfInBounds_toArray, List.set_cons_zero, List.set_cons_succ, Nat.zero_add, decide_true]
          refine takeH_load (o := ⟨some 30, _, _, _, _, _⟩) (i := 6) rfl (by kernel_rfl) (by kernel_rfl) (by kernel_rfl) (fun _ _ _ _ h => h) rfl 43 (.tmp 1) rfl 32 arrK _ _ rfl (bv exK) (by simp [exK]) (fun w h => h.1) hH ?_
          simp only [Act.put, List.setIfInBounds_toArray, List.set_cons_zero, List.set_cons_succ, Nat.zero_add, decide_true]
          refine takeH_load (o := ⟨some 31, _, _, _, _, _⟩) (i := 7) rfl (by kernel_rfl) (by kernel_rfl) (by kernel_rfl) (fun _ _ _ _ h => h) rfl 28 (.tmp 5) rfl 16 arrB _ _ rfl (bv exW) (by simp [exW]) (fun w h => h.2.2) hH ?_
          simp only [Act.put, List.setIfInBounds_toArray, List.set_cons_zero, List.set_cons_succ, Nat.zero_add, decide_true]
          refine takeH_load (o := ⟨some 33, _, _, _, _, _⟩) (i := 9) rfl (by kernel_rfl) (by kernel_rfl) (by kernel_rfl) (fun _ _ _ _ h => h) rfl 28 (.tmp 2) rfl 16 arrB _ _ rfl (bv exB) (by simp [exB]) (fun w h => h.2.1) hH ?_
          simp only [Act.put, List.setIfInBounds_toArray, List.set_cons_zero, List.set_cons_succ, Nat.zero_add, decide_true]
          refine wpAnyH_ready (rs := [8]) (by kernel_rfl) (by simp) ?_
          refine AllReadyH.cons rfl (fun K1 hK1 => ?_) AllReadyH.nil
          go_simp
          refine (hopen.out _).mono ?_
          rintro e w6 ⟨rfl, hB6⟩
          refine hK1.out _ _ ⟨((h1.out.drew.keep hB5).keep hB6).range 0 32, ((h2.out.drew.keep hB5).keep hB6).range 0 16, ((h4.out.drew.keep hB5).keep hB6).range 0 16⟩ (fun hH => ?_)
          clear hK1 K1
          refine takeH_eqlB (o := ⟨some 34, _, _, _, _, _⟩) (i := 10) rfl (by kernel_rfl) (by kernel_rfl) (by kernel_rfl) (fun _ _ _ _ h => h) rfl 28 (.tmp 32) (.tmp 33) 28 rfl 16 arrBB (exB) (exB) rfl rfl (by simp [exB]) (by simp [exB]) hH ?_
          simp only [Act.put, List.setIfInBounds_toArray, List.set_cons_zero, List.set_cons_succ, Nat.zero_add, decide_true]
          refine takeH_pick (o := ⟨some 35, _, _, _, _, _⟩) (i := 11) rfl (by kernel_rfl) (by kernel_rfl) (by kernel_rfl) (fun _ _ _ _ h => h) rfl (.tmp 29) (.tmp 34) (.const (.bool false)) rfl true rfl _ rfl hH ?_
          simp only [Act.put, List.setIfInBounds_toArray, List.set_cons_zero, List.set_cons_succ, Nat.zero_add, decide_true]
          refine takeH_assign (o := ⟨some 0, _, _, _, _, _⟩) (i := 12) rfl (by kernel_rfl) (by kernel_rfl) (by kernel_rfl) (fun _ _ _ _ h => h) rfl (.tmp 35) rfl _ rfl hH ?_
          simp only [Act.put, List.setIfInBounds_toArray, List.set_cons_zero, List.set_cons_succ, Nat.zero_add, decide_true]
          refine wpAnyH_done (by kernel_rfl) ?_ _
          go_wp2
          go_ret
          exact ⟨rfl, below_call (below_call hB.out.drew hB.out.drew.size hB5) (by have := hB.out.drew.size; have := hB5.size; omega) hB6⟩
end Go.Proofs.Ytmlaopohlmnegaa
