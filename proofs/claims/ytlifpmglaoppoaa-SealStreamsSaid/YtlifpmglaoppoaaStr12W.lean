/- The walk of SealStreams. -/
import Derived.Test.YtlifpmglaoppoaaQ12P4
import Derived.Test.YtlifpmglaoppoaaEqH
import Derived.Deep.DeepCutAuto
set_option linter.unusedVariables false
set_option linter.unusedSimpArgs false
namespace Go.Proofs.Ytlifpmglaoppoaa.w_SealStreams
open Go.RowKit
open Go.Proofs.PlainAes
open Go.Proofs.PlainSha
open Go.Proofs.PlainMac
open Go.Proofs.PlainSeal

theorem arr24 : ArrTy Try.prog 24 32 := ⟨_, Try.underlying24, rfl, by kernel_rfl⟩
theorem fldS0 (g : Nat) (w : World) : (Instr.fieldAt 62 (.pointer (some ⟨g, 0, none⟩)) 0).run Try.prog w = .ok (.pointer (some ⟨g, 0, none⟩)) w := by kernel_rfl
theorem fldS1 (g : Nat) (w : World) : (Instr.fieldAt 62 (.pointer (some ⟨g, 0, none⟩)) 1).run Try.prog w = .ok (.pointer (some ⟨g, 32, none⟩)) w := by kernel_rfl
theorem fldS2 (g : Nat) (w : World) : (Instr.fieldAt 62 (.pointer (some ⟨g, 0, none⟩)) 2).run Try.prog w = .ok (.pointer (some ⟨g, 33, none⟩)) w := by kernel_rfl
theorem fldS3 (g : Nat) (w : World) : (Instr.fieldAt 62 (.pointer (some ⟨g, 0, none⟩)) 3).run Try.prog w = .ok (.pointer (some ⟨g, 34, none⟩)) w := by kernel_rfl
theorem strS {w : World} {g t : Nat} {k : List Nat} {va vb vc : Value} (hk : k.length = 32) (h : Blk w g t (bv k ++ [va, vb, vc])) : w.rangeAt g 0 (bv k) ∧ w.cell? ⟨g, 32, none⟩ = some va ∧ w.cell? ⟨g, 33, none⟩ = some vb ∧ w.cell? ⟨g, 34, none⟩ = some vc := by
  have hkl : (bv k).length = 32 := by simp [hk]
  refine ⟨fun j v hv => ?_, ?_, ?_, ?_⟩
  · rw [h.cell, Nat.zero_add, List.getElem?_append_left (List.getElem?_eq_some_iff.1 hv).1, hv]
  · rw [h.cell, List.getElem?_append_right (by omega), hkl]; rfl
  · rw [h.cell, List.getElem?_append_right (by omega), hkl]; rfl
  · rw [h.cell, List.getElem?_append_right (by omega), hkl]; rfl
theorem str_cells (k : List Nat) (va vb vc : Value) : (bv k ++ [va, vb, vc]).toArray.toList = bv k ++ [va, vb, vc] := rfl
set_option maxRecDepth 100000 in
set_option maxHeartbeats 4000000 in
theorem core (A : Option Addr) (n c b a : Nat) (k l : List Nat) (W : World) (hk : k.length = 32) (bk : Byt k) (hb : (b : Int) ≤ 4294967295) (ha : (a : Int) ≤ 65535) (hs : Sl W (.slice A n c) (bv l)) (bl : Byt l) (hn : n = l.length) (hnI : (n : Int) ≤ 140737488351232) :
    Calls Try.prog 7 #[.agg (bv k ++ ([.int .u32 (b : Int), .int .u16 (a : Int), .slice A n c] : List Value)).toArray] W fun e w' => e = .returned (.bool true) ∧ Below W.heap.size W w' := by
  obtain ⟨ad, had⟩ : ∃ ad, ad = 2 + a % 4000 := ⟨_, rfl⟩
  have hBA : (ad : Int) ≤ 4095 ∧ 2 ≤ (ad : Int) := by omega
  obtain ⟨bd, hbd⟩ : ∃ bd, bd = b + 1 := ⟨_, rfl⟩
  have hBD : (bd : Int) ≤ 4294967296 ∧ 1 ≤ (bd : Int) := by omega
  have hal := Lib.hid (fun w => alive12 w)
  have hba0 := Lib.hid (fun v w (h : Sl w v (bv l)) hl => block12 v l w h bl hl)
  have hbn := Lib.hid (fun w => block12 (.slice none 0 0) [] w (Sl.nil_ w) (fun x h => absurd h (by simp)) (by decide))
  have hsX := Lib.hid (fun v w h => sealed_blk v k (zeros 32) l bd ad w h hk (by simp) bk bl (by omega) hBD.2 hBA.1 hBA.2)
  have hsY := Lib.hid (fun v w h => sealed_blk v k (zeros 32) [] bd ad w h hk (by simp) bk (fun x h => absurd h (by simp)) (by omega) hBD.2 hBA.1 hBA.2)
  have hmade := Lib.hid (fun w => made_ctr bd ad w (by omega) (by omega))
  have hYe : sealL k bd ad (blkL []) = strm k (nonceL bd ad) 0 512 := by rw [blkL_nil]; exact crypt_zeros _ _ _
  have bY := sealL_byt bk bd ad (blkL_byt (l := []) (fun x h => absurd h (by simp)))
  have hstr0 := fun w => stream_any k (nonceL bd ad) 0 512 w hk bk (nonceL_length _ _) (nonceL_byt _ _) (by decide) (by decide)
  rw [← hYe] at hstr0
  have hstr := Lib.hid hstr0
  have hsame := Lib.hid (fun va vb w ha hb => (same_any va vb (sealL k bd ad (blkL [])) (sealL k bd ad (blkL [])) w ha hb bY bY))
  rw [decide_eq_true (rfl : sealL k bd ad (blkL []) = _)] at hsame
  have hsum : Hid (∀ j, j < 512 → gd (sealL k bd ad (blkL l)) j ^^^ gd (sealL k bd ad (blkL [])) j = gd (blkL l) j) := fun j hj => by
    unfold sealL
    rw [gd_crypt _ _ _ (by simpa using hj), gd_crypt _ _ _ (by simpa using hj)]
    have e : gd (blkL []) j = 0 := by unfold blkL; rw [gd_mk _ hj, if_neg (by simp)]
    rw [e, Nat.xor_zero, Nat.xor_comm, ← Nat.xor_assoc, Nat.xor_self, Nat.zero_xor]
  have hXl := Lib.hid (show (sealL k bd ad (blkL l)).length = 512 by simp)
  have hYl := Lib.hid (show (sealL k bd ad (blkL [])).length = 512 by simp)
  have hZl := Lib.hid (blkL_length l)
  have hXb := Lib.hid (sealL_byt bk bd ad (blkL_byt bl))
  have hYb := Lib.hid bY
  have hp1 := Lib.hid (show (pcells ad bd (shaL (sealL k bd ad (blkL l)))).length = 34 by simp)
  have hp2 := Lib.hid (show (pcells ad bd (shaL (sealL k bd ad (blkL [])))).length = 34 by simp)
  have hb1 := Lib.hid (built_key1 k hk)
  have hkl := Lib.hid (show (bv k).length = 32 by simp [hk])
  have hKl := Lib.hid (show (bv (k ++ zeros 32)).length = 64 by simp [hk])
  have hk' := Lib.hid hk
  have sA0 := Lib.hid hs
  have hnA := Lib.hid hn
  clear hstr0 hYe bY bk bl hs hn hk
  generalize shaL (sealL k bd ad (blkL l)) = S1 at *
  generalize shaL (sealL k bd ad (blkL [])) = S2 at *
  generalize sealL k bd ad (blkL l) = X at *
  generalize sealL k bd ad (blkL []) = Y at *
  generalize nonceL bd ad = N at *
  go_enter Try.func7, Try.ntmps7
  go_wp2_with fail
  refine (hal.out _).mono ?_
  rintro e w1 ⟨rfl, hB1⟩
  have h1 : Blk (W.alloc (.cells (bv k ++ ([.int .u32 (b : Int), .int .u16 (a : Int), .slice A n c] : List Value)).toArray 62)) W.heap.size 62 (bv k ++ [.int .u32 (b : Int), .int .u16 (a : Int), .slice A n c]) := Blk.new_at rfl rfl
  have hB : Below W.heap.size W (W.alloc (.cells (bv k ++ ([.int .u32 (b : Int), .int .u16 (a : Int), .slice A n c] : List Value)).toArray 62)) := (Below.refl _ _).alloc (Nat.le_refl _) _
  replace h1 := h1.keep hB1
  replace hB := below_call hB hB.size hB1
  clear hB1
  have hS := Lib.hid (fun w (h : Below w1.heap.size w1 w) => strS hk'.out (h1.keep h))
  clear h1
  go_upto_region 3 with fail
  refine wp_region_held_drew (S := fun w' => Below w1.heap.size w1 w') (by kernel_rfl) ((Below.refl _ _).drew) (fun hH => ?_)
  refine takeH_field (o := ⟨some 22, _, _, _, _, _⟩) (i := 0) rfl (by kernel_rfl) (by kernel_rfl) (by kernel_rfl) (fun _ _ _ _ h => h) rfl 62 (.tmp 1) 0 rfl W.heap.size 0 rfl (fun w => fldS0 _ w) hH ?_
  simp only [Act.put, List.setIfInBounds_toArray, List.set_cons_zero, List.set_cons_succ, Nat.zero_add, decide_true, beq_self_eq_true]
  refine takeH_load (o := ⟨some 23, _, _, _, _, _⟩) (i := 1) rfl (by kernel_rfl) (by kernel_rfl) (by kernel_rfl) (fun _ _ _ _ h => h) rfl 24 (.tmp 22) rfl 32 arr24 W.heap.size 0 rfl (bv k) hkl.out (fun w h => (hS.out w h).1) hH ?_
  simp only [Act.put, List.setIfInBounds_toArray, List.set_cons_zero, List.set_cons_succ, Nat.zero_add, decide_true, beq_self_eq_true]
  refine takeH_field (o := ⟨some 24, _, _, _, _, _⟩) (i := 2) rfl (by kernel_rfl) (by kernel_rfl) (by kernel_rfl) (fun _ _ _ _ h => h) rfl 62 (.tmp 1) 1 rfl W.heap.size 32 rfl (fun w => fldS1 _ w) hH ?_
  simp only [Act.put, List.setIfInBounds_toArray, List.set_cons_zero, List.set_cons_succ, Nat.zero_add, decide_true, beq_self_eq_true]
  refine takeH_cell (o := ⟨some 25, _, _, _, _, _⟩) (i := 3) rfl (by kernel_rfl) (by kernel_rfl) (by kernel_rfl) (fun _ _ _ _ h => h) rfl 35 (.tmp 24) rfl Try.underlying35 rfl W.heap.size 32 rfl (.int .u32 (b : Int)) (fun w h => (hS.out w h).2.1) hH ?_
  simp only [Act.put, List.setIfInBounds_toArray, List.set_cons_zero, List.set_cons_succ, Nat.zero_add, decide_true, beq_self_eq_true]
  refine takeH_field (o := ⟨some 26, _, _, _, _, _⟩) (i := 4) rfl (by kernel_rfl) (by kernel_rfl) (by kernel_rfl) (fun _ _ _ _ h => h) rfl 62 (.tmp 1) 2 rfl W.heap.size 33 rfl (fun w => fldS2 _ w) hH ?_
  simp only [Act.put, List.setIfInBounds_toArray, List.set_cons_zero, List.set_cons_succ, Nat.zero_add, decide_true, beq_self_eq_true]
  refine takeH_cell (o := ⟨some 27, _, _, _, _, _⟩) (i := 5) rfl (by kernel_rfl) (by kernel_rfl) (by kernel_rfl) (fun _ _ _ _ h => h) rfl 56 (.tmp 26) rfl Try.underlying56 rfl W.heap.size 33 rfl (.int .u16 (a : Int)) (fun w h => (hS.out w h).2.2.1) hH ?_
  simp only [Act.put, List.setIfInBounds_toArray, List.set_cons_zero, List.set_cons_succ, Nat.zero_add, decide_true, beq_self_eq_true]
  refine takeH_field (o := ⟨some 28, _, _, _, _, _⟩) (i := 6) rfl (by kernel_rfl) (by kernel_rfl) (by kernel_rfl) (fun _ _ _ _ h => h) rfl 62 (.tmp 1) 3 rfl W.heap.size 34 rfl (fun w => fldS3 _ w) hH ?_
  simp only [Act.put, List.setIfInBounds_toArray, List.set_cons_zero, List.set_cons_succ, Nat.zero_add, decide_true, beq_self_eq_true]
  refine takeH_cell (o := ⟨some 29, _, _, _, _, _⟩) (i := 7) rfl (by kernel_rfl) (by kernel_rfl) (by kernel_rfl) (fun _ _ _ _ h => h) rfl 22 (.tmp 28) rfl Try.underlying22 rfl W.heap.size 34 rfl (.slice A n c) (fun w h => (hS.out w h).2.2.2) hH ?_
  simp only [Act.put, List.setIfInBounds_toArray, List.set_cons_zero, List.set_cons_succ, Nat.zero_add, decide_true, beq_self_eq_true]
  refine wpAnyH_ready (rs := [8]) (by kernel_rfl) (by simp) ?_
  refine AllReadyH.cons rfl (fun K1 hK1 => ?_) AllReadyH.nil
  go_simp
  have h3 : Blk (w1.drew.alloc (.cells (bv (zeros 32)).toArray 24)) w1.heap.size 24 (bv (zeros 32)) := Blk.new_at rfl rfl
  refine hK1.out _ _ (hH.alloc hH.size _) (fun hH => ?_)
  clear hK1 K1
  refine wpAnyH_ready (rs := [9]) (by kernel_rfl) (by simp) ?_
  refine AllReadyH.cons rfl (fun K1 hK1 => ?_) AllReadyH.nil
  rw [if_pos (by rfl)]
  refine wp_storeA 24 (.tmp 3) (.tmp 23) rfl 32 arr24 _ _ rfl (bv k) rfl 24 _ h3 hkl.out (by simp) (ones_bv _) ?_
  intro w3 h3b hK3
  simp only [Act.put, List.getElem_toArray, List.getElem_cons_succ, List.getElem_cons_zero, List.setIfInBounds_toArray, List.set_cons_zero, List.set_cons_succ, Nat.zero_add]
  rw [putL_all (by rw [hkl.out]; simp)] at h3b
  refine hK1.out _ _ (hH.trans (hK3.below hH.size (by simp))) (fun hH => ?_)
  clear hK1 K1 h3 hK3
  refine takeH_assign (o := ⟨some 4, _, _, _, _, _⟩) (i := 10) rfl (by kernel_rfl) (by kernel_rfl) (by kernel_rfl) (fun _ _ _ _ h => h) rfl (.tmp 25) rfl (.int .u32 (b : Int)) rfl hH ?_
  simp only [Act.put, List.setIfInBounds_toArray, List.set_cons_zero, List.set_cons_succ, Nat.zero_add, decide_true, beq_self_eq_true]
  refine takeH_assign (o := ⟨some 5, _, _, _, _, _⟩) (i := 11) rfl (by kernel_rfl) (by kernel_rfl) (by kernel_rfl) (fun _ _ _ _ h => h) rfl (.tmp 27) rfl (.int .u16 (a : Int)) rfl hH ?_
  simp only [Act.put, List.setIfInBounds_toArray, List.set_cons_zero, List.set_cons_succ, Nat.zero_add, decide_true, beq_self_eq_true]
  refine takeH_assign (o := ⟨some 6, _, _, _, _, _⟩) (i := 12) rfl (by kernel_rfl) (by kernel_rfl) (by kernel_rfl) (fun _ _ _ _ h => h) rfl (.tmp 29) rfl (.slice A n c) rfl hH ?_
  simp only [Act.put, List.setIfInBounds_toArray, List.set_cons_zero, List.set_cons_succ, Nat.zero_add, decide_true, beq_self_eq_true]
  refine wpAnyH_done (by kernel_rfl) ?_ _
  have hg3 := Lib.hid hB.size
  replace hB := below_call hB hB.size hH
  clear hH hS
  have h3 := h3b
  clear h3b
  have hg3l := Lib.hid h3.lt
  generalize w1.heap.size = g3 at *
  by_cases hlt : (600 : Int) < (n : Int)
  · go_wp2
    go_ret
    exact ⟨rfl, hB⟩
  have d1 : decide ((600 : Int) < (n : Int)) = false := by simp; omega
  have hba := Lib.hid (fun v w h => hba0.out v w h (by rw [← hnA.out]; omega))
  clear hlt hnA hba0
  obtain ⟨r, hr⟩ : ∃ r, Hid (r = a % 4000) := ⟨_, rfl⟩
  have q1 : Int.tmod (a : Int) 4000 = (r : Int) := by rw [hr.out, Int.tmod_eq_emod_of_nonneg (by omega)]; omega
  have q1' : (a : Int) % 4000 = (r : Int) := by rw [hr.out]; omega
  have q2 : (2 : Int) + (r : Int) = (ad : Int) := by have := hr.out; omega
  have q3 : IntKind.u32.wrap (ad : Int) = (ad : Int) := by rw [IntKind.wrap_u32]; omega
  have q4 : (b : Int) + 1 = (bd : Int) := by omega
  have q5 : IntKind.u64.wrap (bd : Int) = (bd : Int) := by rw [IntKind.wrap_u64]; omega
  clear had hbd hBA hBD
  have hg9 := Lib.hid hB.size
  go_wp2_with (first
    | refine wpList_loadW rfl 24 (.tmp 3) rfl 32 arr24 _ rfl 24 _ h3 hkl.out ?_
    | refine wpList_buildV rfl 28 _ rfl _ rfl (bv (k ++ zeros 32)) hb1.out ?_
    | refine wpList_allocA rfl 28 rfl (bv (zeros 64)) ks_zero ?_)
  intro w4 h9 hK4 hz4
  replace hB := hB.trans (hK4.below hB.size (by simp))
  replace h3 := h3.keeps hK4 (by simp)
  clear hK4 hz4
  generalize w3.heap.size = g9 at *
  go_wp2_with (refine wpList_storeW rfl 28 (.tmp 9) (.tmp 41) rfl 64 arrKs _ rfl (bv (k ++ zeros 32)) rfl 28 _ h9 hKl.out (by simp) (ones_bv _) ?_)
  intro wr h9b hK5
  replace h9 := h9b
  replace h3 := h3.keeps hK5 (by simp; have := hg3l.out; omega)
  replace hB := hB.trans (hK5.below hB.size (by intro b hb; simp only [List.mem_singleton] at hb; subst hb; exact hg9.out))
  clear hK5 h9b hg9 hg3l
  have sA := Lib.hid (sA0.out.keep hB)
  clear sA0
  go_upto_region 8 with fail
  go_cut [10, 11, 12] (fun s2 s3 s4 wx => ∃ (Av : Option Addr) (cv g3 : Nat), s2 = .slice Av 512 cv ∧ s3 = .pointer (some ⟨g3, 0, none⟩) ∧ s4 = .int .i64 0 ∧ Blk wx g3 41 (pcells ad bd S1) ∧ wx.ownsRow wr.heap.size 5 1 (.slice Av 512 cv) 512 (bv X) ∧ Below wr.heap.size wr wx ∧ wr.heap.size ≤ g3 ∧ ∀ k, (Value.slice Av 512 cv).ownBlock = some k → k ≠ g3)
  case first =>
    refine wp_region_held_drew (S := fun w' => Below wr.heap.size wr w') (by kernel_rfl) ((Below.refl _ _).drew) (fun hH => ?_)
    refine takeH_load (o := ⟨some 43, _, _, _, _, _⟩) (i := 0) rfl (by kernel_rfl) (by kernel_rfl) (by kernel_rfl) (fun _ _ _ _ h => h) rfl 28 (.tmp 9) rfl 64 arrKs g9 0 rfl (bv (k ++ zeros 32)) hKl.out (fun w h => hSS (h9.keep h) hKl.out) hH ?_
    simp only [Act.put, List.setIfInBounds_toArray, List.set_cons_zero, List.set_cons_succ, Nat.zero_add, decide_true, beq_self_eq_true]
    refine takeH_move (o := ⟨some 44, _, _, _, _, _⟩) (i := 1) rfl (by kernel_rfl) (by kernel_rfl) (by kernel_rfl) (fun _ _ _ _ h => h) rfl (.tmp 7) rfl (.int .u64 (bd : Int)) rfl hH ?_
    simp only [Act.put, List.setIfInBounds_toArray, List.set_cons_zero, List.set_cons_succ, Nat.zero_add, decide_true, beq_self_eq_true]
    refine takeH_move (o := ⟨some 45, _, _, _, _, _⟩) (i := 2) rfl (by kernel_rfl) (by kernel_rfl) (by kernel_rfl) (fun _ _ _ _ h => h) rfl (.tmp 8) rfl (.int .u32 (ad : Int)) rfl hH ?_
    simp only [Act.put, List.setIfInBounds_toArray, List.set_cons_zero, List.set_cons_succ, Nat.zero_add, decide_true, beq_self_eq_true]
    refine takeH_move (o := ⟨some 46, _, _, _, _, _⟩) (i := 3) rfl (by kernel_rfl) (by kernel_rfl) (by kernel_rfl) (fun _ _ _ _ h => h) rfl (.tmp 6) rfl (.slice A n c) rfl hH ?_
    simp only [Act.put, List.setIfInBounds_toArray, List.set_cons_zero, List.set_cons_succ, Nat.zero_add, decide_true, beq_self_eq_true]
    refine wpAnyH_ready (rs := [4, 10]) (by kernel_rfl) (by simp) ?_
    refine AllReadyH.cons rfl (fun K1 hK1 => ?_) (AllReadyH.cons rfl (fun K1 hK1 => ?_) AllReadyH.nil)
    · rw [if_pos (by rfl)]
      go_wp2_with fail
      refine (hba.out _ _ (sA.out.keep hH)).mono ?_
      rintro e w1 ⟨gb2, rfl, -, hk3, hBa⟩
      refine hK1.out _ _ (below_call hH hH.size hBa) (fun hH => ?_)
      clear hK1 K1 hBa
      refine wpAnyH_ready (rs := [5, 10]) (by kernel_rfl) (by simp) ?_
      refine AllReadyH.cons rfl (fun K1 hK1 => ?_) (AllReadyH.cons rfl (fun K1 hK1 => ?_) AllReadyH.nil)
      · rw [if_pos (by rfl)]
        go_wp2_with fail
        refine (hsX.out _ _ (blk_sl hk3 (blkL_length _))).mono ?_
        rintro e w4 ⟨A7, c8, rfl, oc6, hBa⟩
        have oc5 := Lib.hid (ownsRow_mono oc6 hH.size)
        refine hK1.out _ _ (below_call hH hH.size hBa) (fun hH => ?_)
        clear hK1 K1 hBa oc6
        refine takeH_move (o := ⟨some 42, _, _, _, _, _⟩) (i := 6) rfl (by kernel_rfl) (by kernel_rfl) (by kernel_rfl) (fun _ _ _ _ h => h) rfl (.tmp 48) rfl (.tuple #[(.slice A7 512 c8), .agg (pcells ad bd S1).toArray, .int .i64 0]) rfl hH ?_
        simp only [Act.put, List.setIfInBounds_toArray, List.set_cons_zero, List.set_cons_succ, Nat.zero_add, decide_true, beq_self_eq_true]
        refine takeH_S (o := ⟨some 49, _, _, _, _, _⟩) (i := 7) rfl (by kernel_rfl) (by kernel_rfl) (by kernel_rfl) (fun _ _ _ _ h => h) rfl (.slice A7 512 c8) (fun w _ => by go_simp) hH ?_
        simp only [Act.put, List.setIfInBounds_toArray, List.set_cons_zero, List.set_cons_succ, Nat.zero_add, decide_true, beq_self_eq_true]
        refine takeH_S (o := ⟨some 50, _, _, _, _, _⟩) (i := 8) rfl (by kernel_rfl) (by kernel_rfl) (by kernel_rfl) (fun _ _ _ _ h => h) rfl (.agg (pcells ad bd S1).toArray) (fun w _ => by go_simp) hH ?_
        simp only [Act.put, List.setIfInBounds_toArray, List.set_cons_zero, List.set_cons_succ, Nat.zero_add, decide_true, beq_self_eq_true]
        refine takeH_S (o := ⟨some 51, _, _, _, _, _⟩) (i := 9) rfl (by kernel_rfl) (by kernel_rfl) (by kernel_rfl) (fun _ _ _ _ h => h) rfl (.int .i64 0) (fun w _ => by go_simp) hH ?_
        simp only [Act.put, List.setIfInBounds_toArray, List.set_cons_zero, List.set_cons_succ, Nat.zero_add, decide_true, beq_self_eq_true]
        refine wpAnyH_ready (rs := [10]) (by kernel_rfl) (by simp) ?_
        refine AllReadyH.cons rfl (fun K1 hK1 => ?_) AllReadyH.nil
        · go_simp
          have q0 : w4.heap.size = w4.heap.size := by rfl
          have q : w4.heap.size = w4.heap.size := q0
          have hb9 : Blk (w4.alloc (.cells (pcells 0 0 (zeros 32)).toArray 41)) w4.heap.size 41 (pcells 0 0 (zeros 32)) := by rw [← q0]; exact Blk.new_at (w := w4) rfl rfl
          have ne11 := Lib.hid (own_ne2 oc5.out (g := w4.heap.size) (by rw [← q]; exact Nat.le_refl _))
          have oc10 := Lib.hid (oc5.out.alloc (.cells (pcells 0 0 (zeros 32)).toArray 41))
          have ge12 : Hid (wr.heap.size ≤ w4.heap.size) := by show _ ≤ _; rw [← q]; exact hH.size
          refine hK1.out _ _ (hH.alloc hH.size (.cells (pcells 0 0 (zeros 32)).toArray 41)) (fun hH => ?_)
          clear hK1 K1 q q0
          refine takeH_assign (o := ⟨some 10, _, _, _, _, _⟩) (i := 11) rfl (by kernel_rfl) (by kernel_rfl) (by kernel_rfl) (fun _ _ _ _ h => h) rfl (.tmp 49) rfl (.slice A7 512 c8) rfl hH ?_
          simp only [Act.put, List.setIfInBounds_toArray, List.set_cons_zero, List.set_cons_succ, Nat.zero_add, decide_true, beq_self_eq_true]
          refine wpAnyH_ready (rs := [12]) (by kernel_rfl) (by simp) ?_
          refine AllReadyH.cons rfl (fun K1 hK1 => ?_) AllReadyH.nil
          · rw [if_pos (by rfl)]
            refine wp_storeA 41 (.tmp 11) (.tmp 50) rfl 34 arrPt _ _ rfl (pcells ad bd S1) rfl 41 _ hb9 hp1.out (by simp) (pcells_ones _ _ _) ?_
            intro w13 hb14 hKb
            simp only [Act.put, List.getElem_toArray, List.getElem_cons_succ, List.getElem_cons_zero, List.setIfInBounds_toArray, List.set_cons_zero, List.set_cons_succ, Nat.zero_add]
            rw [putL_all (by rw [hp1.out]; simp)] at hb14
            have oc15 := Lib.hid (own_keeps oc10.out hKb (fun k _ hk hm => ne11.out k hk (by simpa using hm)))
            refine hK1.out _ _ (hH.trans (hKb.below hH.size (by intro b hb; simp only [List.mem_singleton] at hb; subst hb; exact ge12.out))) (fun hH => ?_)
            clear hK1 K1 hKb
            refine takeH_assign (o := ⟨some 12, _, _, _, _, _⟩) (i := 13) rfl (by kernel_rfl) (by kernel_rfl) (by kernel_rfl) (fun _ _ _ _ h => h) rfl (.tmp 51) rfl (.int .i64 0) rfl hH ?_
            simp only [Act.put, List.setIfInBounds_toArray, List.set_cons_zero, List.set_cons_succ, Nat.zero_add, decide_true, beq_self_eq_true]
            refine wpAnyH_done (by kernel_rfl) ?_ _
            go_wp2_with fail
            go_meet
            exact ⟨_, _, _, rfl, rfl, rfl, hb14, oc15.out, hH, ge12.out, ne11.out⟩
      · go_simp
        have q0 : w1.heap.size = w1.heap.size := by rfl
        have q : w1.heap.size = w1.heap.size := q0
        have hb16 : Blk (w1.alloc (.cells (pcells 0 0 (zeros 32)).toArray 41)) w1.heap.size 41 (pcells 0 0 (zeros 32)) := by rw [← q0]; exact Blk.new_at (w := w1) rfl rfl
        have hb17 := hk3.alloc (.cells (pcells 0 0 (zeros 32)).toArray 41)
        have ge18 : Hid (wr.heap.size ≤ w1.heap.size) := by show _ ≤ _; rw [← q]; exact hH.size
        refine hK1.out _ _ (hH.alloc hH.size (.cells (pcells 0 0 (zeros 32)).toArray 41)) (fun hH => ?_)
        clear hK1 K1 q q0
        refine wpAnyH_ready (rs := [5]) (by kernel_rfl) (by simp) ?_
        refine AllReadyH.cons rfl (fun K1 hK1 => ?_) AllReadyH.nil
        · rw [if_pos (by rfl)]
          go_wp2_with fail
          refine (hsX.out _ _ (blk_sl hb17 (blkL_length _))).mono ?_
          rintro e w19 ⟨A22, c23, rfl, oc21, hBa⟩
          have ne25 := Lib.hid (own_ne oc21 hb16.lt)
          have hb24 := hb16.keep hBa
          have oc20 := Lib.hid (ownsRow_mono oc21 hH.size)
          refine hK1.out _ _ (below_call hH hH.size hBa) (fun hH => ?_)
          clear hK1 K1 hBa oc21
          refine takeH_move (o := ⟨some 42, _, _, _, _, _⟩) (i := 6) rfl (by kernel_rfl) (by kernel_rfl) (by kernel_rfl) (fun _ _ _ _ h => h) rfl (.tmp 48) rfl (.tuple #[(.slice A22 512 c23), .agg (pcells ad bd S1).toArray, .int .i64 0]) rfl hH ?_
          simp only [Act.put, List.setIfInBounds_toArray, List.set_cons_zero, List.set_cons_succ, Nat.zero_add, decide_true, beq_self_eq_true]
          refine takeH_S (o := ⟨some 49, _, _, _, _, _⟩) (i := 7) rfl (by kernel_rfl) (by kernel_rfl) (by kernel_rfl) (fun _ _ _ _ h => h) rfl (.slice A22 512 c23) (fun w _ => by go_simp) hH ?_
          simp only [Act.put, List.setIfInBounds_toArray, List.set_cons_zero, List.set_cons_succ, Nat.zero_add, decide_true, beq_self_eq_true]
          refine takeH_S (o := ⟨some 50, _, _, _, _, _⟩) (i := 8) rfl (by kernel_rfl) (by kernel_rfl) (by kernel_rfl) (fun _ _ _ _ h => h) rfl (.agg (pcells ad bd S1).toArray) (fun w _ => by go_simp) hH ?_
          simp only [Act.put, List.setIfInBounds_toArray, List.set_cons_zero, List.set_cons_succ, Nat.zero_add, decide_true, beq_self_eq_true]
          refine takeH_S (o := ⟨some 51, _, _, _, _, _⟩) (i := 9) rfl (by kernel_rfl) (by kernel_rfl) (by kernel_rfl) (fun _ _ _ _ h => h) rfl (.int .i64 0) (fun w _ => by go_simp) hH ?_
          simp only [Act.put, List.setIfInBounds_toArray, List.set_cons_zero, List.set_cons_succ, Nat.zero_add, decide_true, beq_self_eq_true]
          refine takeH_assign (o := ⟨some 10, _, _, _, _, _⟩) (i := 11) rfl (by kernel_rfl) (by kernel_rfl) (by kernel_rfl) (fun _ _ _ _ h => h) rfl (.tmp 49) rfl (.slice A22 512 c23) rfl hH ?_
          simp only [Act.put, List.setIfInBounds_toArray, List.set_cons_zero, List.set_cons_succ, Nat.zero_add, decide_true, beq_self_eq_true]
          refine wpAnyH_ready (rs := [12]) (by kernel_rfl) (by simp) ?_
          refine AllReadyH.cons rfl (fun K1 hK1 => ?_) AllReadyH.nil
          · rw [if_pos (by rfl)]
            refine wp_storeA 41 (.tmp 11) (.tmp 50) rfl 34 arrPt _ _ rfl (pcells ad bd S1) rfl 41 _ hb24 hp1.out (by simp) (pcells_ones _ _ _) ?_
            intro w26 hb27 hKb
            simp only [Act.put, List.getElem_toArray, List.getElem_cons_succ, List.getElem_cons_zero, List.setIfInBounds_toArray, List.set_cons_zero, List.set_cons_succ, Nat.zero_add]
            rw [putL_all (by rw [hp1.out]; simp)] at hb27
            have oc28 := Lib.hid (own_keeps oc20.out hKb (fun k _ hk hm => ne25.out k hk (by simpa using hm)))
            refine hK1.out _ _ (hH.trans (hKb.below hH.size (by intro b hb; simp only [List.mem_singleton] at hb; subst hb; exact ge18.out))) (fun hH => ?_)
            clear hK1 K1 hKb
            refine takeH_assign (o := ⟨some 12, _, _, _, _, _⟩) (i := 13) rfl (by kernel_rfl) (by kernel_rfl) (by kernel_rfl) (fun _ _ _ _ h => h) rfl (.tmp 51) rfl (.int .i64 0) rfl hH ?_
            simp only [Act.put, List.setIfInBounds_toArray, List.set_cons_zero, List.set_cons_succ, Nat.zero_add, decide_true, beq_self_eq_true]
            refine wpAnyH_done (by kernel_rfl) ?_ _
            go_wp2_with fail
            go_meet
            exact ⟨_, _, _, rfl, rfl, rfl, hb27, oc28.out, hH, ge18.out, ne25.out⟩
    · go_simp
      have q0 : wr.heap.size = wr.heap.size := by rfl
      have q : wr.drew.heap.size = wr.heap.size := q0
      have hb29 : Blk (wr.alloc (.cells (pcells 0 0 (zeros 32)).toArray 41)).drew wr.heap.size 41 (pcells 0 0 (zeros 32)) := by rw [← q0]; exact Blk.new_at (w := wr) rfl rfl
      have ge30 : Hid (wr.heap.size ≤ wr.heap.size) := by show _ ≤ _; rw [← q]; exact hH.size
      refine hK1.out _ _ (hH.alloc hH.size (.cells (pcells 0 0 (zeros 32)).toArray 41)) (fun hH => ?_)
      clear hK1 K1 q q0
      refine wpAnyH_ready (rs := [4]) (by kernel_rfl) (by simp) ?_
      refine AllReadyH.cons rfl (fun K1 hK1 => ?_) AllReadyH.nil
      · rw [if_pos (by rfl)]
        go_wp2_with fail
        refine (hba.out _ _ (sA.out.keep hH)).mono ?_
        rintro e w31 ⟨gb32, rfl, -, hk33, hBa⟩
        have hb34 := hb29.keep hBa
        refine hK1.out _ _ (below_call hH hH.size hBa) (fun hH => ?_)
        clear hK1 K1 hBa
        refine wpAnyH_ready (rs := [5]) (by kernel_rfl) (by simp) ?_
        refine AllReadyH.cons rfl (fun K1 hK1 => ?_) AllReadyH.nil
        · rw [if_pos (by rfl)]
          go_wp2_with fail
          refine (hsX.out _ _ (blk_sl hk33 (blkL_length _))).mono ?_
          rintro e w35 ⟨A38, c39, rfl, oc37, hBa⟩
          have ne41 := Lib.hid (own_ne oc37 hb34.lt)
          have hb40 := hb34.keep hBa
          have oc36 := Lib.hid (ownsRow_mono oc37 hH.size)
          refine hK1.out _ _ (below_call hH hH.size hBa) (fun hH => ?_)
          clear hK1 K1 hBa oc37
          refine takeH_move (o := ⟨some 42, _, _, _, _, _⟩) (i := 6) rfl (by kernel_rfl) (by kernel_rfl) (by kernel_rfl) (fun _ _ _ _ h => h) rfl (.tmp 48) rfl (.tuple #[(.slice A38 512 c39), .agg (pcells ad bd S1).toArray, .int .i64 0]) rfl hH ?_
          simp only [Act.put, List.setIfInBounds_toArray, List.set_cons_zero, List.set_cons_succ, Nat.zero_add, decide_true, beq_self_eq_true]
          refine takeH_S (o := ⟨some 49, _, _, _, _, _⟩) (i := 7) rfl (by kernel_rfl) (by kernel_rfl) (by kernel_rfl) (fun _ _ _ _ h => h) rfl (.slice A38 512 c39) (fun w _ => by go_simp) hH ?_
          simp only [Act.put, List.setIfInBounds_toArray, List.set_cons_zero, List.set_cons_succ, Nat.zero_add, decide_true, beq_self_eq_true]
          refine takeH_S (o := ⟨some 50, _, _, _, _, _⟩) (i := 8) rfl (by kernel_rfl) (by kernel_rfl) (by kernel_rfl) (fun _ _ _ _ h => h) rfl (.agg (pcells ad bd S1).toArray) (fun w _ => by go_simp) hH ?_
          simp only [Act.put, List.setIfInBounds_toArray, List.set_cons_zero, List.set_cons_succ, Nat.zero_add, decide_true, beq_self_eq_true]
          refine takeH_S (o := ⟨some 51, _, _, _, _, _⟩) (i := 9) rfl (by kernel_rfl) (by kernel_rfl) (by kernel_rfl) (fun _ _ _ _ h => h) rfl (.int .i64 0) (fun w _ => by go_simp) hH ?_
          simp only [Act.put, List.setIfInBounds_toArray, List.set_cons_zero, List.set_cons_succ, Nat.zero_add, decide_true, beq_self_eq_true]
          refine takeH_assign (o := ⟨some 10, _, _, _, _, _⟩) (i := 11) rfl (by kernel_rfl) (by kernel_rfl) (by kernel_rfl) (fun _ _ _ _ h => h) rfl (.tmp 49) rfl (.slice A38 512 c39) rfl hH ?_
          simp only [Act.put, List.setIfInBounds_toArray, List.set_cons_zero, List.set_cons_succ, Nat.zero_add, decide_true, beq_self_eq_true]
          refine wpAnyH_ready (rs := [12]) (by kernel_rfl) (by simp) ?_
          refine AllReadyH.cons rfl (fun K1 hK1 => ?_) AllReadyH.nil
          · rw [if_pos (by rfl)]
            refine wp_storeA 41 (.tmp 11) (.tmp 50) rfl 34 arrPt _ _ rfl (pcells ad bd S1) rfl 41 _ hb40 hp1.out (by simp) (pcells_ones _ _ _) ?_
            intro w42 hb43 hKb
            simp only [Act.put, List.getElem_toArray, List.getElem_cons_succ, List.getElem_cons_zero, List.setIfInBounds_toArray, List.set_cons_zero, List.set_cons_succ, Nat.zero_add]
            rw [putL_all (by rw [hp1.out]; simp)] at hb43
            have oc44 := Lib.hid (own_keeps oc36.out hKb (fun k _ hk hm => ne41.out k hk (by simpa using hm)))
            refine hK1.out _ _ (hH.trans (hKb.below hH.size (by intro b hb; simp only [List.mem_singleton] at hb; subst hb; exact ge30.out))) (fun hH => ?_)
            clear hK1 K1 hKb
            refine takeH_assign (o := ⟨some 12, _, _, _, _, _⟩) (i := 13) rfl (by kernel_rfl) (by kernel_rfl) (by kernel_rfl) (fun _ _ _ _ h => h) rfl (.tmp 51) rfl (.int .i64 0) rfl hH ?_
            simp only [Act.put, List.setIfInBounds_toArray, List.set_cons_zero, List.set_cons_succ, Nat.zero_add, decide_true, beq_self_eq_true]
            refine wpAnyH_done (by kernel_rfl) ?_ _
            go_wp2_with fail
            go_meet
            exact ⟨_, _, _, rfl, rfl, rfl, hb43, oc44.out, hH, ge30.out, ne41.out⟩
  case rest =>
  rename World => wz
  obtain ⟨AX, cX, gX, rfl, rfl, rfl, -, oX, hBr, -, -⟩ := hcut
  replace oX := Lib.hid (Sl.of_own oX)
  replace hB := below_call hB hB.size hBr
  replace h9 := h9.keep hBr
  replace h3 := h3.keep hBr
  replace sA := Lib.hid (sA.out.keep hBr)
  clear hBr
  rename World => wr
  go_upto_region 9 with fail
  go_cut [13, 14, 15] (fun s2 s3 s4 wx => ∃ (Av : Option Addr) (cv g3 : Nat), s2 = .slice Av 512 cv ∧ s3 = .pointer (some ⟨g3, 0, none⟩) ∧ s4 = .int .i64 0 ∧ Blk wx g3 41 (pcells ad bd S2) ∧ wx.ownsRow wr.heap.size 5 1 (.slice Av 512 cv) 512 (bv Y) ∧ Below wr.heap.size wr wx ∧ wr.heap.size ≤ g3 ∧ ∀ k, (Value.slice Av 512 cv).ownBlock = some k → k ≠ g3)
  case first =>
    refine wp_region_held_drew (S := fun w' => Below wr.heap.size wr w') (by kernel_rfl) ((Below.refl _ _).drew) (fun hH => ?_)
    refine takeH_load (o := ⟨some 53, _, _, _, _, _⟩) (i := 0) rfl (by kernel_rfl) (by kernel_rfl) (by kernel_rfl) (fun _ _ _ _ h => h) rfl 28 (.tmp 9) rfl 64 arrKs g9 0 rfl (bv (k ++ zeros 32)) hKl.out (fun w h => hSS (h9.keep h) hKl.out) hH ?_
    simp only [Act.put, List.setIfInBounds_toArray, List.set_cons_zero, List.set_cons_succ, Nat.zero_add, decide_true, beq_self_eq_true]
    refine takeH_move (o := ⟨some 54, _, _, _, _, _⟩) (i := 1) rfl (by kernel_rfl) (by kernel_rfl) (by kernel_rfl) (fun _ _ _ _ h => h) rfl (.tmp 7) rfl (.int .u64 (bd : Int)) rfl hH ?_
    simp only [Act.put, List.setIfInBounds_toArray, List.set_cons_zero, List.set_cons_succ, Nat.zero_add, decide_true, beq_self_eq_true]
    refine takeH_move (o := ⟨some 55, _, _, _, _, _⟩) (i := 2) rfl (by kernel_rfl) (by kernel_rfl) (by kernel_rfl) (fun _ _ _ _ h => h) rfl (.tmp 8) rfl (.int .u32 (ad : Int)) rfl hH ?_
    simp only [Act.put, List.setIfInBounds_toArray, List.set_cons_zero, List.set_cons_succ, Nat.zero_add, decide_true, beq_self_eq_true]
    refine wpAnyH_ready (rs := [3, 9]) (by kernel_rfl) (by simp) ?_
    refine AllReadyH.cons rfl (fun K1 hK1 => ?_) (AllReadyH.cons rfl (fun K1 hK1 => ?_) AllReadyH.nil)
    · rw [if_pos (by rfl)]
      go_wp2_with fail
      refine (hbn.out _).mono ?_
      rintro e w45 ⟨gb46, rfl, -, hk47, hBa⟩
      refine hK1.out _ _ (below_call hH hH.size hBa) (fun hH => ?_)
      clear hK1 K1 hBa
      refine wpAnyH_ready (rs := [4, 9]) (by kernel_rfl) (by simp) ?_
      refine AllReadyH.cons rfl (fun K1 hK1 => ?_) (AllReadyH.cons rfl (fun K1 hK1 => ?_) AllReadyH.nil)
      · rw [if_pos (by rfl)]
        go_wp2_with fail
        refine (hsY.out _ _ (blk_sl hk47 (blkL_length _))).mono ?_
        rintro e w48 ⟨A51, c52, rfl, oc50, hBa⟩
        have oc49 := Lib.hid (ownsRow_mono oc50 hH.size)
        refine hK1.out _ _ (below_call hH hH.size hBa) (fun hH => ?_)
        clear hK1 K1 hBa oc50
        refine takeH_move (o := ⟨some 52, _, _, _, _, _⟩) (i := 5) rfl (by kernel_rfl) (by kernel_rfl) (by kernel_rfl) (fun _ _ _ _ h => h) rfl (.tmp 57) rfl (.tuple #[(.slice A51 512 c52), .agg (pcells ad bd S2).toArray, .int .i64 0]) rfl hH ?_
        simp only [Act.put, List.setIfInBounds_toArray, List.set_cons_zero, List.set_cons_succ, Nat.zero_add, decide_true, beq_self_eq_true]
        refine takeH_S (o := ⟨some 58, _, _, _, _, _⟩) (i := 6) rfl (by kernel_rfl) (by kernel_rfl) (by kernel_rfl) (fun _ _ _ _ h => h) rfl (.slice A51 512 c52) (fun w _ => by go_simp) hH ?_
        simp only [Act.put, List.setIfInBounds_toArray, List.set_cons_zero, List.set_cons_succ, Nat.zero_add, decide_true, beq_self_eq_true]
        refine takeH_S (o := ⟨some 59, _, _, _, _, _⟩) (i := 7) rfl (by kernel_rfl) (by kernel_rfl) (by kernel_rfl) (fun _ _ _ _ h => h) rfl (.agg (pcells ad bd S2).toArray) (fun w _ => by go_simp) hH ?_
        simp only [Act.put, List.setIfInBounds_toArray, List.set_cons_zero, List.set_cons_succ, Nat.zero_add, decide_true, beq_self_eq_true]
        refine takeH_S (o := ⟨some 60, _, _, _, _, _⟩) (i := 8) rfl (by kernel_rfl) (by kernel_rfl) (by kernel_rfl) (fun _ _ _ _ h => h) rfl (.int .i64 0) (fun w _ => by go_simp) hH ?_
        simp only [Act.put, List.setIfInBounds_toArray, List.set_cons_zero, List.set_cons_succ, Nat.zero_add, decide_true, beq_self_eq_true]
        refine wpAnyH_ready (rs := [9]) (by kernel_rfl) (by simp) ?_
        refine AllReadyH.cons rfl (fun K1 hK1 => ?_) AllReadyH.nil
        · go_simp
          have q0 : w48.heap.size = w48.heap.size := by rfl
          have q : w48.heap.size = w48.heap.size := q0
          have hb53 : Blk (w48.alloc (.cells (pcells 0 0 (zeros 32)).toArray 41)) w48.heap.size 41 (pcells 0 0 (zeros 32)) := by rw [← q0]; exact Blk.new_at (w := w48) rfl rfl
          have ne55 := Lib.hid (own_ne2 oc49.out (g := w48.heap.size) (by rw [← q]; exact Nat.le_refl _))
          have oc54 := Lib.hid (oc49.out.alloc (.cells (pcells 0 0 (zeros 32)).toArray 41))
          have ge56 : Hid (wr.heap.size ≤ w48.heap.size) := by show _ ≤ _; rw [← q]; exact hH.size
          refine hK1.out _ _ (hH.alloc hH.size (.cells (pcells 0 0 (zeros 32)).toArray 41)) (fun hH => ?_)
          clear hK1 K1 q q0
          refine takeH_assign (o := ⟨some 13, _, _, _, _, _⟩) (i := 10) rfl (by kernel_rfl) (by kernel_rfl) (by kernel_rfl) (fun _ _ _ _ h => h) rfl (.tmp 58) rfl (.slice A51 512 c52) rfl hH ?_
          simp only [Act.put, List.setIfInBounds_toArray, List.set_cons_zero, List.set_cons_succ, Nat.zero_add, decide_true, beq_self_eq_true]
          refine wpAnyH_ready (rs := [11]) (by kernel_rfl) (by simp) ?_
          refine AllReadyH.cons rfl (fun K1 hK1 => ?_) AllReadyH.nil
          · rw [if_pos (by rfl)]
            refine wp_storeA 41 (.tmp 14) (.tmp 59) rfl 34 arrPt _ _ rfl (pcells ad bd S2) rfl 41 _ hb53 hp2.out (by simp) (pcells_ones _ _ _) ?_
            intro w57 hb58 hKb
            simp only [Act.put, List.getElem_toArray, List.getElem_cons_succ, List.getElem_cons_zero, List.setIfInBounds_toArray, List.set_cons_zero, List.set_cons_succ, Nat.zero_add]
            rw [putL_all (by rw [hp2.out]; simp)] at hb58
            have oc59 := Lib.hid (own_keeps oc54.out hKb (fun k _ hk hm => ne55.out k hk (by simpa using hm)))
            refine hK1.out _ _ (hH.trans (hKb.below hH.size (by intro b hb; simp only [List.mem_singleton] at hb; subst hb; exact ge56.out))) (fun hH => ?_)
            clear hK1 K1 hKb
            refine takeH_assign (o := ⟨some 15, _, _, _, _, _⟩) (i := 12) rfl (by kernel_rfl) (by kernel_rfl) (by kernel_rfl) (fun _ _ _ _ h => h) rfl (.tmp 60) rfl (.int .i64 0) rfl hH ?_
            simp only [Act.put, List.setIfInBounds_toArray, List.set_cons_zero, List.set_cons_succ, Nat.zero_add, decide_true, beq_self_eq_true]
            refine wpAnyH_done (by kernel_rfl) ?_ _
            go_wp2_with fail
            go_meet
            exact ⟨_, _, _, rfl, rfl, rfl, hb58, oc59.out, hH, ge56.out, ne55.out⟩
      · go_simp
        have q0 : w45.heap.size = w45.heap.size := by rfl
        have q : w45.heap.size = w45.heap.size := q0
        have hb60 : Blk (w45.alloc (.cells (pcells 0 0 (zeros 32)).toArray 41)) w45.heap.size 41 (pcells 0 0 (zeros 32)) := by rw [← q0]; exact Blk.new_at (w := w45) rfl rfl
        have hb61 := hk47.alloc (.cells (pcells 0 0 (zeros 32)).toArray 41)
        have ge62 : Hid (wr.heap.size ≤ w45.heap.size) := by show _ ≤ _; rw [← q]; exact hH.size
        refine hK1.out _ _ (hH.alloc hH.size (.cells (pcells 0 0 (zeros 32)).toArray 41)) (fun hH => ?_)
        clear hK1 K1 q q0
        refine wpAnyH_ready (rs := [4]) (by kernel_rfl) (by simp) ?_
        refine AllReadyH.cons rfl (fun K1 hK1 => ?_) AllReadyH.nil
        · rw [if_pos (by rfl)]
          go_wp2_with fail
          refine (hsY.out _ _ (blk_sl hb61 (blkL_length _))).mono ?_
          rintro e w63 ⟨A66, c67, rfl, oc65, hBa⟩
          have ne69 := Lib.hid (own_ne oc65 hb60.lt)
          have hb68 := hb60.keep hBa
          have oc64 := Lib.hid (ownsRow_mono oc65 hH.size)
          refine hK1.out _ _ (below_call hH hH.size hBa) (fun hH => ?_)
          clear hK1 K1 hBa oc65
          refine takeH_move (o := ⟨some 52, _, _, _, _, _⟩) (i := 5) rfl (by kernel_rfl) (by kernel_rfl) (by kernel_rfl) (fun _ _ _ _ h => h) rfl (.tmp 57) rfl (.tuple #[(.slice A66 512 c67), .agg (pcells ad bd S2).toArray, .int .i64 0]) rfl hH ?_
          simp only [Act.put, List.setIfInBounds_toArray, List.set_cons_zero, List.set_cons_succ, Nat.zero_add, decide_true, beq_self_eq_true]
          refine takeH_S (o := ⟨some 58, _, _, _, _, _⟩) (i := 6) rfl (by kernel_rfl) (by kernel_rfl) (by kernel_rfl) (fun _ _ _ _ h => h) rfl (.slice A66 512 c67) (fun w _ => by go_simp) hH ?_
          simp only [Act.put, List.setIfInBounds_toArray, List.set_cons_zero, List.set_cons_succ, Nat.zero_add, decide_true, beq_self_eq_true]
          refine takeH_S (o := ⟨some 59, _, _, _, _, _⟩) (i := 7) rfl (by kernel_rfl) (by kernel_rfl) (by kernel_rfl) (fun _ _ _ _ h => h) rfl (.agg (pcells ad bd S2).toArray) (fun w _ => by go_simp) hH ?_
          simp only [Act.put, List.setIfInBounds_toArray, List.set_cons_zero, List.set_cons_succ, Nat.zero_add, decide_true, beq_self_eq_true]
          refine takeH_S (o := ⟨some 60, _, _, _, _, _⟩) (i := 8) rfl (by kernel_rfl) (by kernel_rfl) (by kernel_rfl) (fun _ _ _ _ h => h) rfl (.int .i64 0) (fun w _ => by go_simp) hH ?_
          simp only [Act.put, List.setIfInBounds_toArray, List.set_cons_zero, List.set_cons_succ, Nat.zero_add, decide_true, beq_self_eq_true]
          refine takeH_assign (o := ⟨some 13, _, _, _, _, _⟩) (i := 10) rfl (by kernel_rfl) (by kernel_rfl) (by kernel_rfl) (fun _ _ _ _ h => h) rfl (.tmp 58) rfl (.slice A66 512 c67) rfl hH ?_
          simp only [Act.put, List.setIfInBounds_toArray, List.set_cons_zero, List.set_cons_succ, Nat.zero_add, decide_true, beq_self_eq_true]
          refine wpAnyH_ready (rs := [11]) (by kernel_rfl) (by simp) ?_
          refine AllReadyH.cons rfl (fun K1 hK1 => ?_) AllReadyH.nil
          · rw [if_pos (by rfl)]
            refine wp_storeA 41 (.tmp 14) (.tmp 59) rfl 34 arrPt _ _ rfl (pcells ad bd S2) rfl 41 _ hb68 hp2.out (by simp) (pcells_ones _ _ _) ?_
            intro w70 hb71 hKb
            simp only [Act.put, List.getElem_toArray, List.getElem_cons_succ, List.getElem_cons_zero, List.setIfInBounds_toArray, List.set_cons_zero, List.set_cons_succ, Nat.zero_add]
            rw [putL_all (by rw [hp2.out]; simp)] at hb71
            have oc72 := Lib.hid (own_keeps oc64.out hKb (fun k _ hk hm => ne69.out k hk (by simpa using hm)))
            refine hK1.out _ _ (hH.trans (hKb.below hH.size (by intro b hb; simp only [List.mem_singleton] at hb; subst hb; exact ge62.out))) (fun hH => ?_)
            clear hK1 K1 hKb
            refine takeH_assign (o := ⟨some 15, _, _, _, _, _⟩) (i := 12) rfl (by kernel_rfl) (by kernel_rfl) (by kernel_rfl) (fun _ _ _ _ h => h) rfl (.tmp 60) rfl (.int .i64 0) rfl hH ?_
            simp only [Act.put, List.setIfInBounds_toArray, List.set_cons_zero, List.set_cons_succ, Nat.zero_add, decide_true, beq_self_eq_true]
            refine wpAnyH_done (by kernel_rfl) ?_ _
            go_wp2_with fail
            go_meet
            exact ⟨_, _, _, rfl, rfl, rfl, hb71, oc72.out, hH, ge62.out, ne69.out⟩
    · go_simp
      have q0 : wr.heap.size = wr.heap.size := by rfl
      have q : wr.drew.heap.size = wr.heap.size := q0
      have hb73 : Blk (wr.alloc (.cells (pcells 0 0 (zeros 32)).toArray 41)).drew wr.heap.size 41 (pcells 0 0 (zeros 32)) := by rw [← q0]; exact Blk.new_at (w := wr) rfl rfl
      have ge74 : Hid (wr.heap.size ≤ wr.heap.size) := by show _ ≤ _; rw [← q]; exact hH.size
      refine hK1.out _ _ (hH.alloc hH.size (.cells (pcells 0 0 (zeros 32)).toArray 41)) (fun hH => ?_)
      clear hK1 K1 q q0
      refine wpAnyH_ready (rs := [3]) (by kernel_rfl) (by simp) ?_
      refine AllReadyH.cons rfl (fun K1 hK1 => ?_) AllReadyH.nil
      · rw [if_pos (by rfl)]
        go_wp2_with fail
        refine (hbn.out _).mono ?_
        rintro e w75 ⟨gb76, rfl, -, hk77, hBa⟩
        have hb78 := hb73.keep hBa
        refine hK1.out _ _ (below_call hH hH.size hBa) (fun hH => ?_)
        clear hK1 K1 hBa
        refine wpAnyH_ready (rs := [4]) (by kernel_rfl) (by simp) ?_
        refine AllReadyH.cons rfl (fun K1 hK1 => ?_) AllReadyH.nil
        · rw [if_pos (by rfl)]
          go_wp2_with fail
          refine (hsY.out _ _ (blk_sl hk77 (blkL_length _))).mono ?_
          rintro e w79 ⟨A82, c83, rfl, oc81, hBa⟩
          have ne85 := Lib.hid (own_ne oc81 hb78.lt)
          have hb84 := hb78.keep hBa
          have oc80 := Lib.hid (ownsRow_mono oc81 hH.size)
          refine hK1.out _ _ (below_call hH hH.size hBa) (fun hH => ?_)
          clear hK1 K1 hBa oc81
          refine takeH_move (o := ⟨some 52, _, _, _, _, _⟩) (i := 5) rfl (by kernel_rfl) (by kernel_rfl) (by kernel_rfl) (fun _ _ _ _ h => h) rfl (.tmp 57) rfl (.tuple #[(.slice A82 512 c83), .agg (pcells ad bd S2).toArray, .int .i64 0]) rfl hH ?_
          simp only [Act.put, List.setIfInBounds_toArray, List.set_cons_zero, List.set_cons_succ, Nat.zero_add, decide_true, beq_self_eq_true]
          refine takeH_S (o := ⟨some 58, _, _, _, _, _⟩) (i := 6) rfl (by kernel_rfl) (by kernel_rfl) (by kernel_rfl) (fun _ _ _ _ h => h) rfl (.slice A82 512 c83) (fun w _ => by go_simp) hH ?_
          simp only [Act.put, List.setIfInBounds_toArray, List.set_cons_zero, List.set_cons_succ, Nat.zero_add, decide_true, beq_self_eq_true]
          refine takeH_S (o := ⟨some 59, _, _, _, _, _⟩) (i := 7) rfl (by kernel_rfl) (by kernel_rfl) (by kernel_rfl) (fun _ _ _ _ h => h) rfl (.agg (pcells ad bd S2).toArray) (fun w _ => by go_simp) hH ?_
          simp only [Act.put, List.setIfInBounds_toArray, List.set_cons_zero, List.set_cons_succ, Nat.zero_add, decide_true, beq_self_eq_true]
          refine takeH_S (o := ⟨some 60, _, _, _, _, _⟩) (i := 8) rfl (by kernel_rfl) (by kernel_rfl) (by kernel_rfl) (fun _ _ _ _ h => h) rfl (.int .i64 0) (fun w _ => by go_simp) hH ?_
          simp only [Act.put, List.setIfInBounds_toArray, List.set_cons_zero, List.set_cons_succ, Nat.zero_add, decide_true, beq_self_eq_true]
          refine takeH_assign (o := ⟨some 13, _, _, _, _, _⟩) (i := 10) rfl (by kernel_rfl) (by kernel_rfl) (by kernel_rfl) (fun _ _ _ _ h => h) rfl (.tmp 58) rfl (.slice A82 512 c83) rfl hH ?_
          simp only [Act.put, List.setIfInBounds_toArray, List.set_cons_zero, List.set_cons_succ, Nat.zero_add, decide_true, beq_self_eq_true]
          refine wpAnyH_ready (rs := [11]) (by kernel_rfl) (by simp) ?_
          refine AllReadyH.cons rfl (fun K1 hK1 => ?_) AllReadyH.nil
          · rw [if_pos (by rfl)]
            refine wp_storeA 41 (.tmp 14) (.tmp 59) rfl 34 arrPt _ _ rfl (pcells ad bd S2) rfl 41 _ hb84 hp2.out (by simp) (pcells_ones _ _ _) ?_
            intro w86 hb87 hKb
            simp only [Act.put, List.getElem_toArray, List.getElem_cons_succ, List.getElem_cons_zero, List.setIfInBounds_toArray, List.set_cons_zero, List.set_cons_succ, Nat.zero_add]
            rw [putL_all (by rw [hp2.out]; simp)] at hb87
            have oc88 := Lib.hid (own_keeps oc80.out hKb (fun k _ hk hm => ne85.out k hk (by simpa using hm)))
            refine hK1.out _ _ (hH.trans (hKb.below hH.size (by intro b hb; simp only [List.mem_singleton] at hb; subst hb; exact ge74.out))) (fun hH => ?_)
            clear hK1 K1 hKb
            refine takeH_assign (o := ⟨some 15, _, _, _, _, _⟩) (i := 12) rfl (by kernel_rfl) (by kernel_rfl) (by kernel_rfl) (fun _ _ _ _ h => h) rfl (.tmp 60) rfl (.int .i64 0) rfl hH ?_
            simp only [Act.put, List.setIfInBounds_toArray, List.set_cons_zero, List.set_cons_succ, Nat.zero_add, decide_true, beq_self_eq_true]
            refine wpAnyH_done (by kernel_rfl) ?_ _
            go_wp2_with fail
            go_meet
            exact ⟨_, _, _, rfl, rfl, rfl, hb87, oc88.out, hH, ge74.out, ne85.out⟩
  case rest =>
  rename World => wz
  obtain ⟨AY, cY, gY, rfl, rfl, rfl, -, oY, hBr, -, -⟩ := hcut
  replace oY := Lib.hid (Sl.of_own oY)
  replace hB := below_call hB hB.size hBr
  replace h9 := h9.keep hBr
  replace h3 := h3.keep hBr
  replace sA := Lib.hid (sA.out.keep hBr)
  replace oX := Lib.hid (oX.out.keep hBr)
  clear hBr
  rename World => wr
  clear hsX hsY hbn h9
  go_upto_region 10 with fail
  refine wp_region_held_drew (S := fun w' => Below wr.heap.size wr w') (by kernel_rfl) ((Below.refl _ _).drew) (fun hH => ?_)
  refine takeH_load (o := ⟨some 62, _, _, _, _, _⟩) (i := 0) rfl (by kernel_rfl) (by kernel_rfl) (by kernel_rfl) (fun _ _ _ _ h => h) rfl 24 (.tmp 3) rfl 32 arr24 g3 0 rfl (bv k) hkl.out (fun w h => hSS (h3.keep h) hkl.out) hH ?_
  simp only [Act.put, List.setIfInBounds_toArray, List.set_cons_zero, List.set_cons_succ, Nat.zero_add, decide_true, beq_self_eq_true]
  refine takeH_move (o := ⟨some 63, _, _, _, _, _⟩) (i := 1) rfl (by kernel_rfl) (by kernel_rfl) (by kernel_rfl) (fun _ _ _ _ h => h) rfl (.tmp 7) rfl (.int .u64 (bd : Int)) rfl hH ?_
  simp only [Act.put, List.setIfInBounds_toArray, List.set_cons_zero, List.set_cons_succ, Nat.zero_add, decide_true, beq_self_eq_true]
  refine takeH_move (o := ⟨some 64, _, _, _, _, _⟩) (i := 2) rfl (by kernel_rfl) (by kernel_rfl) (by kernel_rfl) (fun _ _ _ _ h => h) rfl (.tmp 8) rfl (.int .u32 (ad : Int)) rfl hH ?_
  simp only [Act.put, List.setIfInBounds_toArray, List.set_cons_zero, List.set_cons_succ, Nat.zero_add, decide_true, beq_self_eq_true]
  refine wpAnyH_ready (rs := [3]) (by kernel_rfl) (by simp) ?_
  refine AllReadyH.cons rfl (fun K1 hK1 => ?_) AllReadyH.nil
  rw [if_pos (by rfl)]
  go_wp2_with fail
  refine (hmade.out _).mono ?_
  rintro e wa ⟨rfl, hBa⟩
  refine hK1.out _ _ (below_call hH hH.size hBa) (fun hH => ?_)
  clear hK1 K1
  refine wpAnyH_ready (rs := [4]) (by kernel_rfl) (by simp) ?_
  refine AllReadyH.cons rfl (fun K1 hK1 => ?_) AllReadyH.nil
  rw [if_pos (by rfl)]
  go_wp2_with fail
  refine (hstr.out _).mono ?_
  rintro e wa ⟨v, rfl, os, hBa⟩
  replace os := Lib.hid (Sl.of_own os)
  refine hK1.out _ _ (below_call hH hH.size hBa) (fun hH => ?_)
  clear hK1 K1
  refine takeH_move (o := ⟨some 61, _, _, _, _, _⟩) (i := 5) rfl (by kernel_rfl) (by kernel_rfl) (by kernel_rfl) (fun _ _ _ _ h => h) rfl (.tmp 66) rfl (.tuple #[v, .int .i64 0]) rfl hH ?_
  simp only [Act.put, List.setIfInBounds_toArray, List.set_cons_zero, List.set_cons_succ, Nat.zero_add, decide_true, beq_self_eq_true]
  refine takeH_S (o := ⟨some 67, _, _, _, _, _⟩) (i := 6) rfl (by kernel_rfl) (by kernel_rfl) (by kernel_rfl) (fun _ _ _ _ h => h) rfl v (fun w _ => by go_simp) hH ?_
  simp only [Act.put, List.setIfInBounds_toArray, List.set_cons_zero, List.set_cons_succ, Nat.zero_add, decide_true, beq_self_eq_true]
  refine takeH_S (o := ⟨some 68, _, _, _, _, _⟩) (i := 7) rfl (by kernel_rfl) (by kernel_rfl) (by kernel_rfl) (fun _ _ _ _ h => h) rfl (.int .i64 0) (fun w _ => by go_simp) hH ?_
  simp only [Act.put, List.setIfInBounds_toArray, List.set_cons_zero, List.set_cons_succ, Nat.zero_add, decide_true, beq_self_eq_true]
  refine takeH_assign (o := ⟨some 16, _, _, _, _, _⟩) (i := 8) rfl (by kernel_rfl) (by kernel_rfl) (by kernel_rfl) (fun _ _ _ _ h => h) rfl (.tmp 67) rfl v rfl hH ?_
  simp only [Act.put, List.setIfInBounds_toArray, List.set_cons_zero, List.set_cons_succ, Nat.zero_add, decide_true, beq_self_eq_true]
  refine takeH_assign (o := ⟨some 17, _, _, _, _, _⟩) (i := 9) rfl (by kernel_rfl) (by kernel_rfl) (by kernel_rfl) (fun _ _ _ _ h => h) rfl (.tmp 68) rfl (.int .i64 0) rfl hH ?_
  simp only [Act.put, List.setIfInBounds_toArray, List.set_cons_zero, List.set_cons_succ, Nat.zero_add, decide_true, beq_self_eq_true]
  refine wpAnyH_done (by kernel_rfl) ?_ _
  replace hB := below_call hB hB.size hH
  replace sA := Lib.hid (sA.out.keep hH)
  replace oX := Lib.hid (oX.out.keep hH)
  replace oY := Lib.hid (oY.out.keep hH)
  clear hH h3 hmade hstr
  go_wp2_with fail
  refine (hsame.out _ _ _ oY.out os.out).mono ?_
  rintro e wq ⟨rfl, rfl⟩
  clear os
  go_wp2_with fail
  refine (hba.out _ _ sA.out).mono ?_
  rintro e wb ⟨gb, rfl, -, hz, hBz⟩
  replace hB := below_call hB hB.size hBz
  replace oX := Lib.hid (oX.out.keep hBz)
  replace oY := Lib.hid (oY.out.keep hBz)
  have sz := Lib.hid (blk_sl hz hZl.out)
  replace hB := Lib.hid hB
  clear hBz sA hba hz hsame q1 q1' q2 q3 q4 q5
  go_wp2
  go_loopw [88] (fun i wr => ∃ j : Nat, (j : Int) ≤ 512 ∧ i = .int .i64 (j : Int) ∧ Below wb.heap.size wb wr) (fun i _ => 512 - (intOf i).toNat)
  case atStart => exact ⟨0, by omega, rfl, Below.refl _ _⟩
  case round =>
    obtain ⟨j, hj, rfl, hBr⟩ := hrel
    by_cases hjl : (j : Int) < 512
    · obtain ⟨gx, ox, rfl, cx⟩ := (oX.out.keep hBr).at_ (k := j) (u := .int .u8 ((gd X j : Nat) : Int)) (by rw [bv_get, gd_get (by rw [hXl.out]; omega)]; rfl)
      obtain ⟨gy, oy, rfl, cy⟩ := (oY.out.keep hBr).at_ (k := j) (u := .int .u8 ((gd Y j : Nat) : Int)) (by rw [bv_get, gd_get (by rw [hYl.out]; omega)]; rfl)
      obtain ⟨gz, oz, ez, cz⟩ := (sz.out.keep hBr).at_ (k := j) (u := .int .u8 ((gd (blkL l) j : Nat) : Int)) (by rw [bv_get, gd_get (by rw [hZl.out]; omega)]; rfl)
      injection ez with ez
      injection ez with ez1 ez2
      subst ez1 ez2
      rw [Nat.zero_add] at cz
      have hx := (x8m (gd_lt hXb.out j) (gd_lt hYb.out j)).1
      rw [hsum.out j (by omega)] at hx
      have hj0 : (0 : Int) ≤ (j : Int) := by omega
      generalize gd X j = x at *
      generalize gd Y j = y at *
      generalize gd (blkL l) j = z at *
      go_wp2
      go_quiet (fail)
      go_wp2
      go_roundw
      case rel => exact ⟨j + 1, by omega, by go_num, below_drewN hBr _⟩
      case measure => simp [intOf]; omega
    · obtain rfl : j = 512 := by omega
      go_wp2
      go_ret
      exact ⟨rfl, below_call hB.out hB.out.size hBr⟩
theorem walk (A : Option Addr) (n c b a : Nat) (k m : List Nat) (W : World) (lk : k.length = 32) (bk : ∀ x ∈ k, x < 256) (hb : (b : Int) ≤ 4294967295) (ha : (a : Int) ≤ 65535) (s1 : Sl W (.slice A n c) (bv m)) (b1 : ∀ x ∈ m, x < 256) (n1 : n = m.length) (l1 : (n : Int) ≤ 140737488351232) :
    Calls Try.prog 7 #[.agg (bv k ++ ([.int .u32 (b : Int), .int .u16 (a : Int), .slice A n c] : List Value)).toArray] W fun e w' => e = .returned (.bool true) ∧ Below W.heap.size W w' :=
  core A n c b a k m W lk bk hb ha s1 b1 n1 l1
end Go.Proofs.Ytlifpmglaoppoaa.w_SealStreams
