/- The walk of SealOthers. -/
import Derived.Test.YtlifpmglaoppoaaQ12P4
import Derived.Test.YtlifpmglaoppoaaPtE
import Derived.Test.YtlifpmglaoppoaaEqH
import Derived.Deep.DeepCutAuto
set_option linter.unusedVariables false
set_option linter.unusedSimpArgs false
namespace Go.Proofs.Ytlifpmglaoppoaa.w_SealOthers
open Go.RowKit
open Go.Proofs.PlainAes
open Go.Proofs.PlainSha
open Go.Proofs.PlainMac
open Go.Proofs.PlainSeal

theorem arr24 : ArrTy Try.prog 24 32 := ⟨_, Try.underlying24, rfl, by kernel_rfl⟩
def RetOp' (C D : List Nat) (S s : List Nat) (w : World) (e : Ending) (w' : World) : Prop :=
  (S = s → ∃ v, e = .returned (.tuple #[v, .int .i64 0]) ∧ Below w.heap.size w w') ∧ (S ≠ s → e = .returned (.tuple #[.slice none 0 0, .int .i64 5]) ∧ Below w.heap.size w w')
set_option maxRecDepth 100000 in
set_option maxHeartbeats 4000000 in
theorem core (A A2 : Option Addr) (n c n2 c2 : Nat) (K la lb : List Nat) (W : World) (hn : n = la.length) (hn2 : n2 = lb.length) (hs : Sl W (.slice A n c) (bv la)) (hs2 : Sl W (.slice A2 n2 c2) (bv lb)) (hK : K.length = 32) (bK : Byt K) (ba : Byt la) (bb : Byt lb) (hla : (la.length : Int) ≤ 140737488355328) (hlb : (lb.length : Int) ≤ 140737488355328) :
    Calls Try.prog 8 #[.agg (bv K).toArray, .slice A n c, .slice A2 n2 c2] W fun e w' => e = .returned (.bool true) ∧ Below W.heap.size W w' := by
  have hal := Lib.hid (fun w => alive12 w)
  have hba := Lib.hid (fun v w (h : Sl w v (bv la)) hl => block12 v la w h ba hl)
  have hbb := Lib.hid (fun v w (h : Sl w v (bv lb)) hl => block12 v lb w h bb hl)
  have hs5 := Lib.hid (fun v w h => sealed_blk v K (zeros 32) la 4 5 w h hK (by simp) bK ba (by decide) (by decide) (by decide) (by decide))
  have hs6 := Lib.hid (fun v w h => sealed_blk v K (zeros 32) lb 4 6 w h hK (by simp) bK bb (by decide) (by decide) (by decide) (by decide))
  have bX := sealL_byt bK 4 5 (blkL_byt ba)
  have bY := sealL_byt bK 4 6 (blkL_byt bb)
  have hXl : (sealL K 4 5 (blkL la)).length = 512 := by simp
  have hYl : (sealL K 4 6 (blkL lb)).length = 512 := by simp
  have hS1 := Lib.hid (shaL_len (sealL K 4 5 (blkL la)))
  have hS2 := Lib.hid (shaL_len (sealL K 4 6 (blkL lb)))
  have hsx := Lib.hid (fun v w (h : Sl w v (bv (sealL K 4 5 (blkL la)))) => shasum_any _ v w h bX (by rw [hXl]; decide))
  have hsy := Lib.hid (fun v w (h : Sl w v (bv (sealL K 4 6 (blkL lb)))) => shasum_any _ v w h bY (by rw [hYl]; decide))
  have hop1 := Lib.hid (fun v w (h : Sl w v (bv (sealL K 4 5 (blkL la)))) => (opened_any v K (zeros 32) (sealL K 4 5 (blkL la)) (shaL (sealL K 4 6 (blkL lb))) 4 6 w h hK (by simp) bK bX hXl (shaL_len _) (by decide) (by decide)).mono (fun e w' h => (⟨fun h1 => (h.1 h1).imp fun v h2 => ⟨h2.1, h2.2.2⟩, h.2⟩ : RetOp' [] [] (shaL (sealL K 4 5 (blkL la))) (shaL (sealL K 4 6 (blkL lb))) w e w')))
  have hop2 := Lib.hid (fun v w (h : Sl w v (bv (sealL K 4 6 (blkL lb)))) => (opened_any v K (zeros 32) (sealL K 4 6 (blkL lb)) (shaL (sealL K 4 5 (blkL la))) 4 5 w h hK (by simp) bK bY hYl (shaL_len _) (by decide) (by decide)).mono (fun e w' h => (⟨fun h1 => (h.1 h1).imp fun v h2 => ⟨h2.1, h2.2.2⟩, h.2⟩ : RetOp' [] [] (shaL (sealL K 4 6 (blkL lb))) (shaL (sealL K 4 5 (blkL la))) w e w')))
  have hXS : Hid (sealL K 4 5 (blkL la) = sealL K 4 6 (blkL lb) → shaL (sealL K 4 5 (blkL la)) = shaL (sealL K 4 6 (blkL lb))) := fun h => by rw [h]
  have hxx := Lib.hid (fun va vb w ha hb => (same_any va vb _ _ w ha hb bX bX))
  have hxy := Lib.hid (fun va vb w ha hb => (same_any va vb _ _ w ha hb bX bY))
  rw [decide_eq_true (rfl : sealL K 4 5 (blkL la) = _)] at hxx
  have hb1 := Lib.hid (built_key1 K hK)
  have hkl := Lib.hid (show (bv K).length = 32 by simp [hK])
  have hKl := Lib.hid (show (bv (K ++ zeros 32)).length = 64 by simp [hK])
  have hp1 := Lib.hid (show (pcells 5 4 (shaL (sealL K 4 5 (blkL la)))).length = 34 by simp)
  have hp2 := Lib.hid (show (pcells 6 4 (shaL (sealL K 4 6 (blkL lb)))).length = 34 by simp)
  have sA := Lib.hid hs
  have sB := Lib.hid hs2
  have hnA := Lib.hid hn
  have hnB := Lib.hid hn2
  have hnI : (n : Int) ≤ 140737488355328 := by omega
  have hnI2 : (n2 : Int) ≤ 140737488355328 := by omega
  clear bX bY hXl hYl hs hs2 hn hn2 hla hlb hK bK
  generalize shaL (sealL K 4 5 (blkL la)) = S1 at *
  generalize shaL (sealL K 4 6 (blkL lb)) = S2 at *
  generalize sealL K 4 5 (blkL la) = X at *
  generalize sealL K 4 6 (blkL lb) = Y at *
  go_enter Try.func8, Try.ntmps8
  go_wp2_with fail
  refine (hal.out _).mono ?_
  rintro e w1 ⟨rfl, hB1⟩
  have h3 : Blk (W.alloc (.cells (bv K).toArray 24)) W.heap.size 24 (bv K) := Blk.new_at rfl rfl
  have hB : Below W.heap.size W (W.alloc (.cells (bv K).toArray 24)) := (Below.refl _ _).alloc (Nat.le_refl _) _
  replace h3 := h3.keep hB1
  replace hB := below_call hB hB.size hB1
  clear hB1
  by_cases hlt : (600 : Int) < (n : Int)
  · go_wp2
    go_ret
    exact ⟨rfl, hB⟩
  by_cases hlt2 : (600 : Int) < (n2 : Int)
  · go_wp2
    go_ret
    exact ⟨rfl, hB⟩
  have d1 : decide ((600 : Int) < (n : Int)) = false := by simp; omega
  have d2 : decide ((600 : Int) < (n2 : Int)) = false := by simp; omega
  replace hba := Lib.hid (fun v w h => hba.out v w h (by rw [← hnA.out]; omega))
  replace hbb := Lib.hid (fun v w h => hbb.out v w h (by rw [← hnB.out]; omega))
  clear hlt hlt2 hnA hnB
  · have hg7 := Lib.hid hB.size
    go_wp2_with (first
      | refine wpList_loadW rfl 24 (.tmp 3) rfl 32 arr24 _ rfl 24 _ h3 hkl.out ?_
      | refine wpList_buildV rfl 28 _ rfl _ rfl (bv (K ++ zeros 32)) hb1.out ?_
      | refine wpList_allocA rfl 28 rfl (bv (zeros 64)) ks_zero ?_)
    intro w2 h7 hK2 hz2
    replace hB := hB.trans (hK2.below hB.size (by simp))
    have hgl := Lib.hid h7.lt
    clear hK2 hz2 h3
    have hg7' : Hid (W.heap.size ≤ w1.heap.size) := hg7
    generalize w1.heap.size = g7 at *
    go_wp2_with (refine wpList_storeW rfl 28 (.tmp 7) (.tmp 32) rfl 64 arrKs _ rfl (bv (K ++ zeros 32)) rfl 28 _ h7 hKl.out (by simp) (ones_bv _) ?_)
    intro wr h7b hK3
    replace h7 := h7b
    replace hB := hB.trans (hK3.below hB.size (by intro b hb; simp only [List.mem_singleton] at hb; subst hb; exact hg7'.out))
    replace sA := Lib.hid (sA.out.keep hB)
    replace sB := Lib.hid (sB.out.keep hB)
    clear hK3
    go_upto_region 6 with fail
    go_cut [8, 9, 10] (fun s2 s3 s4 wx => ∃ (Av : Option Addr) (cv g3 : Nat), s2 = .slice Av 512 cv ∧ s3 = .pointer (some ⟨g3, 0, none⟩) ∧ s4 = .int .i64 0 ∧ Blk wx g3 41 (pcells 5 4 S1) ∧ wx.ownsRow wr.heap.size 5 1 (.slice Av 512 cv) 512 (bv X) ∧ Below wr.heap.size wr wx ∧ wr.heap.size ≤ g3 ∧ ∀ k, (Value.slice Av 512 cv).ownBlock = some k → k ≠ g3)
    case first =>
      refine wp_region_held_drew (S := fun w' => Below wr.heap.size wr w') (by kernel_rfl) ((Below.refl _ _).drew) (fun hH => ?_)
      refine takeH_load (o := ⟨some 34, _, _, _, _, _⟩) (i := 0) rfl (by kernel_rfl) (by kernel_rfl) (by kernel_rfl) (fun _ _ _ _ h => h) rfl 28 (.tmp 7) rfl 64 arrKs g7 0 rfl (bv (K ++ zeros 32)) hKl.out (fun w h => hSS (h7.keep h) hKl.out) hH ?_
      simp only [Act.put, List.setIfInBounds_toArray, List.set_cons_zero, List.set_cons_succ, Nat.zero_add, decide_true, beq_self_eq_true]
      refine takeH_move (o := ⟨some 35, _, _, _, _, _⟩) (i := 1) rfl (by kernel_rfl) (by kernel_rfl) (by kernel_rfl) (fun _ _ _ _ h => h) rfl (.tmp 1) rfl (.slice A n c) rfl hH ?_
      simp only [Act.put, List.setIfInBounds_toArray, List.set_cons_zero, List.set_cons_succ, Nat.zero_add, decide_true, beq_self_eq_true]
      refine wpAnyH_ready (rs := [2, 8]) (by kernel_rfl) (by simp) ?_
      refine AllReadyH.cons rfl (fun K1 hK1 => ?_) (AllReadyH.cons rfl (fun K1 hK1 => ?_) AllReadyH.nil)
      · rw [if_pos (by rfl)]
        go_wp2_with fail
        refine (hba.out _ _ (sA.out.keep hH)).mono ?_
        rintro e w1 ⟨gb2, rfl, -, hk3, hBa⟩
        refine hK1.out _ _ (below_call hH hH.size hBa) (fun hH => ?_)
        clear hK1 K1 hBa
        refine wpAnyH_ready (rs := [3, 8]) (by kernel_rfl) (by simp) ?_
        refine AllReadyH.cons rfl (fun K1 hK1 => ?_) (AllReadyH.cons rfl (fun K1 hK1 => ?_) AllReadyH.nil)
        · rw [if_pos (by rfl)]
          go_wp2_with fail
          refine (hs5.out _ _ (blk_sl hk3 (blkL_length _))).mono ?_
          rintro e w4 ⟨A7, c8, rfl, oc6, hBa⟩
          have oc5 := Lib.hid (ownsRow_mono oc6 hH.size)
          refine hK1.out _ _ (below_call hH hH.size hBa) (fun hH => ?_)
          clear hK1 K1 hBa oc6
          refine takeH_move (o := ⟨some 33, _, _, _, _, _⟩) (i := 4) rfl (by kernel_rfl) (by kernel_rfl) (by kernel_rfl) (fun _ _ _ _ h => h) rfl (.tmp 37) rfl (.tuple #[(.slice A7 512 c8), .agg (pcells 5 4 S1).toArray, .int .i64 0]) rfl hH ?_
          simp only [Act.put, List.setIfInBounds_toArray, List.set_cons_zero, List.set_cons_succ, Nat.zero_add, decide_true, beq_self_eq_true]
          refine takeH_S (o := ⟨some 38, _, _, _, _, _⟩) (i := 5) rfl (by kernel_rfl) (by kernel_rfl) (by kernel_rfl) (fun _ _ _ _ h => h) rfl (.slice A7 512 c8) (fun w _ => by go_simp) hH ?_
          simp only [Act.put, List.setIfInBounds_toArray, List.set_cons_zero, List.set_cons_succ, Nat.zero_add, decide_true, beq_self_eq_true]
          refine takeH_S (o := ⟨some 39, _, _, _, _, _⟩) (i := 6) rfl (by kernel_rfl) (by kernel_rfl) (by kernel_rfl) (fun _ _ _ _ h => h) rfl (.agg (pcells 5 4 S1).toArray) (fun w _ => by go_simp) hH ?_
          simp only [Act.put, List.setIfInBounds_toArray, List.set_cons_zero, List.set_cons_succ, Nat.zero_add, decide_true, beq_self_eq_true]
          refine takeH_S (o := ⟨some 40, _, _, _, _, _⟩) (i := 7) rfl (by kernel_rfl) (by kernel_rfl) (by kernel_rfl) (fun _ _ _ _ h => h) rfl (.int .i64 0) (fun w _ => by go_simp) hH ?_
          simp only [Act.put, List.setIfInBounds_toArray, List.set_cons_zero, List.set_cons_succ, Nat.zero_add, decide_true, beq_self_eq_true]
          refine wpAnyH_ready (rs := [8]) (by kernel_rfl) (by simp) ?_
          refine AllReadyH.cons rfl (fun K1 hK1 => ?_) AllReadyH.nil
          · go_simp
            have q0 : w4.heap.size = w4.heap.size := by rfl
            have q : w4.heap.size = w4.heap.size := q0
            have hb9 : Blk (w4.alloc (.cells (pcells 0 0 (zeros 32)).toArray 41)) w4.heap.size 41 (pcells 0 0 (zeros 32)) := by rw [← q0]; exact Blk.new_at (w := w4) rfl rfl
            have ne11 := Lib.hid (own_ne2 oc5.out (g := w4.heap.size) (by rw [← q]; exact Nat.le_refl _))
            have oc10 := Lib.hid (oc5.out.alloc (.cells (pcells 0 0 (zeros 32)).toArray 41))
            have ge12 : Hid (wr.heap.size ≤ w4.heap.size) := by show _ ≤ _; rw [← q]; exact hH.size
            refine hK1.out _ _ (hH.alloc hH.size (.cells (pcells 0 0 (zeros 32)).toArray 41)) (fun hH => ?_)
            clear hK1 K1 q q0
            refine takeH_assign (o := ⟨some 8, _, _, _, _, _⟩) (i := 9) rfl (by kernel_rfl) (by kernel_rfl) (by kernel_rfl) (fun _ _ _ _ h => h) rfl (.tmp 38) rfl (.slice A7 512 c8) rfl hH ?_
            simp only [Act.put, List.setIfInBounds_toArray, List.set_cons_zero, List.set_cons_succ, Nat.zero_add, decide_true, beq_self_eq_true]
            refine wpAnyH_ready (rs := [10]) (by kernel_rfl) (by simp) ?_
            refine AllReadyH.cons rfl (fun K1 hK1 => ?_) AllReadyH.nil
            · rw [if_pos (by rfl)]
              refine wp_storeA 41 (.tmp 9) (.tmp 39) rfl 34 arrPt _ _ rfl (pcells 5 4 S1) rfl 41 _ hb9 hp1.out (by simp) (pcells_ones _ _ _) ?_
              intro w13 hb14 hKb
              simp only [Act.put, List.getElem_toArray, List.getElem_cons_succ, List.getElem_cons_zero, List.setIfInBounds_toArray, List.set_cons_zero, List.set_cons_succ, Nat.zero_add]
              rw [putL_all (by rw [hp1.out]; simp)] at hb14
              have oc15 := Lib.hid (own_keeps oc10.out hKb (fun k _ hk hm => ne11.out k hk (by simpa using hm)))
              refine hK1.out _ _ (hH.trans (hKb.below hH.size (by intro b hb; simp only [List.mem_singleton] at hb; subst hb; exact ge12.out))) (fun hH => ?_)
              clear hK1 K1 hKb
              refine takeH_assign (o := ⟨some 10, _, _, _, _, _⟩) (i := 11) rfl (by kernel_rfl) (by kernel_rfl) (by kernel_rfl) (fun _ _ _ _ h => h) rfl (.tmp 40) rfl (.int .i64 0) rfl hH ?_
              simp only [Act.put, List.setIfInBounds_toArray, List.set_cons_zero, List.set_cons_succ, Nat.zero_add, decide_true, beq_self_eq_true]
              refine wpAnyH_done (by kernel_rfl) ?_ _
              go_wp2_with fail
              go_meet
              exact ⟨_, _, _, rfl, rfl, rfl, hb14, oc15.out, hH, ge12.out, ne11.out⟩
        · go_simp
          have q0 : w1.heap.size = w1.heap.size := by rfl
          have q : w1.heap.size = w1.heap.size := q0
          have hb16 : Blk (w1.alloc (.cells (pcells 0 0 (zeros 32)).toArray 41)) w1.heap.size 41 (pcells 0 0 (zeros 32)) := by rw [← q0]; exact Blk.new_at (w := w1) rfl rfl
          have hb17 := hk3.alloc (.cells (pcells 0 0 (zeros 32)).toArray 41)
          have ge18 : Hid (wr.heap.size ≤ w1.heap.size) := by show _ ≤ _; rw [← q]; exact hH.size
          refine hK1.out _ _ (hH.alloc hH.size (.cells (pcells 0 0 (zeros 32)).toArray 41)) (fun hH => ?_)
          clear hK1 K1 q q0
          refine wpAnyH_ready (rs := [3]) (by kernel_rfl) (by simp) ?_
          refine AllReadyH.cons rfl (fun K1 hK1 => ?_) AllReadyH.nil
          · rw [if_pos (by rfl)]
            go_wp2_with fail
            refine (hs5.out _ _ (blk_sl hb17 (blkL_length _))).mono ?_
            rintro e w19 ⟨A22, c23, rfl, oc21, hBa⟩
            have ne25 := Lib.hid (own_ne oc21 hb16.lt)
            have hb24 := hb16.keep hBa
            have oc20 := Lib.hid (ownsRow_mono oc21 hH.size)
            refine hK1.out _ _ (below_call hH hH.size hBa) (fun hH => ?_)
            clear hK1 K1 hBa oc21
            refine takeH_move (o := ⟨some 33, _, _, _, _, _⟩) (i := 4) rfl (by kernel_rfl) (by kernel_rfl) (by kernel_rfl) (fun _ _ _ _ h => h) rfl (.tmp 37) rfl (.tuple #[(.slice A22 512 c23), .agg (pcells 5 4 S1).toArray, .int .i64 0]) rfl hH ?_
            simp only [Act.put, List.setIfInBounds_toArray, List.set_cons_zero, List.set_cons_succ, Nat.zero_add, decide_true, beq_self_eq_true]
            refine takeH_S (o := ⟨some 38, _, _, _, _, _⟩) (i := 5) rfl (by kernel_rfl) (by kernel_rfl) (by kernel_rfl) (fun _ _ _ _ h => h) rfl (.slice A22 512 c23) (fun w _ => by go_simp) hH ?_
            simp only [Act.put, List.setIfInBounds_toArray, List.set_cons_zero, List.set_cons_succ, Nat.zero_add, decide_true, beq_self_eq_true]
            refine takeH_S (o := ⟨some 39, _, _, _, _, _⟩) (i := 6) rfl (by kernel_rfl) (by kernel_rfl) (by kernel_rfl) (fun _ _ _ _ h => h) rfl (.agg (pcells 5 4 S1).toArray) (fun w _ => by go_simp) hH ?_
            simp only [Act.put, List.setIfInBounds_toArray, List.set_cons_zero, List.set_cons_succ, Nat.zero_add, decide_true, beq_self_eq_true]
            refine takeH_S (o := ⟨some 40, _, _, _, _, _⟩) (i := 7) rfl (by kernel_rfl) (by kernel_rfl) (by kernel_rfl) (fun _ _ _ _ h => h) rfl (.int .i64 0) (fun w _ => by go_simp) hH ?_
            simp only [Act.put, List.setIfInBounds_toArray, List.set_cons_zero, List.set_cons_succ, Nat.zero_add, decide_true, beq_self_eq_true]
            refine takeH_assign (o := ⟨some 8, _, _, _, _, _⟩) (i := 9) rfl (by kernel_rfl) (by kernel_rfl) (by kernel_rfl) (fun _ _ _ _ h => h) rfl (.tmp 38) rfl (.slice A22 512 c23) rfl hH ?_
            simp only [Act.put, List.setIfInBounds_toArray, List.set_cons_zero, List.set_cons_succ, Nat.zero_add, decide_true, beq_self_eq_true]
            refine wpAnyH_ready (rs := [10]) (by kernel_rfl) (by simp) ?_
            refine AllReadyH.cons rfl (fun K1 hK1 => ?_) AllReadyH.nil
            · rw [if_pos (by rfl)]
              refine wp_storeA 41 (.tmp 9) (.tmp 39) rfl 34 arrPt _ _ rfl (pcells 5 4 S1) rfl 41 _ hb24 hp1.out (by simp) (pcells_ones _ _ _) ?_
              intro w26 hb27 hKb
              simp only [Act.put, List.getElem_toArray, List.getElem_cons_succ, List.getElem_cons_zero, List.setIfInBounds_toArray, List.set_cons_zero, List.set_cons_succ, Nat.zero_add]
              rw [putL_all (by rw [hp1.out]; simp)] at hb27
              have oc28 := Lib.hid (own_keeps oc20.out hKb (fun k _ hk hm => ne25.out k hk (by simpa using hm)))
              refine hK1.out _ _ (hH.trans (hKb.below hH.size (by intro b hb; simp only [List.mem_singleton] at hb; subst hb; exact ge18.out))) (fun hH => ?_)
              clear hK1 K1 hKb
              refine takeH_assign (o := ⟨some 10, _, _, _, _, _⟩) (i := 11) rfl (by kernel_rfl) (by kernel_rfl) (by kernel_rfl) (fun _ _ _ _ h => h) rfl (.tmp 40) rfl (.int .i64 0) rfl hH ?_
              simp only [Act.put, List.setIfInBounds_toArray, List.set_cons_zero, List.set_cons_succ, Nat.zero_add, decide_true, beq_self_eq_true]
              refine wpAnyH_done (by kernel_rfl) ?_ _
              go_wp2_with fail
              go_meet
              exact ⟨_, _, _, rfl, rfl, rfl, hb27, oc28.out, hH, ge18.out, ne25.out⟩
      · go_simp
        have q0 : wr.heap.size = wr.heap.size := by rfl
        have q : wr.drew.heap.size = wr.heap.size := q0
        have hb29 : Blk (wr.alloc (.cells (pcells 0 0 (zeros 32)).toArray 41)).drew wr.heap.size 41 (pcells 0 0 (zeros 32)) := by rw [← q0]; exact Blk.new_at (w := wr) rfl rfl
        have ge30 : Hid (wr.heap.size ≤ wr.heap.size) := by show _ ≤ _; rw [← q]; exact hH.size
        refine hK1.out _ _ (hH.alloc hH.size (.cells (pcells 0 0 (zeros 32)).toArray 41)) (fun hH => ?_)
        clear hK1 K1 q q0
        refine wpAnyH_ready (rs := [2]) (by kernel_rfl) (by simp) ?_
        refine AllReadyH.cons rfl (fun K1 hK1 => ?_) AllReadyH.nil
        · rw [if_pos (by rfl)]
          go_wp2_with fail
          refine (hba.out _ _ (sA.out.keep hH)).mono ?_
          rintro e w31 ⟨gb32, rfl, -, hk33, hBa⟩
          have hb34 := hb29.keep hBa
          refine hK1.out _ _ (below_call hH hH.size hBa) (fun hH => ?_)
          clear hK1 K1 hBa
          refine wpAnyH_ready (rs := [3]) (by kernel_rfl) (by simp) ?_
          refine AllReadyH.cons rfl (fun K1 hK1 => ?_) AllReadyH.nil
          · rw [if_pos (by rfl)]
            go_wp2_with fail
            refine (hs5.out _ _ (blk_sl hk33 (blkL_length _))).mono ?_
            rintro e w35 ⟨A38, c39, rfl, oc37, hBa⟩
            have ne41 := Lib.hid (own_ne oc37 hb34.lt)
            have hb40 := hb34.keep hBa
            have oc36 := Lib.hid (ownsRow_mono oc37 hH.size)
            refine hK1.out _ _ (below_call hH hH.size hBa) (fun hH => ?_)
            clear hK1 K1 hBa oc37
            refine takeH_move (o := ⟨some 33, _, _, _, _, _⟩) (i := 4) rfl (by kernel_rfl) (by kernel_rfl) (by kernel_rfl) (fun _ _ _ _ h => h) rfl (.tmp 37) rfl (.tuple #[(.slice A38 512 c39), .agg (pcells 5 4 S1).toArray, .int .i64 0]) rfl hH ?_
            simp only [Act.put, List.setIfInBounds_toArray, List.set_cons_zero, List.set_cons_succ, Nat.zero_add, decide_true, beq_self_eq_true]
            refine takeH_S (o := ⟨some 38, _, _, _, _, _⟩) (i := 5) rfl (by kernel_rfl) (by kernel_rfl) (by kernel_rfl) (fun _ _ _ _ h => h) rfl (.slice A38 512 c39) (fun w _ => by go_simp) hH ?_
            simp only [Act.put, List.setIfInBounds_toArray, List.set_cons_zero, List.set_cons_succ, Nat.zero_add, decide_true, beq_self_eq_true]
            refine takeH_S (o := ⟨some 39, _, _, _, _, _⟩) (i := 6) rfl (by kernel_rfl) (by kernel_rfl) (by kernel_rfl) (fun _ _ _ _ h => h) rfl (.agg (pcells 5 4 S1).toArray) (fun w _ => by go_simp) hH ?_
            simp only [Act.put, List.setIfInBounds_toArray, List.set_cons_zero, List.set_cons_succ, Nat.zero_add, decide_true, beq_self_eq_true]
            refine takeH_S (o := ⟨some 40, _, _, _, _, _⟩) (i := 7) rfl (by kernel_rfl) (by kernel_rfl) (by kernel_rfl) (fun _ _ _ _ h => h) rfl (.int .i64 0) (fun w _ => by go_simp) hH ?_
            simp only [Act.put, List.setIfInBounds_toArray, List.set_cons_zero, List.set_cons_succ, Nat.zero_add, decide_true, beq_self_eq_true]
            refine takeH_assign (o := ⟨some 8, _, _, _, _, _⟩) (i := 9) rfl (by kernel_rfl) (by kernel_rfl) (by kernel_rfl) (fun _ _ _ _ h => h) rfl (.tmp 38) rfl (.slice A38 512 c39) rfl hH ?_
            simp only [Act.put, List.setIfInBounds_toArray, List.set_cons_zero, List.set_cons_succ, Nat.zero_add, decide_true, beq_self_eq_true]
            refine wpAnyH_ready (rs := [10]) (by kernel_rfl) (by simp) ?_
            refine AllReadyH.cons rfl (fun K1 hK1 => ?_) AllReadyH.nil
            · rw [if_pos (by rfl)]
              refine wp_storeA 41 (.tmp 9) (.tmp 39) rfl 34 arrPt _ _ rfl (pcells 5 4 S1) rfl 41 _ hb40 hp1.out (by simp) (pcells_ones _ _ _) ?_
              intro w42 hb43 hKb
              simp only [Act.put, List.getElem_toArray, List.getElem_cons_succ, List.getElem_cons_zero, List.setIfInBounds_toArray, List.set_cons_zero, List.set_cons_succ, Nat.zero_add]
              rw [putL_all (by rw [hp1.out]; simp)] at hb43
              have oc44 := Lib.hid (own_keeps oc36.out hKb (fun k _ hk hm => ne41.out k hk (by simpa using hm)))
              refine hK1.out _ _ (hH.trans (hKb.below hH.size (by intro b hb; simp only [List.mem_singleton] at hb; subst hb; exact ge30.out))) (fun hH => ?_)
              clear hK1 K1 hKb
              refine takeH_assign (o := ⟨some 10, _, _, _, _, _⟩) (i := 11) rfl (by kernel_rfl) (by kernel_rfl) (by kernel_rfl) (fun _ _ _ _ h => h) rfl (.tmp 40) rfl (.int .i64 0) rfl hH ?_
              simp only [Act.put, List.setIfInBounds_toArray, List.set_cons_zero, List.set_cons_succ, Nat.zero_add, decide_true, beq_self_eq_true]
              refine wpAnyH_done (by kernel_rfl) ?_ _
              go_wp2_with fail
              go_meet
              exact ⟨_, _, _, rfl, rfl, rfl, hb43, oc44.out, hH, ge30.out, ne41.out⟩
    case rest =>
    rename World => wz
    obtain ⟨A8, c8, g8, rfl, rfl, rfl, hq8, o8, hBr, -, -⟩ := hcut
    replace o8 := Lib.hid (Sl.of_own o8)
    replace hB := below_call hB hB.size hBr
    replace h7 := h7.keep hBr
    replace sA := Lib.hid (sA.out.keep hBr)
    replace sB := Lib.hid (sB.out.keep hBr)
    clear hBr
    rename World => wr
    go_upto_region 7 with fail
    go_cut [11, 12, 13] (fun s2 s3 s4 wx => ∃ (Av : Option Addr) (cv g3 : Nat), s2 = .slice Av 512 cv ∧ s3 = .pointer (some ⟨g3, 0, none⟩) ∧ s4 = .int .i64 0 ∧ Blk wx g3 41 (pcells 6 4 S2) ∧ wx.ownsRow wr.heap.size 5 1 (.slice Av 512 cv) 512 (bv Y) ∧ Below wr.heap.size wr wx ∧ wr.heap.size ≤ g3 ∧ ∀ k, (Value.slice Av 512 cv).ownBlock = some k → k ≠ g3)
    case first =>
      refine wp_region_held_drew (S := fun w' => Below wr.heap.size wr w') (by kernel_rfl) ((Below.refl _ _).drew) (fun hH => ?_)
      refine takeH_load (o := ⟨some 42, _, _, _, _, _⟩) (i := 0) rfl (by kernel_rfl) (by kernel_rfl) (by kernel_rfl) (fun _ _ _ _ h => h) rfl 28 (.tmp 7) rfl 64 arrKs g7 0 rfl (bv (K ++ zeros 32)) hKl.out (fun w h => hSS (h7.keep h) hKl.out) hH ?_
      simp only [Act.put, List.setIfInBounds_toArray, List.set_cons_zero, List.set_cons_succ, Nat.zero_add, decide_true, beq_self_eq_true]
      refine takeH_move (o := ⟨some 43, _, _, _, _, _⟩) (i := 1) rfl (by kernel_rfl) (by kernel_rfl) (by kernel_rfl) (fun _ _ _ _ h => h) rfl (.tmp 2) rfl (.slice A2 n2 c2) rfl hH ?_
      simp only [Act.put, List.setIfInBounds_toArray, List.set_cons_zero, List.set_cons_succ, Nat.zero_add, decide_true, beq_self_eq_true]
      refine wpAnyH_ready (rs := [2, 8]) (by kernel_rfl) (by simp) ?_
      refine AllReadyH.cons rfl (fun K1 hK1 => ?_) (AllReadyH.cons rfl (fun K1 hK1 => ?_) AllReadyH.nil)
      · rw [if_pos (by rfl)]
        go_wp2_with fail
        refine (hbb.out _ _ (sB.out.keep hH)).mono ?_
        rintro e w45 ⟨gb46, rfl, -, hk47, hBa⟩
        refine hK1.out _ _ (below_call hH hH.size hBa) (fun hH => ?_)
        clear hK1 K1 hBa
        refine wpAnyH_ready (rs := [3, 8]) (by kernel_rfl) (by simp) ?_
        refine AllReadyH.cons rfl (fun K1 hK1 => ?_) (AllReadyH.cons rfl (fun K1 hK1 => ?_) AllReadyH.nil)
        · rw [if_pos (by rfl)]
          go_wp2_with fail
          refine (hs6.out _ _ (blk_sl hk47 (blkL_length _))).mono ?_
          rintro e w48 ⟨A51, c52, rfl, oc50, hBa⟩
          have oc49 := Lib.hid (ownsRow_mono oc50 hH.size)
          refine hK1.out _ _ (below_call hH hH.size hBa) (fun hH => ?_)
          clear hK1 K1 hBa oc50
          refine takeH_move (o := ⟨some 41, _, _, _, _, _⟩) (i := 4) rfl (by kernel_rfl) (by kernel_rfl) (by kernel_rfl) (fun _ _ _ _ h => h) rfl (.tmp 45) rfl (.tuple #[(.slice A51 512 c52), .agg (pcells 6 4 S2).toArray, .int .i64 0]) rfl hH ?_
          simp only [Act.put, List.setIfInBounds_toArray, List.set_cons_zero, List.set_cons_succ, Nat.zero_add, decide_true, beq_self_eq_true]
          refine takeH_S (o := ⟨some 46, _, _, _, _, _⟩) (i := 5) rfl (by kernel_rfl) (by kernel_rfl) (by kernel_rfl) (fun _ _ _ _ h => h) rfl (.slice A51 512 c52) (fun w _ => by go_simp) hH ?_
          simp only [Act.put, List.setIfInBounds_toArray, List.set_cons_zero, List.set_cons_succ, Nat.zero_add, decide_true, beq_self_eq_true]
          refine takeH_S (o := ⟨some 47, _, _, _, _, _⟩) (i := 6) rfl (by kernel_rfl) (by kernel_rfl) (by kernel_rfl) (fun _ _ _ _ h => h) rfl (.agg (pcells 6 4 S2).toArray) (fun w _ => by go_simp) hH ?_
          simp only [Act.put, List.setIfInBounds_toArray, List.set_cons_zero, List.set_cons_succ, Nat.zero_add, decide_true, beq_self_eq_true]
          refine takeH_S (o := ⟨some 48, _, _, _, _, _⟩) (i := 7) rfl (by kernel_rfl) (by kernel_rfl) (by kernel_rfl) (fun _ _ _ _ h => h) rfl (.int .i64 0) (fun w _ => by go_simp) hH ?_
          simp only [Act.put, List.setIfInBounds_toArray, List.set_cons_zero, List.set_cons_succ, Nat.zero_add, decide_true, beq_self_eq_true]
          refine wpAnyH_ready (rs := [8]) (by kernel_rfl) (by simp) ?_
          refine AllReadyH.cons rfl (fun K1 hK1 => ?_) AllReadyH.nil
          · go_simp
            have q0 : w48.heap.size = w48.heap.size := by rfl
            have q : w48.heap.size = w48.heap.size := q0
            have hb53 : Blk (w48.alloc (.cells (pcells 0 0 (zeros 32)).toArray 41)) w48.heap.size 41 (pcells 0 0 (zeros 32)) := by rw [← q0]; exact Blk.new_at (w := w48) rfl rfl
            have ne55 := Lib.hid (own_ne2 oc49.out (g := w48.heap.size) (by rw [← q]; exact Nat.le_refl _))
            have oc54 := Lib.hid (oc49.out.alloc (.cells (pcells 0 0 (zeros 32)).toArray 41))
            have ge56 : Hid (wr.heap.size ≤ w48.heap.size) := by show _ ≤ _; rw [← q]; exact hH.size
            refine hK1.out _ _ (hH.alloc hH.size (.cells (pcells 0 0 (zeros 32)).toArray 41)) (fun hH => ?_)
            clear hK1 K1 q q0
            refine takeH_assign (o := ⟨some 11, _, _, _, _, _⟩) (i := 9) rfl (by kernel_rfl) (by kernel_rfl) (by kernel_rfl) (fun _ _ _ _ h => h) rfl (.tmp 46) rfl (.slice A51 512 c52) rfl hH ?_
            simp only [Act.put, List.setIfInBounds_toArray, List.set_cons_zero, List.set_cons_succ, Nat.zero_add, decide_true, beq_self_eq_true]
            refine wpAnyH_ready (rs := [10]) (by kernel_rfl) (by simp) ?_
            refine AllReadyH.cons rfl (fun K1 hK1 => ?_) AllReadyH.nil
            · rw [if_pos (by rfl)]
              refine wp_storeA 41 (.tmp 12) (.tmp 47) rfl 34 arrPt _ _ rfl (pcells 6 4 S2) rfl 41 _ hb53 hp2.out (by simp) (pcells_ones _ _ _) ?_
              intro w57 hb58 hKb
              simp only [Act.put, List.getElem_toArray, List.getElem_cons_succ, List.getElem_cons_zero, List.setIfInBounds_toArray, List.set_cons_zero, List.set_cons_succ, Nat.zero_add]
              rw [putL_all (by rw [hp2.out]; simp)] at hb58
              have oc59 := Lib.hid (own_keeps oc54.out hKb (fun k _ hk hm => ne55.out k hk (by simpa using hm)))
              refine hK1.out _ _ (hH.trans (hKb.below hH.size (by intro b hb; simp only [List.mem_singleton] at hb; subst hb; exact ge56.out))) (fun hH => ?_)
              clear hK1 K1 hKb
              refine takeH_assign (o := ⟨some 13, _, _, _, _, _⟩) (i := 11) rfl (by kernel_rfl) (by kernel_rfl) (by kernel_rfl) (fun _ _ _ _ h => h) rfl (.tmp 48) rfl (.int .i64 0) rfl hH ?_
              simp only [Act.put, List.setIfInBounds_toArray, List.set_cons_zero, List.set_cons_succ, Nat.zero_add, decide_true, beq_self_eq_true]
              refine wpAnyH_done (by kernel_rfl) ?_ _
              go_wp2_with fail
              go_meet
              exact ⟨_, _, _, rfl, rfl, rfl, hb58, oc59.out, hH, ge56.out, ne55.out⟩
        · go_simp
          have q0 : w45.heap.size = w45.heap.size := by rfl
          have q : w45.heap.size = w45.heap.size := q0
          have hb60 : Blk (w45.alloc (.cells (pcells 0 0 (zeros 32)).toArray 41)) w45.heap.size 41 (pcells 0 0 (zeros 32)) := by rw [← q0]; exact Blk.new_at (w := w45) rfl rfl
          have hb61 := hk47.alloc (.cells (pcells 0 0 (zeros 32)).toArray 41)
          have ge62 : Hid (wr.heap.size ≤ w45.heap.size) := by show _ ≤ _; rw [← q]; exact hH.size
          refine hK1.out _ _ (hH.alloc hH.size (.cells (pcells 0 0 (zeros 32)).toArray 41)) (fun hH => ?_)
          clear hK1 K1 q q0
          refine wpAnyH_ready (rs := [3]) (by kernel_rfl) (by simp) ?_
          refine AllReadyH.cons rfl (fun K1 hK1 => ?_) AllReadyH.nil
          · rw [if_pos (by rfl)]
            go_wp2_with fail
            refine (hs6.out _ _ (blk_sl hb61 (blkL_length _))).mono ?_
            rintro e w63 ⟨A66, c67, rfl, oc65, hBa⟩
            have ne69 := Lib.hid (own_ne oc65 hb60.lt)
            have hb68 := hb60.keep hBa
            have oc64 := Lib.hid (ownsRow_mono oc65 hH.size)
            refine hK1.out _ _ (below_call hH hH.size hBa) (fun hH => ?_)
            clear hK1 K1 hBa oc65
            refine takeH_move (o := ⟨some 41, _, _, _, _, _⟩) (i := 4) rfl (by kernel_rfl) (by kernel_rfl) (by kernel_rfl) (fun _ _ _ _ h => h) rfl (.tmp 45) rfl (.tuple #[(.slice A66 512 c67), .agg (pcells 6 4 S2).toArray, .int .i64 0]) rfl hH ?_
            simp only [Act.put, List.setIfInBounds_toArray, List.set_cons_zero, List.set_cons_succ, Nat.zero_add, decide_true, beq_self_eq_true]
            refine takeH_S (o := ⟨some 46, _, _, _, _, _⟩) (i := 5) rfl (by kernel_rfl) (by kernel_rfl) (by kernel_rfl) (fun _ _ _ _ h => h) rfl (.slice A66 512 c67) (fun w _ => by go_simp) hH ?_
            simp only [Act.put, List.setIfInBounds_toArray, List.set_cons_zero, List.set_cons_succ, Nat.zero_add, decide_true, beq_self_eq_true]
            refine takeH_S (o := ⟨some 47, _, _, _, _, _⟩) (i := 6) rfl (by kernel_rfl) (by kernel_rfl) (by kernel_rfl) (fun _ _ _ _ h => h) rfl (.agg (pcells 6 4 S2).toArray) (fun w _ => by go_simp) hH ?_
            simp only [Act.put, List.setIfInBounds_toArray, List.set_cons_zero, List.set_cons_succ, Nat.zero_add, decide_true, beq_self_eq_true]
            refine takeH_S (o := ⟨some 48, _, _, _, _, _⟩) (i := 7) rfl (by kernel_rfl) (by kernel_rfl) (by kernel_rfl) (fun _ _ _ _ h => h) rfl (.int .i64 0) (fun w _ => by go_simp) hH ?_
            simp only [Act.put, List.setIfInBounds_toArray, List.set_cons_zero, List.set_cons_succ, Nat.zero_add, decide_true, beq_self_eq_true]
            refine takeH_assign (o := ⟨some 11, _, _, _, _, _⟩) (i := 9) rfl (by kernel_rfl) (by kernel_rfl) (by kernel_rfl) (fun _ _ _ _ h => h) rfl (.tmp 46) rfl (.slice A66 512 c67) rfl hH ?_
            simp only [Act.put, List.setIfInBounds_toArray, List.set_cons_zero, List.set_cons_succ, Nat.zero_add, decide_true, beq_self_eq_true]
            refine wpAnyH_ready (rs := [10]) (by kernel_rfl) (by simp) ?_
            refine AllReadyH.cons rfl (fun K1 hK1 => ?_) AllReadyH.nil
            · rw [if_pos (by rfl)]
              refine wp_storeA 41 (.tmp 12) (.tmp 47) rfl 34 arrPt _ _ rfl (pcells 6 4 S2) rfl 41 _ hb68 hp2.out (by simp) (pcells_ones _ _ _) ?_
              intro w70 hb71 hKb
              simp only [Act.put, List.getElem_toArray, List.getElem_cons_succ, List.getElem_cons_zero, List.setIfInBounds_toArray, List.set_cons_zero, List.set_cons_succ, Nat.zero_add]
              rw [putL_all (by rw [hp2.out]; simp)] at hb71
              have oc72 := Lib.hid (own_keeps oc64.out hKb (fun k _ hk hm => ne69.out k hk (by simpa using hm)))
              refine hK1.out _ _ (hH.trans (hKb.below hH.size (by intro b hb; simp only [List.mem_singleton] at hb; subst hb; exact ge62.out))) (fun hH => ?_)
              clear hK1 K1 hKb
              refine takeH_assign (o := ⟨some 13, _, _, _, _, _⟩) (i := 11) rfl (by kernel_rfl) (by kernel_rfl) (by kernel_rfl) (fun _ _ _ _ h => h) rfl (.tmp 48) rfl (.int .i64 0) rfl hH ?_
              simp only [Act.put, List.setIfInBounds_toArray, List.set_cons_zero, List.set_cons_succ, Nat.zero_add, decide_true, beq_self_eq_true]
              refine wpAnyH_done (by kernel_rfl) ?_ _
              go_wp2_with fail
              go_meet
              exact ⟨_, _, _, rfl, rfl, rfl, hb71, oc72.out, hH, ge62.out, ne69.out⟩
      · go_simp
        have q0 : wr.heap.size = wr.heap.size := by rfl
        have q : wr.drew.heap.size = wr.heap.size := q0
        have hb73 : Blk (wr.alloc (.cells (pcells 0 0 (zeros 32)).toArray 41)).drew wr.heap.size 41 (pcells 0 0 (zeros 32)) := by rw [← q0]; exact Blk.new_at (w := wr) rfl rfl
        have ge74 : Hid (wr.heap.size ≤ wr.heap.size) := by show _ ≤ _; rw [← q]; exact hH.size
        refine hK1.out _ _ (hH.alloc hH.size (.cells (pcells 0 0 (zeros 32)).toArray 41)) (fun hH => ?_)
        clear hK1 K1 q q0
        refine wpAnyH_ready (rs := [2]) (by kernel_rfl) (by simp) ?_
        refine AllReadyH.cons rfl (fun K1 hK1 => ?_) AllReadyH.nil
        · rw [if_pos (by rfl)]
          go_wp2_with fail
          refine (hbb.out _ _ (sB.out.keep hH)).mono ?_
          rintro e w75 ⟨gb76, rfl, -, hk77, hBa⟩
          have hb78 := hb73.keep hBa
          refine hK1.out _ _ (below_call hH hH.size hBa) (fun hH => ?_)
          clear hK1 K1 hBa
          refine wpAnyH_ready (rs := [3]) (by kernel_rfl) (by simp) ?_
          refine AllReadyH.cons rfl (fun K1 hK1 => ?_) AllReadyH.nil
          · rw [if_pos (by rfl)]
            go_wp2_with fail
            refine (hs6.out _ _ (blk_sl hk77 (blkL_length _))).mono ?_
            rintro e w79 ⟨A82, c83, rfl, oc81, hBa⟩
            have ne85 := Lib.hid (own_ne oc81 hb78.lt)
            have hb84 := hb78.keep hBa
            have oc80 := Lib.hid (ownsRow_mono oc81 hH.size)
            refine hK1.out _ _ (below_call hH hH.size hBa) (fun hH => ?_)
            clear hK1 K1 hBa oc81
            refine takeH_move (o := ⟨some 41, _, _, _, _, _⟩) (i := 4) rfl (by kernel_rfl) (by kernel_rfl) (by kernel_rfl) (fun _ _ _ _ h => h) rfl (.tmp 45) rfl (.tuple #[(.slice A82 512 c83), .agg (pcells 6 4 S2).toArray, .int .i64 0]) rfl hH ?_
            simp only [Act.put, List.setIfInBounds_toArray, List.set_cons_zero, List.set_cons_succ, Nat.zero_add, decide_true, beq_self_eq_true]
            refine takeH_S (o := ⟨some 46, _, _, _, _, _⟩) (i := 5) rfl (by kernel_rfl) (by kernel_rfl) (by kernel_rfl) (fun _ _ _ _ h => h) rfl (.slice A82 512 c83) (fun w _ => by go_simp) hH ?_
            simp only [Act.put, List.setIfInBounds_toArray, List.set_cons_zero, List.set_cons_succ, Nat.zero_add, decide_true, beq_self_eq_true]
            refine takeH_S (o := ⟨some 47, _, _, _, _, _⟩) (i := 6) rfl (by kernel_rfl) (by kernel_rfl) (by kernel_rfl) (fun _ _ _ _ h => h) rfl (.agg (pcells 6 4 S2).toArray) (fun w _ => by go_simp) hH ?_
            simp only [Act.put, List.setIfInBounds_toArray, List.set_cons_zero, List.set_cons_succ, Nat.zero_add, decide_true, beq_self_eq_true]
            refine takeH_S (o := ⟨some 48, _, _, _, _, _⟩) (i := 7) rfl (by kernel_rfl) (by kernel_rfl) (by kernel_rfl) (fun _ _ _ _ h => h) rfl (.int .i64 0) (fun w _ => by go_simp) hH ?_
            simp only [Act.put, List.setIfInBounds_toArray, List.set_cons_zero, List.set_cons_succ, Nat.zero_add, decide_true, beq_self_eq_true]
            refine takeH_assign (o := ⟨some 11, _, _, _, _, _⟩) (i := 9) rfl (by kernel_rfl) (by kernel_rfl) (by kernel_rfl) (fun _ _ _ _ h => h) rfl (.tmp 46) rfl (.slice A82 512 c83) rfl hH ?_
            simp only [Act.put, List.setIfInBounds_toArray, List.set_cons_zero, List.set_cons_succ, Nat.zero_add, decide_true, beq_self_eq_true]
            refine wpAnyH_ready (rs := [10]) (by kernel_rfl) (by simp) ?_
            refine AllReadyH.cons rfl (fun K1 hK1 => ?_) AllReadyH.nil
            · rw [if_pos (by rfl)]
              refine wp_storeA 41 (.tmp 12) (.tmp 47) rfl 34 arrPt _ _ rfl (pcells 6 4 S2) rfl 41 _ hb84 hp2.out (by simp) (pcells_ones _ _ _) ?_
              intro w86 hb87 hKb
              simp only [Act.put, List.getElem_toArray, List.getElem_cons_succ, List.getElem_cons_zero, List.setIfInBounds_toArray, List.set_cons_zero, List.set_cons_succ, Nat.zero_add]
              rw [putL_all (by rw [hp2.out]; simp)] at hb87
              have oc88 := Lib.hid (own_keeps oc80.out hKb (fun k _ hk hm => ne85.out k hk (by simpa using hm)))
              refine hK1.out _ _ (hH.trans (hKb.below hH.size (by intro b hb; simp only [List.mem_singleton] at hb; subst hb; exact ge74.out))) (fun hH => ?_)
              clear hK1 K1 hKb
              refine takeH_assign (o := ⟨some 13, _, _, _, _, _⟩) (i := 11) rfl (by kernel_rfl) (by kernel_rfl) (by kernel_rfl) (fun _ _ _ _ h => h) rfl (.tmp 48) rfl (.int .i64 0) rfl hH ?_
              simp only [Act.put, List.setIfInBounds_toArray, List.set_cons_zero, List.set_cons_succ, Nat.zero_add, decide_true, beq_self_eq_true]
              refine wpAnyH_done (by kernel_rfl) ?_ _
              go_wp2_with fail
              go_meet
              exact ⟨_, _, _, rfl, rfl, rfl, hb87, oc88.out, hH, ge74.out, ne85.out⟩
    case rest =>
    rename World => wz
    obtain ⟨A11, c11, g11, rfl, rfl, rfl, hq11, o11, hBr, -, -⟩ := hcut
    replace o11 := Lib.hid (Sl.of_own o11)
    replace hB := below_call hB hB.size hBr
    replace h7 := h7.keep hBr
    replace sA := Lib.hid (sA.out.keep hBr)
    replace sB := Lib.hid (sB.out.keep hBr)
    replace hq8 := hq8.keep hBr
    replace o8 := Lib.hid (o8.out.keep hBr)
    clear hBr
    rename World => wr
    go_upto_region 8 with fail
    go_cut [14, 15, 16] (fun s2 s3 s4 wx => ∃ (Av : Option Addr) (cv g3 : Nat), s2 = .slice Av 512 cv ∧ s3 = .pointer (some ⟨g3, 0, none⟩) ∧ s4 = .int .i64 0 ∧ Blk wx g3 41 (pcells 5 4 S1) ∧ wx.ownsRow wr.heap.size 5 1 (.slice Av 512 cv) 512 (bv X) ∧ Below wr.heap.size wr wx ∧ wr.heap.size ≤ g3 ∧ ∀ k, (Value.slice Av 512 cv).ownBlock = some k → k ≠ g3)
    case first =>
      refine wp_region_held_drew (S := fun w' => Below wr.heap.size wr w') (by kernel_rfl) ((Below.refl _ _).drew) (fun hH => ?_)
      refine takeH_load (o := ⟨some 50, _, _, _, _, _⟩) (i := 0) rfl (by kernel_rfl) (by kernel_rfl) (by kernel_rfl) (fun _ _ _ _ h => h) rfl 28 (.tmp 7) rfl 64 arrKs g7 0 rfl (bv (K ++ zeros 32)) hKl.out (fun w h => hSS (h7.keep h) hKl.out) hH ?_
      simp only [Act.put, List.setIfInBounds_toArray, List.set_cons_zero, List.set_cons_succ, Nat.zero_add, decide_true, beq_self_eq_true]
      refine takeH_move (o := ⟨some 51, _, _, _, _, _⟩) (i := 1) rfl (by kernel_rfl) (by kernel_rfl) (by kernel_rfl) (fun _ _ _ _ h => h) rfl (.tmp 1) rfl (.slice A n c) rfl hH ?_
      simp only [Act.put, List.setIfInBounds_toArray, List.set_cons_zero, List.set_cons_succ, Nat.zero_add, decide_true, beq_self_eq_true]
      refine wpAnyH_ready (rs := [2, 8]) (by kernel_rfl) (by simp) ?_
      refine AllReadyH.cons rfl (fun K1 hK1 => ?_) (AllReadyH.cons rfl (fun K1 hK1 => ?_) AllReadyH.nil)
      · rw [if_pos (by rfl)]
        go_wp2_with fail
        refine (hba.out _ _ (sA.out.keep hH)).mono ?_
        rintro e w89 ⟨gb90, rfl, -, hk91, hBa⟩
        refine hK1.out _ _ (below_call hH hH.size hBa) (fun hH => ?_)
        clear hK1 K1 hBa
        refine wpAnyH_ready (rs := [3, 8]) (by kernel_rfl) (by simp) ?_
        refine AllReadyH.cons rfl (fun K1 hK1 => ?_) (AllReadyH.cons rfl (fun K1 hK1 => ?_) AllReadyH.nil)
        · rw [if_pos (by rfl)]
          go_wp2_with fail
          refine (hs5.out _ _ (blk_sl hk91 (blkL_length _))).mono ?_
          rintro e w92 ⟨A95, c96, rfl, oc94, hBa⟩
          have oc93 := Lib.hid (ownsRow_mono oc94 hH.size)
          refine hK1.out _ _ (below_call hH hH.size hBa) (fun hH => ?_)
          clear hK1 K1 hBa oc94
          refine takeH_move (o := ⟨some 49, _, _, _, _, _⟩) (i := 4) rfl (by kernel_rfl) (by kernel_rfl) (by kernel_rfl) (fun _ _ _ _ h => h) rfl (.tmp 53) rfl (.tuple #[(.slice A95 512 c96), .agg (pcells 5 4 S1).toArray, .int .i64 0]) rfl hH ?_
          simp only [Act.put, List.setIfInBounds_toArray, List.set_cons_zero, List.set_cons_succ, Nat.zero_add, decide_true, beq_self_eq_true]
          refine takeH_S (o := ⟨some 54, _, _, _, _, _⟩) (i := 5) rfl (by kernel_rfl) (by kernel_rfl) (by kernel_rfl) (fun _ _ _ _ h => h) rfl (.slice A95 512 c96) (fun w _ => by go_simp) hH ?_
          simp only [Act.put, List.setIfInBounds_toArray, List.set_cons_zero, List.set_cons_succ, Nat.zero_add, decide_true, beq_self_eq_true]
          refine takeH_S (o := ⟨some 55, _, _, _, _, _⟩) (i := 6) rfl (by kernel_rfl) (by kernel_rfl) (by kernel_rfl) (fun _ _ _ _ h => h) rfl (.agg (pcells 5 4 S1).toArray) (fun w _ => by go_simp) hH ?_
          simp only [Act.put, List.setIfInBounds_toArray, List.set_cons_zero, List.set_cons_succ, Nat.zero_add, decide_true, beq_self_eq_true]
          refine takeH_S (o := ⟨some 56, _, _, _, _, _⟩) (i := 7) rfl (by kernel_rfl) (by kernel_rfl) (by kernel_rfl) (fun _ _ _ _ h => h) rfl (.int .i64 0) (fun w _ => by go_simp) hH ?_
          simp only [Act.put, List.setIfInBounds_toArray, List.set_cons_zero, List.set_cons_succ, Nat.zero_add, decide_true, beq_self_eq_true]
          refine wpAnyH_ready (rs := [8]) (by kernel_rfl) (by simp) ?_
          refine AllReadyH.cons rfl (fun K1 hK1 => ?_) AllReadyH.nil
          · go_simp
            have q0 : w92.heap.size = w92.heap.size := by rfl
            have q : w92.heap.size = w92.heap.size := q0
            have hb97 : Blk (w92.alloc (.cells (pcells 0 0 (zeros 32)).toArray 41)) w92.heap.size 41 (pcells 0 0 (zeros 32)) := by rw [← q0]; exact Blk.new_at (w := w92) rfl rfl
            have ne99 := Lib.hid (own_ne2 oc93.out (g := w92.heap.size) (by rw [← q]; exact Nat.le_refl _))
            have oc98 := Lib.hid (oc93.out.alloc (.cells (pcells 0 0 (zeros 32)).toArray 41))
            have ge100 : Hid (wr.heap.size ≤ w92.heap.size) := by show _ ≤ _; rw [← q]; exact hH.size
            refine hK1.out _ _ (hH.alloc hH.size (.cells (pcells 0 0 (zeros 32)).toArray 41)) (fun hH => ?_)
            clear hK1 K1 q q0
            refine takeH_assign (o := ⟨some 14, _, _, _, _, _⟩) (i := 9) rfl (by kernel_rfl) (by kernel_rfl) (by kernel_rfl) (fun _ _ _ _ h => h) rfl (.tmp 54) rfl (.slice A95 512 c96) rfl hH ?_
            simp only [Act.put, List.setIfInBounds_toArray, List.set_cons_zero, List.set_cons_succ, Nat.zero_add, decide_true, beq_self_eq_true]
            refine wpAnyH_ready (rs := [10]) (by kernel_rfl) (by simp) ?_
            refine AllReadyH.cons rfl (fun K1 hK1 => ?_) AllReadyH.nil
            · rw [if_pos (by rfl)]
              refine wp_storeA 41 (.tmp 15) (.tmp 55) rfl 34 arrPt _ _ rfl (pcells 5 4 S1) rfl 41 _ hb97 hp1.out (by simp) (pcells_ones _ _ _) ?_
              intro w101 hb102 hKb
              simp only [Act.put, List.getElem_toArray, List.getElem_cons_succ, List.getElem_cons_zero, List.setIfInBounds_toArray, List.set_cons_zero, List.set_cons_succ, Nat.zero_add]
              rw [putL_all (by rw [hp1.out]; simp)] at hb102
              have oc103 := Lib.hid (own_keeps oc98.out hKb (fun k _ hk hm => ne99.out k hk (by simpa using hm)))
              refine hK1.out _ _ (hH.trans (hKb.below hH.size (by intro b hb; simp only [List.mem_singleton] at hb; subst hb; exact ge100.out))) (fun hH => ?_)
              clear hK1 K1 hKb
              refine takeH_assign (o := ⟨some 16, _, _, _, _, _⟩) (i := 11) rfl (by kernel_rfl) (by kernel_rfl) (by kernel_rfl) (fun _ _ _ _ h => h) rfl (.tmp 56) rfl (.int .i64 0) rfl hH ?_
              simp only [Act.put, List.setIfInBounds_toArray, List.set_cons_zero, List.set_cons_succ, Nat.zero_add, decide_true, beq_self_eq_true]
              refine wpAnyH_done (by kernel_rfl) ?_ _
              go_wp2_with fail
              go_meet
              exact ⟨_, _, _, rfl, rfl, rfl, hb102, oc103.out, hH, ge100.out, ne99.out⟩
        · go_simp
          have q0 : w89.heap.size = w89.heap.size := by rfl
          have q : w89.heap.size = w89.heap.size := q0
          have hb104 : Blk (w89.alloc (.cells (pcells 0 0 (zeros 32)).toArray 41)) w89.heap.size 41 (pcells 0 0 (zeros 32)) := by rw [← q0]; exact Blk.new_at (w := w89) rfl rfl
          have hb105 := hk91.alloc (.cells (pcells 0 0 (zeros 32)).toArray 41)
          have ge106 : Hid (wr.heap.size ≤ w89.heap.size) := by show _ ≤ _; rw [← q]; exact hH.size
          refine hK1.out _ _ (hH.alloc hH.size (.cells (pcells 0 0 (zeros 32)).toArray 41)) (fun hH => ?_)
          clear hK1 K1 q q0
          refine wpAnyH_ready (rs := [3]) (by kernel_rfl) (by simp) ?_
          refine AllReadyH.cons rfl (fun K1 hK1 => ?_) AllReadyH.nil
          · rw [if_pos (by rfl)]
            go_wp2_with fail
            refine (hs5.out _ _ (blk_sl hb105 (blkL_length _))).mono ?_
            rintro e w107 ⟨A110, c111, rfl, oc109, hBa⟩
            have ne113 := Lib.hid (own_ne oc109 hb104.lt)
            have hb112 := hb104.keep hBa
            have oc108 := Lib.hid (ownsRow_mono oc109 hH.size)
            refine hK1.out _ _ (below_call hH hH.size hBa) (fun hH => ?_)
            clear hK1 K1 hBa oc109
            refine takeH_move (o := ⟨some 49, _, _, _, _, _⟩) (i := 4) rfl (by kernel_rfl) (by kernel_rfl) (by kernel_rfl) (fun _ _ _ _ h => h) rfl (.tmp 53) rfl (.tuple #[(.slice A110 512 c111), .agg (pcells 5 4 S1).toArray, .int .i64 0]) rfl hH ?_
            simp only [Act.put, List.setIfInBounds_toArray, List.set_cons_zero, List.set_cons_succ, Nat.zero_add, decide_true, beq_self_eq_true]
            refine takeH_S (o := ⟨some 54, _, _, _, _, _⟩) (i := 5) rfl (by kernel_rfl) (by kernel_rfl) (by kernel_rfl) (fun _ _ _ _ h => h) rfl (.slice A110 512 c111) (fun w _ => by go_simp) hH ?_
            simp only [Act.put, List.setIfInBounds_toArray, List.set_cons_zero, List.set_cons_succ, Nat.zero_add, decide_true, beq_self_eq_true]
            refine takeH_S (o := ⟨some 55, _, _, _, _, _⟩) (i := 6) rfl (by kernel_rfl) (by kernel_rfl) (by kernel_rfl) (fun _ _ _ _ h => h) rfl (.agg (pcells 5 4 S1).toArray) (fun w _ => by go_simp) hH ?_
            simp only [Act.put, List.setIfInBounds_toArray, List.set_cons_zero, List.set_cons_succ, Nat.zero_add, decide_true, beq_self_eq_true]
            refine takeH_S (o := ⟨some 56, _, _, _, _, _⟩) (i := 7) rfl (by kernel_rfl) (by kernel_rfl) (by kernel_rfl) (fun _ _ _ _ h => h) rfl (.int .i64 0) (fun w _ => by go_simp) hH ?_
            simp only [Act.put, List.setIfInBounds_toArray, List.set_cons_zero, List.set_cons_succ, Nat.zero_add, decide_true, beq_self_eq_true]
            refine takeH_assign (o := ⟨some 14, _, _, _, _, _⟩) (i := 9) rfl (by kernel_rfl) (by kernel_rfl) (by kernel_rfl) (fun _ _ _ _ h => h) rfl (.tmp 54) rfl (.slice A110 512 c111) rfl hH ?_
            simp only [Act.put, List.setIfInBounds_toArray, List.set_cons_zero, List.set_cons_succ, Nat.zero_add, decide_true, beq_self_eq_true]
            refine wpAnyH_ready (rs := [10]) (by kernel_rfl) (by simp) ?_
            refine AllReadyH.cons rfl (fun K1 hK1 => ?_) AllReadyH.nil
            · rw [if_pos (by rfl)]
              refine wp_storeA 41 (.tmp 15) (.tmp 55) rfl 34 arrPt _ _ rfl (pcells 5 4 S1) rfl 41 _ hb112 hp1.out (by simp) (pcells_ones _ _ _) ?_
              intro w114 hb115 hKb
              simp only [Act.put, List.getElem_toArray, List.getElem_cons_succ, List.getElem_cons_zero, List.setIfInBounds_toArray, List.set_cons_zero, List.set_cons_succ, Nat.zero_add]
              rw [putL_all (by rw [hp1.out]; simp)] at hb115
              have oc116 := Lib.hid (own_keeps oc108.out hKb (fun k _ hk hm => ne113.out k hk (by simpa using hm)))
              refine hK1.out _ _ (hH.trans (hKb.below hH.size (by intro b hb; simp only [List.mem_singleton] at hb; subst hb; exact ge106.out))) (fun hH => ?_)
              clear hK1 K1 hKb
              refine takeH_assign (o := ⟨some 16, _, _, _, _, _⟩) (i := 11) rfl (by kernel_rfl) (by kernel_rfl) (by kernel_rfl) (fun _ _ _ _ h => h) rfl (.tmp 56) rfl (.int .i64 0) rfl hH ?_
              simp only [Act.put, List.setIfInBounds_toArray, List.set_cons_zero, List.set_cons_succ, Nat.zero_add, decide_true, beq_self_eq_true]
              refine wpAnyH_done (by kernel_rfl) ?_ _
              go_wp2_with fail
              go_meet
              exact ⟨_, _, _, rfl, rfl, rfl, hb115, oc116.out, hH, ge106.out, ne113.out⟩
      · go_simp
        have q0 : wr.heap.size = wr.heap.size := by rfl
        have q : wr.drew.heap.size = wr.heap.size := q0
        have hb117 : Blk (wr.alloc (.cells (pcells 0 0 (zeros 32)).toArray 41)).drew wr.heap.size 41 (pcells 0 0 (zeros 32)) := by rw [← q0]; exact Blk.new_at (w := wr) rfl rfl
        have ge118 : Hid (wr.heap.size ≤ wr.heap.size) := by show _ ≤ _; rw [← q]; exact hH.size
        refine hK1.out _ _ (hH.alloc hH.size (.cells (pcells 0 0 (zeros 32)).toArray 41)) (fun hH => ?_)
        clear hK1 K1 q q0
        refine wpAnyH_ready (rs := [2]) (by kernel_rfl) (by simp) ?_
        refine AllReadyH.cons rfl (fun K1 hK1 => ?_) AllReadyH.nil
        · rw [if_pos (by rfl)]
          go_wp2_with fail
          refine (hba.out _ _ (sA.out.keep hH)).mono ?_
          rintro e w119 ⟨gb120, rfl, -, hk121, hBa⟩
          have hb122 := hb117.keep hBa
          refine hK1.out _ _ (below_call hH hH.size hBa) (fun hH => ?_)
          clear hK1 K1 hBa
          refine wpAnyH_ready (rs := [3]) (by kernel_rfl) (by simp) ?_
          refine AllReadyH.cons rfl (fun K1 hK1 => ?_) AllReadyH.nil
          · rw [if_pos (by rfl)]
            go_wp2_with fail
            refine (hs5.out _ _ (blk_sl hk121 (blkL_length _))).mono ?_
            rintro e w123 ⟨A126, c127, rfl, oc125, hBa⟩
            have ne129 := Lib.hid (own_ne oc125 hb122.lt)
            have hb128 := hb122.keep hBa
            have oc124 := Lib.hid (ownsRow_mono oc125 hH.size)
            refine hK1.out _ _ (below_call hH hH.size hBa) (fun hH => ?_)
            clear hK1 K1 hBa oc125
            refine takeH_move (o := ⟨some 49, _, _, _, _, _⟩) (i := 4) rfl (by kernel_rfl) (by kernel_rfl) (by kernel_rfl) (fun _ _ _ _ h => h) rfl (.tmp 53) rfl (.tuple #[(.slice A126 512 c127), .agg (pcells 5 4 S1).toArray, .int .i64 0]) rfl hH ?_
            simp only [Act.put, List.setIfInBounds_toArray, List.set_cons_zero, List.set_cons_succ, Nat.zero_add, decide_true, beq_self_eq_true]
            refine takeH_S (o := ⟨some 54, _, _, _, _, _⟩) (i := 5) rfl (by kernel_rfl) (by kernel_rfl) (by kernel_rfl) (fun _ _ _ _ h => h) rfl (.slice A126 512 c127) (fun w _ => by go_simp) hH ?_
            simp only [Act.put, List.setIfInBounds_toArray, List.set_cons_zero, List.set_cons_succ, Nat.zero_add, decide_true, beq_self_eq_true]
            refine takeH_S (o := ⟨some 55, _, _, _, _, _⟩) (i := 6) rfl (by kernel_rfl) (by kernel_rfl) (by kernel_rfl) (fun _ _ _ _ h => h) rfl (.agg (pcells 5 4 S1).toArray) (fun w _ => by go_simp) hH ?_
            simp only [Act.put, List.setIfInBounds_toArray, List.set_cons_zero, List.set_cons_succ, Nat.zero_add, decide_true, beq_self_eq_true]
            refine takeH_S (o := ⟨some 56, _, _, _, _, _⟩) (i := 7) rfl (by kernel_rfl) (by kernel_rfl) (by kernel_rfl) (fun _ _ _ _ h => h) rfl (.int .i64 0) (fun w _ => by go_simp) hH ?_
            simp only [Act.put, List.setIfInBounds_toArray, List.set_cons_zero, List.set_cons_succ, Nat.zero_add, decide_true, beq_self_eq_true]
            refine takeH_assign (o := ⟨some 14, _, _, _, _, _⟩) (i := 9) rfl (by kernel_rfl) (by kernel_rfl) (by kernel_rfl) (fun _ _ _ _ h => h) rfl (.tmp 54) rfl (.slice A126 512 c127) rfl hH ?_
            simp only [Act.put, List.setIfInBounds_toArray, List.set_cons_zero, List.set_cons_succ, Nat.zero_add, decide_true, beq_self_eq_true]
            refine wpAnyH_ready (rs := [10]) (by kernel_rfl) (by simp) ?_
            refine AllReadyH.cons rfl (fun K1 hK1 => ?_) AllReadyH.nil
            · rw [if_pos (by rfl)]
              refine wp_storeA 41 (.tmp 15) (.tmp 55) rfl 34 arrPt _ _ rfl (pcells 5 4 S1) rfl 41 _ hb128 hp1.out (by simp) (pcells_ones _ _ _) ?_
              intro w130 hb131 hKb
              simp only [Act.put, List.getElem_toArray, List.getElem_cons_succ, List.getElem_cons_zero, List.setIfInBounds_toArray, List.set_cons_zero, List.set_cons_succ, Nat.zero_add]
              rw [putL_all (by rw [hp1.out]; simp)] at hb131
              have oc132 := Lib.hid (own_keeps oc124.out hKb (fun k _ hk hm => ne129.out k hk (by simpa using hm)))
              refine hK1.out _ _ (hH.trans (hKb.below hH.size (by intro b hb; simp only [List.mem_singleton] at hb; subst hb; exact ge118.out))) (fun hH => ?_)
              clear hK1 K1 hKb
              refine takeH_assign (o := ⟨some 16, _, _, _, _, _⟩) (i := 11) rfl (by kernel_rfl) (by kernel_rfl) (by kernel_rfl) (fun _ _ _ _ h => h) rfl (.tmp 56) rfl (.int .i64 0) rfl hH ?_
              simp only [Act.put, List.setIfInBounds_toArray, List.set_cons_zero, List.set_cons_succ, Nat.zero_add, decide_true, beq_self_eq_true]
              refine wpAnyH_done (by kernel_rfl) ?_ _
              go_wp2_with fail
              go_meet
              exact ⟨_, _, _, rfl, rfl, rfl, hb131, oc132.out, hH, ge118.out, ne129.out⟩
    case rest =>
    rename World => wz
    obtain ⟨A14, c14, g14, rfl, rfl, rfl, hq14, o14, hBr, -, -⟩ := hcut
    replace o14 := Lib.hid (Sl.of_own o14)
    replace hB := below_call hB hB.size hBr
    replace h7 := h7.keep hBr
    replace sA := Lib.hid (sA.out.keep hBr)
    replace sB := Lib.hid (sB.out.keep hBr)
    replace hq8 := hq8.keep hBr
    replace o8 := Lib.hid (o8.out.keep hBr)
    replace hq11 := hq11.keep hBr
    replace o11 := Lib.hid (o11.out.keep hBr)
    clear hBr
    rename World => wr
    clear hs5 hs6 hba hbb sA sB
    go_wp2_with (first
      | refine wpList_loadG rfl 41 (.tmp 9) rfl 34 arrPt _ rfl 41 _ hq8 hp1.out ?_
      | refine wpList_loadG rfl 41 (.tmp 15) rfl 34 arrPt _ rfl 41 _ hq14 hp1.out ?_
      | refine wpList_neqPt rfl (.tmp 68) (.tmp 69) rfl 5 4 S1 hS1.out rfl rfl ?_)
    refine (hxx.out _ _ _ o8.out o14.out).mono ?_
    rintro e w5 ⟨rfl, rfl⟩
    clear hxx hq14 o14
    by_cases hSS : S1 = S2
    · replace hSS := Lib.hid hSS
      go_wp2_with (first
        | refine wpList_loadW rfl 28 (.tmp 7) rfl 64 arrKs _ rfl 28 _ h7 hKl.out ?_
        | refine wpList_loadW rfl 41 (.tmp 12) rfl 34 arrPt _ rfl 41 _ hq11 hp2.out ?_)
      refine (hop1.out _ _ o8.out).mono ?_
      intro e w6 hr
      obtain ⟨v6, rfl, hB6⟩ := hr.1 hSS.out
      clear hr
      replace hB := below_call hB hB.size hB6
      replace h7 := h7.keep hB6
      replace hq8 := hq8.keep hB6
      replace o8 := Lib.hid (o8.out.keep hB6)
      replace o11 := Lib.hid (o11.out.keep hB6)
      clear hB6 hq11
      go_wp2_with (first
        | refine wpList_loadW rfl 28 (.tmp 7) rfl 64 arrKs _ rfl 28 _ h7 hKl.out ?_
        | refine wpList_loadW rfl 41 (.tmp 9) rfl 34 arrPt _ rfl 41 _ hq8 hp1.out ?_)
      refine (hop2.out _ _ o11.out).mono ?_
      intro e w7 hr
      obtain ⟨v7, rfl, hB7⟩ := hr.1 hSS.out.symm
      clear hr
      replace hB := below_call hB hB.size hB7
      replace o8 := Lib.hid (o8.out.keep hB7)
      replace o11 := Lib.hid (o11.out.keep hB7)
      clear hB7 hq8 h7 hop1 hop2
      by_cases hXY : X = Y
      · have hxy' := Lib.hid (hxy.out _ _ _ o8.out o11.out)
        rw [decide_eq_true hXY] at hxy'
        replace hXY := Lib.hid hXY
        go_wp2_with fail
        refine hxy'.out.mono ?_
        rintro e w8 ⟨rfl, rfl⟩
        go_wp2
        go_ret
        exact ⟨rfl, hB⟩
      · have hxy' := Lib.hid (hxy.out _ _ _ o8.out o11.out)
        rw [decide_eq_false hXY] at hxy'
        replace hXY := Lib.hid hXY
        go_wp2_with fail
        refine hxy'.out.mono ?_
        rintro e w8 ⟨rfl, rfl⟩
        go_wp2_with fail
        refine (hsx.out _ _ o8.out).mono ?_
        rintro e w9 ⟨rfl, hB9⟩
        replace hB := below_call hB hB.size hB9
        replace o11 := Lib.hid (o11.out.keep hB9)
        clear hB9 o8
        go_wp2_with fail
        refine (hsy.out _ _ o11.out).mono ?_
        rintro e w10 ⟨rfl, hB10⟩
        replace hB := below_call hB hB.size hB10
        clear hB10 o11
        go_wp2_with (refine wpList_eqlG rfl 26 (.tmp 109) (.tmp 111) 26 rfl 32 bytH S1 S2 rfl rfl hS1.out hS2.out ?_; rw [decide_eq_true hSS.out])
        go_wp2
        go_ret
        exact ⟨rfl, hB⟩
    · replace hSS := Lib.hid hSS
      go_wp2_with (first
        | refine wpList_loadW rfl 28 (.tmp 7) rfl 64 arrKs _ rfl 28 _ h7 hKl.out ?_
        | refine wpList_loadW rfl 41 (.tmp 12) rfl 34 arrPt _ rfl 41 _ hq11 hp2.out ?_)
      refine (hop1.out _ _ o8.out).mono ?_
      intro e w6 hr
      obtain ⟨rfl, hB6⟩ := hr.2 hSS.out
      clear hr
      replace hB := below_call hB hB.size hB6
      replace h7 := h7.keep hB6
      replace hq8 := hq8.keep hB6
      replace o8 := Lib.hid (o8.out.keep hB6)
      replace o11 := Lib.hid (o11.out.keep hB6)
      clear hB6 hq11
      go_wp2_with (first
        | refine wpList_loadW rfl 28 (.tmp 7) rfl 64 arrKs _ rfl 28 _ h7 hKl.out ?_
        | refine wpList_loadW rfl 41 (.tmp 9) rfl 34 arrPt _ rfl 41 _ hq8 hp1.out ?_)
      refine (hop2.out _ _ o11.out).mono ?_
      intro e w7 hr
      obtain ⟨rfl, hB7⟩ := hr.2 (fun h => hSS.out h.symm)
      clear hr
      replace hB := below_call hB hB.size hB7
      replace o8 := Lib.hid (o8.out.keep hB7)
      replace o11 := Lib.hid (o11.out.keep hB7)
      clear hB7 hq8 h7 hop1 hop2
      have hxy' := Lib.hid (hxy.out _ _ _ o8.out o11.out)
      rw [decide_eq_false (fun h => hSS.out (hXS.out h))] at hxy'
      go_wp2_with fail
      refine hxy'.out.mono ?_
      rintro e w8 ⟨rfl, rfl⟩
      go_wp2
      go_ret
      exact ⟨rfl, hB⟩
theorem walk (K : List Nat) (hK : K.length = 32) (bK : Byt K) (v0 : Value) (la : List Nat) (ba : Byt la) (ma : la.length ≤ 140737488351232) (v1 : Value) (lb : List Nat) (bb : Byt lb) (mb : lb.length ≤ 140737488351232) (W : World) (s0 : Sl W v0 (bv la)) (s1 : Sl W v1 (bv lb)) :
    Calls Try.prog 8 #[.agg (bv K).toArray, v0, v1] W fun e w' => e = .returned (.bool true) ∧ Below W.heap.size W w' := by
  obtain ⟨A, c, rfl, -⟩ := id s0
  obtain ⟨A2, c2, rfl, -⟩ := id s1
  exact core A A2 _ c _ c2 K la lb W (by simp) (by simp) s0 s1 hK bK ba bb (by omega) (by omega)
end Go.Proofs.Ytlifpmglaoppoaa.w_SealOthers
