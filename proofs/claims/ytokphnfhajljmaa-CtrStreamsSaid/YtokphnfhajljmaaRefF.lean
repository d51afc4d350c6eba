/- Contract of banyanref04: Table. -/
import Derived.Test.YtokphnfhajljmaaRefE
import Derived.Test.YtokphnfhajljmaaAesB
import Derived.Test.YtokphnfhajljmaaRgx
import Derived.Deep.Cut
set_option linter.unusedVariables false
set_option linter.unusedSimpArgs false
namespace Go.Proofs.Ytokphnfhajljmaa
open Go.RowKit
open Go.Proofs.PlainAes

theorem upd_lo {α : Type} {new old : List α} {k i : Nat} (hi : i < k) (hk : k ≤ new.length) : (upd new old k)[i]? = new[i]? := by
  unfold upd
  rw [List.getElem?_append_left (by simp; omega), List.getElem?_take, if_pos hi]
theorem arrT256 : ArrTy Try.prog 37 256 := ⟨_, Try.underlying37, rfl, by kernel_rfl⟩
set_option maxRecDepth 100000 in
set_option maxHeartbeats 4000000 in
theorem rtable_any (w : World) : Calls Try.prog 13 #[] w (RetA (mk 256 box) w) := by
  have hti := Lib.hid (fun (k : Nat) (hk : (k : Int) ≤ 255) w => rtimes_any k 3 w hk (by decide))
  have hb0 := Lib.hid (fun w => rboxed_any 0 w (by decide))
  have hbo := Lib.hid (fun (k : Nat) (hk : (k : Int) ≤ 255) w => rboxed_any k w hk)
  have hPl := Lib.hid powT_len
  have hPb := Lib.hid (fun i => gd_lt powT_byt i)
  have hst : Hid (∀ q, q < 255 → mul (gd powT q) 3 = gd powT (q + 1)) := fun q hq => by rw [gd_powT q (by omega), gd_powT (q + 1) (by omega), p3]
  have hP0 : Hid (powT[0]? = some 1) := by show _ = _; decide +kernel
  have hT0 : Hid (tabN 0 = (zeros 256).set 0 (boxed 0)) := rfl
  have hTs : Hid (∀ j, tabN (j + 1) = (tabN j).set (gd powT j) (boxed (gd powT (255 - j)))) := fun j => rfl
  have hTl0 := Lib.hid tabN_len
  have hfin := Lib.hid tab_all
  have hML : Hid ((bv (mk 256 box)).length = 256) := by show _ = _; simp
  have hR : Hid (∀ w', Below w.heap.size w w' → RetA (mk 256 box) w (.returned (.agg (bv (mk 256 box)).toArray)) w') := fun w' h => ⟨rfl, h⟩
  generalize RetA (mk 256 box) w = RX at *
  generalize mk 256 box = TB at *
  generalize boxed 0 = bx0 at *
  go_enter Try.func13, Try.ntmps13
  go_wp2_with (refine wpList_allocA rfl 37 rfl (bv (zeros 256)) (by kernel_rfl) ?_)
  intro w1 h0 hK1 hz1
  have hB := (Below.refl w.heap.size w).trans (hK1.below (Nat.le_refl _) (by simp))
  clear hK1 hz1
  have ga := Lib.hid h0.lt
  go_wp2_with (refine wpList_allocA rfl 37 rfl (bv (zeros 256)) (by kernel_rfl) ?_)
  intro w2 h1 hK2 hz2
  replace h0 := h0.keeps hK2 (by simp)
  have gb := Lib.hid h1.lt
  have gc := Lib.hid hB.size
  replace hB := hB.trans (hK2.below hB.size (by simp))
  clear hK2 hz2
  go_wp2_with (refine wpList_allocA rfl 37 rfl (bv (zeros 256)) (by kernel_rfl) ?_)
  intro w3 h2 hK3 hz3
  replace h0 := h0.keeps hK3 (by simp)
  replace h1 := h1.keeps hK3 (by simp)
  replace hB := hB.trans (hK3.below hB.size (by simp))
  clear hK3
  have g01 : Hid (w.heap.size < w1.heap.size) := ga
  have g12 : Hid (w1.heap.size < w2.heap.size) := gb
  have gw1 : Hid (w.heap.size ≤ w1.heap.size) := gc
  clear ga gb gc hz3
  generalize hg0 : w.heap.size = g0 at h0 g01 gw1
  replace hg0 := Lib.hid hg0
  generalize w1.heap.size = g1 at *
  generalize w2.heap.size = g2 at *
  have gw0 : Hid (w.heap.size ≤ g0) := by show _ ≤ _; rw [hg0.out]; exact Nat.le_refl _
  have gw1' : Hid (w.heap.size ≤ g1) := by show _ ≤ _; rw [hg0.out]; exact gw1.out
  have c0 := h2.cell 0
  rw [bv_get, zeros_get (by decide)] at c0
  simp only [Option.map_some] at c0
  have f0 := h2.frozen 0
  have h2a : Hid (Blk (w3.setCell ⟨g2, 0, none⟩ (.int .u8 1)) g2 37 (bv (upd powT (zeros 256) (0 + 1)))) := by
    have h := h2.set_ 0 (.int .u8 ((1 : Nat) : Int))
    rw [bv_set] at h
    rw [← upd_set (new := powT) (old := zeros 256) (k := 0) (by rw [hPl.out]; simp) (by simp) hP0.out, upd_zero]
    exact h
  have h0a : Hid (Blk (w3.setCell ⟨g2, 0, none⟩ (.int .u8 1)) g0 37 (bv (zeros 256))) := h0.far (by simp; have := g01.out; have := g12.out; omega) _
  have h1a : Hid (Blk (w3.setCell ⟨g2, 0, none⟩ (.int .u8 1)) g1 37 (bv (zeros 256))) := h1.far (by simp; have := g12.out; omega) _
  have hBa : Hid (Below w.heap.size w (w3.setCell ⟨g2, 0, none⟩ (.int .u8 1))) := hB.setCell (by simp; have := g12.out; have := gw1'.out; omega) _
  clear h0 h1 h2 hB
  go_wp2
  go_loopw [3] (fun s wr => ∃ q : Nat, (q : Int) ≤ 255 ∧ s = .int .i64 ((q : Int) + 1) ∧ Blk wr g0 37 (bv (zeros 256)) ∧ Blk wr g1 37 (bv (zeros 256)) ∧ Blk wr g2 37 (bv (upd powT (zeros 256) (q + 1))) ∧ Below w.heap.size w wr) (fun s _ => 256 - (intOf s).toNat)
  case atStart => exact ⟨0, by omega, rfl, h0a.out, h1a.out, h2a.out, hBa.out⟩
  case round =>
    clear h0a h1a h2a hBa c0 f0
    obtain ⟨q, hq, rfl, h0, h1, h2, hB⟩ := hrel
    by_cases hlt : (q : Int) < 255
    · have cq := h2.cell q
      rw [bv_get, upd_lo (by omega) (by rw [hPl.out]; omega), gd_get (by rw [hPl.out]; omega)] at cq
      simp only [Option.map_some] at cq
      have hx := hPb.out q
      have hs := hst.out q (by omega)
      have hnew := Lib.hid (gd_get (l := powT) (i := q + 1) (by rw [hPl.out]; omega))
      generalize gd powT q = x at *
      have ht := Lib.hid (fun w => hti.out x (by omega) w)
      rw [hs] at ht
      generalize gd powT (q + 1) = y at *
      clear hs hx
      replace h2 := Lib.hid h2
      go_wp2_with fail
      refine (ht.out _).mono ?_
      rintro en wa ⟨rfl, hBx⟩
      replace h0 := h0.keep hBx
      replace h1 := h1.keep hBx
      replace h2 := h2.out.keep hBx
      replace hB := below_call hB hB.size hBx
      clear hBx cq ht
      have cq := h2.cell (q + 1)
      rw [bv_get, upd_get (by rw [hPl.out]; simp) (Nat.le_refl _) (by simp; omega), zeros_get (by omega)] at cq
      simp only [Option.map_some] at cq
      have fq := h2.frozen (q + 1)
      have hset : Hid (Blk (wa.setCell ⟨g2, q + 1, none⟩ (.int .u8 (y : Int))) g2 37 (bv (upd powT (zeros 256) (q + 1 + 1)))) := by
        rw [← upd_set (new := powT) (old := zeros 256) (k := q + 1) (by rw [hPl.out]; simp) (by simp; omega) hnew.out, ← bv_set]
        exact h2.set_ (q + 1) _
      have b4 : ((q : Int) + 1).toNat = q + 1 := by omega
      replace h2 := Lib.hid h2
      go_wp2
      go_roundw
      case rel => exact ⟨q + 1, by omega, by go_num, h0.far (by simp; have := g01.out; have := g12.out; omega) _, h1.far (by simp; have := g12.out; omega) _, hset.out, hB.setCell (by simp; have := g12.out; have := gw1'.out; omega) _⟩
      case measure => simp [intOf]; omega
    · obtain rfl : q = 255 := by omega
      rw [upd_all hPl.out (by simp)] at h2
      clear hP0 hst hti
      replace h2 := Lib.hid h2
      go_wp2_with fail
      refine (hb0.out _).mono ?_
      rintro en wa ⟨rfl, hBx⟩
      replace h0 := h0.keep hBx
      replace h1 := h1.keep hBx
      replace h2 := h2.out.keep hBx
      replace hB := below_call hB hB.size hBx
      clear hBx hb0
      have c0 := h1.cell 0
      rw [bv_get, zeros_get (by decide)] at c0
      simp only [Option.map_some] at c0
      have f0 := h1.frozen 0
      have h1a : Hid (Blk (wa.setCell ⟨g1, 0, none⟩ (.int .u8 (bx0 : Int))) g1 37 (bv (tabN 0))) := by
        rw [hT0.out, ← bv_set]
        exact h1.set_ 0 _
      have h0a : Hid (Blk (wa.setCell ⟨g1, 0, none⟩ (.int .u8 (bx0 : Int))) g0 37 (bv (zeros 256))) := h0.far (by simp; have := g01.out; omega) _
      have h2a : Hid (Blk (wa.setCell ⟨g1, 0, none⟩ (.int .u8 (bx0 : Int))) g2 37 (bv powT)) := h2.far (by simp; have := g12.out; omega) _
      have hBa : Hid (Below w.heap.size w (wa.setCell ⟨g1, 0, none⟩ (.int .u8 (bx0 : Int)))) := hB.setCell (by simp; have := gw1'.out; omega) _
      clear h0 h1 h2 hB
      go_wp2
      go_loopw [4] (fun s wr => ∃ j : Nat, (j : Int) ≤ 255 ∧ s = .int .i64 (j : Int) ∧ Blk wr g0 37 (bv (zeros 256)) ∧ Blk wr g1 37 (bv (tabN j)) ∧ Blk wr g2 37 (bv powT) ∧ Below w.heap.size w wr) (fun s _ => 255 - (intOf s).toNat)
      case atStart => exact ⟨0, by omega, rfl, h0a.out, h1a.out, h2a.out, hBa.out⟩
      case round =>
        clear h0a h1a h2a hBa c0 f0 hT0
        obtain ⟨j, hj, rfl, h0, h1, h2, hB⟩ := hrel
        by_cases hlj : (j : Int) < 255
        · obtain ⟨d, hd⟩ : ∃ d, Hid (d = 255 - j) := ⟨_, rfl⟩
          have b1 : (255 : Int) - (j : Int) = (d : Int) := by have := hd.out; omega
          have b2 : IntKind.i64.wrap (d : Int) = (d : Int) := IntWalk.i64_in _ (by have := hd.out; omega)
          have b3 : (d : Int) ≤ 255 := by have := hd.out; omega
          have b5 : (0 : Int) ≤ (j : Int) := by omega
          have hTl := Lib.hid (hTl0.out j)
          have hpx : Hid ((bv powT)[j]? = some (.int .u8 ((gd powT j : Nat) : Int))) := bv_some (gd_get (by rw [hPl.out]; omega))
          have hpy : Hid ((bv powT)[d]? = some (.int .u8 ((gd powT d : Nat) : Int))) := bv_some (gd_get (by rw [hPl.out]; omega))
          have hbx := Lib.hid (fun w => hbo.out (gd powT d) (by have := hPb.out d; omega) w)
          have hx := hPb.out j
          have hnext : Hid (tabN (j + 1) = (tabN j).set (gd powT j) (boxed (gd powT d))) := by show _ = _; rw [hTs.out, hd.out]
          generalize gd powT j = x at *
          generalize gd powT d = y at *
          generalize boxed y = z at *
          have b6 : (x : Int) ≤ 255 := by omega
          clear hd hx
          go_upto_region 11 with fail
          refine wp_region_held_drew (S := fun w' => w'.cell? ⟨g2, j, none⟩ = some (.int .u8 (x : Int)) ∧ w'.cell? ⟨g2, d, none⟩ = some (.int .u8 (y : Int))) (by kernel_rfl) ⟨(h2.drew.cell j).trans hpx.out, (h2.drew.cell d).trans hpy.out⟩ (fun hH => ?_)
          refine takeH_move (o := ⟨some 23, _, _, _, _, _⟩) (i := 0) rfl (by kernel_rfl) (by kernel_rfl) (by kernel_rfl) (fun _ _ _ _ h => h) rfl (.tmp 4) rfl (.int .i64 (j : Int)) rfl hH ?_
          simp only [Act.put, List.setIfInBounds_toArray, List.set_cons_zero, List.set_cons_succ, Nat.zero_add, decide_true, beq_self_eq_true]
          refine takeH_S (o := ⟨some 24, _, _, _, _, _⟩) (i := 1) rfl (by kernel_rfl) (by kernel_rfl) (by kernel_rfl) (fun _ _ _ _ h => h) rfl (.pointer (some ⟨g2, j, none⟩)) (fun w _ => by go_simp; intro hh; omega) hH ?_
          simp only [Act.put, List.setIfInBounds_toArray, List.set_cons_zero, List.set_cons_succ, Nat.zero_add, decide_true, beq_self_eq_true]
          refine takeH_cell (o := ⟨some 25, _, _, _, _, _⟩) (i := 2) rfl (by kernel_rfl) (by kernel_rfl) (by kernel_rfl) (fun _ _ _ _ h => h) rfl 5 (.tmp 24) rfl Try.underlying5 rfl g2 j rfl (.int .u8 (x : Int)) (fun w h => h.1) hH ?_
          simp only [Act.put, List.setIfInBounds_toArray, List.set_cons_zero, List.set_cons_succ, Nat.zero_add, decide_true, beq_self_eq_true]
          refine takeH_move (o := ⟨some 26, _, _, _, _, _⟩) (i := 3) rfl (by kernel_rfl) (by kernel_rfl) (by kernel_rfl) (fun _ _ _ _ h => h) rfl (.tmp 4) rfl (.int .i64 (j : Int)) rfl hH ?_
          simp only [Act.put, List.setIfInBounds_toArray, List.set_cons_zero, List.set_cons_succ, Nat.zero_add, decide_true, beq_self_eq_true]
          refine takeH_S (o := ⟨some 27, _, _, _, _, _⟩) (i := 4) rfl (by kernel_rfl) (by kernel_rfl) (by kernel_rfl) (fun _ _ _ _ h => h) rfl (.int .i64 (d : Int)) (fun w _ => by go_simp) hH ?_
          simp only [Act.put, List.setIfInBounds_toArray, List.set_cons_zero, List.set_cons_succ, Nat.zero_add, decide_true, beq_self_eq_true]
          refine takeH_S (o := ⟨some 28, _, _, _, _, _⟩) (i := 5) rfl (by kernel_rfl) (by kernel_rfl) (by kernel_rfl) (fun _ _ _ _ h => h) rfl (.pointer (some ⟨g2, d, none⟩)) (fun w _ => by go_simp; intro hh; omega) hH ?_
          simp only [Act.put, List.setIfInBounds_toArray, List.set_cons_zero, List.set_cons_succ, Nat.zero_add, decide_true, beq_self_eq_true]
          refine takeH_cell (o := ⟨some 29, _, _, _, _, _⟩) (i := 6) rfl (by kernel_rfl) (by kernel_rfl) (by kernel_rfl) (fun _ _ _ _ h => h) rfl 5 (.tmp 28) rfl Try.underlying5 rfl g2 d rfl (.int .u8 (y : Int)) (fun w h => h.2) hH ?_
          simp only [Act.put, List.setIfInBounds_toArray, List.set_cons_zero, List.set_cons_succ, Nat.zero_add, decide_true, beq_self_eq_true]
          refine wpAnyH_ready (rs := [7]) (by kernel_rfl) (by simp) ?_
          refine AllReadyH.cons rfl (fun K1 hK1 => ?_) AllReadyH.nil
          rw [if_pos (by rfl)]
          go_wp2_with fail
          refine (hbx.out _).mono ?_
          rintro en wa ⟨rfl, hBa⟩
          have hbw : Below wr.heap.size wr wa := below_call ((Below.refl wr.heap.size wr).drew) ((Below.refl wr.heap.size wr).drew).size hBa
          refine hK1.out _ _ ⟨((h2.keep hbw).cell j).trans hpx.out, ((h2.keep hbw).cell d).trans hpy.out⟩ (fun hH => ?_)
          clear hK1 K1 hBa
          refine takeH_S (o := ⟨some 31, _, _, _, _, _⟩) (i := 8) rfl (by kernel_rfl) (by kernel_rfl) (by kernel_rfl) (fun _ _ _ _ h => h) rfl (.pointer (some ⟨g1, x, none⟩)) (fun w _ => by go_simp; intro hh; omega) hH ?_
          simp only [Act.put, List.setIfInBounds_toArray, List.set_cons_zero, List.set_cons_succ, Nat.zero_add, decide_true, beq_self_eq_true]
          refine wpAnyH_ready (rs := [9]) (by kernel_rfl) (by simp) ?_
          refine AllReadyH.cons rfl (fun K1 hK1 => ?_) AllReadyH.nil
          rw [if_pos (by rfl)]
          have c1 := (h1.keep hbw).cell x
          rw [bv_some (gd_get (l := tabN j) (i := x) (by rw [hTl.out]; omega))] at c1
          have f1 := (h1.keep hbw).frozen x
          have hset := Lib.hid ((h1.keep hbw).set_ x (.int .u8 (z : Int)))
          have hk0 : Hid (Blk (wa.setCell ⟨g1, x, none⟩ (.int .u8 (z : Int))) g0 37 (bv (zeros 256))) := (h0.keep hbw).far (by simp; have := g01.out; omega) _
          have hk2 : Hid (Blk (wa.setCell ⟨g1, x, none⟩ (.int .u8 (z : Int))) g2 37 (bv powT)) := (h2.keep hbw).far (by simp; have := g12.out; omega) _
          have hBf : Hid (Below w.heap.size w (wa.setCell ⟨g1, x, none⟩ (.int .u8 (z : Int)))) := (below_call hB hB.size hbw).setCell (by simp; have := gw1'.out; omega) _
          go_wp2_with fail
          refine hK1.out _ _ ⟨(hk2.out.cell j).trans hpx.out, (hk2.out.cell d).trans hpy.out⟩ (fun hH => ?_)
          clear hK1 K1 c1 f1
          refine wpAnyH_done (by kernel_rfl) ?_ _
          clear hH h0 h1 h2 hB
          go_wp2
          go_roundw
          case rel => exact ⟨j + 1, by omega, by go_num, hk0.out, by rw [hnext.out, ← bv_set]; exact hset.out, hk2.out, hBf.out⟩
          case measure => simp [intOf]; omega
        · obtain rfl : j = 255 := by omega
          rw [hfin.out] at h1
          go_wp2_with (first
            | refine wpList_loadW rfl 37 (.tmp 1) rfl 256 arrT256 _ rfl 37 _ h1 hML.out ?_
            | refine wpList_storeW rfl 37 (.tmp 0) (.tmp 32) rfl 256 arrT256 _ rfl (bv TB) rfl 37 _ h0 hML.out (by simp) (ones_bv _) ?_)
          intro wf hf hKf
          go_wp2
          exact bodyPost_ret (v := .agg (bv TB).toArray) (res_cell Try.results13 _ _ _ 37 _ arrT256 hML.out rfl hf) rfl (hR.out _ (hB.trans (hKf.below hB.size (by intro b hb; simp only [List.mem_singleton] at hb; subst hb; exact gw0.out))))
end Go.Proofs.Ytokphnfhajljmaa
