/- Contract of banyanref04: columns. -/
import Derived.Test.YtokphnfhajljmaaRefB
import Derived.Test.YtokphnfhajljmaaRefG
import Derived.Test.YtokphnfhajljmaaRgx
import Derived.Deep.Cut
set_option linter.unusedVariables false
set_option linter.unusedSimpArgs false
namespace Go.Proofs.PlainAes
/-- A place of the columns mixed by four numbers: so many summed. -/
def colK (m b : List Nat) (c i : Nat) : Nat → Nat
  | 0 => 0
  | k + 1 => colK m b c i k ^^^ mul (gd m k) (gd b (4 * c + (i + k) % 4))
def colL (m b : List Nat) : List Nat := mk 16 (fun p => colK m b (p / 4) (p % 4) 4)
theorem colK_lt {m : List Nat} (hm : ∀ x ∈ m, x < 256) (b : List Nat) (c i : Nat) : ∀ k, colK m b c i k < 256
  | 0 => by unfold colK; decide
  | k + 1 => xor_lt (colK_lt hm b c i k) (mul_lt _ (gd_lt hm k))
end Go.Proofs.PlainAes
namespace Go.Proofs.Ytokphnfhajljmaa
open Go.RowKit
open Go.Proofs.PlainAes

theorem set_same {l : List Nat} {p v : Nat} (h : l[p]? = some v) : l.set p v = l := by
  apply List.ext_getElem?
  intro i
  rw [List.getElem?_set]
  split
  · next e => subst e; split <;> simp_all
  · rfl
set_option maxRecDepth 100000 in
set_option maxHeartbeats 4000000 in
theorem rcolumns_any (b by4 : List Nat) (w : World) (hb : b.length = 16) (hm : by4.length = 4) (bb : Byt b) (bm : Byt by4) :
    Calls Try.prog 36 #[.agg (bv b).toArray, .agg (bv by4).toArray] w (RetA (colL by4 b) w) := by
  have htm := Lib.hid (fun (x y : Nat) (hx : (x : Int) ≤ 255) (hy : (y : Int) ≤ 255) w => rtimes_any x y w hx hy)
  have hbl := Lib.hid hb
  have hml := Lib.hid hm
  have hbb := Lib.hid (fun i => gd_lt bb i)
  have hbm := Lib.hid (fun i => gd_lt bm i)
  have hcl := Lib.hid (fun c i k => colK_lt bm b c i k)
  have hRl : Hid ((colL by4 b).length = 16) := by show _ = _; simp [colL]
  have hRg : Hid (∀ c i, c < 4 → i < 4 → (colL by4 b)[4 * c + i]? = some (colK by4 b c i 4)) := fun c i hc hi => by
    unfold colL
    rw [mk_get _ (by omega), show (4 * c + i) / 4 = c from by omega, show (4 * c + i) % 4 = i from by omega]
  have hRet : Hid (∀ w', Below w.heap.size w w' → RetA (colL by4 b) w (.returned (.agg (bv (colL by4 b)).toArray)) w') := fun w' h => ⟨rfl, h⟩
  have hRbl : Hid ((bv (colL by4 b)).length = 16) := by show _ = _; simp [colL]
  clear hb hm bb bm
  generalize RetA (colL by4 b) w = RX at *
  generalize colL by4 b = RR at *
  go_enter Try.func36, Try.ntmps36
  go_wp2_with (refine wpList_allocA rfl 54 rfl (bv (zeros 16)) (by kernel_rfl) ?_)
  intro w1 h4 hK1 hz1
  have h2 := ((Blk.new_at (w := w) (t := 54) (cs := (bv b).toArray) rfl rfl).alloc (.cells (bv by4).toArray 82)).keeps hK1 (by simp)
  have h3 := (Blk.new_at (w := w.alloc (.cells (bv b).toArray 54)) (t := 82) (cs := (bv by4).toArray) rfl rfl).keeps hK1 (by simp)
  simp only [List.size_toArray, World.size_alloc] at h2 h3 h4
  have hB : Below w.heap.size w w1 := (((Below.refl _ _).alloc (Nat.le_refl _) _).alloc (by simp) _).trans (hK1.below (by simp; omega) (by simp))
  clear hK1 hz1
  have ga := Lib.hid h4.lt
  go_wp2_with (refine wpList_allocA rfl 54 rfl (bv (zeros 16)) (by kernel_rfl) ?_)
  intro w2 h5 hK2 hz2
  replace h2 := h2.keeps hK2 (by simp)
  replace h3 := h3.keeps hK2 (by simp)
  replace h4 := h4.keeps hK2 (by simp)
  replace hB := hB.trans (hK2.below hB.size (by simp))
  clear hK2 hz2
  have g25 : Hid (w.heap.size < w1.heap.size) := by show _ < _; have := ga.out; omega
  have g35 : Hid (w.heap.size + 1 < w1.heap.size) := by show _ < _; have := ga.out; omega
  have g45 : Hid (w.heap.size + 1 + 1 < w1.heap.size) := ga
  have gw4 : Hid (w.heap.size ≤ w.heap.size + 1 + 1) := by show _ ≤ _; omega
  have gw5 : Hid (w.heap.size ≤ w1.heap.size) := by show _ ≤ _; have := ga.out; omega
  clear ga
  generalize w1.heap.size = g5 at *
  generalize w.heap.size + 1 + 1 = g4 at *
  generalize w.heap.size + 1 = g3 at *
  generalize hg2 : w.heap.size = g2 at h2 g25
  replace hg2 := Lib.hid hg2
  have z0 : Hid (Blk w2 g5 54 (bv (upd RR (zeros 16) (4 * 0)))) := by show Blk _ _ _ _; rw [Nat.mul_zero, upd_zero]; exact h5
  clear h5
  go_wp2
  go_loopw [6] (fun s wr => ∃ c : Nat, (c : Int) ≤ 4 ∧ s = .int .i64 (c : Int) ∧ Blk wr g2 54 (bv b) ∧ Blk wr g3 82 (bv by4) ∧ Blk wr g4 54 (bv (zeros 16)) ∧ Blk wr g5 54 (bv (upd RR (zeros 16) (4 * c))) ∧ Below w.heap.size w wr) (fun s _ => 4 - (intOf s).toNat)
  case atStart => exact ⟨0, by omega, rfl, h2, h3, h4, z0.out, hB⟩
  case round =>
    clear h2 h3 h4 z0 hB
    obtain ⟨c, hc, rfl, h2, h3, h4, h5, hB⟩ := hrel
    by_cases hlc : (c : Int) < 4
    · go_wp2
      go_loopw [7] (fun s wr => ∃ i : Nat, (i : Int) ≤ 4 ∧ s = .int .i64 (i : Int) ∧ Blk wr g2 54 (bv b) ∧ Blk wr g3 82 (bv by4) ∧ Blk wr g4 54 (bv (zeros 16)) ∧ Blk wr g5 54 (bv (upd RR (zeros 16) (4 * c + i))) ∧ Below w.heap.size w wr) (fun s _ => 4 - (intOf s).toNat)
      case atStart => exact ⟨0, by omega, rfl, h2, h3, h4, h5, hB⟩
      case round =>
        clear h2 h3 h4 h5 hB
        obtain ⟨i, hi, rfl, h2, h3, h4, h5, hB⟩ := hrel
        by_cases hli : (i : Int) < 4
        · have hend : Hid ((upd RR (zeros 16) (4 * c + i)).set (4 * c + i) (colK by4 b c i 4) = upd RR (zeros 16) (4 * c + (i + 1))) := by
            show _ = _
            rw [← Nat.add_assoc]
            exact upd_set (by rw [hRl.out]; simp) (by simp; omega) (hRg.out c i (by omega) (by omega))
          have hrl : Hid ((upd RR (zeros 16) (4 * c + i)).length = 16) := by show _ = _; rw [upd_length (by rw [hRl.out]; simp) (by simp; omega)]; simp
          have z1 : Hid (Blk wr g5 54 (bv ((upd RR (zeros 16) (4 * c + i)).set (4 * c + i) (colK by4 b c i 0)))) := by
            show Blk _ _ _ _
            rw [set_same (by rw [upd_get (by rw [hRl.out]; simp) (Nat.le_refl _) (by simp; omega), zeros_get (by omega)]; rfl)]
            exact h5
          clear h5
          generalize upd RR (zeros 16) (4 * c + i) = ROW at *
          go_wp2
          go_loopw [8] (fun s wr => ∃ k : Nat, (k : Int) ≤ 4 ∧ s = .int .i64 (k : Int) ∧ Blk wr g2 54 (bv b) ∧ Blk wr g3 82 (bv by4) ∧ Blk wr g4 54 (bv (zeros 16)) ∧ Blk wr g5 54 (bv (ROW.set (4 * c + i) (colK by4 b c i k))) ∧ Below w.heap.size w wr) (fun s _ => 4 - (intOf s).toNat)
          case atStart => exact ⟨0, by omega, rfl, h2, h3, h4, z1.out, hB⟩
          case round =>
            clear h2 h3 h4 z1 hB
            obtain ⟨k, hk, rfl, h2, h3, h4, h5, hB⟩ := hrel
            by_cases hlk : (k : Int) < 4
            · obtain ⟨c4, hc4⟩ : ∃ c4, Hid (c4 = 4 * c) := ⟨_, rfl⟩
              obtain ⟨p, hp⟩ : ∃ p, Hid (p = 4 * c + i) := ⟨_, rfl⟩
              obtain ⟨r, hr⟩ : ∃ r, Hid (r = (i + k) % 4) := ⟨_, rfl⟩
              obtain ⟨q, hq⟩ : ∃ q, Hid (q = 4 * c + (i + k) % 4) := ⟨_, rfl⟩
              have b1 : (4 : Int) * (c : Int) = (c4 : Int) := by have := hc4.out; omega
              have b2 : (c4 : Int) + (i : Int) = (p : Int) := by have := hc4.out; have := hp.out; omega
              have b3 : Int.tmod ((i : Int) + (k : Int)) 4 = (r : Int) := by rw [hr.out, Int.tmod_eq_emod_of_nonneg (by omega)]; omega
              have b4 : (c4 : Int) + (r : Int) = (q : Int) := by have := hc4.out; have := hq.out; have := hr.out; omega
              have b5 : (p : Int) < 16 := by have := hp.out; omega
              have b6 : (q : Int) < 16 := by have := hq.out; omega
              have b7 : (c4 : Int) ≤ 12 := by have := hc4.out; omega
              have b8 : (r : Int) ≤ 3 := by have := hr.out; omega
              have w1_ : IntKind.i64.wrap (c4 : Int) = (c4 : Int) := IntWalk.i64_in _ (by omega)
              have w2_ : IntKind.i64.wrap (p : Int) = (p : Int) := IntWalk.i64_in _ (by omega)
              have w3_ : IntKind.i64.wrap ((i : Int) + (k : Int)) = (i : Int) + (k : Int) := IntWalk.i64_in _ (by omega)
              have w4_ : IntKind.i64.wrap (q : Int) = (q : Int) := IntWalk.i64_in _ (by omega)
              rw [← hp.out] at h5
              have hpy : Hid ((bv by4)[k]? = some (.int .u8 ((gd by4 k : Nat) : Int))) := bv_some (gd_get (by rw [hml.out]; omega))
              have hpx : Hid ((bv b)[q]? = some (.int .u8 ((gd b q : Nat) : Int))) := bv_some (gd_get (by rw [hbl.out]; omega))
              have hpu : Hid ((bv (ROW.set p (colK by4 b c i k)))[p]? = some (.int .u8 ((colK by4 b c i k : Nat) : Int))) := bv_some (by rw [List.getElem?_set, if_pos rfl, if_pos (by rw [hrl.out]; omega)])
              have hti := Lib.hid (fun w => htm.out (gd by4 k) (gd b q) (by have := hbm.out k; omega) (by have := hbb.out q; omega) w)
              have hnx : Hid (colK by4 b c i (k + 1) = colK by4 b c i k ^^^ mul (gd by4 k) (gd b q)) := by show _ = _; rw [colK, hq.out]
              have hzz := (x8' (a := colK by4 b c i k) (b := mul (gd by4 k) (gd b q)) (hcl.out c i k) (mul_lt _ (hbm.out k))).1
              rw [← hnx.out] at hzz
              have hnext : Hid (bv (ROW.set (4 * c + i) (colK by4 b c i (k + 1))) = (bv (ROW.set p (colK by4 b c i k))).set p (.int .u8 ((colK by4 b c i (k + 1) : Nat) : Int))) := by
                show _ = _
                rw [← hp.out, bv_set, List.set_set]
              clear hnx
              generalize hv : colK by4 b c i (k + 1) = v at *
              replace hv := Lib.hid hv
              generalize colK by4 b c i k = u at *
              generalize mul (gd by4 k) (gd b q) = z at *
              generalize gd by4 k = y at *
              generalize gd b q = x at *
              clear hc4 hp hr hq
              go_upto_region 11 with fail
              refine wp_region_held_drew (S := fun w' => w'.cell? ⟨g3, k, none⟩ = some (.int .u8 (y : Int)) ∧ w'.cell? ⟨g2, q, none⟩ = some (.int .u8 (x : Int))) (by kernel_rfl) ⟨(h3.drew.cell k).trans hpy.out, (h2.drew.cell q).trans hpx.out⟩ (fun hH => ?_)
              refine takeH_move (o := ⟨some 21, _, _, _, _, _⟩) (i := 0) rfl (by kernel_rfl) (by kernel_rfl) (by kernel_rfl) (fun _ _ _ _ h => h) rfl (.tmp 6) rfl (.int .i64 (c : Int)) rfl hH ?_
              simp only [Act.put, List.setIfInBounds_toArray, List.set_cons_zero, List.set_cons_succ, Nat.zero_add, decide_true, beq_self_eq_true]
              refine takeH_S (o := ⟨some 22, _, _, _, _, _⟩) (i := 1) rfl (by kernel_rfl) (by kernel_rfl) (by kernel_rfl) (fun _ _ _ _ h => h) rfl (.int .i64 (c4 : Int)) (fun w _ => by go_simp) hH ?_
              simp only [Act.put, List.setIfInBounds_toArray, List.set_cons_zero, List.set_cons_succ, Nat.zero_add, decide_true, beq_self_eq_true]
              refine takeH_move (o := ⟨some 23, _, _, _, _, _⟩) (i := 2) rfl (by kernel_rfl) (by kernel_rfl) (by kernel_rfl) (fun _ _ _ _ h => h) rfl (.tmp 7) rfl (.int .i64 (i : Int)) rfl hH ?_
              simp only [Act.put, List.setIfInBounds_toArray, List.set_cons_zero, List.set_cons_succ, Nat.zero_add, decide_true, beq_self_eq_true]
              refine takeH_S (o := ⟨some 24, _, _, _, _, _⟩) (i := 3) rfl (by kernel_rfl) (by kernel_rfl) (by kernel_rfl) (fun _ _ _ _ h => h) rfl (.int .i64 (p : Int)) (fun w _ => by go_simp) hH ?_
              simp only [Act.put, List.setIfInBounds_toArray, List.set_cons_zero, List.set_cons_succ, Nat.zero_add, decide_true, beq_self_eq_true]
              refine takeH_S (o := ⟨some 25, _, _, _, _, _⟩) (i := 4) rfl (by kernel_rfl) (by kernel_rfl) (by kernel_rfl) (fun _ _ _ _ h => h) rfl (.pointer (some ⟨g5, p, none⟩)) (fun w _ => by go_simp; try (intro hh; omega)) hH ?_
              simp only [Act.put, List.setIfInBounds_toArray, List.set_cons_zero, List.set_cons_succ, Nat.zero_add, decide_true, beq_self_eq_true]
              refine takeH_move (o := ⟨some 27, _, _, _, _, _⟩) (i := 6) rfl (by kernel_rfl) (by kernel_rfl) (by kernel_rfl) (fun _ _ _ _ h => h) rfl (.tmp 8) rfl (.int .i64 (k : Int)) rfl hH ?_
              simp only [Act.put, List.setIfInBounds_toArray, List.set_cons_zero, List.set_cons_succ, Nat.zero_add, decide_true, beq_self_eq_true]
              refine takeH_S (o := ⟨some 28, _, _, _, _, _⟩) (i := 7) rfl (by kernel_rfl) (by kernel_rfl) (by kernel_rfl) (fun _ _ _ _ h => h) rfl (.pointer (some ⟨g3, k, none⟩)) (fun w _ => by go_simp; try (intro hh; omega)) hH ?_
              simp only [Act.put, List.setIfInBounds_toArray, List.set_cons_zero, List.set_cons_succ, Nat.zero_add, decide_true, beq_self_eq_true]
              refine takeH_cell (o := ⟨some 29, _, _, _, _, _⟩) (i := 8) rfl (by kernel_rfl) (by kernel_rfl) (by kernel_rfl) (fun _ _ _ _ h => h) rfl 5 (.tmp 28) rfl Try.underlying5 rfl g3 k rfl (.int .u8 (y : Int)) (fun w h => h.1) hH ?_
              simp only [Act.put, List.setIfInBounds_toArray, List.set_cons_zero, List.set_cons_succ, Nat.zero_add, decide_true, beq_self_eq_true]
              refine takeH_move (o := ⟨some 30, _, _, _, _, _⟩) (i := 9) rfl (by kernel_rfl) (by kernel_rfl) (by kernel_rfl) (fun _ _ _ _ h => h) rfl (.tmp 6) rfl (.int .i64 (c : Int)) rfl hH ?_
              simp only [Act.put, List.setIfInBounds_toArray, List.set_cons_zero, List.set_cons_succ, Nat.zero_add, decide_true, beq_self_eq_true]
              refine takeH_S (o := ⟨some 31, _, _, _, _, _⟩) (i := 10) rfl (by kernel_rfl) (by kernel_rfl) (by kernel_rfl) (fun _ _ _ _ h => h) rfl (.int .i64 (c4 : Int)) (fun w _ => by go_simp) hH ?_
              simp only [Act.put, List.setIfInBounds_toArray, List.set_cons_zero, List.set_cons_succ, Nat.zero_add, decide_true, beq_self_eq_true]
              refine takeH_move (o := ⟨some 32, _, _, _, _, _⟩) (i := 11) rfl (by kernel_rfl) (by kernel_rfl) (by kernel_rfl) (fun _ _ _ _ h => h) rfl (.tmp 7) rfl (.int .i64 (i : Int)) rfl hH ?_
              simp only [Act.put, List.setIfInBounds_toArray, List.set_cons_zero, List.set_cons_succ, Nat.zero_add, decide_true, beq_self_eq_true]
              refine takeH_move (o := ⟨some 33, _, _, _, _, _⟩) (i := 12) rfl (by kernel_rfl) (by kernel_rfl) (by kernel_rfl) (fun _ _ _ _ h => h) rfl (.tmp 8) rfl (.int .i64 (k : Int)) rfl hH ?_
              simp only [Act.put, List.setIfInBounds_toArray, List.set_cons_zero, List.set_cons_succ, Nat.zero_add, decide_true, beq_self_eq_true]
              refine takeH_S (o := ⟨some 34, _, _, _, _, _⟩) (i := 13) rfl (by kernel_rfl) (by kernel_rfl) (by kernel_rfl) (fun _ _ _ _ h => h) rfl (.int .i64 ((i : Int) + (k : Int))) (fun w _ => by go_simp) hH ?_
              simp only [Act.put, List.setIfInBounds_toArray, List.set_cons_zero, List.set_cons_succ, Nat.zero_add, decide_true, beq_self_eq_true]
              refine takeH_S (o := ⟨some 35, _, _, _, _, _⟩) (i := 14) rfl (by kernel_rfl) (by kernel_rfl) (by kernel_rfl) (fun _ _ _ _ h => h) rfl (.int .i64 (r : Int)) (fun w _ => by go_simp) hH ?_
              simp only [Act.put, List.setIfInBounds_toArray, List.set_cons_zero, List.set_cons_succ, Nat.zero_add, decide_true, beq_self_eq_true]
              refine takeH_S (o := ⟨some 36, _, _, _, _, _⟩) (i := 15) rfl (by kernel_rfl) (by kernel_rfl) (by kernel_rfl) (fun _ _ _ _ h => h) rfl (.int .i64 (q : Int)) (fun w _ => by go_simp) hH ?_
              simp only [Act.put, List.setIfInBounds_toArray, List.set_cons_zero, List.set_cons_succ, Nat.zero_add, decide_true, beq_self_eq_true]
              refine takeH_S (o := ⟨some 37, _, _, _, _, _⟩) (i := 16) rfl (by kernel_rfl) (by kernel_rfl) (by kernel_rfl) (fun _ _ _ _ h => h) rfl (.pointer (some ⟨g2, q, none⟩)) (fun w _ => by go_simp; try (intro hh; omega)) hH ?_
              simp only [Act.put, List.setIfInBounds_toArray, List.set_cons_zero, List.set_cons_succ, Nat.zero_add, decide_true, beq_self_eq_true]
              refine takeH_cell (o := ⟨some 38, _, _, _, _, _⟩) (i := 17) rfl (by kernel_rfl) (by kernel_rfl) (by kernel_rfl) (fun _ _ _ _ h => h) rfl 5 (.tmp 37) rfl Try.underlying5 rfl g2 q rfl (.int .u8 (x : Int)) (fun w h => h.2) hH ?_
              simp only [Act.put, List.setIfInBounds_toArray, List.set_cons_zero, List.set_cons_succ, Nat.zero_add, decide_true, beq_self_eq_true]
              refine wpAnyH_ready (rs := [5, 18]) (by kernel_rfl) (by simp) ?_
              refine AllReadyH.cons rfl (fun K1 hK1 => ?_) (AllReadyH.cons rfl (fun K1 hK1 => ?_) AllReadyH.nil)
              · rw [if_pos (by rfl)]
                have c1 := (h5.drew).cell p
                rw [hpu.out] at c1
                go_wp2_with fail
                refine hK1.out _ _ hH (fun hH => ?_)
                clear hK1 K1 c1
                refine wpAnyH_ready (rs := [18]) (by kernel_rfl) (by simp) ?_
                refine AllReadyH.cons rfl (fun K1 hK1 => ?_) AllReadyH.nil
                rw [if_pos (by rfl)]
                go_wp2_with fail
                refine (hti.out _).mono ?_
                rintro en wa ⟨rfl, hBa⟩
                have hbw : Below wr.heap.size wr wa := below_call ((Below.refl wr.heap.size wr).drew) ((Below.refl wr.heap.size wr).drew).size hBa
                refine hK1.out _ _ ⟨((h3.keep hbw).cell k).trans hpy.out, ((h2.keep hbw).cell q).trans hpx.out⟩ (fun hH => ?_)
                clear hK1 K1 hBa
                refine takeH_S (o := ⟨some 40, _, _, _, _, _⟩) (i := 19) rfl (by kernel_rfl) (by kernel_rfl) (by kernel_rfl) (fun _ _ _ _ h => h) rfl (.int .u8 (v : Int)) (fun w _ => by go_simp) hH ?_
                simp only [Act.put, List.setIfInBounds_toArray, List.set_cons_zero, List.set_cons_succ, Nat.zero_add, decide_true, beq_self_eq_true]
                refine takeH_S (o := ⟨some 41, _, _, _, _, _⟩) (i := 20) rfl (by kernel_rfl) (by kernel_rfl) (by kernel_rfl) (fun _ _ _ _ h => h) rfl (.pointer (some ⟨g5, p, none⟩)) (fun w _ => by go_simp; try (intro hh; omega)) hH ?_
                simp only [Act.put, List.setIfInBounds_toArray, List.set_cons_zero, List.set_cons_succ, Nat.zero_add, decide_true, beq_self_eq_true]
                refine wpAnyH_ready (rs := [21]) (by kernel_rfl) (by simp) ?_
                refine AllReadyH.cons rfl (fun K1 hK1 => ?_) AllReadyH.nil
                rw [if_pos (by rfl)]
                have c1 := (h5.keep hbw).cell p
                rw [hpu.out] at c1
                have f1 := (h5.keep hbw).frozen p
                have hset := Lib.hid ((h5.keep hbw).set_ p (.int .u8 (v : Int)))
                have hk2 : Hid (Blk (wa.setCell ⟨g5, p, none⟩ (.int .u8 (v : Int))) g2 54 (bv b)) := (h2.keep hbw).far (by simp; have := g25.out; omega) _
                have hk3 : Hid (Blk (wa.setCell ⟨g5, p, none⟩ (.int .u8 (v : Int))) g3 82 (bv by4)) := (h3.keep hbw).far (by simp; have := g35.out; omega) _
                have hk4 : Hid (Blk (wa.setCell ⟨g5, p, none⟩ (.int .u8 (v : Int))) g4 54 (bv (zeros 16))) := (h4.keep hbw).far (by simp; have := g45.out; omega) _
                have hBf : Hid (Below w.heap.size w (wa.setCell ⟨g5, p, none⟩ (.int .u8 (v : Int)))) := (below_call hB hB.size hbw).setCell (by simp; have := gw5.out; omega) _
                go_wp2_with fail
                refine hK1.out _ _ ⟨(hk3.out.cell k).trans hpy.out, (hk2.out.cell q).trans hpx.out⟩ (fun hH => ?_)
                clear hK1 K1 c1 f1
                refine wpAnyH_done (by kernel_rfl) ?_ _
                clear hH
                go_wp2
                go_roundw
                case rel => exact ⟨k + 1, by omega, by go_num, hk2.out, hk3.out, hk4.out, by rw [hv.out, hnext.out]; exact hset.out, hBf.out⟩
                case measure => simp [intOf]; omega
              · rw [if_pos (by rfl)]
                go_wp2_with fail
                refine (hti.out _).mono ?_
                rintro en wa ⟨rfl, hBa⟩
                have hbw : Below wr.heap.size wr wa := below_call ((Below.refl wr.heap.size wr).drew) ((Below.refl wr.heap.size wr).drew).size hBa
                refine hK1.out _ _ ⟨((h3.keep hbw).cell k).trans hpy.out, ((h2.keep hbw).cell q).trans hpx.out⟩ (fun hH => ?_)
                clear hK1 K1 hBa
                refine wpAnyH_ready (rs := [5]) (by kernel_rfl) (by simp) ?_
                refine AllReadyH.cons rfl (fun K1 hK1 => ?_) AllReadyH.nil
                rw [if_pos (by rfl)]
                have c1 := (h5.keep hbw).cell p
                rw [hpu.out] at c1
                go_wp2_with fail
                refine hK1.out _ _ hH (fun hH => ?_)
                clear hK1 K1 c1
                refine takeH_S (o := ⟨some 40, _, _, _, _, _⟩) (i := 19) rfl (by kernel_rfl) (by kernel_rfl) (by kernel_rfl) (fun _ _ _ _ h => h) rfl (.int .u8 (v : Int)) (fun w _ => by go_simp) hH ?_
                simp only [Act.put, List.setIfInBounds_toArray, List.set_cons_zero, List.set_cons_succ, Nat.zero_add, decide_true, beq_self_eq_true]
                refine takeH_S (o := ⟨some 41, _, _, _, _, _⟩) (i := 20) rfl (by kernel_rfl) (by kernel_rfl) (by kernel_rfl) (fun _ _ _ _ h => h) rfl (.pointer (some ⟨g5, p, none⟩)) (fun w _ => by go_simp; try (intro hh; omega)) hH ?_
                simp only [Act.put, List.setIfInBounds_toArray, List.set_cons_zero, List.set_cons_succ, Nat.zero_add, decide_true, beq_self_eq_true]
                refine wpAnyH_ready (rs := [21]) (by kernel_rfl) (by simp) ?_
                refine AllReadyH.cons rfl (fun K1 hK1 => ?_) AllReadyH.nil
                rw [if_pos (by rfl)]
                have c1 := (h5.keep hbw).cell p
                rw [hpu.out] at c1
                have f1 := (h5.keep hbw).frozen p
                have hset := Lib.hid ((h5.keep hbw).set_ p (.int .u8 (v : Int)))
                have hk2 : Hid (Blk (wa.setCell ⟨g5, p, none⟩ (.int .u8 (v : Int))) g2 54 (bv b)) := (h2.keep hbw).far (by simp; have := g25.out; omega) _
                have hk3 : Hid (Blk (wa.setCell ⟨g5, p, none⟩ (.int .u8 (v : Int))) g3 82 (bv by4)) := (h3.keep hbw).far (by simp; have := g35.out; omega) _
                have hk4 : Hid (Blk (wa.setCell ⟨g5, p, none⟩ (.int .u8 (v : Int))) g4 54 (bv (zeros 16))) := (h4.keep hbw).far (by simp; have := g45.out; omega) _
                have hBf : Hid (Below w.heap.size w (wa.setCell ⟨g5, p, none⟩ (.int .u8 (v : Int)))) := (below_call hB hB.size hbw).setCell (by simp; have := gw5.out; omega) _
                go_wp2_with fail
                refine hK1.out _ _ ⟨(hk3.out.cell k).trans hpy.out, (hk2.out.cell q).trans hpx.out⟩ (fun hH => ?_)
                clear hK1 K1 c1 f1
                refine wpAnyH_done (by kernel_rfl) ?_ _
                clear hH
                go_wp2
                go_roundw
                case rel => exact ⟨k + 1, by omega, by go_num, hk2.out, hk3.out, hk4.out, by rw [hv.out, hnext.out]; exact hset.out, hBf.out⟩
                case measure => simp [intOf]; omega
            · obtain rfl : k = 4 := by omega
              rw [hend.out] at h5
              go_wp2
              go_roundw
              case rel => exact ⟨i + 1, by omega, by go_num, h2, h3, h4, h5, hB⟩
              case measure => simp [intOf]; omega
        · obtain rfl : i = 4 := by omega
          rw [show 4 * c + 4 = 4 * (c + 1) from by omega] at h5
          go_wp2
          go_roundw
          case rel => exact ⟨c + 1, by omega, by go_num, h2, h3, h4, h5, hB⟩
          case measure => simp [intOf]; omega
    · obtain rfl : c = 4 := by omega
      rw [upd_all hRl.out (by simp)] at h5
      go_wp2_with (first
        | refine wpList_loadW rfl 54 (.tmp 5) rfl 16 arrR16 _ rfl 54 _ h5 hRbl.out ?_
        | refine wpList_storeW rfl 54 (.tmp 4) (.tmp 42) rfl 16 arrR16 _ rfl (bv RR) rfl 54 _ h4 hRbl.out (by simp) (ones_bv _) ?_)
      intro wf hf hKf
      go_wp2
      exact bodyPost_ret (v := .agg (bv RR).toArray) (res_cell Try.results36 _ _ _ 54 _ arrR16 hRbl.out rfl hf) rfl (hRet.out _ (hB.trans (hKf.below hB.size (by intro b hb; simp only [List.mem_singleton] at hb; subst hb; exact gw4.out))))
end Go.Proofs.Ytokphnfhajljmaa
