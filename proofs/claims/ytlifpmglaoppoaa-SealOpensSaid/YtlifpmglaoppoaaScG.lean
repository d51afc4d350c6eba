/- Contract of banyanref02's block. -/
import Derived.Test.YtlifpmglaoppoaaScF
import Derived.Test.YtlifpmglaoppoaaQ12P3
import Derived.Test.YtlifpmglaoppoaaRgx
import Derived.Deep.DeepCutAuto
set_option linter.unusedVariables false
set_option linter.unusedSimpArgs false
namespace Go.Proofs.Ytlifpmglaoppoaa
open Go.RowKit
open Go.Proofs.PlainAes
open Go.Proofs.PlainSha

theorem arr8u : ArrTy Try.prog 105 8 := ⟨_, Try.underlying105, rfl, by kernel_rfl⟩
theorem not32b {x : Nat} (hx : x < 4294967296) : bits .xor .u32 (if IntKind.u32.signed = true then -1 else IntKind.u32.max) (x : Int) = ((4294967295 - x : Nat) : Int) := by
  have h := (x32 (show 4294967295 < 4294967296 by decide) hx).1
  have h2 := not32 hx
  have h3 := (x32 hx (show 4294967295 < 4294967296 by decide)).1
  rw [Int.cast_ofNat_Int] at h h3
  rw [h3] at h2
  rw [Nat.xor_comm, h2] at h
  rw [if_neg (by decide)]
  exact h
theorem rnum_any (v : Value) (l : List Nat) (w : World) (h : Sl w v (bv l)) (hl : Byt l) (hn : l.length ≤ 8) : Calls Try.prog 82 #[v] w fun e w' => e = .returned (.int .u64 (num l : Nat)) ∧ w = w' := by
  obtain ⟨A, c, rfl, h1, h2, h3⟩ := h
  rw [bv_length]
  exact rnum_core A c l w h3 hl hn

set_option maxRecDepth 100000 in
set_option maxHeartbeats 1500000 in
theorem rblock_core (A AK : Option Addr) (c cK : Nat) (s b K : List Nat) (w : World) (hs : Sl w (.slice A 64 c) (bv b)) (hb : b.length = 64) (bb : Byt b) (hk : Sl w (.slice AK 64 cK) (wv K)) (hK : K.length = 64) (wK : Wds K) (hS : s.length = 8) (wS : Wds s) :
    Calls Try.prog 68 #[.agg (wv s).toArray, .slice A 64 c, .slice AK 64 cK] w fun e w' => e = .returned (.agg (wv (takeS K s b)).toArray) ∧ Below w.heap.size w w' := by
  have hg := Lib.hid (fun v i (w : World) (h : Sl w v (bv (seg b i 4))) => rnum_any v (seg b i 4) w h (seg_lt bb _ _) (by simp [seg]; omega))
  have hn4 := Lib.hid (fun i => num4_lt bb i)
  have hlo := Lib.hid (fun i (h : i < 16) => spread_low b h)
  have hhi := Lib.hid (fun i (h16 : 16 ≤ i) (h : i < 64) => spread_high b h16 h)
  have hwd := Lib.hid (fun i => (spread_wds bb).gd i)
  have hsl := Lib.hid (spread_length b)
  have Hs := Lib.hid hs
  have Hb := Lib.hid hb
  have Hk := Lib.hid hk
  have HSl := Lib.hid (show (wv s).length = 8 by simp [hS])
  have hT : Hid (takeS K s b = mk 8 (fun i => (gd (roundsN K (spread b) s 64) i + gd s i) % 4294967296)) := rfl
  have hRl := Lib.hid (takeS_length K s b)
  have hRg := Lib.hid (show ∀ i, i < 8 → gd (takeS K s b) i = (gd (roundsN K (spread b) s 64) i + gd s i) % 4294967296 from fun i hi => by rw [hT, gd_mk _ hi])
  have b0 := Blk.new w 105 (wv s).toArray
  have hB0 := (Below.refl w.heap.size w).alloc (Nat.le_refl _) (.cells (wv s).toArray 105)
  clear hb bb hs hk
  generalize takeS K s b = R at *
  generalize spread b = S at *
  go_enter Try.func68, Try.ntmps68
  go_wp2_with (refine wpList_allocA rfl 105 rfl (wv (zeros 8)) (by kernel_rfl) ?_)
  intro w1 h1 hK1 hz1
  have b1 := b0.keeps hK1 (by simp)
  have hB1 := hB0.trans (hK1.below (by simp) (by simp))
  have g1 := h1.lt
  clear hK1 b0 hB0
  go_wp2_with (refine wpList_allocA rfl 107 rfl (wv (zeros 64)) (by kernel_rfl) ?_)
  intro w2 h2 hK2 hz2
  have b2 := b1.keeps hK2 (by simp)
  have r2 := h1.keeps hK2 (by simp)
  have hB2 := hB1.trans (hK2.below hB1.size (by simp))
  clear hK2 hz2 h1 b1 hB1 g1
  clear hz1
  generalize hg7e : w.heap.size + 1 + 1 = g7 at *
  have hg7 : w.heap.size + 1 < g7 := by omega
  clear hg7e
  go_wp2
  go_loopw [8] (fun i wr => ∃ k : Nat, (k : Int) ≤ 16 ∧ i = .int .i64 (k : Int) ∧ Blk wr g7 107 (wv (upd S (zeros 64) k)) ∧ Blk wr w.heap.size 105 (wv s) ∧ Blk wr (w.heap.size + 1) 105 (wv (zeros 8)) ∧ Below w.heap.size w wr) (fun i _ => 16 - (intOf i).toNat)
  case atStart => exact ⟨0, by omega, rfl, by rw [upd_zero]; exact h2, b2, r2, hB2⟩
  case round =>
    clear h2 b2 r2 hB2
    obtain ⟨k, hk, rfl, h1, hb, hr, hB⟩ := hrel
    by_cases hlt : (k : Int) < 16
    · obtain ⟨g, p, rfl, hp⟩ := (Hs.out.keep hB).part (4 * k) 4 (by decide) (by omega) (by simp [Hb.out])
      rw [show ((bv b).drop (4 * k)).take 4 = bv (seg b (4 * k) 4) from bv_seg b (4 * k) 4] at hp
      have hcI : (64 : Int) ≤ c := by have := Hs.out.cap; omega
      have hget := Lib.hid (hg.out _ _ wr hp)
      have hs := upd_set (new := S) (old := zeros 64) (k := k) (by simp [hsl.out]) (by simp; omega) (gd_get (by rw [hsl.out]; omega))
      rw [hlo.out k (by omega)] at hs
      have hlt4 := hn4.out (4 * k)
      have HS := Lib.hid hs
      have c0 := h1.cell k
      have f0 := h1.frozen k
      rw [wv_get, upd_get (by simp [hsl.out]) (Nat.le_refl _) (by simp; omega), zeros_get (by omega)] at c0
      simp only [Option.map_some] at c0
      clear hs hp
      generalize num (seg b (4 * k) 4) = z at *
      have hz : (z : Int) ≤ 4294967295 := by omega
      go_wp2_with fail
      refine hget.out.mono ?_
      rintro e w' ⟨rfl, rfl⟩
      go_wp2
      go_roundw
      case rel =>
        refine ⟨k + 1, by omega, by go_num, ?_, hb.far (by simp; omega) _, hr.far (by simp; omega) _, hB.setCell (by simp; omega) _⟩
        rw [← HS.out, ← wv_set]
        exact h1.set_ k _
      case measure => simp [intOf]; omega
    · obtain rfl : k = 16 := by omega
      --CUT
      go_wp2
      go_loopw [9] (fun i wr => ∃ k : Nat, 16 ≤ (k : Int) ∧ (k : Int) ≤ 64 ∧ i = .int .i64 (k : Int) ∧ Blk wr g7 107 (wv (upd S (zeros 64) k)) ∧ Blk wr w.heap.size 105 (wv s) ∧ Blk wr (w.heap.size + 1) 105 (wv (zeros 8)) ∧ Below w.heap.size w wr) (fun i _ => 64 - (intOf i).toNat)
      case atStart => exact ⟨16, by omega, by omega, rfl, h1, hb, hr, hB⟩
      case round =>
        clear h1 hb hr hB
        obtain ⟨k, hk16, hk, rfl, h1, hb, hr, hB⟩ := hrel
        by_cases hlt : (k : Int) < 64
        · have hs := upd_set (new := S) (old := zeros 64) (k := k) (by simp [hsl.out]) (by simp; omega) (gd_get (by rw [hsl.out]; omega))
          have hh := hhi.out k (by omega) (by omega)
          have l1 := hwd.out (k - 15)
          have l2 := hwd.out (k - 2)
          have l3 := hwd.out (k - 16)
          have l4 := hwd.out (k - 7)
          have q16 := Lib.hid (show IntKind.i64.wrap ((k : Int) - 16) = ((k - 16 : Nat) : Int) by rw [IntWalk.i64_in _ (by omega)]; omega)
          have q15 := Lib.hid (show IntKind.i64.wrap ((k : Int) - 15) = ((k - 15 : Nat) : Int) by rw [IntWalk.i64_in _ (by omega)]; omega)
          have q7 := Lib.hid (show IntKind.i64.wrap ((k : Int) - 7) = ((k - 7 : Nat) : Int) by rw [IntWalk.i64_in _ (by omega)]; omega)
          have q2 := Lib.hid (show IntKind.i64.wrap ((k : Int) - 2) = ((k - 2 : Nat) : Int) by rw [IntWalk.i64_in _ (by omega)]; omega)
          have hcell : Hid (∀ w', (Blk w' g7 107 (wv (upd S (zeros 64) k)) ∨ Blk w' g7 107 (wv (upd S (zeros 64) (k + 1)))) → ∀ j, j < k → w'.cell? ⟨g7, j, none⟩ = some (.int .u32 ((gd S j : Nat) : Int))) := fun w' h j hj => by
            rcases h with h | h
            · rw [h.cell, wv_get, upd_get_new (by simp [hsl.out]) hj (by simp; omega), gd_get (by rw [hsl.out]; omega)]; rfl
            · rw [h.cell, wv_get, upd_get_new (by simp [hsl.out]) (by omega) (by simp; omega), gd_get (by rw [hsl.out]; omega)]; rfl
          obtain ⟨x1, hx1⟩ : ∃ x, Hid (x = gd S (k - 15)) := ⟨_, rfl⟩
          obtain ⟨x2, hx2⟩ : ∃ x, Hid (x = gd S (k - 2)) := ⟨_, rfl⟩
          obtain ⟨x3, hx3⟩ : ∃ x, Hid (x = gd S (k - 16)) := ⟨_, rfl⟩
          obtain ⟨x4, hx4⟩ : ∃ x, Hid (x = gd S (k - 7)) := ⟨_, rfl⟩
          rw [← hx1.out] at hh l1
          rw [← hx2.out] at hh l2
          rw [← hx3.out] at hh l3
          rw [← hx4.out] at hh l4
          have hc1 := Lib.hid (fun w => small_any x1 7 18 3 l1 (by decide) (by decide) (by decide) (by decide) (by decide) w)
          have hc2 := Lib.hid (fun w => small_any x2 17 19 10 l2 (by decide) (by decide) (by decide) (by decide) (by decide) w)
          rw [show turn x1 (32 - 7) ^^^ turn x1 (32 - 18) ^^^ x1 / 2 ^ 3 = s0 x1 from rfl] at hc1
          rw [show turn x2 (32 - 17) ^^^ turn x2 (32 - 19) ^^^ x2 / 2 ^ 10 = s1 x2 from rfl] at hc2
          have m1 := s0_lt l1
          have m2 := s1_lt l2
          generalize s0 x1 = y1 at *
          generalize s1 x2 = y2 at *
          obtain ⟨z1, a1, b1, d1⟩ := wrap32 x3 y1
          obtain ⟨z2, a2, b2, d2⟩ := wrap32 z1 x4
          obtain ⟨z3, a3, b3, d3⟩ := wrap32 z2 y2
          have hz3 : z3 = gd S k := by rw [hh]; omega
          rw [← hz3] at hs
          have HS := Lib.hid hs
          have HS2 : Hid ((upd S (zeros 64) (k + 1)).set k z3 = upd S (zeros 64) (k + 1)) := by
            show _ = _
            rw [← hs]
            simp
          replace a1 := Lib.hid a1
          replace a2 := Lib.hid a2
          replace a3 := Lib.hid a3
          clear hs hh hz3 d1 d2 d3 b1 b2 m1 m2 l1 l2 l3 l4
          have hkeep : Hid (∀ w1 w2, ((Blk w1 g7 107 (wv (upd S (zeros 64) k)) ∨ Blk w1 g7 107 (wv (upd S (zeros 64) (k + 1)))) ∧ Blk w1 w.heap.size 105 (wv s) ∧ Blk w1 (w.heap.size + 1) 105 (wv (zeros 8)) ∧ Below w.heap.size w w1) → Below w1.heap.size w1 w2 → ((Blk w2 g7 107 (wv (upd S (zeros 64) k)) ∨ Blk w2 g7 107 (wv (upd S (zeros 64) (k + 1)))) ∧ Blk w2 w.heap.size 105 (wv s) ∧ Blk w2 (w.heap.size + 1) 105 (wv (zeros 8)) ∧ Below w.heap.size w w2)) := fun w1 w2 h hb =>
            ⟨h.1.imp (fun h => h.keep hb) (fun h => h.keep hb), h.2.1.keep hb, h.2.2.1.keep hb, below_call h.2.2.2 h.2.2.2.size hb⟩
          go_wp2
          refine wp_region_held_drew (S := fun w1 => (Blk w1 g7 107 (wv (upd S (zeros 64) k)) ∨ Blk w1 g7 107 (wv (upd S (zeros 64) (k + 1)))) ∧ Blk w1 w.heap.size 105 (wv s) ∧ Blk w1 (w.heap.size + 1) 105 (wv (zeros 8)) ∧ Below w.heap.size w w1) (by kernel_rfl) ⟨.inl h1.drew, hb.drew, hr.drew, hB.drew⟩ (fun hH => ?_)
          refine takeH_move (o := ⟨some 34, _, _, _, _, _⟩) (i := 0) rfl (by kernel_rfl) (by kernel_rfl) (by kernel_rfl) (fun _ _ _ _ h => h) rfl (.tmp 9) rfl (.int .i64 (k : Int)) rfl hH ?_
          simp only [Act.put, List.setIfInBounds_toArray, List.set_cons_zero, List.set_cons_succ, Nat.zero_add, decide_true, beq_self_eq_true]
          refine takeH_move (o := ⟨some 35, _, _, _, _, _⟩) (i := 1) rfl (by kernel_rfl) (by kernel_rfl) (by kernel_rfl) (fun _ _ _ _ h => h) rfl (.tmp 9) rfl (.int .i64 (k : Int)) rfl hH ?_
          simp only [Act.put, List.setIfInBounds_toArray, List.set_cons_zero, List.set_cons_succ, Nat.zero_add, decide_true, beq_self_eq_true]
          refine takeH_S (o := ⟨some 36, _, _, _, _, _⟩) (i := 2) rfl (by kernel_rfl) (by kernel_rfl) (by kernel_rfl) (fun _ _ _ _ h => h) rfl (.int .i64 ((k - 16 : Nat) : Int)) (fun w _ => by go_simp; exact q16.out) hH ?_
          simp only [Act.put, List.setIfInBounds_toArray, List.set_cons_zero, List.set_cons_succ, Nat.zero_add, decide_true, beq_self_eq_true]
          refine takeH_index (o := ⟨some 37, _, _, _, _, _⟩) (i := 3) rfl (by kernel_rfl) (by kernel_rfl) (by kernel_rfl) (fun _ _ _ _ h => h) rfl 107 (.tmp 7) (.tmp 36) rfl 64 35 1 Try.underlying107 (by kernel_rfl) g7 0 rfl (k - 16) rfl (by omega) hH ?_
          rw [show 0 + (k - 16) * 1 = (k - 16) by omega]
          simp only [Act.put, List.setIfInBounds_toArray, List.set_cons_zero, List.set_cons_succ, Nat.zero_add, decide_true, beq_self_eq_true]
          refine takeH_cell (o := ⟨some 38, _, _, _, _, _⟩) (i := 4) rfl (by kernel_rfl) (by kernel_rfl) (by kernel_rfl) (fun _ _ _ _ h => h) rfl 35 (.tmp 37) rfl Try.underlying35 rfl g7 (k - 16) rfl (.int .u32 ((x3 : Nat) : Int)) (fun w h => by rw [hx3.out]; exact hcell.out w h.1 _ (by omega)) hH ?_
          simp only [Act.put, List.setIfInBounds_toArray, List.set_cons_zero, List.set_cons_succ, Nat.zero_add, decide_true, beq_self_eq_true]
          refine takeH_move (o := ⟨some 39, _, _, _, _, _⟩) (i := 5) rfl (by kernel_rfl) (by kernel_rfl) (by kernel_rfl) (fun _ _ _ _ h => h) rfl (.tmp 9) rfl (.int .i64 (k : Int)) rfl hH ?_
          simp only [Act.put, List.setIfInBounds_toArray, List.set_cons_zero, List.set_cons_succ, Nat.zero_add, decide_true, beq_self_eq_true]
          refine takeH_S (o := ⟨some 40, _, _, _, _, _⟩) (i := 6) rfl (by kernel_rfl) (by kernel_rfl) (by kernel_rfl) (fun _ _ _ _ h => h) rfl (.int .i64 ((k - 15 : Nat) : Int)) (fun w _ => by go_simp; exact q15.out) hH ?_
          simp only [Act.put, List.setIfInBounds_toArray, List.set_cons_zero, List.set_cons_succ, Nat.zero_add, decide_true, beq_self_eq_true]
          refine takeH_index (o := ⟨some 41, _, _, _, _, _⟩) (i := 7) rfl (by kernel_rfl) (by kernel_rfl) (by kernel_rfl) (fun _ _ _ _ h => h) rfl 107 (.tmp 7) (.tmp 40) rfl 64 35 1 Try.underlying107 (by kernel_rfl) g7 0 rfl (k - 15) rfl (by omega) hH ?_
          rw [show 0 + (k - 15) * 1 = (k - 15) by omega]
          simp only [Act.put, List.setIfInBounds_toArray, List.set_cons_zero, List.set_cons_succ, Nat.zero_add, decide_true, beq_self_eq_true]
          refine takeH_cell (o := ⟨some 42, _, _, _, _, _⟩) (i := 8) rfl (by kernel_rfl) (by kernel_rfl) (by kernel_rfl) (fun _ _ _ _ h => h) rfl 35 (.tmp 41) rfl Try.underlying35 rfl g7 (k - 15) rfl (.int .u32 ((x1 : Nat) : Int)) (fun w h => by rw [hx1.out]; exact hcell.out w h.1 _ (by omega)) hH ?_
          simp only [Act.put, List.setIfInBounds_toArray, List.set_cons_zero, List.set_cons_succ, Nat.zero_add, decide_true, beq_self_eq_true]
          refine takeH_move (o := ⟨some 45, _, _, _, _, _⟩) (i := 11) rfl (by kernel_rfl) (by kernel_rfl) (by kernel_rfl) (fun _ _ _ _ h => h) rfl (.tmp 9) rfl (.int .i64 (k : Int)) rfl hH ?_
          simp only [Act.put, List.setIfInBounds_toArray, List.set_cons_zero, List.set_cons_succ, Nat.zero_add, decide_true, beq_self_eq_true]
          refine takeH_S (o := ⟨some 46, _, _, _, _, _⟩) (i := 12) rfl (by kernel_rfl) (by kernel_rfl) (by kernel_rfl) (fun _ _ _ _ h => h) rfl (.int .i64 ((k - 7 : Nat) : Int)) (fun w _ => by go_simp; exact q7.out) hH ?_
          simp only [Act.put, List.setIfInBounds_toArray, List.set_cons_zero, List.set_cons_succ, Nat.zero_add, decide_true, beq_self_eq_true]
          refine takeH_index (o := ⟨some 47, _, _, _, _, _⟩) (i := 13) rfl (by kernel_rfl) (by kernel_rfl) (by kernel_rfl) (fun _ _ _ _ h => h) rfl 107 (.tmp 7) (.tmp 46) rfl 64 35 1 Try.underlying107 (by kernel_rfl) g7 0 rfl (k - 7) rfl (by omega) hH ?_
          rw [show 0 + (k - 7) * 1 = (k - 7) by omega]
          simp only [Act.put, List.setIfInBounds_toArray, List.set_cons_zero, List.set_cons_succ, Nat.zero_add, decide_true, beq_self_eq_true]
          refine takeH_cell (o := ⟨some 48, _, _, _, _, _⟩) (i := 14) rfl (by kernel_rfl) (by kernel_rfl) (by kernel_rfl) (fun _ _ _ _ h => h) rfl 35 (.tmp 47) rfl Try.underlying35 rfl g7 (k - 7) rfl (.int .u32 ((x4 : Nat) : Int)) (fun w h => by rw [hx4.out]; exact hcell.out w h.1 _ (by omega)) hH ?_
          simp only [Act.put, List.setIfInBounds_toArray, List.set_cons_zero, List.set_cons_succ, Nat.zero_add, decide_true, beq_self_eq_true]
          refine takeH_move (o := ⟨some 50, _, _, _, _, _⟩) (i := 16) rfl (by kernel_rfl) (by kernel_rfl) (by kernel_rfl) (fun _ _ _ _ h => h) rfl (.tmp 9) rfl (.int .i64 (k : Int)) rfl hH ?_
          simp only [Act.put, List.setIfInBounds_toArray, List.set_cons_zero, List.set_cons_succ, Nat.zero_add, decide_true, beq_self_eq_true]
          refine takeH_S (o := ⟨some 51, _, _, _, _, _⟩) (i := 17) rfl (by kernel_rfl) (by kernel_rfl) (by kernel_rfl) (fun _ _ _ _ h => h) rfl (.int .i64 ((k - 2 : Nat) : Int)) (fun w _ => by go_simp; exact q2.out) hH ?_
          simp only [Act.put, List.setIfInBounds_toArray, List.set_cons_zero, List.set_cons_succ, Nat.zero_add, decide_true, beq_self_eq_true]
          refine takeH_index (o := ⟨some 52, _, _, _, _, _⟩) (i := 18) rfl (by kernel_rfl) (by kernel_rfl) (by kernel_rfl) (fun _ _ _ _ h => h) rfl 107 (.tmp 7) (.tmp 51) rfl 64 35 1 Try.underlying107 (by kernel_rfl) g7 0 rfl (k - 2) rfl (by omega) hH ?_
          rw [show 0 + (k - 2) * 1 = (k - 2) by omega]
          simp only [Act.put, List.setIfInBounds_toArray, List.set_cons_zero, List.set_cons_succ, Nat.zero_add, decide_true, beq_self_eq_true]
          refine takeH_cell (o := ⟨some 53, _, _, _, _, _⟩) (i := 19) rfl (by kernel_rfl) (by kernel_rfl) (by kernel_rfl) (fun _ _ _ _ h => h) rfl 35 (.tmp 52) rfl Try.underlying35 rfl g7 (k - 2) rfl (.int .u32 ((x2 : Nat) : Int)) (fun w h => by rw [hx2.out]; exact hcell.out w h.1 _ (by omega)) hH ?_
          simp only [Act.put, List.setIfInBounds_toArray, List.set_cons_zero, List.set_cons_succ, Nat.zero_add, decide_true, beq_self_eq_true]
          refine wpAnyH_ready (rs := [9]) (by kernel_rfl) (by simp) ?_
          refine AllReadyH.cons rfl (fun K1 hK1 => ?_) AllReadyH.nil
          rw [if_pos (by rfl)]
          go_wp2_with fail
          refine (hc1.out _).mono ?_
          rintro e wa ⟨rfl, hBa⟩
          refine hK1.out _ _ (hkeep.out _ _ hH hBa) (fun hH => ?_)
          clear hK1 K1
          refine takeH_S (o := ⟨some 44, _, _, _, _, _⟩) (i := 10) rfl (by kernel_rfl) (by kernel_rfl) (by kernel_rfl) (fun _ _ _ _ h => h) rfl (.int .u32 ((z1 : Nat) : Int)) (fun w _ => by go_simp; exact a1.out) hH ?_
          simp only [Act.put, List.setIfInBounds_toArray, List.set_cons_zero, List.set_cons_succ, Nat.zero_add, decide_true, beq_self_eq_true]
          refine takeH_S (o := ⟨some 49, _, _, _, _, _⟩) (i := 15) rfl (by kernel_rfl) (by kernel_rfl) (by kernel_rfl) (fun _ _ _ _ h => h) rfl (.int .u32 ((z2 : Nat) : Int)) (fun w _ => by go_simp; exact a2.out) hH ?_
          simp only [Act.put, List.setIfInBounds_toArray, List.set_cons_zero, List.set_cons_succ, Nat.zero_add, decide_true, beq_self_eq_true]
          refine wpAnyH_ready (rs := [20]) (by kernel_rfl) (by simp) ?_
          refine AllReadyH.cons rfl (fun K1 hK1 => ?_) AllReadyH.nil
          rw [if_pos (by rfl)]
          go_wp2_with fail
          refine (hc2.out _).mono ?_
          rintro e wa ⟨rfl, hBa⟩
          refine hK1.out _ _ (hkeep.out _ _ hH hBa) (fun hH => ?_)
          clear hK1 K1
          refine takeH_S (o := ⟨some 55, _, _, _, _, _⟩) (i := 21) rfl (by kernel_rfl) (by kernel_rfl) (by kernel_rfl) (fun _ _ _ _ h => h) rfl (.int .u32 ((z3 : Nat) : Int)) (fun w _ => by go_simp; exact a3.out) hH ?_
          simp only [Act.put, List.setIfInBounds_toArray, List.set_cons_zero, List.set_cons_succ, Nat.zero_add, decide_true, beq_self_eq_true]
          refine takeH_index (o := ⟨some 56, _, _, _, _, _⟩) (i := 22) rfl (by kernel_rfl) (by kernel_rfl) (by kernel_rfl) (fun _ _ _ _ h => h) rfl 107 (.tmp 7) (.tmp 34) rfl 64 35 1 Try.underlying107 (by kernel_rfl) g7 0 rfl k rfl (by omega) hH ?_
          rw [show 0 + k * 1 = k by omega]
          simp only [Act.put, List.setIfInBounds_toArray, List.set_cons_zero, List.set_cons_succ, Nat.zero_add, decide_true, beq_self_eq_true]
          refine wpAnyH_ready (rs := [23]) (by kernel_rfl) (by simp) ?_
          refine AllReadyH.cons rfl (fun K1 hK1 => ?_) AllReadyH.nil
          obtain ⟨vc, hc0, hf0, hX⟩ : ∃ vc, wa.cell? ⟨g7, k, none⟩ = some vc ∧ wa.frozen? ⟨g7, k, none⟩ = false ∧ Blk (wa.setCell ⟨g7, k, none⟩ (.int .u32 (z3 : Int))) g7 107 (wv (upd S (zeros 64) (k + 1))) := by
            rcases hH.1 with h | h
            · have h2 := h.set_ k (.int .u32 (z3 : Int))
              rw [wv_set, HS.out] at h2
              obtain ⟨u, hu⟩ := get_lt (l := wv (upd S (zeros 64) k)) (k := k) (by rw [wv_length, upd_length (by simp [hsl.out]) (by simp; omega)]; simp; omega)
              exact ⟨u, by rw [h.cell, hu], h.frozen k, h2⟩
            · have h2 := h.set_ k (.int .u32 (z3 : Int))
              rw [wv_set, HS2.out] at h2
              obtain ⟨u, hu⟩ := get_lt (l := wv (upd S (zeros 64) (k + 1))) (k := k) (by rw [wv_length, upd_length (by simp [hsl.out]) (by simp; omega)]; simp; omega)
              exact ⟨u, by rw [h.cell, hu], h.frozen k, h2⟩
          have hX2 := Lib.hid (hH.2.1.far (p := ⟨g7, k, none⟩) (by simp; omega) (.int .u32 (z3 : Int)))
          have hX3 := Lib.hid (hH.2.2.1.far (p := ⟨g7, k, none⟩) (by simp; omega) (.int .u32 (z3 : Int)))
          have hX4 := Lib.hid (hH.2.2.2.setCell (p := ⟨g7, k, none⟩) (by simp; omega) (.int .u32 (z3 : Int)))
          go_simp
          refine hK1.out _ _ ⟨.inr hX, hX2.out, hX3.out, hX4.out⟩ (fun hH => ?_)
          clear hK1 K1
          refine wpAnyH_done (by kernel_rfl) ?_ _
          go_wp2
          go_roundw
          case rel => exact ⟨k + 1, by omega, by omega, by go_num, hX, hX2.out, hX3.out, hX4.out⟩
          case measure => simp [intOf]; omega
        · obtain rfl : k = 64 := by omega
          rw [upd_all hsl.out (by simp)] at h1
          clear hlo hhi hn4 hg
          go_wp2_with (first
            | (refine wpList_loadW rfl 105 (.tmp 3) rfl 8 arr8u w.heap.size rfl 105 (wv s) hb HSl.out ?_)
            | (refine wpList_allocA rfl 105 rfl (wv (zeros 8)) (by kernel_rfl) ?_))
          intro w3 hx hK3 hz3
          have h3 := h1.keeps hK3 (by simp)
          have hb3 := hb.keeps hK3 (by simp)
          have hr3 := hr.keeps hK3 (by simp)
          have hB3 := hB.trans (hK3.below hB.size (by simp))
          have hgx : g7 < wr.heap.size := h1.lt
          clear h1 hb hr hB hK3 hz3
          generalize wr.heap.size = gx at *
          go_wp2_with (refine wpList_storeW rfl 105 (.tmp 10) (.tmp 57) rfl 8 arr8u gx rfl (wv s) rfl 105 _ hx HSl.out (by simp) (ones_wv _) ?_)
          intro w4 hx4 hK4
          have h4 := h3.keeps hK4 (by simp; omega)
          have hb4 := hb3.keeps hK4 (by simp; omega)
          have hr4 := hr3.keeps hK4 (by simp; omega)
          have hB4 := hB3.trans (hK4.below hB3.size (by simp; omega))
          clear hx h3 hb3 hr3 hB3 hK4
          go_wp2
          go_loopw [11, 12, 13] (fun i _ _ wr => ∃ k : Nat, (k : Int) ≤ 64 ∧ i = .int .i64 (k : Int) ∧ Blk wr gx 105 (wv (roundsN K S s k)) ∧ Blk wr g7 107 (wv S) ∧ Blk wr w.heap.size 105 (wv s) ∧ Blk wr (w.heap.size + 1) 105 (wv (zeros 8)) ∧ Below w.heap.size w wr) (fun i _ _ _ => 64 - (intOf i).toNat)
          case atStart => exact ⟨0, by omega, rfl, hx4, h4, hb4, hr4, hB4⟩
          case round =>
            clear hx4 h4 hb4 hr4 hB4
            obtain ⟨k, hk, rfl, hx, h1, hb, hr, hB⟩ := hrel
            by_cases hlt : (k : Int) < 64
            · have hXl : (roundsN K S s k).length = 8 := roundsN_length hS k
              have hXw : ∀ j, gd (roundsN K S s k) j < 4294967296 := fun j => (roundsN_wds wS k).gd j
              have hX1 : Hid (roundsN K S s (k + 1) = rstep (roundsN K S s k) (gd K k) (gd S k)) := rfl
              generalize roundsN K S s k = X at *
              have hcx : Hid (∀ w', Below wr.drew.heap.size wr.drew w' → ∀ j, j < 8 → w'.cell? ⟨gx, j, none⟩ = some (.int .u32 ((gd X j : Nat) : Int))) := fun w' h j hj => by
                rw [(hx.drew.keep h).cell, wv_get, gd_get (by omega)]; rfl
              have hkk := Lib.hid (wK.gd k)
              have hsk := Lib.hid (hwd.out k)
              obtain ⟨gk, ok, rfl, hkc⟩ := Hk.out.at_ (k := k) (u := .int .u32 ((gd K k : Nat) : Int)) (by rw [wv_get, gd_get (by omega)]; rfl)
              have hkb := cell_lt hkc
              have hkc2 : Hid (∀ w', Below wr.drew.heap.size wr.drew w' → w'.cell? ⟨gk, ok + k, none⟩ = some (.int .u32 ((gd K k : Nat) : Int))) := fun w' h => by
                have h2 := below_call hB.drew hB.drew.size h
                exact ((bcell h2).1 gk (ok + k) hkb).trans hkc
              have hsc2 : Hid (∀ w', Below wr.drew.heap.size wr.drew w' → w'.cell? ⟨g7, k, none⟩ = some (.int .u32 ((gd S k : Nat) : Int))) := fun w' h => by
                rw [(h1.drew.keep h).cell, wv_get, gd_get (by rw [hsl.out]; omega)]; rfl
              generalize hKk : gd K k = kk at *
              generalize hSk : gd S k = sk at *
              clear hkc hKk hSk
              obtain ⟨x0, hx0⟩ : ∃ x, Hid (x = gd X 0) := ⟨_, rfl⟩
              have l0 : x0 < 4294967296 := by rw [hx0.out]; exact hXw 0
              obtain ⟨x1, hx1⟩ : ∃ x, Hid (x = gd X 1) := ⟨_, rfl⟩
              have l1 : x1 < 4294967296 := by rw [hx1.out]; exact hXw 1
              obtain ⟨x2, hx2⟩ : ∃ x, Hid (x = gd X 2) := ⟨_, rfl⟩
              have l2 : x2 < 4294967296 := by rw [hx2.out]; exact hXw 2
              obtain ⟨x3, hx3⟩ : ∃ x, Hid (x = gd X 3) := ⟨_, rfl⟩
              have l3 : x3 < 4294967296 := by rw [hx3.out]; exact hXw 3
              obtain ⟨x4, hx4⟩ : ∃ x, Hid (x = gd X 4) := ⟨_, rfl⟩
              have l4 : x4 < 4294967296 := by rw [hx4.out]; exact hXw 4
              obtain ⟨x5, hx5⟩ : ∃ x, Hid (x = gd X 5) := ⟨_, rfl⟩
              have l5 : x5 < 4294967296 := by rw [hx5.out]; exact hXw 5
              obtain ⟨x6, hx6⟩ : ∃ x, Hid (x = gd X 6) := ⟨_, rfl⟩
              have l6 : x6 < 4294967296 := by rw [hx6.out]; exact hXw 6
              obtain ⟨x7, hx7⟩ : ∃ x, Hid (x = gd X 7) := ⟨_, rfl⟩
              have l7 : x7 < 4294967296 := by rw [hx7.out]; exact hXw 7
              have hm3 := Lib.hid (fun w => three_any x4 6 11 25 l4 (by decide) (by decide) (by decide) (by decide) (by decide) (by decide) w)
              have hm4 := Lib.hid (fun w => three_any x0 2 13 22 l0 (by decide) (by decide) (by decide) (by decide) (by decide) (by decide) w)
              rw [show mixW x4 (32 - 6) (32 - 11) (32 - 25) = mixW x4 26 21 7 from rfl] at hm3
              rw [show mixW x0 (32 - 2) (32 - 13) (32 - 22) = mixW x0 30 19 10 from rfl] at hm4
              have m3l := mixW_lt 26 21 7 l4
              obtain ⟨m, hm⟩ : ∃ m, Hid (m = mixW x4 26 21 7) := ⟨_, rfl⟩
              rw [← hm.out] at hm3 m3l
              have e1 := Lib.hid (a32 l4 l5).1
              have nx4 : 4294967295 - x4 < 4294967296 := by omega
              have e2 := Lib.hid (not32b l4)
              have e3 := Lib.hid (a32 nx4 l6).1
              have e4 := (o32 (and32 (b := x5) l4) (and32 (b := x6) nx4)).1
              rw [ch_form l4 l5 l6] at e4
              obtain ⟨ch, hch⟩ : ∃ c, Hid (c = x6 ^^^ (x4 &&& (x5 ^^^ x6))) := ⟨_, rfl⟩
              rw [← hch.out] at e4
              replace e4 := Lib.hid e4
              obtain ⟨z1, a1, b1, d1⟩ := wrap32 x7 m
              obtain ⟨z2, a2, b2, d2⟩ := wrap32 z1 ch
              obtain ⟨z3, a3, b3, d3⟩ := wrap32 z2 kk
              obtain ⟨z4, a4, b4, d4⟩ := wrap32 z3 sk
              have D14 : Hid (z4 = (x7 + m + ch + kk + sk) % 4294967296) := by show _ = _; omega
              replace a1 := Lib.hid a1
              replace a2 := Lib.hid a2
              replace a3 := Lib.hid a3
              replace a4 := Lib.hid a4
              clear d1 d2 d3 d4 b1 b2 b3
              go_upto_region 14 with fail
              go_cut [12] (fun s12 wx => s12 = .int .u32 (z4 : Int) ∧ Below wr.drew.heap.size wr.drew wx)
              case first =>
                refine wp_region_held_drew (S := fun w1 => Below wr.drew.heap.size wr.drew w1) (by kernel_rfl) (Below.refl _ _) (fun hH => ?_)
                refine takeH_index (o := ⟨some 62, _, _, _, _, _⟩) (i := 0) rfl (by kernel_rfl) (by kernel_rfl) (by kernel_rfl) (fun _ _ _ _ h => h) rfl 105 (.tmp 10) (.const (.int .i64 7)) rfl 8 35 1 Try.underlying105 (by kernel_rfl) gx 0 rfl 7 rfl (by decide) hH ?_
                rw [show 0 + 7 * 1 = 7 from rfl]
                simp only [Act.put, List.setIfInBounds_toArray, List.set_cons_zero, List.set_cons_succ, Nat.zero_add, decide_true, beq_self_eq_true]
                refine takeH_cell (o := ⟨some 63, _, _, _, _, _⟩) (i := 1) rfl (by kernel_rfl) (by kernel_rfl) (by kernel_rfl) (fun _ _ _ _ h => h) rfl 35 (.tmp 62) rfl Try.underlying35 rfl gx 7 rfl (.int .u32 ((x7 : Nat) : Int)) (fun w h => by rw [hx7.out]; exact hcx.out w h 7 (by decide)) hH ?_
                simp only [Act.put, List.setIfInBounds_toArray, List.set_cons_zero, List.set_cons_succ, Nat.zero_add, decide_true, beq_self_eq_true]
                refine takeH_index (o := ⟨some 64, _, _, _, _, _⟩) (i := 2) rfl (by kernel_rfl) (by kernel_rfl) (by kernel_rfl) (fun _ _ _ _ h => h) rfl 105 (.tmp 10) (.const (.int .i64 4)) rfl 8 35 1 Try.underlying105 (by kernel_rfl) gx 0 rfl 4 rfl (by decide) hH ?_
                rw [show 0 + 4 * 1 = 4 from rfl]
                simp only [Act.put, List.setIfInBounds_toArray, List.set_cons_zero, List.set_cons_succ, Nat.zero_add, decide_true, beq_self_eq_true]
                refine takeH_cell (o := ⟨some 65, _, _, _, _, _⟩) (i := 3) rfl (by kernel_rfl) (by kernel_rfl) (by kernel_rfl) (fun _ _ _ _ h => h) rfl 35 (.tmp 64) rfl Try.underlying35 rfl gx 4 rfl (.int .u32 ((x4 : Nat) : Int)) (fun w h => by rw [hx4.out]; exact hcx.out w h 4 (by decide)) hH ?_
                simp only [Act.put, List.setIfInBounds_toArray, List.set_cons_zero, List.set_cons_succ, Nat.zero_add, decide_true, beq_self_eq_true]
                refine takeH_index (o := ⟨some 68, _, _, _, _, _⟩) (i := 6) rfl (by kernel_rfl) (by kernel_rfl) (by kernel_rfl) (fun _ _ _ _ h => h) rfl 105 (.tmp 10) (.const (.int .i64 4)) rfl 8 35 1 Try.underlying105 (by kernel_rfl) gx 0 rfl 4 rfl (by decide) hH ?_
                rw [show 0 + 4 * 1 = 4 from rfl]
                simp only [Act.put, List.setIfInBounds_toArray, List.set_cons_zero, List.set_cons_succ, Nat.zero_add, decide_true, beq_self_eq_true]
                refine takeH_cell (o := ⟨some 69, _, _, _, _, _⟩) (i := 7) rfl (by kernel_rfl) (by kernel_rfl) (by kernel_rfl) (fun _ _ _ _ h => h) rfl 35 (.tmp 68) rfl Try.underlying35 rfl gx 4 rfl (.int .u32 ((x4 : Nat) : Int)) (fun w h => by rw [hx4.out]; exact hcx.out w h 4 (by decide)) hH ?_
                simp only [Act.put, List.setIfInBounds_toArray, List.set_cons_zero, List.set_cons_succ, Nat.zero_add, decide_true, beq_self_eq_true]
                refine takeH_index (o := ⟨some 70, _, _, _, _, _⟩) (i := 8) rfl (by kernel_rfl) (by kernel_rfl) (by kernel_rfl) (fun _ _ _ _ h => h) rfl 105 (.tmp 10) (.const (.int .i64 5)) rfl 8 35 1 Try.underlying105 (by kernel_rfl) gx 0 rfl 5 rfl (by decide) hH ?_
                rw [show 0 + 5 * 1 = 5 from rfl]
                simp only [Act.put, List.setIfInBounds_toArray, List.set_cons_zero, List.set_cons_succ, Nat.zero_add, decide_true, beq_self_eq_true]
                refine takeH_cell (o := ⟨some 71, _, _, _, _, _⟩) (i := 9) rfl (by kernel_rfl) (by kernel_rfl) (by kernel_rfl) (fun _ _ _ _ h => h) rfl 35 (.tmp 70) rfl Try.underlying35 rfl gx 5 rfl (.int .u32 ((x5 : Nat) : Int)) (fun w h => by rw [hx5.out]; exact hcx.out w h 5 (by decide)) hH ?_
                simp only [Act.put, List.setIfInBounds_toArray, List.set_cons_zero, List.set_cons_succ, Nat.zero_add, decide_true, beq_self_eq_true]
                refine takeH_S (o := ⟨some 72, _, _, _, _, _⟩) (i := 10) rfl (by kernel_rfl) (by kernel_rfl) (by kernel_rfl) (fun _ _ _ _ h => h) rfl (.int .u32 (((x4 &&& x5) : Nat) : Int)) (fun w _ => by go_simp; exact e1.out) hH ?_
                simp only [Act.put, List.setIfInBounds_toArray, List.set_cons_zero, List.set_cons_succ, Nat.zero_add, decide_true, beq_self_eq_true]
                refine takeH_index (o := ⟨some 73, _, _, _, _, _⟩) (i := 11) rfl (by kernel_rfl) (by kernel_rfl) (by kernel_rfl) (fun _ _ _ _ h => h) rfl 105 (.tmp 10) (.const (.int .i64 4)) rfl 8 35 1 Try.underlying105 (by kernel_rfl) gx 0 rfl 4 rfl (by decide) hH ?_
                rw [show 0 + 4 * 1 = 4 from rfl]
                simp only [Act.put, List.setIfInBounds_toArray, List.set_cons_zero, List.set_cons_succ, Nat.zero_add, decide_true, beq_self_eq_true]
                refine takeH_cell (o := ⟨some 74, _, _, _, _, _⟩) (i := 12) rfl (by kernel_rfl) (by kernel_rfl) (by kernel_rfl) (fun _ _ _ _ h => h) rfl 35 (.tmp 73) rfl Try.underlying35 rfl gx 4 rfl (.int .u32 ((x4 : Nat) : Int)) (fun w h => by rw [hx4.out]; exact hcx.out w h 4 (by decide)) hH ?_
                simp only [Act.put, List.setIfInBounds_toArray, List.set_cons_zero, List.set_cons_succ, Nat.zero_add, decide_true, beq_self_eq_true]
                refine takeH_S (o := ⟨some 75, _, _, _, _, _⟩) (i := 13) rfl (by kernel_rfl) (by kernel_rfl) (by kernel_rfl) (fun _ _ _ _ h => h) rfl (.int .u32 (((4294967295 - x4) : Nat) : Int)) (fun w _ => by go_simp; exact e2.out) hH ?_
                simp only [Act.put, List.setIfInBounds_toArray, List.set_cons_zero, List.set_cons_succ, Nat.zero_add, decide_true, beq_self_eq_true]
                refine takeH_index (o := ⟨some 76, _, _, _, _, _⟩) (i := 14) rfl (by kernel_rfl) (by kernel_rfl) (by kernel_rfl) (fun _ _ _ _ h => h) rfl 105 (.tmp 10) (.const (.int .i64 6)) rfl 8 35 1 Try.underlying105 (by kernel_rfl) gx 0 rfl 6 rfl (by decide) hH ?_
                rw [show 0 + 6 * 1 = 6 from rfl]
                simp only [Act.put, List.setIfInBounds_toArray, List.set_cons_zero, List.set_cons_succ, Nat.zero_add, decide_true, beq_self_eq_true]
                refine takeH_cell (o := ⟨some 77, _, _, _, _, _⟩) (i := 15) rfl (by kernel_rfl) (by kernel_rfl) (by kernel_rfl) (fun _ _ _ _ h => h) rfl 35 (.tmp 76) rfl Try.underlying35 rfl gx 6 rfl (.int .u32 ((x6 : Nat) : Int)) (fun w h => by rw [hx6.out]; exact hcx.out w h 6 (by decide)) hH ?_
                simp only [Act.put, List.setIfInBounds_toArray, List.set_cons_zero, List.set_cons_succ, Nat.zero_add, decide_true, beq_self_eq_true]
                refine takeH_S (o := ⟨some 78, _, _, _, _, _⟩) (i := 16) rfl (by kernel_rfl) (by kernel_rfl) (by kernel_rfl) (fun _ _ _ _ h => h) rfl (.int .u32 ((((4294967295 - x4) &&& x6) : Nat) : Int)) (fun w _ => by go_simp; exact e3.out) hH ?_
                simp only [Act.put, List.setIfInBounds_toArray, List.set_cons_zero, List.set_cons_succ, Nat.zero_add, decide_true, beq_self_eq_true]
                refine takeH_S (o := ⟨some 79, _, _, _, _, _⟩) (i := 17) rfl (by kernel_rfl) (by kernel_rfl) (by kernel_rfl) (fun _ _ _ _ h => h) rfl (.int .u32 ((ch : Nat) : Int)) (fun w _ => by go_simp; exact e4.out) hH ?_
                simp only [Act.put, List.setIfInBounds_toArray, List.set_cons_zero, List.set_cons_succ, Nat.zero_add, decide_true, beq_self_eq_true]
                refine takeH_move (o := ⟨some 81, _, _, _, _, _⟩) (i := 19) rfl (by kernel_rfl) (by kernel_rfl) (by kernel_rfl) (fun _ _ _ _ h => h) rfl (.tmp 2) rfl (.slice (some ⟨gk, ok, none⟩) 64 cK) rfl hH ?_
                simp only [Act.put, List.setIfInBounds_toArray, List.set_cons_zero, List.set_cons_succ, Nat.zero_add, decide_true, beq_self_eq_true]
                refine takeH_move (o := ⟨some 82, _, _, _, _, _⟩) (i := 20) rfl (by kernel_rfl) (by kernel_rfl) (by kernel_rfl) (fun _ _ _ _ h => h) rfl (.tmp 11) rfl (.int .i64 (k : Int)) rfl hH ?_
                simp only [Act.put, List.setIfInBounds_toArray, List.set_cons_zero, List.set_cons_succ, Nat.zero_add, decide_true, beq_self_eq_true]
                refine takeH_S (o := ⟨some 83, _, _, _, _, _⟩) (i := 21) rfl (by kernel_rfl) (by kernel_rfl) (by kernel_rfl) (fun _ _ _ _ h => h) rfl (.pointer (some ⟨gk, ok + k, none⟩)) (fun w _ => by go_simp) hH ?_
                simp only [Act.put, List.setIfInBounds_toArray, List.set_cons_zero, List.set_cons_succ, Nat.zero_add, decide_true, beq_self_eq_true]
                refine takeH_cell (o := ⟨some 84, _, _, _, _, _⟩) (i := 22) rfl (by kernel_rfl) (by kernel_rfl) (by kernel_rfl) (fun _ _ _ _ h => h) rfl 35 (.tmp 83) rfl Try.underlying35 rfl gk (ok + k) rfl (.int .u32 ((kk : Nat) : Int)) (fun w h => hkc2.out w h) hH ?_
                simp only [Act.put, List.setIfInBounds_toArray, List.set_cons_zero, List.set_cons_succ, Nat.zero_add, decide_true, beq_self_eq_true]
                refine takeH_move (o := ⟨some 86, _, _, _, _, _⟩) (i := 24) rfl (by kernel_rfl) (by kernel_rfl) (by kernel_rfl) (fun _ _ _ _ h => h) rfl (.tmp 11) rfl (.int .i64 (k : Int)) rfl hH ?_
                simp only [Act.put, List.setIfInBounds_toArray, List.set_cons_zero, List.set_cons_succ, Nat.zero_add, decide_true, beq_self_eq_true]
                refine takeH_index (o := ⟨some 87, _, _, _, _, _⟩) (i := 25) rfl (by kernel_rfl) (by kernel_rfl) (by kernel_rfl) (fun _ _ _ _ h => h) rfl 107 (.tmp 7) (.tmp 86) rfl 64 35 1 Try.underlying107 (by kernel_rfl) g7 0 rfl k rfl (by omega) hH ?_
                rw [show 0 + k * 1 = k by omega]
                simp only [Act.put, List.setIfInBounds_toArray, List.set_cons_zero, List.set_cons_succ, Nat.zero_add, decide_true, beq_self_eq_true]
                refine takeH_cell (o := ⟨some 88, _, _, _, _, _⟩) (i := 26) rfl (by kernel_rfl) (by kernel_rfl) (by kernel_rfl) (fun _ _ _ _ h => h) rfl 35 (.tmp 87) rfl Try.underlying35 rfl g7 k rfl (.int .u32 ((sk : Nat) : Int)) (fun w h => hsc2.out w h) hH ?_
                simp only [Act.put, List.setIfInBounds_toArray, List.set_cons_zero, List.set_cons_succ, Nat.zero_add, decide_true, beq_self_eq_true]
                refine wpAnyH_ready (rs := [4]) (by kernel_rfl) (by simp) ?_
                refine AllReadyH.cons rfl (fun K1 hK1 => ?_) AllReadyH.nil
                rw [if_pos (by rfl)]
                go_wp2_with fail
                refine (hm3.out _).mono ?_
                rintro e wa ⟨rfl, hBa⟩
                refine hK1.out _ _ (below_call hH hH.size hBa) (fun hH => ?_)
                clear hK1 K1
                refine takeH_S (o := ⟨some 67, _, _, _, _, _⟩) (i := 5) rfl (by kernel_rfl) (by kernel_rfl) (by kernel_rfl) (fun _ _ _ _ h => h) rfl (.int .u32 ((z1 : Nat) : Int)) (fun w _ => by go_simp; exact a1.out) hH ?_
                simp only [Act.put, List.setIfInBounds_toArray, List.set_cons_zero, List.set_cons_succ, Nat.zero_add, decide_true, beq_self_eq_true]
                refine takeH_S (o := ⟨some 80, _, _, _, _, _⟩) (i := 18) rfl (by kernel_rfl) (by kernel_rfl) (by kernel_rfl) (fun _ _ _ _ h => h) rfl (.int .u32 ((z2 : Nat) : Int)) (fun w _ => by go_simp; exact a2.out) hH ?_
                simp only [Act.put, List.setIfInBounds_toArray, List.set_cons_zero, List.set_cons_succ, Nat.zero_add, decide_true, beq_self_eq_true]
                refine takeH_S (o := ⟨some 85, _, _, _, _, _⟩) (i := 23) rfl (by kernel_rfl) (by kernel_rfl) (by kernel_rfl) (fun _ _ _ _ h => h) rfl (.int .u32 ((z3 : Nat) : Int)) (fun w _ => by go_simp; exact a3.out) hH ?_
                simp only [Act.put, List.setIfInBounds_toArray, List.set_cons_zero, List.set_cons_succ, Nat.zero_add, decide_true, beq_self_eq_true]
                refine takeH_S (o := ⟨some 89, _, _, _, _, _⟩) (i := 27) rfl (by kernel_rfl) (by kernel_rfl) (by kernel_rfl) (fun _ _ _ _ h => h) rfl (.int .u32 ((z4 : Nat) : Int)) (fun w _ => by go_simp; exact a4.out) hH ?_
                simp only [Act.put, List.setIfInBounds_toArray, List.set_cons_zero, List.set_cons_succ, Nat.zero_add, decide_true, beq_self_eq_true]
                refine takeH_assign (o := ⟨some 12, _, _, _, _, _⟩) (i := 28) rfl (by kernel_rfl) (by kernel_rfl) (by kernel_rfl) (fun _ _ _ _ h => h) rfl (.tmp 89) rfl (.int .u32 ((z4 : Nat) : Int)) rfl hH ?_
                simp only [Act.put, List.setIfInBounds_toArray, List.set_cons_zero, List.set_cons_succ, Nat.zero_add, decide_true, beq_self_eq_true]
                refine wpAnyH_done (by kernel_rfl) ?_ _
                go_wp2_with fail
                go_meet
                exact ⟨rfl, hH⟩
              case rest =>
                obtain ⟨rfl, hB14⟩ := hcut
                have m4l := mixW_lt 30 19 10 l0
                obtain ⟨m2, hm2⟩ : ∃ m, Hid (m = mixW x0 30 19 10) := ⟨_, rfl⟩
                rw [← hm2.out] at hm4 m4l
                clear e1 e2 e3 e4 hm3
                have e5 := Lib.hid (a32 l0 l1).1
                have e6 := Lib.hid (a32 l0 l2).1
                have e7 := Lib.hid (o32 (and32 (b := x1) l0) (and32 (b := x2) l0)).1
                have e8 := Lib.hid (a32 l1 l2).1
                have e9 := (o32 (or32 (and32 (b := x1) l0) (and32 (b := x2) l0)) (and32 (b := x2) l1)).1
                rw [maj_form x0 x1 x2] at e9
                obtain ⟨mj, hmj⟩ : ∃ c, Hid (c = (x0 &&& (x1 ||| x2)) ||| (x1 &&& x2)) := ⟨_, rfl⟩
                rw [← hmj.out] at e9
                replace e9 := Lib.hid e9
                obtain ⟨y1, f1, N1, D15⟩ := wrap32 m2 mj
                replace f1 := Lib.hid f1
                replace D15 := Lib.hid D15
                go_upto_region 15 with fail
                go_cut [13] (fun s13 wy => s13 = .int .u32 (y1 : Int) ∧ Below wr.drew.heap.size wr.drew wy)
                case first =>
                  refine wp_region_held_drew (S := fun w1 => Below wr.drew.heap.size wr.drew w1) (by kernel_rfl) hB14.drew (fun hH => ?_)
                  refine takeH_index (o := ⟨some 90, _, _, _, _, _⟩) (i := 0) rfl (by kernel_rfl) (by kernel_rfl) (by kernel_rfl) (fun _ _ _ _ h => h) rfl 105 (.tmp 10) (.const (.int .i64 0)) rfl 8 35 1 Try.underlying105 (by kernel_rfl) gx 0 rfl 0 rfl (by decide) hH ?_
                  rw [show 0 + 0 * 1 = 0 from rfl]
                  simp only [Act.put, List.setIfInBounds_toArray, List.set_cons_zero, List.set_cons_succ, Nat.zero_add, decide_true, beq_self_eq_true]
                  refine takeH_cell (o := ⟨some 91, _, _, _, _, _⟩) (i := 1) rfl (by kernel_rfl) (by kernel_rfl) (by kernel_rfl) (fun _ _ _ _ h => h) rfl 35 (.tmp 90) rfl Try.underlying35 rfl gx 0 rfl (.int .u32 ((x0 : Nat) : Int)) (fun w h => by rw [hx0.out]; exact hcx.out w h 0 (by decide)) hH ?_
                  simp only [Act.put, List.setIfInBounds_toArray, List.set_cons_zero, List.set_cons_succ, Nat.zero_add, decide_true, beq_self_eq_true]
                  refine takeH_index (o := ⟨some 93, _, _, _, _, _⟩) (i := 3) rfl (by kernel_rfl) (by kernel_rfl) (by kernel_rfl) (fun _ _ _ _ h => h) rfl 105 (.tmp 10) (.const (.int .i64 0)) rfl 8 35 1 Try.underlying105 (by kernel_rfl) gx 0 rfl 0 rfl (by decide) hH ?_
                  rw [show 0 + 0 * 1 = 0 from rfl]
                  simp only [Act.put, List.setIfInBounds_toArray, List.set_cons_zero, List.set_cons_succ, Nat.zero_add, decide_true, beq_self_eq_true]
                  refine takeH_cell (o := ⟨some 94, _, _, _, _, _⟩) (i := 4) rfl (by kernel_rfl) (by kernel_rfl) (by kernel_rfl) (fun _ _ _ _ h => h) rfl 35 (.tmp 93) rfl Try.underlying35 rfl gx 0 rfl (.int .u32 ((x0 : Nat) : Int)) (fun w h => by rw [hx0.out]; exact hcx.out w h 0 (by decide)) hH ?_
                  simp only [Act.put, List.setIfInBounds_toArray, List.set_cons_zero, List.set_cons_succ, Nat.zero_add, decide_true, beq_self_eq_true]
                  refine takeH_index (o := ⟨some 95, _, _, _, _, _⟩) (i := 5) rfl (by kernel_rfl) (by kernel_rfl) (by kernel_rfl) (fun _ _ _ _ h => h) rfl 105 (.tmp 10) (.const (.int .i64 1)) rfl 8 35 1 Try.underlying105 (by kernel_rfl) gx 0 rfl 1 rfl (by decide) hH ?_
                  rw [show 0 + 1 * 1 = 1 from rfl]
                  simp only [Act.put, List.setIfInBounds_toArray, List.set_cons_zero, List.set_cons_succ, Nat.zero_add, decide_true, beq_self_eq_true]
                  refine takeH_cell (o := ⟨some 96, _, _, _, _, _⟩) (i := 6) rfl (by kernel_rfl) (by kernel_rfl) (by kernel_rfl) (fun _ _ _ _ h => h) rfl 35 (.tmp 95) rfl Try.underlying35 rfl gx 1 rfl (.int .u32 ((x1 : Nat) : Int)) (fun w h => by rw [hx1.out]; exact hcx.out w h 1 (by decide)) hH ?_
                  simp only [Act.put, List.setIfInBounds_toArray, List.set_cons_zero, List.set_cons_succ, Nat.zero_add, decide_true, beq_self_eq_true]
                  refine takeH_S (o := ⟨some 97, _, _, _, _, _⟩) (i := 7) rfl (by kernel_rfl) (by kernel_rfl) (by kernel_rfl) (fun _ _ _ _ h => h) rfl (.int .u32 (((x0 &&& x1) : Nat) : Int)) (fun w _ => by go_simp; exact e5.out) hH ?_
                  simp only [Act.put, List.setIfInBounds_toArray, List.set_cons_zero, List.set_cons_succ, Nat.zero_add, decide_true, beq_self_eq_true]
                  refine takeH_index (o := ⟨some 98, _, _, _, _, _⟩) (i := 8) rfl (by kernel_rfl) (by kernel_rfl) (by kernel_rfl) (fun _ _ _ _ h => h) rfl 105 (.tmp 10) (.const (.int .i64 0)) rfl 8 35 1 Try.underlying105 (by kernel_rfl) gx 0 rfl 0 rfl (by decide) hH ?_
                  rw [show 0 + 0 * 1 = 0 from rfl]
                  simp only [Act.put, List.setIfInBounds_toArray, List.set_cons_zero, List.set_cons_succ, Nat.zero_add, decide_true, beq_self_eq_true]
                  refine takeH_cell (o := ⟨some 99, _, _, _, _, _⟩) (i := 9) rfl (by kernel_rfl) (by kernel_rfl) (by kernel_rfl) (fun _ _ _ _ h => h) rfl 35 (.tmp 98) rfl Try.underlying35 rfl gx 0 rfl (.int .u32 ((x0 : Nat) : Int)) (fun w h => by rw [hx0.out]; exact hcx.out w h 0 (by decide)) hH ?_
                  simp only [Act.put, List.setIfInBounds_toArray, List.set_cons_zero, List.set_cons_succ, Nat.zero_add, decide_true, beq_self_eq_true]
                  refine takeH_index (o := ⟨some 100, _, _, _, _, _⟩) (i := 10) rfl (by kernel_rfl) (by kernel_rfl) (by kernel_rfl) (fun _ _ _ _ h => h) rfl 105 (.tmp 10) (.const (.int .i64 2)) rfl 8 35 1 Try.underlying105 (by kernel_rfl) gx 0 rfl 2 rfl (by decide) hH ?_
                  rw [show 0 + 2 * 1 = 2 from rfl]
                  simp only [Act.put, List.setIfInBounds_toArray, List.set_cons_zero, List.set_cons_succ, Nat.zero_add, decide_true, beq_self_eq_true]
                  refine takeH_cell (o := ⟨some 101, _, _, _, _, _⟩) (i := 11) rfl (by kernel_rfl) (by kernel_rfl) (by kernel_rfl) (fun _ _ _ _ h => h) rfl 35 (.tmp 100) rfl Try.underlying35 rfl gx 2 rfl (.int .u32 ((x2 : Nat) : Int)) (fun w h => by rw [hx2.out]; exact hcx.out w h 2 (by decide)) hH ?_
                  simp only [Act.put, List.setIfInBounds_toArray, List.set_cons_zero, List.set_cons_succ, Nat.zero_add, decide_true, beq_self_eq_true]
                  refine takeH_S (o := ⟨some 102, _, _, _, _, _⟩) (i := 12) rfl (by kernel_rfl) (by kernel_rfl) (by kernel_rfl) (fun _ _ _ _ h => h) rfl (.int .u32 (((x0 &&& x2) : Nat) : Int)) (fun w _ => by go_simp; exact e6.out) hH ?_
                  simp only [Act.put, List.setIfInBounds_toArray, List.set_cons_zero, List.set_cons_succ, Nat.zero_add, decide_true, beq_self_eq_true]
                  refine takeH_S (o := ⟨some 103, _, _, _, _, _⟩) (i := 13) rfl (by kernel_rfl) (by kernel_rfl) (by kernel_rfl) (fun _ _ _ _ h => h) rfl (.int .u32 ((((x0 &&& x1) ||| (x0 &&& x2)) : Nat) : Int)) (fun w _ => by go_simp; exact e7.out) hH ?_
                  simp only [Act.put, List.setIfInBounds_toArray, List.set_cons_zero, List.set_cons_succ, Nat.zero_add, decide_true, beq_self_eq_true]
                  refine takeH_index (o := ⟨some 104, _, _, _, _, _⟩) (i := 14) rfl (by kernel_rfl) (by kernel_rfl) (by kernel_rfl) (fun _ _ _ _ h => h) rfl 105 (.tmp 10) (.const (.int .i64 1)) rfl 8 35 1 Try.underlying105 (by kernel_rfl) gx 0 rfl 1 rfl (by decide) hH ?_
                  rw [show 0 + 1 * 1 = 1 from rfl]
                  simp only [Act.put, List.setIfInBounds_toArray, List.set_cons_zero, List.set_cons_succ, Nat.zero_add, decide_true, beq_self_eq_true]
                  refine takeH_cell (o := ⟨some 105, _, _, _, _, _⟩) (i := 15) rfl (by kernel_rfl) (by kernel_rfl) (by kernel_rfl) (fun _ _ _ _ h => h) rfl 35 (.tmp 104) rfl Try.underlying35 rfl gx 1 rfl (.int .u32 ((x1 : Nat) : Int)) (fun w h => by rw [hx1.out]; exact hcx.out w h 1 (by decide)) hH ?_
                  simp only [Act.put, List.setIfInBounds_toArray, List.set_cons_zero, List.set_cons_succ, Nat.zero_add, decide_true, beq_self_eq_true]
                  refine takeH_index (o := ⟨some 106, _, _, _, _, _⟩) (i := 16) rfl (by kernel_rfl) (by kernel_rfl) (by kernel_rfl) (fun _ _ _ _ h => h) rfl 105 (.tmp 10) (.const (.int .i64 2)) rfl 8 35 1 Try.underlying105 (by kernel_rfl) gx 0 rfl 2 rfl (by decide) hH ?_
                  rw [show 0 + 2 * 1 = 2 from rfl]
                  simp only [Act.put, List.setIfInBounds_toArray, List.set_cons_zero, List.set_cons_succ, Nat.zero_add, decide_true, beq_self_eq_true]
                  refine takeH_cell (o := ⟨some 107, _, _, _, _, _⟩) (i := 17) rfl (by kernel_rfl) (by kernel_rfl) (by kernel_rfl) (fun _ _ _ _ h => h) rfl 35 (.tmp 106) rfl Try.underlying35 rfl gx 2 rfl (.int .u32 ((x2 : Nat) : Int)) (fun w h => by rw [hx2.out]; exact hcx.out w h 2 (by decide)) hH ?_
                  simp only [Act.put, List.setIfInBounds_toArray, List.set_cons_zero, List.set_cons_succ, Nat.zero_add, decide_true, beq_self_eq_true]
                  refine takeH_S (o := ⟨some 108, _, _, _, _, _⟩) (i := 18) rfl (by kernel_rfl) (by kernel_rfl) (by kernel_rfl) (fun _ _ _ _ h => h) rfl (.int .u32 (((x1 &&& x2) : Nat) : Int)) (fun w _ => by go_simp; exact e8.out) hH ?_
                  simp only [Act.put, List.setIfInBounds_toArray, List.set_cons_zero, List.set_cons_succ, Nat.zero_add, decide_true, beq_self_eq_true]
                  refine takeH_S (o := ⟨some 109, _, _, _, _, _⟩) (i := 19) rfl (by kernel_rfl) (by kernel_rfl) (by kernel_rfl) (fun _ _ _ _ h => h) rfl (.int .u32 ((mj : Nat) : Int)) (fun w _ => by go_simp; exact e9.out) hH ?_
                  simp only [Act.put, List.setIfInBounds_toArray, List.set_cons_zero, List.set_cons_succ, Nat.zero_add, decide_true, beq_self_eq_true]
                  refine wpAnyH_ready (rs := [2]) (by kernel_rfl) (by simp) ?_
                  refine AllReadyH.cons rfl (fun K1 hK1 => ?_) AllReadyH.nil
                  rw [if_pos (by rfl)]
                  go_wp2_with fail
                  refine (hm4.out _).mono ?_
                  rintro e wa ⟨rfl, hBa⟩
                  refine hK1.out _ _ (below_call hH hH.size hBa) (fun hH => ?_)
                  clear hK1 K1
                  refine takeH_S (o := ⟨some 110, _, _, _, _, _⟩) (i := 20) rfl (by kernel_rfl) (by kernel_rfl) (by kernel_rfl) (fun _ _ _ _ h => h) rfl (.int .u32 ((y1 : Nat) : Int)) (fun w _ => by go_simp; exact f1.out) hH ?_
                  simp only [Act.put, List.setIfInBounds_toArray, List.set_cons_zero, List.set_cons_succ, Nat.zero_add, decide_true, beq_self_eq_true]
                  refine takeH_assign (o := ⟨some 13, _, _, _, _, _⟩) (i := 21) rfl (by kernel_rfl) (by kernel_rfl) (by kernel_rfl) (fun _ _ _ _ h => h) rfl (.tmp 110) rfl (.int .u32 ((y1 : Nat) : Int)) rfl hH ?_
                  simp only [Act.put, List.setIfInBounds_toArray, List.set_cons_zero, List.set_cons_succ, Nat.zero_add, decide_true, beq_self_eq_true]
                  refine wpAnyH_done (by kernel_rfl) ?_ _
                  go_wp2_with fail
                  go_meet
                  exact ⟨rfl, hH⟩
                case rest =>
                  obtain ⟨rfl, hB15⟩ := hcut
                  clear hm4 e5 e6 e7 e8 e9 f1 hkc2 hsc2 hkk hsk
                  obtain ⟨n0, b0, N0, B0⟩ := wrap32 z4 y1
                  obtain ⟨n4, b4, N4, B4⟩ := wrap32 x3 z4
                  have hst : Hid (roundsN K S s (k + 1) = [n0, x0, x1, x2, n4, x4, x5, x6]) := by
                    show _ = _
                    rw [hX1.out]
                    unfold rstep t1 t2
                    rw [← hx0.out, ← hx1.out, ← hx2.out, ← hx3.out, ← hx4.out, ← hx5.out, ← hx6.out, ← hx7.out, ← hm.out, ← hm2.out, ← hch.out, ← hmj.out, ← D14.out, ← D15.out, B0, B4]
                  clear B0 B4 N0 N4 N1
                  have hxy := hx.drew.keep hB15
                  have h1y := h1.drew.keep hB15
                  have hby := hb.drew.keep hB15
                  have hry := hr.drew.keep hB15
                  have hBy := below_call hB.drew hB.drew.size hB15
                  have cc := Lib.hid (hcx.out _ hB15)
                  clear hcx hx h1 hb hr hB hB14 hB15
                  have c0 := cc.out 0 (by decide)
                  have c1 := cc.out 1 (by decide)
                  have c2 := cc.out 2 (by decide)
                  have c3 := cc.out 3 (by decide)
                  have c4 := cc.out 4 (by decide)
                  have c5 := cc.out 5 (by decide)
                  have c6 := cc.out 6 (by decide)
                  rw [← hx0.out] at c0
                  rw [← hx1.out] at c1
                  rw [← hx2.out] at c2
                  rw [← hx3.out] at c3
                  rw [← hx4.out] at c4
                  rw [← hx5.out] at c5
                  rw [← hx6.out] at c6
                  have HXl := Lib.hid (show (wv X).length = 8 by simp [hXl])
                  clear hXl hXw l0 l1 l2 l3 l4 l5 l6 l7 m3l m4l nx4 D14 D15 hm hm2 hch hmj hx0 hx1 hx2 hx3 hx4 hx5 hx6 hx7 hX1

                  go_wp2_with (refine wpList_storeW rfl 105 (.tmp 10) (.tmp 130) rfl 8 arr8u gx rfl (wv [n0, x0, x1, x2, n4, x4, x5, x6]) rfl 105 _ hxy (by simp) HXl.out (ones_wv _) ?_)
                  intro w5 hx5 hK5
                  have h5 := h1y.keeps hK5 (by simp; omega)
                  have hb5 := hby.keeps hK5 (by simp; omega)
                  have hr5 := hry.keeps hK5 (by simp; omega)
                  have hB5 := hBy.trans (hK5.below hBy.size (by simp; omega))
                  clear c0 c1 c2 c3 c4 c5 c6 cc hxy h1y hby hry hBy hK5
                  go_wp2
                  go_roundw
                  case rel => exact ⟨k + 1, by omega, by go_num, by rw [hst.out]; exact hx5, h5, hb5, hr5, hB5⟩
                  case measure => simp [intOf]; omega
            · obtain rfl : k = 64 := by omega
              have hXl := Lib.hid (show (roundsN K S s 64).length = 8 from roundsN_length hS 64)
              have hXw := Lib.hid (show Wds (roundsN K S s 64) from roundsN_wds wS 64)
              generalize roundsN K S s 64 = X at *
              have Hs8 := Lib.hid hS
              have Ws := Lib.hid wS
              clear h1 hS wS
              go_wp2
              go_loopw [131] (fun i wr => ∃ k : Nat, (k : Int) ≤ 8 ∧ i = .int .i64 (k : Int) ∧ Blk wr gx 105 (wv (upd R X k)) ∧ Blk wr w.heap.size 105 (wv s) ∧ Blk wr (w.heap.size + 1) 105 (wv (zeros 8)) ∧ Below w.heap.size w wr) (fun i _ => 8 - (intOf i).toNat)
              case atStart => exact ⟨0, by omega, rfl, by rw [upd_zero]; exact hx, hb, hr, hB⟩
              case round =>
                clear hx hb hr hB
                obtain ⟨k, hk, rfl, hx, hb, hr, hB⟩ := hrel
                by_cases hlt : (k : Int) < 8
                · have c0 := hx.cell k
                  rw [wv_get, upd_get (by rw [hRl.out, hXl.out]) (Nat.le_refl _) (by rw [hXl.out]; omega), gd_get (by rw [hXl.out]; omega)] at c0
                  simp only [Option.map_some] at c0
                  have f0 := hx.frozen k
                  have d0 := hb.cell k
                  rw [gd_wv (by have := Hs8.out; omega)] at d0
                  have HS := Lib.hid (upd_set (new := R) (old := X) (k := k) (by rw [hRl.out, hXl.out]) (by rw [hXl.out]; omega) (gd_get (by rw [hRl.out]; omega)))
                  have hr1 := hRg.out k (by omega)
                  have l1 := hXw.out.gd k
                  have l2 := Ws.out.gd k
                  generalize gd X k = x at *
                  generalize gd s k = y at *
                  generalize gd R k = r at *
                  obtain ⟨a1, g1, ga1, gb1⟩ := wrap32 x y
                  obtain rfl : r = a1 := hr1.trans gb1.symm
                  clear gb1 hr1
                  go_wp2
                  go_still_tail 8, (by kernel_rfl)
                  change wpList _ _ _ _ _ wr.drew
                  go_wp2
                  go_roundw
                  case rel =>
                    refine ⟨k + 1, by omega, by go_num, ?_, (hb.drew).far (by simp; omega) _, (hr.drew).far (by simp; omega) _, hB.drew.setCell (by simp; omega) _⟩
                    rw [← HS.out, ← wv_set]
                    exact hx.drew.set_ k _
                  case measure => simp [intOf]; omega
                · obtain rfl : k = 8 := by omega
                  rw [upd_all hRl.out hXl.out] at hx
                  have hxl := Lib.hid (show (wv R).length = 8 by simp [hRl.out])
                  go_wp2_with (first | refine wpList_loadW rfl 105 (.tmp 10) rfl 8 arr8u _ rfl 105 _ hx hxl.out ?_ | refine wpList_storeW rfl 105 (.tmp 6) (.tmp 143) rfl 8 arr8u _ rfl (wv R) rfl 105 _ hr hxl.out (by simp) (ones_wv _) ?_)
                  intro w' h4 hK
                  go_wp2
                  exact bodyPost_ret (v := .agg (wv R).toArray) (res_cell Try.results68 _ _ _ 105 _ arr8u hxl.out rfl h4) rfl ⟨rfl, hB.trans (hK.below hB.size (by simp))⟩
end Go.Proofs.Ytlifpmglaoppoaa
