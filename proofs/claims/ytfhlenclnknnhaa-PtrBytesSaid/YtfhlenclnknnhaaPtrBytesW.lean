/- The walk of PtrBytes (printed by ptrbytes.py). -/
import Derived.Test.YtfhlenclnknnhaaPtL
import Derived.Test.YtfhlenclnknnhaaCdV
import Derived.Deep.Cut
import Derived.Deep.DeepCutAuto
set_option linter.unusedVariables false
set_option linter.unusedSimpArgs false
namespace Go.Proofs.Ytfhlenclnknnhaa.w_PtrBytes
open Go.RowKit
open Go.Proofs.PlainPtr Go.Proofs.PlainSha

theorem rng_blk {w : World} {g : Nat} {t : TypeId} {L : List Value} (h : Blk w g t L) : w.rangeAt g 0 L := fun j v hv => by rw [Nat.zero_add]; exact (h.cell j).trans hv
theorem fldM (g : Nat) (w : World) : (Instr.fieldAt 49 (.pointer (some ⟨g, 0, none⟩)) 0).run Try.prog w = .ok (.pointer (some ⟨g, 0, none⟩)) w := by kernel_rfl
theorem ptrB_lt {p : PtrD} (h : PtOk p) : ∀ x ∈ ptrB p, x < 256 := by
  intro x hx
  unfold ptrB at hx
  rcases List.mem_append.1 hx with hx | hx
  · exact putB_lt _ _ x hx
  · rcases List.mem_append.1 hx with hx | hx
    · exact putB_lt _ _ x hx
    · exact h.byt x hx
set_option maxRecDepth 100000 in
set_option maxHeartbeats 4000000 in
theorem core (p : PtrD) (hp : PtOk p) (z : Int) (z0 : -9223372036854775808 ≤ z) (z1 : z ≤ 9223372036854775807) (v : Value) (l : List Nat) (hbl : ∀ x ∈ l, x < 256) (hvn : (∃ A n c, v = .slice (some A) n c) ∨ v = .slice none 0 0) (w : World) (hs : Sl w v (bv l)) :
    Calls Try.prog 5 #[.agg (pcl p).toArray, .int .i64 z, v] w fun e w' => e = .returned (.bool true) ∧ Below w.heap.size w w' := by
  obtain ⟨A, c, hv, hc1, hc2, hc3⟩ := id hs
  rw [bv_length] at hv hc1 hc3
  obtain ⟨n, hn⟩ : ∃ n, Hid (n = l.length) := ⟨_, rfl⟩
  rw [← hn.out] at hv hc1
  subst hv
  have hal := Lib.hid (fun w => alive08 w)
  have h0 := Blk.new_at (w := w) (t := 27) (cs := (pcl p).toArray) rfl rfl
  have B0 : Below w.heap.size w (w.alloc (.cells (pcl p).toArray 27)) := (Below.refl _ _).alloc (Nat.le_refl _) _
  have hvb : Hid (∀ a n' c', Value.slice A n c = .slice (some a) n' c' → 0 < l.length → a.block < w.heap.size) := fun a n' c' e h => by
    injection e with e
    obtain ⟨g, o, e2, hc⟩ := hc3 h
    rw [e] at e2
    injection e2 with e2
    subst e2
    have := hc 0 _ (List.getElem?_eq_getElem (by rw [bv_length]; exact h))
    exact cell_lt this
  replace hbl := Lib.hid hbl
  replace hvn := Lib.hid hvn
  replace hp := Lib.hid hp
  replace hs := Lib.hid hs
  replace h0 := Lib.hid h0
  replace B0 := Lib.hid B0
  clear hc3
  by_cases hbig : (1000 : Int) < n
  · clear h0
    go_enter Try.func5, Try.ntmps5
    go_wp2_with fail
    refine (hal.out _).mono ?_
    rintro e w1 ⟨rfl, B1⟩
    have B1' := Lib.hid (B0.out.trans (B1.mono B0.out.size))
    clear B1
    go_wp2_with fail
    go_ret
    exact ⟨rfl, B1'.out⟩
  have hsm : (n : Int) ≤ 1000 := by omega
  clear hbig
  go_enter Try.func5, Try.ntmps5
  go_wp2_with fail
  refine (hal.out _).mono ?_
  rintro e w1 ⟨rfl, B1⟩
  have h1 := h0.out.keep B1
  have B1' := B0.out.trans (B1.mono B0.out.size)
  have H1 : Wx w1.heap.size (w1.alloc (.cells #[.slice none 0 0] 37)) w1.heap.size (wbl w1.heap.size (.slice none 0 0)) [] := ⟨_, Wr.made (w := w1) rfl, rfl⟩
  have bq := (Below.refl w1.heap.size w1).alloc (Nat.le_refl _) (.cells #[.slice none 0 0] 37)
  have h1' := h1.keep bq
  have B2 := Lib.hid (B1'.trans (bq.mono B1'.size))
  have hg01 := Lib.hid h1.lt
  have hwg := Lib.hid B1'.size
  generalize wbl w1.heap.size (.slice none 0 0) = L0 at *
  have hput := Lib.hid (put_x H1 p hp.out (by decide))
  rw [List.nil_append] at hput
  have hL0 := Lib.hid (fun k hk => (H1.lt k hk).1)
  have hpl := Lib.hid (pcl_len hp.out)
  clear B1 B1' h1 H1 bq h0 B0 hal
  go_wp2_with (refine wpList_loadW rfl 27 (.tmp 3) rfl 34 arrPt w.heap.size rfl 27 (pcl p) h1' hpl.out ?_)
  generalize w1.heap.size = g at *
  refine hput.out.mono ?_
  rintro e w2 ⟨L2, rfl, H2, S2⟩
  have h2 := h1'.keeps S2.keeps (fun hm => by have := hL0.out _ hm; have := hg01.out; omega)
  have B2' := B2.out.trans (S2.below (fun k hk => Nat.le_trans hwg.out (hL0.out k hk)) B2.out.size)
  have hrd := Lib.hid (read_any _ l w2 (clone_arg _ l w2 (hs.out.keep B2') hvn.out (by have := hn.out; omega)))
  have sl2 := hs.out.keep B2'
  have hL2 := Lib.hid H2.lt
  clear S2 hput h1' B2 hL0
  replace h2 := Lib.hid h2
  replace H2 := Lib.hid H2
  go_wp2_with fail
  refine hrd.out.mono ?_
  rintro e w3 ⟨g9, k9, rfl, hr3, B3⟩
  have h3 := h2.out.keep B3
  have H3 := H2.out.keep B3
  have sl3 := sl2.keep B3
  have B3' := B2'.trans (B3.mono B2'.size)
  have b4 := Blk.new_at (w := w3) (t := 49) (cs := #[.slice A n c]) rfl rfl
  have bq := (Below.refl w3.heap.size w3).alloc (Nat.le_refl _) (.cells #[.slice A n c] 49)
  have hr4 := hr3.keep bq
  have h4 := Lib.hid (h3.keep bq)
  have H4 := Lib.hid (H3.keep bq)
  have sl4 := Lib.hid (sl3.keep bq)
  have B4 := Lib.hid (B3'.trans (bq.mono B3'.size))
  have hg9 := Lib.hid hr3.lt
  have hk9 := Lib.hid (fun b (hb : k9 = some b) => hr3.row_lt hb)
  have h23 := Lib.hid B3.size
  have h02 := Lib.hid h2.out.lt
  have hlw := Lib.hid h3.lt
  have hgt := Lib.hid (get_both hr4 (by have := hn.out; omega) hbl.out)
  replace b4 := Lib.hid b4
  clear hrd hr3 B3 h3 H3 sl3 B3' bq hr4 B2' sl2 h2 H2
  go_wp2_with fail
  generalize w3.heap.size = gm at *
  refine hgt.out.mono ?_
  rintro e w5 ⟨rfl, hr5, hK5⟩
  have hX := Lib.hid (pcl_len (getX_ok hbl.out))
  have hXo := Lib.hid (getX_ok hbl.out)
  have hXb := Lib.hid (pcl_ones (getX l))
  have hqg : Hid (∀ w' (hb : Blk w' gm 49 [.slice A n c]) (hs : Sl w' (.slice A n c) (bv l)), Calls Try.prog 18 #[.pointer (some ⟨gm, 0, none⟩)] w' fun e w2' => e = .returned (.tuple #[.agg (pcl (getX l)).toArray, .int .i64 (getE l)]) ∧ (∃ A c, Blk w2' gm 49 [.slice A (getL l).length c]) ∧ Keeps [gm] w' w2') := fun w' hb hs' => qget_both hb hs' (fun h a e => by have := hvb.out a n c (by rw [e]) h; have := hlw.out; omega) (by have := hn.out; omega) hbl.out
  have hgl := Lib.hid (getL_len l)
  generalize getX l = X at *
  generalize getE l = E at *
  generalize getL l = r at *
  have b5 := b4.out.keeps hK5 (by have := hg9.out; simp; omega)
  have h5 := h4.out.keeps hK5 (by have := hg9.out; have := h02.out; simp; omega)
  have H5 := H4.out.keeps hK5 (fun k hk => by have := hL2.out k hk; have := hg9.out; simp; omega)
  have B5 := B4.out.trans (hK5.below B4.out.size (by have := hg9.out; have := h02.out; simp; omega))
  have hmw := Lib.hid b5.lt
  clear h4 H4 sl4 B4 hgt hK5 b4
  go_wp2_with (refine wpList_allocA rfl 27 rfl (pcl pz) zero_pt ?_)
  intro w6 h6 hK6 hz6
  have hr6 := hr5.keeps hK6 (by simp) (by simp)
  have b6 := b5.keeps hK6 (by simp)
  have g6 := h5.keeps hK6 (by simp)
  have H6 := H5.keeps hK6 (by simp)
  have B6 := B5.trans (hK6.below B5.size (by simp))
  have hwx := Lib.hid B5.size
  clear b5 h5 H5 B5 hr5 hK6 hz6
  generalize w5.heap.size = gx at *
  go_wp2_with (refine wpList_storeW rfl 27 (.tmp 11) (.tmp 30) rfl 34 arrPt gx rfl (pcl X) rfl 27 _ h6 hX.out (pcl_len pz_ok) hXb.out ?_)
  intro w7 h7 hK7
  have hr7 := Lib.hid (hr6.keeps hK7 (by have := hg9.out; have := hmw.out; simp; omega) (fun b hb => by have := hk9.out b hb; have := hmw.out; simp; omega))
  have b7 := b6.keeps hK7 (by have := hmw.out; simp; omega)
  have g7 := Lib.hid (g6.keeps hK7 (by have := hmw.out; have := hlw.out; simp; omega))
  have H7 := Lib.hid (H6.keeps hK7 (fun k hk => by have := hL2.out k hk; have := hmw.out; have := h23.out; simp; omega))
  have B7 := Lib.hid (B6.trans (hK7.below B6.size (by have := hwx.out; simp; omega)))
  have hqc := Lib.hid (hqg.out w7 b7 (hs.out.keep B7.out))
  have hxl := Lib.hid h7.lt
  replace h7 := Lib.hid h7
  clear hr6 b6 g6 H6 B6 hK7 h6 hqg b7
  go_wp2_with fail
  refine hqc.out.mono ?_
  rintro e w8 ⟨rfl, ⟨A8, c8, b8⟩, hK8⟩
  have h8 := h7.out.keeps hK8 (by have := hmw.out; simp; omega)
  have hr8 := hr7.out.keeps hK8 (by have := hg9.out; simp; omega) (fun b hb => by have := hk9.out b hb; simp; omega)
  have g8 := g7.out.keeps hK8 (by have := hlw.out; simp; omega)
  have H8 := H7.out.keeps hK8 (fun k hk => by have := hL2.out k hk; have := h23.out; simp; omega)
  have B8 := B7.out.trans (hK8.below B7.out.size (by have := hlw.out; simp; omega))
  have hxl8 := Lib.hid h8.lt
  clear hqc hr7 g7 H7 B7 h7 hK8
  go_wp2_with (refine wpList_allocA rfl 27 rfl (pcl pz) zero_pt ?_)
  intro w9 h9 hK9 hz9
  have x9 := h8.keeps hK9 (by simp)
  have hr9 := hr8.keeps hK9 (by simp) (by simp)
  have b9 := b8.keeps hK9 (by simp)
  have g9' := g8.keeps hK9 (by simp)
  have H9 := H8.keeps hK9 (by simp)
  have B9 := B8.trans (hK9.below B8.size (by simp))
  have hwy := Lib.hid B8.size
  clear h8 hr8 b8 g8 H8 B8 hK9 hz9
  generalize w8.heap.size = gy at *
  go_wp2_with (refine wpList_storeW rfl 27 (.tmp 13) (.tmp 35) rfl 34 arrPt gy rfl (pcl X) rfl 27 _ h9 hX.out (pcl_len pz_ok) hXb.out ?_)
  intro wt hy hKt
  have hx := Lib.hid (x9.keeps hKt (by have := hxl8.out; simp; omega))
  have hr := Lib.hid (hr9.keeps hKt (by have := hg9.out; have := hmw.out; have := hxl8.out; simp; omega) (fun b hb => by have := hk9.out b hb; have := hmw.out; have := hxl8.out; simp; omega))
  have hm := Lib.hid (b9.keeps hKt (by have := hmw.out; have := hxl8.out; simp; omega))
  have hP := Lib.hid (g9'.keeps hKt (by have := hlw.out; have := hmw.out; have := hxl8.out; simp; omega))
  have HW := Lib.hid (H9.keeps hKt (fun k hk => by have := hL2.out k hk; have := hmw.out; have := hxl8.out; have := h23.out; simp; omega))
  have hB := Lib.hid (B9.trans (hKt.below B9.size (by have := hwy.out; simp; omega)))
  replace hy := Lib.hid hy
  have hgg := Lib.hid hwg.out
  clear x9 hr9 b9 g9' H9 B9 hKt h9 hwx hwy hxl hxl8 hmw hlw h23 hk9 hg9 hL2 h02 hwg hg01 hXb hvb hvn hs hgl
  go_upto_region 10 with fail
  have hgB := Lib.hid (fun k hk => Nat.le_trans hgg.out (HW.out.lt k hk).1)
  have hS0 : Below wt.drew.heap.size wt.drew wt.drew := Below.refl _ _
  have xD : Blk wt.drew gx 27 (pcl X) := hx.out
  have yD : Blk wt.drew gy 27 (pcl X) := hy.out
  have pD : Blk wt.drew w.heap.size 27 (pcl p) := hP.out
  have mD : Blk wt.drew gm 49 [.slice A8 r.length c8] := hm.out
  have WD : Wx g wt.drew g L2 (ptrB p) := HW.out.keep ⟨rfl, rfl, rfl, Nat.le_refl _, fun _ _ => rfl⟩
  have RD : Rd w2.heap.size wt.drew g9 k9 r := hr.out.keep ⟨rfl, rfl, rfl, Nat.le_refl _, fun _ _ => rfl⟩
  have BD : Below w.heap.size w wt.drew := hB.out.trans ⟨rfl, rfl, rfl, Nat.le_refl _, fun _ _ => rfl⟩
  obtain ⟨bz, hbz⟩ : ∃ bz, Hid (decide (p.a = 0) = bz) := ⟨_, rfl⟩
  have hbz2 : Hid (((p.a : Int) == 0) = bz) := by
    show _ = _
    rw [← hbz.out]
    by_cases h : p.a = 0
    · rw [h]; rfl
    · rw [decide_eq_false h]; simpa using h
  have hnl := Lib.hid (fun w => null_any p hp.out w)
  rw [hbz.out] at hnl
  have hpb := Lib.hid (ptrB_lt hp.out)
  have hpbl : Hid (((ptrB p).length : Int) ≤ 1000000) := by show _ ≤ _; rw [ptrB_len hp.out]; decide
  clear hx hy hP hm HW hr hB
  refine held_drew2 (S := fun w' => Below wt.drew.heap.size wt.drew w') #[false, false, false, false, false, false, false, false, false, false, false, false, false, false, false, false, false, false, false, false, false, false, false, false, false, false, false, false, false, false, false, false, false, false, false, false, false, false, false, false, false, false, false, false, false, false, false, false, false, false, false] (by kernel_rfl) (by kernel_rfl) hS0 (fun hH => ?_)
  generalize wt.drew = wD at *
  refine takeH_move (o := ⟨some 37, _, _, _, _, _⟩) (i := 0) rfl (by kernel_rfl) (by kernel_rfl) (by kernel_rfl) (fun _ _ _ _ h => h) rfl (.tmp 8) rfl (.int .i64 0) rfl hH ?_
  simp only [Act.put, List.setIfInBounds_toArray, List.set_cons_zero, List.set_cons_succ, Nat.zero_add, decide_true, beq_self_eq_true]
  refine takeH_S (o := ⟨some 38, _, _, _, _, _⟩) (i := 1) rfl (by kernel_rfl) (by kernel_rfl) (by kernel_rfl) (fun _ _ _ _ h => h) rfl (.bool true) (fun w _ => by go_simp) hH ?_
  simp only [Act.put, List.setIfInBounds_toArray, List.set_cons_zero, List.set_cons_succ, Nat.zero_add, decide_true, beq_self_eq_true]
  refine takeH_move (o := ⟨some 39, _, _, _, _, _⟩) (i := 2) rfl (by kernel_rfl) (by kernel_rfl) (by kernel_rfl) (fun _ _ _ _ h => h) rfl (.tmp 38) rfl (.bool true) rfl hH ?_
  simp only [Act.put, List.setIfInBounds_toArray, List.set_cons_zero, List.set_cons_succ, Nat.zero_add, decide_true, beq_self_eq_true]
  refine takeH_load (o := ⟨some 41, _, _, _, _, _⟩) (i := 4) rfl (by kernel_rfl) (by kernel_rfl) (by kernel_rfl) (fun _ _ _ _ h => h) rfl 27 (.tmp 3) rfl 34 arrPt w.heap.size 0 rfl (pcl p) hpl.out (fun w h => rng_blk (pD.keep h)) hH ?_
  simp only [Act.put, List.setIfInBounds_toArray, List.set_cons_zero, List.set_cons_succ, Nat.zero_add, decide_true, beq_self_eq_true]
  refine wpAnyH_ready (rs := [3]) (by kernel_rfl) (by simp) ?_
  refine AllReadyH.cons rfl (fun K1 hK1 => ?_) AllReadyH.nil
  rw [if_pos (by rfl)]
  go_wp2_with fail
  refine (bytes_x WD hpbl.out).mono ?_
  rintro e wa ⟨va, rfl, owna, Ba⟩
  have hSa := hS0.trans Ba
  refine hK1.out _ _ hSa (fun hH => ?_)
  clear hK1 K1
  simp only [Act.put, List.getElem_toArray, List.getElem_cons_succ, List.getElem_cons_zero, List.setIfInBounds_toArray, List.set_cons_zero, List.set_cons_succ, Nat.zero_add]
  refine wpAnyH_ready (rs := [5]) (by kernel_rfl) (by simp) ?_
  refine AllReadyH.cons rfl (fun K1 hK1 => ?_) AllReadyH.nil
  rw [if_pos (by rfl)]
  go_wp2_with fail
  refine (r8bytes p hp.out wa).mono ?_
  rintro e wb ⟨vb, rfl, ownb, Bb⟩
  have hSb := hSa.trans (Bb.mono hSa.size)
  refine hK1.out _ _ hSb (fun hH => ?_)
  clear hK1 K1
  simp only [Act.put, List.getElem_toArray, List.getElem_cons_succ, List.getElem_cons_zero, List.setIfInBounds_toArray, List.set_cons_zero, List.set_cons_succ, Nat.zero_add]
  have hsm2 := same_any va vb (ptrB p) (ptrB p) wb ((Sl.of_own owna).keep Bb) (Sl.of_own ownb) hpb.out hpb.out
  rw [decide_eq_true rfl] at hsm2
  refine wpAnyH_ready (rs := [6]) (by kernel_rfl) (by simp) ?_
  refine AllReadyH.cons rfl (fun K1 hK1 => ?_) AllReadyH.nil
  rw [if_pos (by rfl)]
  go_wp2_with fail
  refine (hsm2).mono ?_
  rintro e wc ⟨rfl, rfl⟩
  refine hK1.out _ _ hSb (fun hH => ?_)
  clear hK1 K1
  simp only [Act.put, List.getElem_toArray, List.getElem_cons_succ, List.getElem_cons_zero, List.setIfInBounds_toArray, List.set_cons_zero, List.set_cons_succ, Nat.zero_add]
  refine takeH_pick (o := ⟨some 44, _, _, _, _, _⟩) (i := 7) rfl (by kernel_rfl) (by kernel_rfl) (by kernel_rfl) (fun _ _ _ _ h => h) rfl (.tmp 39) (.tmp 43) (.const (.bool false)) rfl true rfl (.bool true) rfl hH ?_
  simp only [Act.put, List.setIfInBounds_toArray, List.set_cons_zero, List.set_cons_succ, Nat.zero_add, decide_true, beq_self_eq_true]
  refine takeH_move (o := ⟨some 45, _, _, _, _, _⟩) (i := 8) rfl (by kernel_rfl) (by kernel_rfl) (by kernel_rfl) (fun _ _ _ _ h => h) rfl (.tmp 44) rfl (.bool true) rfl hH ?_
  simp only [Act.put, List.setIfInBounds_toArray, List.set_cons_zero, List.set_cons_succ, Nat.zero_add, decide_true, beq_self_eq_true]
  refine takeH_load (o := ⟨some 46, _, _, _, _, _⟩) (i := 9) rfl (by kernel_rfl) (by kernel_rfl) (by kernel_rfl) (fun _ _ _ _ h => h) rfl 27 (.tmp 3) rfl 34 arrPt w.heap.size 0 rfl (pcl p) hpl.out (fun w h => rng_blk (pD.keep h)) hH ?_
  simp only [Act.put, List.setIfInBounds_toArray, List.set_cons_zero, List.set_cons_succ, Nat.zero_add, decide_true, beq_self_eq_true]
  refine takeH_move (o := ⟨some 47, _, _, _, _, _⟩) (i := 10) rfl (by kernel_rfl) (by kernel_rfl) (by kernel_rfl) (fun _ _ _ _ h => h) rfl (.tmp 1) rfl (.int .i64 z) rfl hH ?_
  simp only [Act.put, List.setIfInBounds_toArray, List.set_cons_zero, List.set_cons_succ, Nat.zero_add, decide_true, beq_self_eq_true]
  refine takeH_load (o := ⟨some 49, _, _, _, _, _⟩) (i := 12) rfl (by kernel_rfl) (by kernel_rfl) (by kernel_rfl) (fun _ _ _ _ h => h) rfl 27 (.tmp 3) rfl 34 arrPt w.heap.size 0 rfl (pcl p) hpl.out (fun w h => rng_blk (pD.keep h)) hH ?_
  simp only [Act.put, List.setIfInBounds_toArray, List.set_cons_zero, List.set_cons_succ, Nat.zero_add, decide_true, beq_self_eq_true]
  refine takeH_move (o := ⟨some 50, _, _, _, _, _⟩) (i := 13) rfl (by kernel_rfl) (by kernel_rfl) (by kernel_rfl) (fun _ _ _ _ h => h) rfl (.tmp 1) rfl (.int .i64 z) rfl hH ?_
  simp only [Act.put, List.setIfInBounds_toArray, List.set_cons_zero, List.set_cons_succ, Nat.zero_add, decide_true, beq_self_eq_true]
  refine wpAnyH_ready (rs := [11]) (by kernel_rfl) (by simp) ?_
  refine AllReadyH.cons rfl (fun K1 hK1 => ?_) AllReadyH.nil
  rw [if_pos (by rfl)]
  go_wp2_with fail
  refine (chk_any p hp.out z z0 z1 _).mono ?_
  rintro e wd ⟨rfl, Bd⟩
  have hSd := hSb.trans (Bd.mono hSb.size)
  refine hK1.out _ _ hSd (fun hH => ?_)
  clear hK1 K1
  simp only [Act.put, List.getElem_toArray, List.getElem_cons_succ, List.getElem_cons_zero, List.setIfInBounds_toArray, List.set_cons_zero, List.set_cons_succ, Nat.zero_add]
  refine wpAnyH_ready (rs := [14]) (by kernel_rfl) (by simp) ?_
  refine AllReadyH.cons rfl (fun K1 hK1 => ?_) AllReadyH.nil
  rw [if_pos (by rfl)]
  go_wp2_with fail
  refine (rchk_any p hp.out z z0 z1 _).mono ?_
  rintro e we ⟨rfl, Be⟩
  have hSe := hSd.trans (Be.mono hSd.size)
  refine hK1.out _ _ hSe (fun hH => ?_)
  clear hK1 K1
  simp only [Act.put, List.getElem_toArray, List.getElem_cons_succ, List.getElem_cons_zero, List.setIfInBounds_toArray, List.set_cons_zero, List.set_cons_succ, Nat.zero_add]
  refine takeH_S (o := ⟨some 52, _, _, _, _, _⟩) (i := 15) rfl (by kernel_rfl) (by kernel_rfl) (by kernel_rfl) (fun _ _ _ _ h => h) rfl (.bool true) (fun w _ => by go_simp) hH ?_
  simp only [Act.put, List.setIfInBounds_toArray, List.set_cons_zero, List.set_cons_succ, Nat.zero_add, decide_true, beq_self_eq_true]
  refine takeH_pick (o := ⟨some 53, _, _, _, _, _⟩) (i := 16) rfl (by kernel_rfl) (by kernel_rfl) (by kernel_rfl) (fun _ _ _ _ h => h) rfl (.tmp 45) (.tmp 52) (.const (.bool false)) rfl true rfl (.bool true) rfl hH ?_
  simp only [Act.put, List.setIfInBounds_toArray, List.set_cons_zero, List.set_cons_succ, Nat.zero_add, decide_true, beq_self_eq_true]
  refine takeH_move (o := ⟨some 54, _, _, _, _, _⟩) (i := 17) rfl (by kernel_rfl) (by kernel_rfl) (by kernel_rfl) (fun _ _ _ _ h => h) rfl (.tmp 53) rfl (.bool true) rfl hH ?_
  simp only [Act.put, List.setIfInBounds_toArray, List.set_cons_zero, List.set_cons_succ, Nat.zero_add, decide_true, beq_self_eq_true]
  refine takeH_load (o := ⟨some 55, _, _, _, _, _⟩) (i := 18) rfl (by kernel_rfl) (by kernel_rfl) (by kernel_rfl) (fun _ _ _ _ h => h) rfl 27 (.tmp 3) rfl 34 arrPt w.heap.size 0 rfl (pcl p) hpl.out (fun w h => rng_blk (pD.keep h)) hH ?_
  simp only [Act.put, List.setIfInBounds_toArray, List.set_cons_zero, List.set_cons_succ, Nat.zero_add, decide_true, beq_self_eq_true]
  refine takeH_field (o := ⟨some 57, _, _, _, _, _⟩) (i := 20) rfl (by kernel_rfl) (by kernel_rfl) (by kernel_rfl) (fun _ _ _ _ h => h) rfl 27 (.tmp 3) 0 rfl w.heap.size 0 rfl (fun w => fldP0 _ w) hH ?_
  simp only [Act.put, List.setIfInBounds_toArray, List.set_cons_zero, List.set_cons_succ, Nat.zero_add, decide_true, beq_self_eq_true]
  refine takeH_cell (o := ⟨some 58, _, _, _, _, _⟩) (i := 21) rfl (by kernel_rfl) (by kernel_rfl) (by kernel_rfl) (fun _ _ _ _ h => h) rfl 22 (.tmp 57) rfl Try.underlying22 rfl w.heap.size 0 rfl (.int .u32 (p.a : Int)) (fun w h => ((pD.keep h).cell 0).trans rfl) hH ?_
  simp only [Act.put, List.setIfInBounds_toArray, List.set_cons_zero, List.set_cons_succ, Nat.zero_add, decide_true, beq_self_eq_true]
  refine takeH_S (o := ⟨some 59, _, _, _, _, _⟩) (i := 22) rfl (by kernel_rfl) (by kernel_rfl) (by kernel_rfl) (fun _ _ _ _ h => h) rfl (.bool bz) (fun w _ => by go_simp; exact hbz2.out) hH ?_
  simp only [Act.put, List.setIfInBounds_toArray, List.set_cons_zero, List.set_cons_succ, Nat.zero_add, decide_true, beq_self_eq_true]
  refine wpAnyH_ready (rs := [19]) (by kernel_rfl) (by simp) ?_
  refine AllReadyH.cons rfl (fun K1 hK1 => ?_) AllReadyH.nil
  rw [if_pos (by rfl)]
  go_wp2_with fail
  refine (hnl.out _).mono ?_
  rintro e wf ⟨rfl, Bf⟩
  have hSf := hSe.trans (Bf.mono hSe.size)
  refine hK1.out _ _ hSf (fun hH => ?_)
  clear hK1 K1
  simp only [Act.put, List.getElem_toArray, List.getElem_cons_succ, List.getElem_cons_zero, List.setIfInBounds_toArray, List.set_cons_zero, List.set_cons_succ, Nat.zero_add]
  refine takeH_S (o := ⟨some 60, _, _, _, _, _⟩) (i := 23) rfl (by kernel_rfl) (by kernel_rfl) (by kernel_rfl) (fun _ _ _ _ h => h) rfl (.bool true) (fun w _ => by go_simp) hH ?_
  simp only [Act.put, List.setIfInBounds_toArray, List.set_cons_zero, List.set_cons_succ, Nat.zero_add, decide_true, beq_self_eq_true]
  refine takeH_pick (o := ⟨some 61, _, _, _, _, _⟩) (i := 24) rfl (by kernel_rfl) (by kernel_rfl) (by kernel_rfl) (fun _ _ _ _ h => h) rfl (.tmp 54) (.tmp 60) (.const (.bool false)) rfl true rfl (.bool true) rfl hH ?_
  simp only [Act.put, List.setIfInBounds_toArray, List.set_cons_zero, List.set_cons_succ, Nat.zero_add, decide_true, beq_self_eq_true]
  refine takeH_move (o := ⟨some 62, _, _, _, _, _⟩) (i := 25) rfl (by kernel_rfl) (by kernel_rfl) (by kernel_rfl) (fun _ _ _ _ h => h) rfl (.tmp 61) rfl (.bool true) rfl hH ?_
  simp only [Act.put, List.setIfInBounds_toArray, List.set_cons_zero, List.set_cons_succ, Nat.zero_add, decide_true, beq_self_eq_true]
  refine takeH_load (o := ⟨some 63, _, _, _, _, _⟩) (i := 26) rfl (by kernel_rfl) (by kernel_rfl) (by kernel_rfl) (fun _ _ _ _ h => h) rfl 27 (.tmp 11) rfl 34 arrPt gx 0 rfl (pcl X) hX.out (fun w h => rng_blk (xD.keep h)) hH ?_
  simp only [Act.put, List.setIfInBounds_toArray, List.set_cons_zero, List.set_cons_succ, Nat.zero_add, decide_true, beq_self_eq_true]
  refine takeH_load (o := ⟨some 64, _, _, _, _, _⟩) (i := 27) rfl (by kernel_rfl) (by kernel_rfl) (by kernel_rfl) (fun _ _ _ _ h => h) rfl 27 (.tmp 13) rfl 34 arrPt gy 0 rfl (pcl X) hX.out (fun w h => rng_blk (yD.keep h)) hH ?_
  simp only [Act.put, List.setIfInBounds_toArray, List.set_cons_zero, List.set_cons_succ, Nat.zero_add, decide_true, beq_self_eq_true]
  refine takeH_eqPt (o := ⟨some 65, _, _, _, _, _⟩) (i := 28) rfl (by kernel_rfl) (by kernel_rfl) (by kernel_rfl) (fun _ _ _ _ h => h) rfl (.tmp 63) (.tmp 64) 27 rfl X hXo.out rfl rfl hH ?_
  simp only [Act.put, List.setIfInBounds_toArray, List.set_cons_zero, List.set_cons_succ, Nat.zero_add, decide_true, beq_self_eq_true]
  refine takeH_pick (o := ⟨some 66, _, _, _, _, _⟩) (i := 29) rfl (by kernel_rfl) (by kernel_rfl) (by kernel_rfl) (fun _ _ _ _ h => h) rfl (.tmp 62) (.tmp 65) (.const (.bool false)) rfl true rfl (.bool true) rfl hH ?_
  simp only [Act.put, List.setIfInBounds_toArray, List.set_cons_zero, List.set_cons_succ, Nat.zero_add, decide_true, beq_self_eq_true]
  refine takeH_move (o := ⟨some 67, _, _, _, _, _⟩) (i := 30) rfl (by kernel_rfl) (by kernel_rfl) (by kernel_rfl) (fun _ _ _ _ h => h) rfl (.tmp 66) rfl (.bool true) rfl hH ?_
  simp only [Act.put, List.setIfInBounds_toArray, List.set_cons_zero, List.set_cons_succ, Nat.zero_add, decide_true, beq_self_eq_true]
  refine takeH_move (o := ⟨some 68, _, _, _, _, _⟩) (i := 31) rfl (by kernel_rfl) (by kernel_rfl) (by kernel_rfl) (fun _ _ _ _ h => h) rfl (.tmp 12) rfl (.int .i64 E) rfl hH ?_
  simp only [Act.put, List.setIfInBounds_toArray, List.set_cons_zero, List.set_cons_succ, Nat.zero_add, decide_true, beq_self_eq_true]
  refine takeH_move (o := ⟨some 69, _, _, _, _, _⟩) (i := 32) rfl (by kernel_rfl) (by kernel_rfl) (by kernel_rfl) (fun _ _ _ _ h => h) rfl (.tmp 14) rfl (.int .i64 E) rfl hH ?_
  simp only [Act.put, List.setIfInBounds_toArray, List.set_cons_zero, List.set_cons_succ, Nat.zero_add, decide_true, beq_self_eq_true]
  refine takeH_S (o := ⟨some 70, _, _, _, _, _⟩) (i := 33) rfl (by kernel_rfl) (by kernel_rfl) (by kernel_rfl) (fun _ _ _ _ h => h) rfl (.bool true) (fun w _ => by go_simp) hH ?_
  simp only [Act.put, List.setIfInBounds_toArray, List.set_cons_zero, List.set_cons_succ, Nat.zero_add, decide_true, beq_self_eq_true]
  refine takeH_pick (o := ⟨some 71, _, _, _, _, _⟩) (i := 34) rfl (by kernel_rfl) (by kernel_rfl) (by kernel_rfl) (fun _ _ _ _ h => h) rfl (.tmp 67) (.tmp 70) (.const (.bool false)) rfl true rfl (.bool true) rfl hH ?_
  simp only [Act.put, List.setIfInBounds_toArray, List.set_cons_zero, List.set_cons_succ, Nat.zero_add, decide_true, beq_self_eq_true]
  refine takeH_move (o := ⟨some 72, _, _, _, _, _⟩) (i := 35) rfl (by kernel_rfl) (by kernel_rfl) (by kernel_rfl) (fun _ _ _ _ h => h) rfl (.tmp 71) rfl (.bool true) rfl hH ?_
  simp only [Act.put, List.setIfInBounds_toArray, List.set_cons_zero, List.set_cons_succ, Nat.zero_add, decide_true, beq_self_eq_true]
  refine takeH_move (o := ⟨some 73, _, _, _, _, _⟩) (i := 36) rfl (by kernel_rfl) (by kernel_rfl) (by kernel_rfl) (fun _ _ _ _ h => h) rfl (.tmp 9) rfl (.pointer (some ⟨g9, 0, none⟩)) rfl hH ?_
  simp only [Act.put, List.setIfInBounds_toArray, List.set_cons_zero, List.set_cons_succ, Nat.zero_add, decide_true, beq_self_eq_true]
  refine takeH_move (o := ⟨some 75, _, _, _, _, _⟩) (i := 38) rfl (by kernel_rfl) (by kernel_rfl) (by kernel_rfl) (fun _ _ _ _ h => h) rfl (.tmp 10) rfl (.pointer (some ⟨gm, 0, none⟩)) rfl hH ?_
  simp only [Act.put, List.setIfInBounds_toArray, List.set_cons_zero, List.set_cons_succ, Nat.zero_add, decide_true, beq_self_eq_true]
  refine takeH_S (o := ⟨some 76, _, _, _, _, _⟩) (i := 39) rfl (by kernel_rfl) (by kernel_rfl) (by kernel_rfl) (fun _ _ _ _ h => h) rfl (.pointer (some ⟨gm, 0, none⟩)) (fun w _ => by go_simp) hH ?_
  simp only [Act.put, List.setIfInBounds_toArray, List.set_cons_zero, List.set_cons_succ, Nat.zero_add, decide_true, beq_self_eq_true]
  refine takeH_field (o := ⟨some 77, _, _, _, _, _⟩) (i := 40) rfl (by kernel_rfl) (by kernel_rfl) (by kernel_rfl) (fun _ _ _ _ h => h) rfl 49 (.tmp 76) 0 rfl gm 0 rfl (fun w => fldM _ w) hH ?_
  simp only [Act.put, List.setIfInBounds_toArray, List.set_cons_zero, List.set_cons_succ, Nat.zero_add, decide_true, beq_self_eq_true]
  refine takeH_cell (o := ⟨some 78, _, _, _, _, _⟩) (i := 41) rfl (by kernel_rfl) (by kernel_rfl) (by kernel_rfl) (fun _ _ _ _ h => h) rfl 35 (.tmp 77) rfl Try.underlying35 rfl gm 0 rfl (.slice A8 r.length c8) (fun w h => ((mD.keep h).cell 0).trans rfl) hH ?_
  simp only [Act.put, List.setIfInBounds_toArray, List.set_cons_zero, List.set_cons_succ, Nat.zero_add, decide_true, beq_self_eq_true]
  refine takeH_len (o := ⟨some 79, _, _, _, _, _⟩) (i := 42) rfl (by kernel_rfl) (by kernel_rfl) (by kernel_rfl) (fun _ _ _ _ h => h) rfl 35 5 (.tmp 78) rfl Try.underlying35 _ _ _ rfl hH ?_
  simp only [Act.put, List.setIfInBounds_toArray, List.set_cons_zero, List.set_cons_succ, Nat.zero_add, decide_true, beq_self_eq_true]
  refine wpAnyH_ready (rs := [37]) (by kernel_rfl) (by simp) ?_
  refine AllReadyH.cons rfl (fun K1 hK1 => ?_) AllReadyH.nil
  rw [if_pos (by rfl)]
  go_wp2_with fail
  refine (left_any (RD.keep hSf)).mono ?_
  rintro e wg ⟨rfl, rfl⟩
  refine hK1.out _ _ hSf (fun hH => ?_)
  clear hK1 K1
  simp only [Act.put, List.getElem_toArray, List.getElem_cons_succ, List.getElem_cons_zero, List.setIfInBounds_toArray, List.set_cons_zero, List.set_cons_succ, Nat.zero_add]
  refine takeH_S (o := ⟨some 80, _, _, _, _, _⟩) (i := 43) rfl (by kernel_rfl) (by kernel_rfl) (by kernel_rfl) (fun _ _ _ _ h => h) rfl (.bool true) (fun w _ => by go_simp) hH ?_
  simp only [Act.put, List.setIfInBounds_toArray, List.set_cons_zero, List.set_cons_succ, Nat.zero_add, decide_true, beq_self_eq_true]
  refine takeH_pick (o := ⟨some 81, _, _, _, _, _⟩) (i := 44) rfl (by kernel_rfl) (by kernel_rfl) (by kernel_rfl) (fun _ _ _ _ h => h) rfl (.tmp 72) (.tmp 80) (.const (.bool false)) rfl true rfl (.bool true) rfl hH ?_
  simp only [Act.put, List.setIfInBounds_toArray, List.set_cons_zero, List.set_cons_succ, Nat.zero_add, decide_true, beq_self_eq_true]
  refine takeH_move (o := ⟨some 82, _, _, _, _, _⟩) (i := 45) rfl (by kernel_rfl) (by kernel_rfl) (by kernel_rfl) (fun _ _ _ _ h => h) rfl (.tmp 81) rfl (.bool true) rfl hH ?_
  simp only [Act.put, List.setIfInBounds_toArray, List.set_cons_zero, List.set_cons_succ, Nat.zero_add, decide_true, beq_self_eq_true]
  refine takeH_load (o := ⟨some 83, _, _, _, _, _⟩) (i := 46) rfl (by kernel_rfl) (by kernel_rfl) (by kernel_rfl) (fun _ _ _ _ h => h) rfl 27 (.tmp 3) rfl 34 arrPt w.heap.size 0 rfl (pcl p) hpl.out (fun w h => rng_blk (pD.keep h)) hH ?_
  simp only [Act.put, List.setIfInBounds_toArray, List.set_cons_zero, List.set_cons_succ, Nat.zero_add, decide_true, beq_self_eq_true]
  refine wpAnyH_ready (rs := [47]) (by kernel_rfl) (by simp) ?_
  refine AllReadyH.cons rfl (fun K1 hK1 => ?_) AllReadyH.nil
  rw [if_pos (by rfl)]
  go_wp2_with fail
  refine (putp_nil _ _).mono ?_
  rintro e wh ⟨rfl, Bh⟩
  have hSh := hSf.trans (Bh.mono hSf.size)
  refine hK1.out _ _ hSh (fun hH => ?_)
  clear hK1 K1
  simp only [Act.put, List.getElem_toArray, List.getElem_cons_succ, List.getElem_cons_zero, List.setIfInBounds_toArray, List.set_cons_zero, List.set_cons_succ, Nat.zero_add]
  refine takeH_S (o := ⟨some 85, _, _, _, _, _⟩) (i := 48) rfl (by kernel_rfl) (by kernel_rfl) (by kernel_rfl) (fun _ _ _ _ h => h) rfl (.bool true) (fun w _ => by go_simp) hH ?_
  simp only [Act.put, List.setIfInBounds_toArray, List.set_cons_zero, List.set_cons_succ, Nat.zero_add, decide_true, beq_self_eq_true]
  refine takeH_pick (o := ⟨some 86, _, _, _, _, _⟩) (i := 49) rfl (by kernel_rfl) (by kernel_rfl) (by kernel_rfl) (fun _ _ _ _ h => h) rfl (.tmp 82) (.tmp 85) (.const (.bool false)) rfl true rfl (.bool true) rfl hH ?_
  simp only [Act.put, List.setIfInBounds_toArray, List.set_cons_zero, List.set_cons_succ, Nat.zero_add, decide_true, beq_self_eq_true]
  refine takeH_assign (o := ⟨some 6, _, _, _, _, _⟩) (i := 50) rfl (by kernel_rfl) (by kernel_rfl) (by kernel_rfl) (fun _ _ _ _ h => h) rfl (.tmp 86) rfl (.bool true) rfl hH ?_
  simp only [Act.put, List.setIfInBounds_toArray, List.set_cons_zero, List.set_cons_succ, Nat.zero_add, decide_true, beq_self_eq_true]
  refine wpAnyH_done (by kernel_rfl) ?_ _
  have BB := Lib.hid (BD.trans (hSh.mono BD.size))
  clear hS0 xD yD pD mD WD RD BD hSa hSb hSd hSe hSf hSh hH
  go_wp2
  go_ret
  exact ⟨rfl, BB.out⟩

theorem walk (p : PtrD) (hp : PtOk p) (z : Int) (z0 : -9223372036854775808 ≤ z) (z1 : z ≤ 9223372036854775807) (v : Value) (l : List Nat) {w : World} (s : Sl w v (bv l)) (hbl : ∀ x ∈ l, x < 256) (_hl : l.length ≤ 140737488351232) (hvn : (∃ A n c, v = .slice (some A) n c) ∨ v = .slice none 0 0) (_w : World) (hw : w = _w) :
    Calls Try.prog 5 #[.agg (pcl p).toArray, .int .i64 z, v] _w fun e w' => e = .returned (.bool true) ∧ Below _w.heap.size _w w' := by
  subst hw
  exact core p hp z z0 z1 v l hbl hvn w s
end Go.Proofs.Ytfhlenclnknnhaa.w_PtrBytes
