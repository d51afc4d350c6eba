/- banyanref08.Get. -/
import Derived.Test.YtfhlenclnknnhaaCdR
set_option linter.unusedVariables false
set_option linter.unusedSimpArgs false
namespace Go.Proofs.Ytfhlenclnknnhaa
open Go.RowKit
open Go.Proofs.PlainPtr Go.Proofs.PlainSha
section
variable {B : Nat} {w : World} {g : Nat} {k : Option Nat} {l : List Nat}
theorem qlen (h : Rq B w g k l) : ∃ A c, w.cell? ⟨g, 0, none⟩ = some (.slice A l.length c) := by
  obtain ⟨v, hb, hs, hk, hkg, hB, hkz⟩ := h
  obtain ⟨A, c, hv, hc1, hc2, hc3⟩ := id hs
  rw [bv_length] at hv
  exact ⟨A, c, by rw [← hv]; exact (hb.cell 0).trans rfl⟩
def RetQg (B g : Nat) (k : Option Nat) (p : PtrD) (l : List Nat) (w : World) (e : Ending) (w' : World) : Prop :=
  e = .returned (.tuple #[.agg (pcl p).toArray, .int .i64 0]) ∧ Rq B w' g k l ∧ Keeps [g] w w'
set_option maxRecDepth 100000 in
set_option maxHeartbeats 1000000 in
theorem qget_short {A : Option Addr} {n c : Nat} (h : Blk w g 49 [.slice A n c]) (hnl : n < 44) :
    Calls Try.prog 18 #[.pointer (some ⟨g, 0, none⟩)] w fun e w' => e = .returned (.tuple #[.agg (pcl pz).toArray, .int .i64 3]) ∧ Below w.heap.size w w' := by
  have hz := Lib.hid (@zero_pt)
  have hzl := Lib.hid (pcl_len pz_ok)
  have hob := Lib.hid (pcl_ones pz)
  generalize pcl pz = Z at *
  have H := Lib.hid h
  clear h
  go_enter Try.func18, Try.ntmps18
  go_wp2_with (refine wpList_allocA rfl 27 rfl Z hz.out ?_)
  intro w1 h1 hK1 hs1
  have H1 := H.out.keeps hK1 (by simp)
  have B1 := Lib.hid (hK1.below (B := w.heap.size) (Nat.le_refl _) (by simp))
  obtain ⟨g2, hg2⟩ : ∃ g2, Hid (w.heap.size = g2) := ⟨_, rfl⟩
  have hg2' := hg2.out
  rw [hg2'] at h1 hs1 ⊢
  clear hg2' H hK1
  replace hs1 := Lib.hid hs1
  go_wp2_with (refine wpList_allocA rfl 27 rfl Z hz.out ?_)
  intro w2 h2 hK2 hs2
  have h1' := Lib.hid (h1.keeps hK2 (by simp))
  have H2 := H1.keeps hK2 (by simp)
  have B2 := Lib.hid (B1.out.trans (hK2.below (B := w.heap.size) (by rw [hs1.out, hg2.out]; omega) (by simp)))
  have c0 : w2.cell? ⟨g, 0, none⟩ = some (.slice A n c) := (H2.cell 0).trans rfl
  obtain ⟨g4, hg4⟩ : ∃ g4, w1.heap.size = g4 := ⟨_, rfl⟩
  rw [hg4] at h2 hs2 ⊢
  have hw2 := Lib.hid (show g2 < w2.heap.size by rw [hs2, ← hg4, hs1.out]; omega)
  clear H1 H2 hK2 hs1 hs2 hg4 h1 B1
  replace h2 := Lib.hid h2
  go_wp2_with (first
    | refine wpList_loadW rfl 27 (.tmp 4) rfl 34 arrPt g4 rfl 27 Z h2.out hzl.out ?_
    | refine wpList_storeW rfl 27 (.tmp 2) (.tmp 13) rfl 34 arrPt g2 rfl Z rfl 27 _ h1'.out hzl.out hzl.out hob.out ?_)
  intro w4 h4 hK4
  have B4 := B2.out.trans (hK4.below (B := w.heap.size) (by rw [hg2.out]; have := hw2.out; omega) (by simp; rw [hg2.out]; exact Nat.le_refl _))
  go_wp2
  exact bodyPost_ret (v := .tuple #[.agg Z.toArray, .int .i64 3]) (bres_cell2 Try.results18 _ _ _ 27 _ arrPt hzl.out _ rfl h4 rfl) rfl ⟨rfl, B4⟩
set_option maxRecDepth 100000 in
set_option maxHeartbeats 2000000 in
theorem qget_any (h : Rq B w g k l) (hnl : 44 ≤ l.length) (hlm : (l.length : Int) ≤ 1000000) (hby : ∀ x ∈ l, x < 256) :
    Calls Try.prog 18 #[.pointer (some ⟨g, 0, none⟩)] w (RetQg B g k (getP l) (l.drop 44) w) := by
  have hz := Lib.hid (@zero_pt)
  have hzl := Lib.hid (pcl_len pz_ok)
  have hP := getP_ok hnl hby
  have hPl := Lib.hid (pcl_len hP)
  have hPob := Lib.hid (pcl_ones (getP l))
  have hsl := Lib.hid (show (bv (getP l).s).length = 32 by rw [bv_length]; exact hP.s)
  have hsob := Lib.hid (ones_bv (getP l).s)
  have hX := hP.a
  have hkl : Hid (∀ b, k = some b → b < w.heap.size) := fun b hb => h.row_lt hb
  have hn1 : Hid (∀ w', Rq B w' g k l → Calls Try.prog 39 #[.pointer (some ⟨g, 0, none⟩), .int .i64 4] w' (RetQn B g k (getP l).a (l.drop 4) w')) := fun w' h => qnum_any h 4 (by decide) (by decide) (by omega) hlm hby
  have hn2 : Hid (∀ w', Rq B w' g k (l.drop 4) → Calls Try.prog 39 #[.pointer (some ⟨g, 0, none⟩), .int .i64 8] w' (RetQn B g k (getP l).b ((l.drop 4).drop 8) w')) := fun w' h => qnum_any h 8 (by decide) (by decide) (by rw [List.length_drop]; omega) (by rw [List.length_drop]; omega) (fun x hx => hby x (List.mem_of_mem_drop hx))
  have hn3 : Hid (∀ w', Rq B w' g k ((l.drop 4).drop 8) → Calls Try.prog 40 #[.pointer (some ⟨g, 0, none⟩)] w' (RetQh B g k (getP l).s (l.drop 44) w')) := fun w' h => by
    have := qhash_any h (by rw [List.length_drop, List.length_drop]; omega) (by rw [List.length_drop, List.length_drop]; omega)
    rw [show ((l.drop 4).drop 8).drop 32 = l.drop 44 by rw [List.drop_drop, List.drop_drop]] at this
    exact this
  have hR : Hid (∀ w', Rq B w' g k (l.drop 44) → Keeps [g] w w' → RetQg B g k (getP l) (l.drop 44) w (.returned (.tuple #[.agg (pcl (getP l)).toArray, .int .i64 0])) w') := fun w' h1 h2 => ⟨rfl, h1, h2⟩
  have hset : Hid (putL (Value.int .u32 ((getP l).a : Int) :: Value.int .u64 ((getP l).b : Int) :: bv (List.replicate 32 0)) 2 (bv (getP l).s) = pcl (getP l)) := by
    show _ = _
    rw [putL]
    simp only [List.take_succ_cons, List.take_zero, pcl]
    rw [List.drop_of_length_le (by simp [hsl.out])]
    simp
  have hpz : pcl pz = Value.int .u32 0 :: Value.int .u64 0 :: bv (List.replicate 32 0) := rfl
  have H := Lib.hid h
  have hg := Lib.hid h.lt
  have hql := Lib.hid (fun w' (h : Rq B w' g k l) => qlen h)
  clear h hlm hby hP
  rw [hpz] at hz hzl
  clear hpz
  generalize RetQg B g k (getP l) (l.drop 44) w = RX at *
  generalize l.drop 44 = l4 at *
  generalize hl2 : (l.drop 4).drop 8 = l2 at *
  clear hl2
  generalize l.drop 4 = l1 at *
  generalize pcl (getP l) = P at *
  generalize (getP l).s = S at *
  generalize bv (List.replicate 32 0) = Z at *
  generalize (getP l).a = X at *
  generalize (getP l).b = Y at *
  have hnlI : (44 : Int) ≤ (l.length : Int) := by omega
  clear hnl
  generalize l.length = n at *
  go_enter Try.func18, Try.ntmps18
  go_wp2_with (refine wpList_allocA rfl 27 rfl _ hz.out ?_)
  intro w0 h0 hK0 hs0
  have H0 := H.out.keeps hK0 (by simp) (by simp)
  have K0 := hK0.mono (G' := [g]) (by simp)
  obtain ⟨g5, hg5⟩ : ∃ g5, Hid (w.heap.size = g5) := ⟨_, rfl⟩
  have hg5' := hg5.out
  rw [hg5'] at h0 hkl hg hs0 ⊢
  clear hg5' H hK0
  replace hs0 := Lib.hid hs0
  go_wp2_with (refine wpList_allocA rfl 27 rfl _ hz.out ?_)
  intro w1 h1 hK1 hs1
  have h0' := h0.keeps hK1 (by simp)
  have H1 := H0.keeps hK1 (by simp) (by simp)
  have K1 := Lib.hid (K0.trans (hK1.mono (G' := [g]) (by simp)))
  have hn1c := Lib.hid (hn1.out w1 H1)
  obtain ⟨A, c, c0⟩ := hql.out w1 H1
  obtain ⟨g2, hg2⟩ : ∃ g2, w0.heap.size = g2 := ⟨_, rfl⟩
  rw [hg2] at h1 hs1 ⊢
  have hgn := Lib.hid (show g ≠ g2 ∧ g ≠ g5 ∧ g5 < g2 by have := hg.out; have := hs0.out; omega)
  have hgn2 := Lib.hid (show g2 ∉ [g] by have := hgn.out; simp; omega)
  have hgn5 := Lib.hid (show g5 ∉ [g] by have := hgn.out; simp; omega)
  have hle : Hid (w.heap.size ≤ g2) := by show _ ≤ _; rw [hg5.out]; have := hgn.out; omega
  have hkl2 : Hid (∀ b, k = some b → b ≠ g2 ∧ b ≠ g5) := fun b hb => by have := hkl.out b hb; have := hgn.out; omega
  clear hg2 H1 hK1 hs1 hs0 hn1 h0 H0 K0 hql
  replace h1 := Lib.hid h1
  replace h0' := Lib.hid h0'
  go_wp2_with fail
  refine hn1c.out.mono ?_
  rintro e w2 ⟨rfl, hr2, hK2⟩
  have K2 := Lib.hid (K1.out.trans hK2)
  have h2 := h1.out.keeps hK2 hgn2.out
  have g2r := Lib.hid (h0'.out.keeps hK2 hgn5.out)
  have c2 : w2.cell? ⟨g2, 0, none⟩ = some (.int .u32 0) := (h2.cell 0).trans rfl
  have f2 := h2.frozen 0
  have h3 := Lib.hid (h2.set_ 0 (.int .u32 (X : Int)))
  have hK3 := (Keeps.refl [g2] w2).setCell (p := ⟨g2, 0, none⟩) (by simp) (.int .u32 (X : Int))
  have K3 := Lib.hid (K2.out.fresh hK3 hle.out)
  have g3r := Lib.hid (g2r.out.keeps hK3 (by have := hgn.out; simp; omega))
  have hr3 := hr2.keeps hK3 (by simp; exact hgn.out.1) (fun b hb => by have := (hkl2.out b hb).1; simp; omega)
  have hn2c := Lib.hid (hn2.out _ hr3)
  clear hr2 hK2 h2 hK3 hr3 hn1c K1 K2 h1 hn2 h0' g2r c0
  go_wp2_with fail
  refine hn2c.out.mono ?_
  rintro e w4 ⟨rfl, hr4, hK4⟩
  have K4 := Lib.hid (K3.out.trans hK4)
  have h4 := h3.out.keeps hK4 hgn2.out
  have g4r := Lib.hid (g3r.out.keeps hK4 hgn5.out)
  have c4 : w4.cell? ⟨g2, 1, none⟩ = some (.int .u64 0) := (h4.cell 1).trans rfl
  have f4 := h4.frozen 1
  have h5 := Lib.hid (h4.set_ 1 (.int .u64 (Y : Int)))
  have hK5 := (Keeps.refl [g2] w4).setCell (p := ⟨g2, 1, none⟩) (by simp) (.int .u64 (Y : Int))
  have K5 := Lib.hid (K4.out.fresh hK5 hle.out)
  have g5r := Lib.hid (g4r.out.keeps hK5 (by have := hgn.out; simp; omega))
  have hr5 := hr4.keeps hK5 (by simp; exact hgn.out.1) (fun b hb => by have := (hkl2.out b hb).1; simp; omega)
  have hn3c := Lib.hid (hn3.out _ hr5)
  clear hr4 hK4 h4 hK5 hr5 hn2c K3 K4 h3 hn3 c2 f2 g3r g4r
  go_wp2_with fail
  refine hn3c.out.mono ?_
  rintro e w6 ⟨rfl, hr6, hK6⟩
  have K6 := Lib.hid (K5.out.trans hK6)
  have h6 := Lib.hid (h5.out.keeps hK6 hgn2.out)
  have g6r := Lib.hid (g5r.out.keeps hK6 hgn5.out)
  replace hr6 := Lib.hid hr6
  clear hK6 h5 hn3c K5 c4 f4 g5r
  go_wp2_with (refine wpList_storeA rfl 25 (.tmp 33) (.tmp 31) rfl 32 arrHs g2 2 rfl (bv S) rfl 27 _ h6.out hsl.out ?_ hsob.out ?_)
  · have := hzl.out
    simp only [List.set_cons_zero, List.set_cons_succ, List.length_cons] at this ⊢
    omega
  intro w7 h7 hK7
  have h7' : Blk w7 g2 27 P := by rw [← hset.out]; exact h7
  have K7 := Lib.hid (K6.out.fresh hK7 hle.out)
  have g7r := Lib.hid (g6r.out.keeps hK7 (by have := hgn.out; simp; omega))
  have hr7 := Lib.hid (hr6.out.keeps hK7 (by simp; exact hgn.out.1) (fun b hb => by have := (hkl2.out b hb).1; simp; omega))
  clear h7 hK7 h6 hr6 K6 g6r
  replace h7' := Lib.hid h7'
  go_wp2_with (first
    | refine wpList_loadW rfl 27 (.tmp 4) rfl 34 arrPt g2 rfl 27 P h7'.out hPl.out ?_
    | refine wpList_storeW rfl 27 (.tmp 2) (.tmp 34) rfl 34 arrPt g5 rfl P rfl 27 _ g7r.out hPl.out hzl.out hPob.out ?_)
  intro w8 h8 hK8
  have hr8 := hr7.out.keeps hK8 (by simp; exact hgn.out.2.1) (fun b hb => by have := (hkl2.out b hb).2; simp; omega)
  have K8 := K7.out.fresh hK8 (by rw [hg5.out]; exact Nat.le_refl _)
  go_wp2
  exact bodyPost_ret (v := .tuple #[.agg P.toArray, .int .i64 0]) (bres_cell2 Try.results18 _ _ _ 27 _ arrPt hPl.out _ rfl h8 rfl) rfl (hR.out _ hr8 K8)
theorem Rq.blk (h : Rq B w g k l) : ∃ A c, Blk w g 49 [.slice A l.length c] := by
  obtain ⟨v, hb, hs, hk, hkg, hB, hkz⟩ := h
  obtain ⟨A, c, hv, hc1, hc2, hc3⟩ := id hs
  rw [bv_length] at hv
  exact ⟨A, c, by rw [← hv]; exact hb⟩
end
end Go.Proofs.Ytfhlenclnknnhaa
