/- The device: Poke, errors; the law's example. -/
import Derived.Test.YtkpefffephbhnaaDevH
set_option linter.unusedVariables false
set_option linter.unusedSimpArgs false
namespace Go.Proofs.Ytkpefffephbhnaa
open Go.RowKit Go.Maps
open Go.Proofs.PlainDev

section
variable {B g N : Nat} {w : World} {L : List Nat} {s : Dst}
set_option maxRecDepth 100000 in
set_option maxHeartbeats 1000000 in
theorem poke_x (h : Dx B w g L N s) (hN : (N : Int) ≤ 100000) (a : Nat) (ha : (a : Int) ≤ 4294967295) (hlt : a < s.size) (k : Nat) (l : List Nat) (hl : Sec l) (hb : Blk w k 5 (bv l)) :
    Calls Try.prog 22 #[.pointer (some ⟨g, 0, none⟩), .int .u32 (a : Int), .slice (some ⟨k, 0, none⟩) 512 512] w fun e w' => e = .returned (.int .i64 0) ∧ Dx B w' g L (N + 1) (pokeS s a l) ∧ Step L L w w' := by
  obtain ⟨bl, ba, vw, nl, h, rfl, hnl⟩ := h
  have hm := Lib.hid (may_any h a ha (some ⟨k, 0, none⟩) 512 512)
  rw [show mayE s a 512 = 0 from by unfold mayE; rw [if_pos hlt, if_pos rfl]] at hm
  have hl5 := Lib.hid (show (bv l).length = 512 by rw [bv_length]; exact hl.1)
  obtain ⟨w2, hrun, h2, hK⟩ := h.drew.lay (by omega) (a := a) (by omega) hl
  have hR : Hid (Dx B w2 g (dblk g bl ba vw) (N + 1) (pokeS s a l) ∧ Step (dblk g bl ba vw) (dblk g bl ba vw) w w2) :=
    ⟨⟨bl, ba, vw, nl + 1, h2, rfl, by show nl + 1 + s.waits.length ≤ _; omega⟩, ⟨keeps_one hK.undrew (by simp [dblk]), fun k hk => .inl hk⟩⟩
  unfold secV at hrun
  have c1 := h.drew.c1
  have hbd := hb.drew
  clear h hnl h2 hK hlt hb
  go_enter Try.func22, Try.ntmps22
  go_wp2_with fail
  refine hm.out.mono ?_
  rintro e w1 ⟨rfl, rfl⟩
  go_upto_region 3 with fail
  go_still_tail 8, (by kernel_rfl)
  refine wpStill_arrayAt rfl 72 (.tmp 19) rfl 512 5 Try.underlying72 _ _ _ rfl (Nat.le_refl _) ?_
  refine wpStill_loadW rfl 72 (.tmp 20) rfl 512 arrS' k rfl 5 _ hbd hl5.out ?_
  refine wpStill_nil ?_
  change wpList _ _ _ _ _ w.drew
  clear c1
  go_wp2
  go_ret
  exact ⟨rfl, hR.out⟩
set_option maxRecDepth 100000 in
theorem poke_err (h : Dx B w g L N s) (a : Nat) (ha : (a : Int) ≤ 4294967295) (A : Option Addr) (n c : Nat) (he : mayE s a n = 2) :
    Calls Try.prog 22 #[.pointer (some ⟨g, 0, none⟩), .int .u32 (a : Int), .slice A n c] w fun e w' => e = .returned (.int .i64 2) ∧ w = w' := by
  obtain ⟨bl, ba, vw, nl, h, rfl, hnl⟩ := h
  have hm := Lib.hid (may_any h a ha A n c)
  rw [he] at hm
  clear h hnl he
  go_enter Try.func22, Try.ntmps22
  go_wp2_with fail
  refine hm.out.mono ?_
  rintro e w1 ⟨rfl, rfl⟩
  go_wp2
  go_ret
  exact ⟨rfl, rfl⟩
set_option maxRecDepth 100000 in
theorem peek_err (h : Dx B w g L N s) (a : Nat) (ha : (a : Int) ≤ 4294967295) (he : ¬ a < s.size) :
    Calls Try.prog 16 #[.pointer (some ⟨g, 0, none⟩), .int .u32 (a : Int)] w fun e w' => e = .returned (.tuple #[.slice none 0 0, .int .i64 2]) ∧ w = w' := by
  obtain ⟨bl, ba, vw, nl, h, rfl, hnl⟩ := h
  have hm := Lib.hid (there_any h a ha)
  rw [show thereE s a = 2 from by unfold thereE; rw [if_neg he]] at hm
  clear h hnl he
  go_enter Try.func16, Try.ntmps16
  go_wp2_with fail
  refine hm.out.mono ?_
  rintro e w1 ⟨rfl, rfl⟩
  go_wp2
  go_ret2
  exact ⟨rfl, rfl⟩
set_option maxRecDepth 100000 in
theorem read_err (h : Dx B w g L N s) (a : Nat) (ha : (a : Int) ≤ 4294967295) (he : ¬ a < s.size) :
    Calls Try.prog 18 #[.pointer (some ⟨g, 0, none⟩), .int .u32 (a : Int)] w fun e w' => e = .returned (.tuple #[.slice none 0 0, .int .i64 2]) ∧ w = w' := by
  obtain ⟨bl, ba, vw, nl, h, rfl, hnl⟩ := h
  have hm := Lib.hid (there_any h a ha)
  rw [show thereE s a = 2 from by unfold thereE; rw [if_neg he]] at hm
  clear h hnl he
  go_enter Try.func18, Try.ntmps18
  go_wp2_with fail
  refine hm.out.mono ?_
  rintro e w1 ⟨rfl, rfl⟩
  go_wp2
  go_ret2
  exact ⟨rfl, rfl⟩
set_option maxRecDepth 100000 in
theorem read_down (h : Dx B w g L N s) (a : Nat) (ha : (a : Int) ≤ 4294967295) (hlt : a < s.size) (hd : s.down = true) :
    Calls Try.prog 18 #[.pointer (some ⟨g, 0, none⟩), .int .u32 (a : Int)] w fun e w' => e = .returned (.tuple #[.slice none 0 0, .int .i64 7]) ∧ w = w' := by
  obtain ⟨bl, ba, vw, nl, h, rfl, hnl⟩ := h
  have hm := Lib.hid (there_any h a ha)
  rw [show thereE s a = 0 from by unfold thereE; rw [if_pos hlt]] at hm
  have c5 := h.c5
  rw [hd] at c5
  clear h hnl hlt
  go_enter Try.func18, Try.ntmps18
  go_wp2_with fail
  refine hm.out.mono ?_
  rintro e w1 ⟨rfl, rfl⟩
  go_wp2
  go_ret2
  exact ⟨rfl, rfl⟩
end
set_option maxRecDepth 100000 in
theorem down_nil (w : World) :
    Calls Try.prog 20 #[.pointer none] w fun e w' => e = .returned (.bool true) ∧ w = w' := by
  go_enter Try.func20, Try.ntmps20
  go_wp2
  go_ret
  exact ⟨rfl, rfl⟩
/-- Up, and without a limit. -/
def Free (s : Dst) : Prop := s.down = false ∧ s.left = -1
theorem stepS_free {s : Dst} (h : Free s) : stepS s = s := by
  obtain ⟨h1, h2⟩ := h
  obtain ⟨z, l, ws, lf, dn⟩ := s
  simp only at h1 h2
  subst h1 h2
  rfl
theorem writeS_free {s : Dst} (h : Free s) {a : Nat} (ha : a < s.size) {l : List Nat} (hl : l.length = 512) : writeS s a l = ({ s with waits := s.waits ++ [(a, l)] }, 0) := by
  obtain ⟨z, f, ws, lf, dn⟩ := s
  obtain ⟨h1, h2⟩ := h
  simp only at h1 h2 ha
  subst h1 h2
  unfold writeS
  rw [if_pos (by unfold mayE; rw [if_pos ha, if_pos hl]), stepS_free ⟨rfl, rfl⟩]
  rfl
theorem flushS_free {s : Dst} (h : Free s) : flushS s = ({ s with lies := flushL s.lies s.waits, waits := [] }, 0) := by
  obtain ⟨z, f, ws, lf, dn⟩ := s
  obtain ⟨h1, h2⟩ := h
  simp only at h1 h2
  subst h1 h2
  unfold flushS
  rw [stepS_free ⟨rfl, rfl⟩]
  rfl
theorem readL_app (s : Dst) (x : Nat) (l : List Nat) (a : Nat) : readL { s with waits := s.waits ++ [(x, l)] } a = if a = x then l else readL s a := by
  unfold readL
  simp only [lastOf_append]
  by_cases e : a = x
  · rw [if_pos e, if_pos e]
    simp
  · rw [if_neg e, if_neg e]
    cases h : lastOf s.waits a with
    | none => rfl
    | some i =>
      have hi := lastOf_lt h
      simp only [List.getD_eq_getElem?_getD]
      rw [List.getElem?_append_left hi]
theorem readL_none (s : Dst) (h : s.waits = []) (a : Nat) : readL s a = liesL s a := by
  unfold readL
  rw [h]
  rfl
/-- What is flushed is read as before. -/
theorem liesL_flush (s : Dst) (a : Nat) : liesL { s with lies := flushL s.lies s.waits, waits := [] } a = readL s a := by
  unfold liesL readL flushL
  simp only
  cases lastOf s.waits a <;> rfl
theorem free_new (n : Nat) : Free (new0 n) := ⟨rfl, rfl⟩
theorem free_crash (s : Dst) (k : Nat) (t : Int) : Free (crashS s k t) := ⟨rfl, rfl⟩
theorem RetRd.out {l : List Nat} {w w' : World} {e : Ending} (h : RetRd l w e w') : ∃ k, e = .returned (.tuple #[.slice (some ⟨k, 0, none⟩) 512 512, .int .i64 0]) ∧ Blk w' k 72 (bv l) ∧ w.heap.size ≤ k ∧ Below w.heap.size w w' := h
section
variable {B g N : Nat} {w w1 : World} {L : List Nat} {s : Dst}
theorem Dx.fresh {k : Nat} (h : Dx B w g L N s) (hk : w.heap.size ≤ k) : k ∉ L := fun hm => by have := (h.lt k hm).2; omega
theorem Dx.bel {L' : List Nat} (h : Dx B w g L N s) (hS : Step L L' w w1) (hB : B ≤ w.heap.size) : Below B w w1 := hS.below (fun k hk => (h.lt k hk).1) hB
theorem Dx.go {C : Nat} {w0 : World} {L' : List Nat} (h : Dx B w g L N s) (hS : Step L L' w w1) (h0 : Below C w0 w) (hC : C ≤ B) : Below C w0 w1 :=
  h0.trans (hS.below (fun k hk => Nat.le_trans hC (h.lt k hk).1) (by obtain ⟨bl, ba, vw, nl, hd, rfl, -⟩ := h; have := hd.lt g (g_mem _ _ _ _); omega))
/-- A block outside stays outside. -/
theorem Step.out {L L' : List Nat} {k : Nat} (hS : Step L L' w w1) (hk : k ∉ L) (hlt : k < w.heap.size) : k ∉ L' := fun hm => by
  rcases hS.more k hm with h | h
  · exact hk h
  · omega
theorem sl512 {k : Nat} {t : TypeId} {l : List Nat} (hb : Blk w k t (bv l)) (hl : l.length = 512) : Sl w (.slice (some ⟨k, 0, none⟩) 512 512) (bv l) := by
  have hbl : (bv l).length = 512 := by rw [bv_length]; exact hl
  have := Sl.of_blk (n := 512) (c := 512) hb (Nat.le_refl _) (by rw [hbl]; exact Nat.le_refl _) (by unfold maxLen; omega)
  rwa [List.take_of_length_le (by rw [hbl]; exact Nat.le_refl _)] at this
theorem write_free (h : Dx B w g L N s) (hf : Free s) (hN : (N : Int) ≤ 100000) (a : Nat) (hlt : a < s.size) (k : Nat) (t : TypeId) (l : List Nat) (hl : Sec l) (hb : Blk w k t (bv l)) (hk : k ∉ L) :
    Calls Try.prog 12 #[.pointer (some ⟨g, 0, none⟩), .int .u32 (a : Int), .slice (some ⟨k, 0, none⟩) 512 512] w fun e w' => ∃ L', e = .returned (.int .i64 0) ∧ Dx B w' g L' (N + 1) { s with waits := s.waits ++ [(a, l)] } ∧ Step L L' w w' := by
  have hsz := h.ok.size
  have := write_x h hN a (by omega) (some ⟨k, 0, none⟩) 512 512 l hl.1.symm (sl512 hb hl.1) hl.2 (fun A n c e => by injection e with e1 e2 e3; injection e1 with e1; rw [← e1]; exact hk)
  rw [writeS_free hf hlt hl.1] at this
  exact this
theorem flush_free (h : Dx B w g L N s) (hf : Free s) (hN : (N : Int) ≤ 100000) :
    Calls Try.prog 15 #[.pointer (some ⟨g, 0, none⟩)] w fun e w' => ∃ L', e = .returned (.int .i64 0) ∧ Dx B w' g L' N { s with lies := flushL s.lies s.waits, waits := [] } ∧ Step L L' w w' := by
  have := flush_x h hN
  rw [flushS_free hf] at this
  exact this
end
theorem blk_cell {w : World} {k : Nat} {t : TypeId} {l : List Nat} (h : Blk w k t (bv l)) {i v : Nat} (hv : l[i]? = some v) : w.cell? ⟨k, i, none⟩ = some (.int .u8 (v : Int)) := by
  rw [h.cell i, bv_get, hv]; rfl
set_option maxRecDepth 100000 in
set_option maxHeartbeats 1000000 in
theorem alive06 (w : World) : Calls Try.prog 10 #[] w fun e w' => e = .returned (.bool true) ∧ Below w.heap.size w w' := by
  have hnew := Lib.hid (fun w => new_x 16 w (by decide) (by decide))
  have hsec := Lib.hid (fun w => sector_any 1 2 w (by decide) (by decide))
  have hsl := Lib.hid (secL_sec (f := 1) (b := 2) (by decide) (by decide))
  have hln := Lib.hid (fun w => read_nil w 0)
  have hdn := Lib.hid down_nil
  have h0 := Lib.hid (show (secL 1 2)[0]? = some 1 from rfl)
  have h9 := Lib.hid (show (secL 1 2)[9]? = some 2 by decide +kernel)
  generalize secL 1 2 = l at *
  have hr1 : Hid (readL (crashS { new0 16 with waits := [] ++ [(3, l)] } 0 (-1)) 3 = List.replicate 512 0) := rfl
  have hr2 : Hid (∀ s : Dst, readL (crashS { s with lies := flushL s.lies ([] ++ [(3, l)]), waits := [] } 0 (-1)) 3 = l) := fun s => rfl
  go_enter Try.func10, Try.ntmps10
  go_wp2_with fail
  refine (hnew.out w).mono ?_
  rintro e w1 ⟨g, L1, rfl, H1, B1⟩
  go_wp2_with fail
  refine (hsec.out w1).mono ?_
  rintro e w2 ⟨k2, rfl, b2, g2, B2⟩
  have B2' := B1.trans (B2.mono B1.size)
  have hw := Lib.hid (write_free (H1.keep B2) (free_new _) (by decide) 3 (by decide) k2 _ l hsl.out b2 (H1.fresh g2))
  go_wp2_with fail
  refine hw.out.mono ?_
  rintro e w3 ⟨L3, rfl, H3, S3⟩
  have B3 := B2'.trans ((H1.keep B2).bel S3 B2'.size)
  have hc := Lib.hid (crash_x H3 (by decide) 0 (-1) (by decide) (by decide) (by decide))
  clear H1 B1 B2 b2 g2 S3 hw B2'
  go_wp2_with fail
  refine hc.out.mono ?_
  rintro e w4 ⟨L4, rfl, H4, S4⟩
  have B4 := B3.trans (H3.bel S4 B3.size)
  have hr := Lib.hid (read_x H4 (by decide) 3 (by decide) (show 3 < 16 by decide) rfl)
  rw [show (new0 16).waits = [] from rfl, hr1.out] at hr
  clear H3 B3 S4 hc
  go_wp2_with fail
  refine hr.out.mono ?_
  rintro e w5 ⟨k5, rfl, b5, g5, B5⟩
  have H5 := H4.keep B5
  have H4k := Lib.hid (H4.fresh g5)
  have ca : w5.cell? ⟨k5, 0, none⟩ = some (.int .u8 0) := blk_cell b5 (v := 0) rfl
  have B5' := B4.trans (B5.mono B4.size)
  clear hr H4 B4 B5
  have hfr : Free (crashS { new0 16 with waits := (new0 16).waits ++ [(3, l)] } 0 (-1)) := free_crash _ _ _
  have hz4 : 3 < (crashS { new0 16 with waits := (new0 16).waits ++ [(3, l)] } 0 (-1)).size := (show 3 < 16 by decide)
  have hw4 : (crashS { new0 16 with waits := (new0 16).waits ++ [(3, l)] } 0 (-1)).waits = [] := rfl
  generalize crashS { new0 16 with waits := (new0 16).waits ++ [(3, l)] } 0 (-1) = s4 at *
  replace hfr := Lib.hid hfr
  replace hz4 := Lib.hid hz4
  replace hw4 := Lib.hid hw4
  go_wp2_with fail
  refine (hsec.out w5).mono ?_
  rintro e w6 ⟨k6, rfl, b6, g6, B6⟩
  have B6' := B5'.trans (B6.mono B5'.size)
  have hlt5 := Lib.hid b5.lt
  have ca6 := blk_cell (b5.keep B6) (i := 0) (v := 0) rfl
  have H6 := H5.keep B6
  have hk5 := H4k.out
  have hw := Lib.hid (write_free H6 hfr.out (by decide) 3 hz4.out k6 _ l hsl.out b6 (H5.fresh g6))
  clear H5 b6
  go_wp2_with fail
  refine hw.out.mono ?_
  rintro e w7 ⟨L7, rfl, H7, S7⟩
  have b7 := (b5.keep B6).keeps S7.keeps (by simpa using hk5)
  have hk7 : k5 ∉ L7 := fun hm => by rcases S7.more _ hm with h | h; exact hk5 h; have := (b5.keep B6).lt; omega
  have B7 := B6'.trans (H6.bel S7 B6'.size)
  rw [hw4.out] at H7
  have hf := Lib.hid (flush_free H7 hfr.out (by decide))
  clear H6 B6 B6' g6 S7 b5 B5' ca ca6 hw
  go_wp2_with fail
  refine hf.out.mono ?_
  rintro e w8 ⟨L8, rfl, H8, S8⟩
  have b8 := b7.keeps S8.keeps (by simpa using hk7)
  have hk8 : k5 ∉ L8 := fun hm => by rcases S8.more _ hm with h | h; exact hk7 h; have := b7.lt; omega
  have B8 := B7.trans (H7.bel S8 B7.size)
  have hc := Lib.hid (crash_x H8 (by decide) 0 (-1) (by decide) (by decide) (by decide))
  clear H7 B7 S8 b7 hf
  go_wp2_with fail
  refine hc.out.mono ?_
  rintro e w9 ⟨L9, rfl, H9, S9⟩
  have b9 := b8.keeps S9.keeps (by simpa using hk8)
  have B9 := B8.trans (H8.bel S9 B8.size)
  have hr := Lib.hid (read_x H9 (by decide) 3 (by decide) hz4.out rfl)
  rw [show readL (crashS { s4 with lies := flushL s4.lies ([] ++ [(3, l)]), waits := [] } 0 (-1)) 3 = l from hr2.out s4] at hr
  clear H8 B8 S9 b8 hc
  go_wp2_with fail
  refine hr.out.mono ?_
  rintro e w10 ⟨k10, rfl, b10, g10, B10⟩
  have B10' := B9.trans (B10.mono B9.size)
  have ca := blk_cell (b9.keep B10) (i := 0) (v := 0) rfl
  have cb0 := blk_cell b10 h0.out
  have cb9 := blk_cell b10 h9.out
  clear hr H9 B9 b9 b10 B10 g10
  replace B10' := Lib.hid B10'
  go_wp2_with (first
    | (go_at_call 18; refine (hln.out _).mono ?_; rintro e w11 ⟨rfl, rfl⟩)
    | (go_at_call 20; refine (hdn.out _).mono ?_; rintro e w12 ⟨rfl, rfl⟩)
    | fail)
  go_ret
  exact ⟨rfl, B10'.out⟩
end Go.Proofs.Ytkpefffephbhnaa
