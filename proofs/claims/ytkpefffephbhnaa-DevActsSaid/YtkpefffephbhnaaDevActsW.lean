/- The walk of DevActs. -/
import Derived.Test.YtkpefffephbhnaaDevActsP
import Derived.BigQuiet
import Derived.Deep.DeepCutAuto
set_option linter.unusedVariables false
set_option linter.unusedSimpArgs false
namespace Go.Proofs.Ytkpefffephbhnaa.w_DevActs
open Go.RowKit Go.Maps
open Go.Proofs.PlainDev

theorem fldA1 (g : Nat) (w : World) : (Instr.fieldAt 59 (.pointer (some ⟨g, 0, none⟩)) 1).run Try.prog w = .ok (.pointer (some ⟨g, 1, none⟩)) w := by kernel_rfl
theorem quiet_sym {P : Program} {f : FuncId} {args : Array Value} {w : World} {v : Value} (h : Calls P f args w fun e w' => e = .returned v ∧ w = w') : Calls P f args w fun e w' => e = .returned v ∧ w' = w := h.mono fun _ _ h => ⟨h.1, h.2.symm⟩
theorem nil_same (w : World) : Calls Try.prog 17 #[.slice none 0 0, .slice none 0 0] w fun e w' => e = .returned (.bool true) ∧ w = w' := by
  have := same_any _ _ [] [] w (Sl.nil_ w) (Sl.nil_ w) (by simp) (by simp)
  rwa [decide_eq_true rfl] at this
theorem size_keep_f (s : Dst) : (flushS s).1.size = s.size := by unfold flushS; split; rfl; split <;> rfl
theorem size_keep_w (s : Dst) (a : Nat) (l : List Nat) : (writeS s a l).1.size = s.size := by unfold writeS; split; split; rfl; split <;> rfl; rfl
theorem size_keep_p (s : Dst) (a : Nat) (l : List Nat) : (pokeR s a l).1.size = s.size := by unfold pokeR; split <;> rfl
theorem ref_wait {B g : Nat} {w : World} {L : List Nat} {s : Dst} (h : Rx B w g L s) : ∃ A c, w.cell? ⟨g, 1, none⟩ = some (.slice A s.waits.length c) ∧ w.cell? ⟨g, 3, none⟩ = some (.bool s.down) := by
  obtain ⟨gl, vw, h, rfl⟩ := h
  have c1 := h.c1
  rcases h.row.2 with ⟨e, e2⟩ | ⟨g', cap, cur, e, _⟩
  · exact ⟨none, 0, by rw [c1, e, e2], h.c3⟩
  · exact ⟨_, _, by rw [c1, e], h.c3⟩
set_option maxRecDepth 100000 in
set_option maxHeartbeats 8000000 in
theorem core (z : Int) (hz0 : -9223372036854775808 ≤ z) (hz1 : z ≤ 9223372036854775807) (A : Option Addr) (n c : Nat) (l : List ActD) (hn : n = l.length) (hm : (n : Int) ≤ 9223372036854775807) (hl : ∀ y ∈ l, ActOk y) (w : World) (hs : Slm w (.slice A n c) 7 (l.map actC)) : Calls Try.prog 9 #[.int .i64 z, .slice A n c] w fun e w' => e = .returned (.bool true) ∧ Below w.heap.size w w' := by
  have hal := Lib.hid (fun w => alive06 w)
  replace hs := Lib.hid hs
  replace hl := Lib.hid hl
  replace hn := Lib.hid hn
  by_cases hbig : (60 : Int) < n
  · go_enter Try.func9, Try.ntmps9
    go_wp2_with fail
    refine (hal.out _).mono ?_
    rintro e w1 ⟨rfl, hB1⟩
    go_wp2
    go_ret
    exact ⟨rfl, hB1⟩
  by_cases hzz : 100 < z
  · by_cases hz4 : z ≤ 4096
    · go_enter Try.func9, Try.ntmps9
      go_wp2_with fail
      refine (hal.out _).mono ?_
      rintro e w1 ⟨rfl, hB1⟩
      go_wp2
      go_ret
      exact ⟨rfl, hB1⟩
    · have e1 := Lib.hid (fun w => new_err z w (.inr (by omega)))
      have e2 := Lib.hid (fun w => new6_err z w (.inr (by omega)))
      go_enter Try.func9, Try.ntmps9
      go_wp2_with fail
      refine (hal.out _).mono ?_
      rintro e w1 ⟨rfl, hB1⟩
      go_wp2_with fail
      refine (e1.out _).mono ?_
      rintro e w2 ⟨rfl, rfl⟩
      go_wp2_with fail
      refine (e2.out _).mono ?_
      rintro e w2 ⟨rfl, rfl⟩
      go_wp2
      go_ret
      exact ⟨rfl, hB1⟩
  by_cases hz16 : z < 16
  · have e1 := Lib.hid (fun w => new_err z w (.inl hz16))
    have e2 := Lib.hid (fun w => new6_err z w (.inl hz16))
    go_enter Try.func9, Try.ntmps9
    go_wp2_with fail
    refine (hal.out _).mono ?_
    rintro e w1 ⟨rfl, hB1⟩
    go_wp2_with fail
    refine (e1.out _).mono ?_
    rintro e w2 ⟨rfl, rfl⟩
    go_wp2_with fail
    refine (e2.out _).mono ?_
    rintro e w2 ⟨rfl, rfl⟩
    go_wp2
    go_ret
    exact ⟨rfl, hB1⟩
  obtain ⟨size, rfl⟩ := Int.eq_ofNat_of_zero_le (show 0 ≤ z by omega)
  have hnew := Lib.hid (fun w => new_x size w (by omega) (by omega))
  have hnew6 := Lib.hid (fun w => new6 size w (by omega) (by omega))
  have hsz0 : Hid ((new0 size).size = size) := rfl
  go_enter Try.func9, Try.ntmps9
  go_wp2_with fail
  refine (hal.out _).mono ?_
  rintro e w0 ⟨rfl, B0⟩
  have hC := Lib.hid B0.size
  go_wp2_with fail
  refine (hnew.out w0).mono ?_
  rintro e w1 ⟨g, L1, rfl, H1, B1⟩
  have B1' := B0.trans (B1.mono B0.size)
  have hBl1 := Lib.hid B1.size
  clear B0 B1
  go_wp2_with fail
  refine (hnew6.out w1).mono ?_
  rintro e w2 ⟨g6, R2, rfl, R, B2⟩
  have H2 := Lib.hid (H1.keep B2)
  have ap2 : Hid (∀ k ∈ R2, k ∉ L1) := fun k hk hm => by have := (R.lt k hk).1; have := (H1.lt k hm).2; omega
  have B2' := Lib.hid (B1'.trans (B2.mono B1'.size))
  have R2' := Lib.hid (R.mono hBl1.out)
  have hsx := Lib.hid (size_x H2.out)
  rw [hsz0.out] at hsx
  clear H1 R B1' B2 hBl1
  generalize w0.heap.size = B at *
  generalize new0 size = s0 at *
  go_wp2_with fail
  refine hsx.out.mono ?_
  rintro e w2 ⟨rfl, rfl⟩
  clear hsx
  go_wp2_with fail
  go_loopw [68] (fun i wr => ∃ (k : Nat) (s : Dst) (L R : List Nat), (k : Int) ≤ n ∧ i = .int .i64 (k : Int) ∧ Hid (Dx B wr g L k s) ∧ Hid (Rx B wr g6 R s) ∧ Hid (∀ q ∈ R, q ∉ L) ∧ Hid (s.size = size) ∧ Hid (Below w.heap.size w wr)) (fun i _ => n - (intOf i).toNat)
  case atStart => exact ⟨0, s0, L1, R2, by omega, rfl, H2, R2', ap2, hsz0, B2'⟩
  case round =>
    clear H2 R2' ap2 hsz0 B2'
    obtain ⟨k, s, L, R, hk, rfl, H, hR, ap, hz, hB⟩ := hrel
    by_cases hlt : (k : Int) < n
    · obtain ⟨x, hx⟩ : ∃ x, l[k]? = some x := ⟨_, List.getElem?_eq_getElem (by have := hn.out; omega)⟩
      have hx' : (l.map actC)[k]? = some (actC x) := by rw [List.getElem?_map, hx]; rfl
      have hok := Lib.hid (hl.out x (List.mem_of_getElem? hx))
      obtain ⟨ga, oa, rfl, -, hrg⟩ := (hs.out.keep hB.out).at_ hx'
      clear hx hx'
      go_wp2_with (first
        | refine wpList_loadR rfl 59 (.tmp 70) rfl 7 arrAct ga (oa + k * 7) rfl (actC x) hrg rfl ?_
        | refine wpList_allocA rfl 59 rfl actZ act_zero ?_)
      intro w3 h3 hK3 hz3
      have B3 := hB.out.trans (hK3.below hB.out.size (by simp))
      have H3 := H.out.keeps hK3 (by simp)
      have R3 := hR.out.keeps hK3 (by simp)
      have hfL : wr.heap.size ∉ L := H.out.fresh (Nat.le_refl _)
      have hfR : wr.heap.size ∉ R := hR.out.fresh (Nat.le_refl _)
      have hge : w.heap.size ≤ wr.heap.size := hB.out.size
      clear hK3 hz3 hB H hR hrg
      generalize wr.heap.size = gx at *
      go_wp2_with (refine wpList_storeW rfl 59 (.tmp 10) (.tmp 71) rfl 7 arrAct gx rfl (actC x) rfl 59 _ h3 rfl rfl (act_ones x) ?_)
      intro w4 h4 hK4
      have B4 := B3.trans (hK4.below B3.size (by simp; exact hge))
      have H4 := H3.keeps hK4 (fun q hq => by simp; rintro rfl; exact hfL hq)
      have R4 := R3.keeps hK4 (fun q hq => by simp; rintro rfl; exact hfR hq)
      clear hK4 H3 R3 B3 h3 hge
      have hby := Lib.hid (bytes6 x hok.out w4)
      replace H4 := Lib.hid H4
      replace R4 := Lib.hid R4
      replace B4 := Lib.hid B4
      replace hfL := Lib.hid hfL
      replace hfR := Lib.hid hfR
      go_wp2_with (refine wpList_loadW rfl 59 (.tmp 10) rfl 7 arrAct gx rfl 59 (actC x) h4 rfl ?_)
      refine hby.out.mono ?_
      rintro e w5 ⟨kb, rfl, b5, g5, B5⟩
      have B5' := Lib.hid (B4.out.trans (B5.mono B4.out.size))
      have hkL := Lib.hid (H4.out.fresh g5)
      have hkR := Lib.hid (R4.out.fresh g5)
      have H5 := Lib.hid (H4.out.keep B5)
      have R5 := Lib.hid (R4.out.keep B5)
      have h5 := Lib.hid (h4.keep B5)
      replace b5 := Lib.hid b5
      have c0 : w5.cell? ⟨gx, 0, none⟩ = some (.int .i64 x.k) := (h5.out.cell 0).trans rfl
      have hwl := Lib.hid H5.out.wle
      obtain ⟨nB, hnB⟩ : ∃ nB, Hid (nB = actN x) := ⟨_, rfl⟩
      obtain ⟨oB, hoB⟩ : ∃ oB, Hid (oB = actO x) := ⟨_, rfl⟩
      rw [← hnB.out, ← hoB.out]
      clear hby H4 R4 B4 h4 B5 g5
      have hk0 := hok.out.k0
      have hk1 := hok.out.k1
      have hn0 := hok.out.n0
      have hn1 := hok.out.n1
      have hkp := hok.out.kp
      have had := hok.out.ad
      by_cases e1 : x.k = 1
      · rw [e1] at c0
        have hsS : Hid ((flushS s).1.size = size) := by show _ = _; rw [size_keep_f, hz.out]
        have hcP := Lib.hid (flush_x H5.out (by omega))
        go_wp2_with fail
        refine hcP.out.mono ?_
        rintro e w6 ⟨L6, rfl, H6, S6⟩
        have B6 := Lib.hid (H5.out.go S6 B5'.out hC.out)
        have R6 := Lib.hid (R5.out.keeps S6.keeps ap.out)
        have ap6 := Lib.hid (apart_step S6 ap.out (fun q hq => (R5.out.lt q hq).2))
        have h6 := Lib.hid (h5.out.keeps S6.keeps hfL.out)
        have hf6 := Lib.hid (S6.out hfL.out h5.out.lt)
        replace H6 := Lib.hid H6
        clear c0 hcP S6
        have hcR := Lib.hid (flush6 R6.out (by have := hwl.out; omega))
        go_wp2_with fail
        refine hcR.out.mono ?_
        rintro e w7 ⟨R7, rfl, Rf, S7⟩
        have B7 := Lib.hid (R6.out.go S7 B6.out hC.out)
        have H7 := Lib.hid (H6.out.keeps S7.keeps (fun q hq hm => ap6.out q hm hq))
        have ap7 : Hid (∀ q ∈ R7, q ∉ L6) := fun q hq hm => by
          rcases S7.more q hq with h | h
          · exact ap6.out q h hm
          · have := (H6.out.lt q hm).2; omega
        have R7f := Lib.hid Rf
        clear Rf
        clear hcR S7
        generalize (flushS s).2 = rv at *
        have hT1 := Lib.hid (H7.out.more (M := k + 1) (by omega))
        have hT2 := Lib.hid (fun nq => quiet_sym (waits_x ((H7.out).keep (below_drewN (Below.refl _ _) nq))))
        have hT3 := Lib.hid (fun nq => quiet_sym (down_x ((H7.out).keep (below_drewN (Below.refl _ _) nq))))
        obtain ⟨Ag, cg, cw6, cd6⟩ := ref_wait R7f.out
        have hT4 : Hid (((flushS s).1).size = size) := hsS
        have hwT : (((flushS s).1).waits.length : Int) ≤ 100000 := by have := hT1.out.wle; omega
        generalize (flushS s).1 = sT at *
        generalize sT.waits.length = nT at *
        generalize sT.down = dT at *
        go_wp2
        cases dT with
        | true =>
          go_quiet (first
            | (go_at_call 21; refine Calls.quiet_of_same (hT2.out _))
            | (go_at_call 20; refine Calls.quiet_of_same (hT3.out _)))
          have H8 := Lib.hid (hT1.out.keep (below_drewN (Below.refl _ _) nq))
          have R8 := Lib.hid (R7f.out.keep (below_drewN (Below.refl _ _) nq))
          have B8 := Lib.hid (below_drewN B7.out nq)
          clear cw6 cd6 hT1 hT2 hT3
          go_wp2
          go_roundw
          case rel => exact ⟨k + 1, sT, _, _, by omega, by go_num, H8, R8, ap7, hT4, B8⟩
          case measure => simp [intOf]; omega
        | false =>
          go_quiet (first
            | (go_at_call 21; refine Calls.quiet_of_same (hT2.out _))
            | (go_at_call 20; refine Calls.quiet_of_same (hT3.out _)))
          have H8 := Lib.hid (hT1.out.keep (below_drewN (Below.refl _ _) nq))
          have R8 := Lib.hid (R7f.out.keep (below_drewN (Below.refl _ _) nq))
          have B8 := Lib.hid (below_drewN B7.out nq)
          clear cw6 cd6 hT1 hT2 hT3
          go_wp2
          go_roundw
          case rel => exact ⟨k + 1, sT, _, _, by omega, by go_num, H8, R8, ap7, hT4, B8⟩
          case measure => simp [intOf]; omega
      have e1' : (x.k == 1) = false := by simpa using e1
      by_cases e2 : x.k = 2
      · rw [e2] at c0
        have hsS : Hid ((limitS s x.n).size = size) := hz
        have c5 : w5.cell? ⟨gx, 5, none⟩ = some (.int .i64 x.n) := (h5.out.cell 5).trans rfl
        have hcP := Lib.hid (limit_x H5.out x.n (by omega))
        go_wp2_with fail
        refine hcP.out.mono ?_
        rintro e w6 ⟨rfl, H6, S6⟩
        have B6 := Lib.hid (H5.out.go S6 B5'.out hC.out)
        have R6 := Lib.hid (R5.out.keeps S6.keeps ap.out)
        have ap6 := Lib.hid (apart_step S6 ap.out (fun q hq => (R5.out.lt q hq).2))
        have h6 := Lib.hid (h5.out.keeps S6.keeps hfL.out)
        have hf6 := Lib.hid (S6.out hfL.out h5.out.lt)
        replace H6 := Lib.hid H6
        clear c0 hcP S6
        clear c5
        have c5 : w6.cell? ⟨gx, 5, none⟩ = some (.int .i64 x.n) := (h6.out.cell 5).trans rfl
        have hcR := Lib.hid (limit6 R6.out x.n (by omega))
        go_wp2_with fail
        refine hcR.out.mono ?_
        rintro e w7 ⟨rfl, Rf, S7⟩
        have B7 := Lib.hid (R6.out.go S7 B6.out hC.out)
        have H7 := Lib.hid (H6.out.keeps S7.keeps (fun q hq hm => ap6.out q hm hq))
        have ap7 : Hid (∀ q ∈ R, q ∉ L) := fun q hq hm => by
          rcases S7.more q hq with h | h
          · exact ap6.out q h hm
          · have := (H6.out.lt q hm).2; omega
        have R7f := Lib.hid Rf
        clear Rf
        clear hcR S7
        clear c5
        have hT1 := Lib.hid (H7.out.more (M := k + 1) (by omega))
        have hT2 := Lib.hid (fun nq => quiet_sym (waits_x ((H7.out).keep (below_drewN (Below.refl _ _) nq))))
        have hT3 := Lib.hid (fun nq => quiet_sym (down_x ((H7.out).keep (below_drewN (Below.refl _ _) nq))))
        obtain ⟨Ag, cg, cw6, cd6⟩ := ref_wait R7f.out
        have hT4 : Hid ((limitS s x.n).size = size) := hsS
        have hwT : ((limitS s x.n).waits.length : Int) ≤ 100000 := by have := hT1.out.wle; omega
        generalize limitS s x.n = sT at *
        generalize sT.waits.length = nT at *
        generalize sT.down = dT at *
        go_wp2
        cases dT with
        | true =>
          go_quiet (first
            | (go_at_call 21; refine Calls.quiet_of_same (hT2.out _))
            | (go_at_call 20; refine Calls.quiet_of_same (hT3.out _)))
          have H8 := Lib.hid (hT1.out.keep (below_drewN (Below.refl _ _) nq))
          have R8 := Lib.hid (R7f.out.keep (below_drewN (Below.refl _ _) nq))
          have B8 := Lib.hid (below_drewN B7.out nq)
          clear cw6 cd6 hT1 hT2 hT3
          go_wp2
          go_roundw
          case rel => exact ⟨k + 1, sT, _, _, by omega, by go_num, H8, R8, ap7, hT4, B8⟩
          case measure => simp [intOf]; omega
        | false =>
          go_quiet (first
            | (go_at_call 21; refine Calls.quiet_of_same (hT2.out _))
            | (go_at_call 20; refine Calls.quiet_of_same (hT3.out _)))
          have H8 := Lib.hid (hT1.out.keep (below_drewN (Below.refl _ _) nq))
          have R8 := Lib.hid (R7f.out.keep (below_drewN (Below.refl _ _) nq))
          have B8 := Lib.hid (below_drewN B7.out nq)
          clear cw6 cd6 hT1 hT2 hT3
          go_wp2
          go_roundw
          case rel => exact ⟨k + 1, sT, _, _, by omega, by go_num, H8, R8, ap7, hT4, B8⟩
          case measure => simp [intOf]; omega
      have e2' : (x.k == 2) = false := by simpa using e2
      by_cases e3 : x.k = 3
      · rw [e3] at c0
        have hsS : Hid ((crashS s x.keep x.n).size = size) := hz
        have c5 : w5.cell? ⟨gx, 5, none⟩ = some (.int .i64 x.n) := (h5.out.cell 5).trans rfl
        have c6 : w5.cell? ⟨gx, 6, none⟩ = some (.int .u64 (x.keep : Int)) := (h5.out.cell 6).trans rfl
        have hcP := Lib.hid (crash_x H5.out (by omega) x.keep x.n hkp (by omega) (by omega))
        go_wp2_with fail
        refine hcP.out.mono ?_
        rintro e w6 ⟨L6, rfl, H6, S6⟩
        have B6 := Lib.hid (H5.out.go S6 B5'.out hC.out)
        have R6 := Lib.hid (R5.out.keeps S6.keeps ap.out)
        have ap6 := Lib.hid (apart_step S6 ap.out (fun q hq => (R5.out.lt q hq).2))
        have h6 := Lib.hid (h5.out.keeps S6.keeps hfL.out)
        have hf6 := Lib.hid (S6.out hfL.out h5.out.lt)
        replace H6 := Lib.hid H6
        clear c0 hcP S6
        clear c5 c6
        have c5 : w6.cell? ⟨gx, 5, none⟩ = some (.int .i64 x.n) := (h6.out.cell 5).trans rfl
        have c6 : w6.cell? ⟨gx, 6, none⟩ = some (.int .u64 (x.keep : Int)) := (h6.out.cell 6).trans rfl
        have hcR := Lib.hid (crash6 R6.out x.keep x.n hkp (by omega) (by omega) (by have := hwl.out; omega))
        go_wp2_with fail
        refine hcR.out.mono ?_
        rintro e w7 ⟨R7, rfl, Rf, S7⟩
        have B7 := Lib.hid (R6.out.go S7 B6.out hC.out)
        have H7 := Lib.hid (H6.out.keeps S7.keeps (fun q hq hm => ap6.out q hm hq))
        have ap7 : Hid (∀ q ∈ R7, q ∉ L6) := fun q hq hm => by
          rcases S7.more q hq with h | h
          · exact ap6.out q h hm
          · have := (H6.out.lt q hm).2; omega
        have R7f := Lib.hid Rf
        clear Rf
        clear hcR S7
        clear c5 c6
        have hT1 := Lib.hid (H7.out.more (M := k + 1) (by omega))
        have hT2 := Lib.hid (fun nq => quiet_sym (waits_x ((H7.out).keep (below_drewN (Below.refl _ _) nq))))
        have hT3 := Lib.hid (fun nq => quiet_sym (down_x ((H7.out).keep (below_drewN (Below.refl _ _) nq))))
        obtain ⟨Ag, cg, cw6, cd6⟩ := ref_wait R7f.out
        have hT4 : Hid ((crashS s x.keep x.n).size = size) := hsS
        have hwT : ((crashS s x.keep x.n).waits.length : Int) ≤ 100000 := by have := hT1.out.wle; omega
        generalize crashS s x.keep x.n = sT at *
        generalize sT.waits.length = nT at *
        generalize sT.down = dT at *
        go_wp2
        cases dT with
        | true =>
          go_quiet (first
            | (go_at_call 21; refine Calls.quiet_of_same (hT2.out _))
            | (go_at_call 20; refine Calls.quiet_of_same (hT3.out _)))
          have H8 := Lib.hid (hT1.out.keep (below_drewN (Below.refl _ _) nq))
          have R8 := Lib.hid (R7f.out.keep (below_drewN (Below.refl _ _) nq))
          have B8 := Lib.hid (below_drewN B7.out nq)
          clear cw6 cd6 hT1 hT2 hT3
          go_wp2
          go_roundw
          case rel => exact ⟨k + 1, sT, _, _, by omega, by go_num, H8, R8, ap7, hT4, B8⟩
          case measure => simp [intOf]; omega
        | false =>
          go_quiet (first
            | (go_at_call 21; refine Calls.quiet_of_same (hT2.out _))
            | (go_at_call 20; refine Calls.quiet_of_same (hT3.out _)))
          have H8 := Lib.hid (hT1.out.keep (below_drewN (Below.refl _ _) nq))
          have R8 := Lib.hid (R7f.out.keep (below_drewN (Below.refl _ _) nq))
          have B8 := Lib.hid (below_drewN B7.out nq)
          clear cw6 cd6 hT1 hT2 hT3
          go_wp2
          go_roundw
          case rel => exact ⟨k + 1, sT, _, _, by omega, by go_num, H8, R8, ap7, hT4, B8⟩
          case measure => simp [intOf]; omega
      have e3' : (x.k == 3) = false := by simpa using e3
      by_cases e4 : x.k = 4
      · rw [e4] at c0
        have hsS : Hid ((pokeR s x.addr (actL x)).1.size = size) := by show _ = _; rw [size_keep_p, hz.out]
        go_upto_region 28 with fail
        have hS0 : w5.drew.cell? ⟨gx, 1, none⟩ = some (.int .u32 (x.addr : Int)) := (h5.out.drew.cell 1).trans rfl
        refine wp_region_held_drew (S := fun w' => w'.cell? ⟨gx, 1, none⟩ = some (.int .u32 (x.addr : Int))) (by kernel_rfl) hS0 (fun hH => ?_)
        refine takeH_move (o := ⟨some 120, _, _, _, _, _⟩) (i := 0) rfl (by kernel_rfl) (by kernel_rfl) (by kernel_rfl) (fun _ _ _ _ h => h) rfl (.tmp 5) rfl (.pointer (some ⟨g, 0, none⟩)) rfl hH ?_
        simp only [Act.put, List.setIfInBounds_toArray, List.set_cons_zero, List.set_cons_succ, Nat.zero_add, decide_true, beq_self_eq_true]
        refine takeH_field (o := ⟨some 121, _, _, _, _, _⟩) (i := 1) rfl (by kernel_rfl) (by kernel_rfl) (by kernel_rfl) (fun _ _ _ _ h => h) rfl 59 (.tmp 10) 1 rfl gx 1 rfl (fun w => fldA1 _ w) hH ?_
        simp only [Act.put, List.setIfInBounds_toArray, List.set_cons_zero, List.set_cons_succ, Nat.zero_add, decide_true, beq_self_eq_true]
        refine takeH_cell (o := ⟨some 122, _, _, _, _, _⟩) (i := 2) rfl (by kernel_rfl) (by kernel_rfl) (by kernel_rfl) (fun _ _ _ _ h => h) rfl 29 (.tmp 121) rfl Try.underlying29 rfl gx 1 rfl (.int .u32 (x.addr : Int)) (fun w h => h) hH ?_
        simp only [Act.put, List.setIfInBounds_toArray, List.set_cons_zero, List.set_cons_succ, Nat.zero_add, decide_true, beq_self_eq_true]
        refine takeH_move (o := ⟨some 123, _, _, _, _, _⟩) (i := 3) rfl (by kernel_rfl) (by kernel_rfl) (by kernel_rfl) (fun _ _ _ _ h => h) rfl (.tmp 11) rfl (.slice (some ⟨kb, oB, none⟩) nB nB) rfl hH ?_
        simp only [Act.put, List.setIfInBounds_toArray, List.set_cons_zero, List.set_cons_succ, Nat.zero_add, decide_true, beq_self_eq_true]
        refine takeH_move (o := ⟨some 125, _, _, _, _, _⟩) (i := 5) rfl (by kernel_rfl) (by kernel_rfl) (by kernel_rfl) (fun _ _ _ _ h => h) rfl (.tmp 7) rfl (.pointer (some ⟨g6, 0, none⟩)) rfl hH ?_
        simp only [Act.put, List.setIfInBounds_toArray, List.set_cons_zero, List.set_cons_succ, Nat.zero_add, decide_true, beq_self_eq_true]
        refine takeH_field (o := ⟨some 126, _, _, _, _, _⟩) (i := 6) rfl (by kernel_rfl) (by kernel_rfl) (by kernel_rfl) (fun _ _ _ _ h => h) rfl 59 (.tmp 10) 1 rfl gx 1 rfl (fun w => fldA1 _ w) hH ?_
        simp only [Act.put, List.setIfInBounds_toArray, List.set_cons_zero, List.set_cons_succ, Nat.zero_add, decide_true, beq_self_eq_true]
        refine takeH_cell (o := ⟨some 127, _, _, _, _, _⟩) (i := 7) rfl (by kernel_rfl) (by kernel_rfl) (by kernel_rfl) (fun _ _ _ _ h => h) rfl 29 (.tmp 126) rfl Try.underlying29 rfl gx 1 rfl (.int .u32 (x.addr : Int)) (fun w h => h) hH ?_
        simp only [Act.put, List.setIfInBounds_toArray, List.set_cons_zero, List.set_cons_succ, Nat.zero_add, decide_true, beq_self_eq_true]
        refine takeH_move (o := ⟨some 128, _, _, _, _, _⟩) (i := 8) rfl (by kernel_rfl) (by kernel_rfl) (by kernel_rfl) (fun _ _ _ _ h => h) rfl (.tmp 11) rfl (.slice (some ⟨kb, oB, none⟩) nB nB) rfl hH ?_
        simp only [Act.put, List.setIfInBounds_toArray, List.set_cons_zero, List.set_cons_succ, Nat.zero_add, decide_true, beq_self_eq_true]
        have hcP := Lib.hid (pokeP hok.out (H5.out.drew) (by omega) b5.out.drew)
        rw [← hnB.out, ← hoB.out] at hcP
        refine wpAnyH_ready (rs := [4]) (by kernel_rfl) (by simp) ?_
        refine AllReadyH.cons rfl (fun K1 hK1 => ?_) AllReadyH.nil
        rw [if_pos (by rfl)]
        go_wp2_with fail
        refine hcP.out.mono ?_
        rintro e w6 ⟨rfl, H6, S6⟩
        have B6 := Lib.hid ((H5.out.drew).go S6 (below_drewN B5'.out 1) hC.out)
        have R6 := Lib.hid ((R5.out.drew).keeps S6.keeps ap.out)
        have ap6 := Lib.hid (apart_step S6 ap.out (fun q hq => ((R5.out.drew).lt q hq).2))
        have b6 := Lib.hid (b5.out.drew.keeps S6.keeps hkL.out)
        have h6 := Lib.hid (h5.out.drew.keeps S6.keeps hfL.out)
        have hS6 : w6.cell? ⟨gx, 1, none⟩ = some (.int .u32 (x.addr : Int)) := (h6.out.cell 1).trans rfl
        replace H6 := Lib.hid H6
        refine hK1.out _ _ hS6 (fun hH => ?_)
        clear hK1 K1 hcP S6
        try simp only [Act.put, List.getElem_toArray, List.getElem_cons_succ, List.getElem_cons_zero, List.setIfInBounds_toArray, List.set_cons_zero, List.set_cons_succ, Nat.zero_add]
        have hcR := Lib.hid (poke6P hok.out R6.out b6.out hkR.out)
        rw [← hnB.out, ← hoB.out] at hcR
        refine wpAnyH_ready (rs := [9]) (by kernel_rfl) (by simp) ?_
        refine AllReadyH.cons rfl (fun K1 hK1 => ?_) AllReadyH.nil
        rw [if_pos (by rfl)]
        go_wp2_with fail
        refine hcR.out.mono ?_
        rintro e w7 ⟨rfl, Rf, S7⟩
        have B7 := Lib.hid (R6.out.go S7 B6.out hC.out)
        have H7 := Lib.hid (H6.out.keeps S7.keeps (fun q hq hm => ap6.out q hm hq))
        have ap7 : Hid (∀ q ∈ R, q ∉ L) := fun q hq hm => by
          rcases S7.more q hq with h | h
          · exact ap6.out q h hm
          · have := (H6.out.lt q hm).2; omega
        have h7 := h6.out.keeps S7.keeps hfR.out
        have hS7 : w7.cell? ⟨gx, 1, none⟩ = some (.int .u32 (x.addr : Int)) := (h7.cell 1).trans rfl
        have R7f := Lib.hid Rf
        refine hK1.out _ _ hS7 (fun hH => ?_)
        clear hK1 K1 hcR S7 Rf h7
        try simp only [Act.put, List.getElem_toArray, List.getElem_cons_succ, List.getElem_cons_zero, List.setIfInBounds_toArray, List.set_cons_zero, List.set_cons_succ, Nat.zero_add]
        generalize (pokeR s x.addr (actL x)).2 = rv at *
        refine takeH_S (o := ⟨some 130, _, _, _, _, _⟩) (i := 10) rfl (by kernel_rfl) (by kernel_rfl) (by kernel_rfl) (fun _ _ _ _ h => h) rfl (.bool false) (fun w _ => by go_simp) hH ?_
        simp only [Act.put, List.setIfInBounds_toArray, List.set_cons_zero, List.set_cons_succ, Nat.zero_add, decide_true, beq_self_eq_true]
        refine wpAnyH_done (by kernel_rfl) ?_ _
        clear hH hS6 hS7 hS0 c0
        have hT1 := Lib.hid (H7.out.more (M := k + 1) (by omega))
        have hT2 := Lib.hid (fun nq => quiet_sym (waits_x ((H7.out).keep (below_drewN (Below.refl _ _) nq))))
        have hT3 := Lib.hid (fun nq => quiet_sym (down_x ((H7.out).keep (below_drewN (Below.refl _ _) nq))))
        obtain ⟨Ag, cg, cw6, cd6⟩ := ref_wait R7f.out
        have hT4 : Hid (((pokeR s x.addr (actL x)).1).size = size) := hsS
        have hwT : (((pokeR s x.addr (actL x)).1).waits.length : Int) ≤ 100000 := by have := hT1.out.wle; omega
        generalize (pokeR s x.addr (actL x)).1 = sT at *
        generalize sT.waits.length = nT at *
        generalize sT.down = dT at *
        go_wp2
        cases dT with
        | true =>
          go_quiet (first
            | (go_at_call 21; refine Calls.quiet_of_same (hT2.out _))
            | (go_at_call 20; refine Calls.quiet_of_same (hT3.out _)))
          have H8 := Lib.hid (hT1.out.keep (below_drewN (Below.refl _ _) nq))
          have R8 := Lib.hid (R7f.out.keep (below_drewN (Below.refl _ _) nq))
          have B8 := Lib.hid (below_drewN B7.out nq)
          clear cw6 cd6 hT1 hT2 hT3
          go_wp2
          go_roundw
          case rel => exact ⟨k + 1, sT, _, _, by omega, by go_num, H8, R8, ap7, hT4, B8⟩
          case measure => simp [intOf]; omega
        | false =>
          go_quiet (first
            | (go_at_call 21; refine Calls.quiet_of_same (hT2.out _))
            | (go_at_call 20; refine Calls.quiet_of_same (hT3.out _)))
          have H8 := Lib.hid (hT1.out.keep (below_drewN (Below.refl _ _) nq))
          have R8 := Lib.hid (R7f.out.keep (below_drewN (Below.refl _ _) nq))
          have B8 := Lib.hid (below_drewN B7.out nq)
          clear cw6 cd6 hT1 hT2 hT3
          go_wp2
          go_roundw
          case rel => exact ⟨k + 1, sT, _, _, by omega, by go_num, H8, R8, ap7, hT4, B8⟩
          case measure => simp [intOf]; omega
      have e4' : (x.k == 4) = false := by simpa using e4
      by_cases e5 : x.k = 5
      · rw [e5] at c0
        have c1 : w5.cell? ⟨gx, 1, none⟩ = some (.int .u32 (x.addr : Int)) := (h5.out.cell 1).trans rfl
        by_cases hlt2 : x.addr < s.size
        · have hpP := Lib.hid (fun w (h : Dx B w g L k s) => peek_x h x.addr had hlt2)
          have hpR := Lib.hid (fun w (h : Rx B w g6 R s) => peek6 h x.addr had hlt2)
          have hsc := Lib.hid (liesL_sec H5.out.ok x.addr)
          cases hdn : s.down with
          | true =>
            have hrP := Lib.hid (read_down H5.out x.addr had hlt2 hdn)
            have hrR := Lib.hid (read6_down R5.out x.addr had hlt2 hdn)
            have hns := Lib.hid nil_same
            go_wp2_with fail
            refine hrP.out.mono ?_
            rintro e w6 ⟨rfl, rfl⟩
            go_wp2_with fail
            refine hrR.out.mono ?_
            rintro e w6 ⟨rfl, rfl⟩
            have q1 := Lib.hid (hpP.out _ H5.out)
            go_wp2_with fail
            refine q1.out.mono fun e wp hq => ?_
            obtain ⟨kp, cp, rfl, sp, Bp⟩ := RetPk.out hq
            have Hp := Lib.hid (H5.out.keep Bp)
            have Rp := Lib.hid (R5.out.keep Bp)
            have BBp := Lib.hid (B5'.out.trans (Bp.mono B5'.out.size))
            have hp := Lib.hid (h5.out.keep Bp)
            clear c1 q1 hq Bp
            have c1 : wp.cell? ⟨gx, 1, none⟩ = some (.int .u32 (x.addr : Int)) := (hp.out.cell 1).trans rfl
            have q2 := Lib.hid (hpR.out _ Rp.out)
            go_wp2_with fail
            refine q2.out.mono fun e wq hq => ?_
            obtain ⟨kq, cq, rfl, sq, Bq⟩ := RetPk.out hq
            have Hq := Lib.hid (Hp.out.keep Bq)
            have Rq := Lib.hid (Rp.out.keep Bq)
            have BBq := Lib.hid (BBp.out.trans (Bq.mono BBp.out.size))
            have sp' := sp.keep Bq
            clear c1 q2 hq Bq hp
            have hsm := Lib.hid (same_any _ _ _ _ wq sp' sq hsc.out.2 hsc.out.2)
            rw [decide_eq_true rfl] at hsm
            clear sp sp' sq c0
            go_wp2_with (first
              | (refine (hns.out _).mono ?_; rintro e w6 ⟨rfl, rfl⟩)
              | (refine hsm.out.mono ?_; rintro e w6 ⟨rfl, rfl⟩))
            clear hdn
            have hT1 := Lib.hid (Hq.out.more (M := k + 1) (by omega))
            have hT2 := Lib.hid (fun nq => quiet_sym (waits_x ((Hq.out).keep (below_drewN (Below.refl _ _) nq))))
            have hT3 := Lib.hid (fun nq => quiet_sym (down_x ((Hq.out).keep (below_drewN (Below.refl _ _) nq))))
            obtain ⟨Ag, cg, cw6, cd6⟩ := ref_wait Rq.out
            have hT4 : Hid ((s).size = size) := hz
            have hwT : ((s).waits.length : Int) ≤ 100000 := by have := hT1.out.wle; omega
            generalize s = sT at *
            generalize sT.waits.length = nT at *
            generalize sT.down = dT at *
            go_wp2
            cases dT with
            | true =>
              go_quiet (first
                | (go_at_call 21; refine Calls.quiet_of_same (hT2.out _))
                | (go_at_call 20; refine Calls.quiet_of_same (hT3.out _)))
              have H8 := Lib.hid (hT1.out.keep (below_drewN (Below.refl _ _) nq))
              have R8 := Lib.hid (Rq.out.keep (below_drewN (Below.refl _ _) nq))
              have B8 := Lib.hid (below_drewN BBq.out nq)
              clear cw6 cd6 hT1 hT2 hT3
              go_wp2
              go_roundw
              case rel => exact ⟨k + 1, sT, _, _, by omega, by go_num, H8, R8, ap, hT4, B8⟩
              case measure => simp [intOf]; omega
            | false =>
              go_quiet (first
                | (go_at_call 21; refine Calls.quiet_of_same (hT2.out _))
                | (go_at_call 20; refine Calls.quiet_of_same (hT3.out _)))
              have H8 := Lib.hid (hT1.out.keep (below_drewN (Below.refl _ _) nq))
              have R8 := Lib.hid (Rq.out.keep (below_drewN (Below.refl _ _) nq))
              have B8 := Lib.hid (below_drewN BBq.out nq)
              clear cw6 cd6 hT1 hT2 hT3
              go_wp2
              go_roundw
              case rel => exact ⟨k + 1, sT, _, _, by omega, by go_num, H8, R8, ap, hT4, B8⟩
              case measure => simp [intOf]; omega
          | false =>
            have hrP := Lib.hid (read_x H5.out (by omega) x.addr had hlt2 hdn)
            have hsr := Lib.hid (readL_sec H5.out.ok x.addr)
            go_wp2_with fail
            refine hrP.out.mono fun e w6 hq => ?_
            obtain ⟨k6, rfl, b6, g6', B6⟩ := RetRd.out hq
            have s6 := sl512 b6 hsr.out.1
            have H6 := Lib.hid (H5.out.keep B6)
            have R6 := Lib.hid (R5.out.keep B6)
            have BB6 := Lib.hid (B5'.out.trans (B6.mono B5'.out.size))
            have h6 := Lib.hid (h5.out.keep B6)
            clear c1 hq B6 hrP b6 g6'
            have c1 : w6.cell? ⟨gx, 1, none⟩ = some (.int .u32 (x.addr : Int)) := (h6.out.cell 1).trans rfl
            have hrR := Lib.hid (read6 R6.out x.addr had hlt2 hdn (by have := hwl.out; omega))
            go_wp2_with fail
            refine hrR.out.mono fun e w7 hq => ?_
            obtain ⟨k7, c7, rfl, s7, B7⟩ := RetPk.out hq
            have H7 := Lib.hid (H6.out.keep B7)
            have R7 := Lib.hid (R6.out.keep B7)
            have BB7 := Lib.hid (BB6.out.trans (B7.mono BB6.out.size))
            have h7 := Lib.hid (h6.out.keep B7)
            have s67 := s6.keep B7
            clear c1 hq B7 hrR s6 H6 R6 BB6 h6
            have c1 : w7.cell? ⟨gx, 1, none⟩ = some (.int .u32 (x.addr : Int)) := (h7.out.cell 1).trans rfl
            have q1 := Lib.hid (hpP.out _ H7.out)
            go_wp2_with fail
            refine q1.out.mono fun e wp hq => ?_
            obtain ⟨kp, cp, rfl, sp, Bp⟩ := RetPk.out hq
            have Hp := Lib.hid (H7.out.keep Bp)
            have Rp := Lib.hid (R7.out.keep Bp)
            have BBp := Lib.hid (BB7.out.trans (Bp.mono BB7.out.size))
            have hp := Lib.hid (h7.out.keep Bp)
            have s67p := s67.keep Bp
            have s7p := s7.keep Bp
            clear c1 q1 hq Bp
            have c1 : wp.cell? ⟨gx, 1, none⟩ = some (.int .u32 (x.addr : Int)) := (hp.out.cell 1).trans rfl
            have q2 := Lib.hid (hpR.out _ Rp.out)
            go_wp2_with fail
            refine q2.out.mono fun e wq hq => ?_
            obtain ⟨kq, cq, rfl, sq, Bq⟩ := RetPk.out hq
            have Hq := Lib.hid (Hp.out.keep Bq)
            have Rq := Lib.hid (Rp.out.keep Bq)
            have BBq := Lib.hid (BBp.out.trans (Bq.mono BBp.out.size))
            have sp' := sp.keep Bq
            have s67q := s67p.keep Bq
            have s7q := s7p.keep Bq
            clear c1 q2 hq Bq hp
            have hsm := Lib.hid (same_any _ _ _ _ wq sp' sq hsc.out.2 hsc.out.2)
            rw [decide_eq_true rfl] at hsm
            have hsm2 := Lib.hid (same_any _ _ _ _ wq s67q s7q hsr.out.2 hsr.out.2)
            rw [decide_eq_true rfl] at hsm2
            clear sp sp' sq s67 s67p s67q s7 s7p s7q c0
            go_wp2_with (first
              | (refine hsm2.out.mono ?_; rintro e w6 ⟨rfl, rfl⟩)
              | (refine hsm.out.mono ?_; rintro e w6 ⟨rfl, rfl⟩))
            clear hdn
            have hT1 := Lib.hid (Hq.out.more (M := k + 1) (by omega))
            have hT2 := Lib.hid (fun nq => quiet_sym (waits_x ((Hq.out).keep (below_drewN (Below.refl _ _) nq))))
            have hT3 := Lib.hid (fun nq => quiet_sym (down_x ((Hq.out).keep (below_drewN (Below.refl _ _) nq))))
            obtain ⟨Ag, cg, cw6, cd6⟩ := ref_wait Rq.out
            have hT4 : Hid ((s).size = size) := hz
            have hwT : ((s).waits.length : Int) ≤ 100000 := by have := hT1.out.wle; omega
            generalize s = sT at *
            generalize sT.waits.length = nT at *
            generalize sT.down = dT at *
            go_wp2
            cases dT with
            | true =>
              go_quiet (first
                | (go_at_call 21; refine Calls.quiet_of_same (hT2.out _))
                | (go_at_call 20; refine Calls.quiet_of_same (hT3.out _)))
              have H8 := Lib.hid (hT1.out.keep (below_drewN (Below.refl _ _) nq))
              have R8 := Lib.hid (Rq.out.keep (below_drewN (Below.refl _ _) nq))
              have B8 := Lib.hid (below_drewN BBq.out nq)
              clear cw6 cd6 hT1 hT2 hT3
              go_wp2
              go_roundw
              case rel => exact ⟨k + 1, sT, _, _, by omega, by go_num, H8, R8, ap, hT4, B8⟩
              case measure => simp [intOf]; omega
            | false =>
              go_quiet (first
                | (go_at_call 21; refine Calls.quiet_of_same (hT2.out _))
                | (go_at_call 20; refine Calls.quiet_of_same (hT3.out _)))
              have H8 := Lib.hid (hT1.out.keep (below_drewN (Below.refl _ _) nq))
              have R8 := Lib.hid (Rq.out.keep (below_drewN (Below.refl _ _) nq))
              have B8 := Lib.hid (below_drewN BBq.out nq)
              clear cw6 cd6 hT1 hT2 hT3
              go_wp2
              go_roundw
              case rel => exact ⟨k + 1, sT, _, _, by omega, by go_num, H8, R8, ap, hT4, B8⟩
              case measure => simp [intOf]; omega
        · have hrP := Lib.hid (read_err H5.out x.addr had hlt2)
          have hrR := Lib.hid (read6_err R5.out x.addr had hlt2)
          have hpP := Lib.hid (peek_err H5.out x.addr had hlt2)
          have hpR := Lib.hid (peek6_err R5.out x.addr had hlt2)
          have hns := Lib.hid nil_same
          go_wp2_with fail
          refine hrP.out.mono ?_
          rintro e w6 ⟨rfl, rfl⟩
          go_wp2_with fail
          refine hrR.out.mono ?_
          rintro e w6 ⟨rfl, rfl⟩
          go_wp2_with fail
          refine hpP.out.mono ?_
          rintro e w6 ⟨rfl, rfl⟩
          go_wp2_with fail
          refine hpR.out.mono ?_
          rintro e w6 ⟨rfl, rfl⟩
          clear c0 c1
          go_wp2_with (refine (hns.out _).mono ?_; rintro e w6 ⟨rfl, rfl⟩)
          have hT1 := Lib.hid (H5.out.more (M := k + 1) (by omega))
          have hT2 := Lib.hid (fun nq => quiet_sym (waits_x ((H5.out).keep (below_drewN (Below.refl _ _) nq))))
          have hT3 := Lib.hid (fun nq => quiet_sym (down_x ((H5.out).keep (below_drewN (Below.refl _ _) nq))))
          obtain ⟨Ag, cg, cw6, cd6⟩ := ref_wait R5.out
          have hT4 : Hid ((s).size = size) := hz
          have hwT : ((s).waits.length : Int) ≤ 100000 := by have := hT1.out.wle; omega
          generalize s = sT at *
          generalize sT.waits.length = nT at *
          generalize sT.down = dT at *
          go_wp2
          cases dT with
          | true =>
            go_quiet (first
              | (go_at_call 21; refine Calls.quiet_of_same (hT2.out _))
              | (go_at_call 20; refine Calls.quiet_of_same (hT3.out _)))
            have H8 := Lib.hid (hT1.out.keep (below_drewN (Below.refl _ _) nq))
            have R8 := Lib.hid (R5.out.keep (below_drewN (Below.refl _ _) nq))
            have B8 := Lib.hid (below_drewN B5'.out nq)
            clear cw6 cd6 hT1 hT2 hT3
            go_wp2
            go_roundw
            case rel => exact ⟨k + 1, sT, _, _, by omega, by go_num, H8, R8, ap, hT4, B8⟩
            case measure => simp [intOf]; omega
          | false =>
            go_quiet (first
              | (go_at_call 21; refine Calls.quiet_of_same (hT2.out _))
              | (go_at_call 20; refine Calls.quiet_of_same (hT3.out _)))
            have H8 := Lib.hid (hT1.out.keep (below_drewN (Below.refl _ _) nq))
            have R8 := Lib.hid (R5.out.keep (below_drewN (Below.refl _ _) nq))
            have B8 := Lib.hid (below_drewN B5'.out nq)
            clear cw6 cd6 hT1 hT2 hT3
            go_wp2
            go_roundw
            case rel => exact ⟨k + 1, sT, _, _, by omega, by go_num, H8, R8, ap, hT4, B8⟩
            case measure => simp [intOf]; omega
      have e5' : (x.k == 5) = false := by simpa using e5
      have hsS : Hid ((writeS s x.addr (actL x)).1.size = size) := by show _ = _; rw [size_keep_w, hz.out]
      go_upto_region 16 with fail
      have hS0 : w5.drew.cell? ⟨gx, 1, none⟩ = some (.int .u32 (x.addr : Int)) := (h5.out.drew.cell 1).trans rfl
      refine wp_region_held_drew (S := fun w' => w'.cell? ⟨gx, 1, none⟩ = some (.int .u32 (x.addr : Int))) (by kernel_rfl) hS0 (fun hH => ?_)
      refine takeH_move (o := ⟨some 76, _, _, _, _, _⟩) (i := 0) rfl (by kernel_rfl) (by kernel_rfl) (by kernel_rfl) (fun _ _ _ _ h => h) rfl (.tmp 5) rfl (.pointer (some ⟨g, 0, none⟩)) rfl hH ?_
      simp only [Act.put, List.setIfInBounds_toArray, List.set_cons_zero, List.set_cons_succ, Nat.zero_add, decide_true, beq_self_eq_true]
      refine takeH_field (o := ⟨some 77, _, _, _, _, _⟩) (i := 1) rfl (by kernel_rfl) (by kernel_rfl) (by kernel_rfl) (fun _ _ _ _ h => h) rfl 59 (.tmp 10) 1 rfl gx 1 rfl (fun w => fldA1 _ w) hH ?_
      simp only [Act.put, List.setIfInBounds_toArray, List.set_cons_zero, List.set_cons_succ, Nat.zero_add, decide_true, beq_self_eq_true]
      refine takeH_cell (o := ⟨some 78, _, _, _, _, _⟩) (i := 2) rfl (by kernel_rfl) (by kernel_rfl) (by kernel_rfl) (fun _ _ _ _ h => h) rfl 29 (.tmp 77) rfl Try.underlying29 rfl gx 1 rfl (.int .u32 (x.addr : Int)) (fun w h => h) hH ?_
      simp only [Act.put, List.setIfInBounds_toArray, List.set_cons_zero, List.set_cons_succ, Nat.zero_add, decide_true, beq_self_eq_true]
      refine takeH_move (o := ⟨some 79, _, _, _, _, _⟩) (i := 3) rfl (by kernel_rfl) (by kernel_rfl) (by kernel_rfl) (fun _ _ _ _ h => h) rfl (.tmp 11) rfl (.slice (some ⟨kb, oB, none⟩) nB nB) rfl hH ?_
      simp only [Act.put, List.setIfInBounds_toArray, List.set_cons_zero, List.set_cons_succ, Nat.zero_add, decide_true, beq_self_eq_true]
      refine takeH_move (o := ⟨some 81, _, _, _, _, _⟩) (i := 5) rfl (by kernel_rfl) (by kernel_rfl) (by kernel_rfl) (fun _ _ _ _ h => h) rfl (.tmp 7) rfl (.pointer (some ⟨g6, 0, none⟩)) rfl hH ?_
      simp only [Act.put, List.setIfInBounds_toArray, List.set_cons_zero, List.set_cons_succ, Nat.zero_add, decide_true, beq_self_eq_true]
      refine takeH_field (o := ⟨some 82, _, _, _, _, _⟩) (i := 6) rfl (by kernel_rfl) (by kernel_rfl) (by kernel_rfl) (fun _ _ _ _ h => h) rfl 59 (.tmp 10) 1 rfl gx 1 rfl (fun w => fldA1 _ w) hH ?_
      simp only [Act.put, List.setIfInBounds_toArray, List.set_cons_zero, List.set_cons_succ, Nat.zero_add, decide_true, beq_self_eq_true]
      refine takeH_cell (o := ⟨some 83, _, _, _, _, _⟩) (i := 7) rfl (by kernel_rfl) (by kernel_rfl) (by kernel_rfl) (fun _ _ _ _ h => h) rfl 29 (.tmp 82) rfl Try.underlying29 rfl gx 1 rfl (.int .u32 (x.addr : Int)) (fun w h => h) hH ?_
      simp only [Act.put, List.setIfInBounds_toArray, List.set_cons_zero, List.set_cons_succ, Nat.zero_add, decide_true, beq_self_eq_true]
      refine takeH_move (o := ⟨some 84, _, _, _, _, _⟩) (i := 8) rfl (by kernel_rfl) (by kernel_rfl) (by kernel_rfl) (fun _ _ _ _ h => h) rfl (.tmp 11) rfl (.slice (some ⟨kb, oB, none⟩) nB nB) rfl hH ?_
      simp only [Act.put, List.setIfInBounds_toArray, List.set_cons_zero, List.set_cons_succ, Nat.zero_add, decide_true, beq_self_eq_true]
      have hcP := Lib.hid (writeP hok.out (H5.out.drew) (by omega) b5.out.drew hkL.out)
      rw [← hnB.out, ← hoB.out] at hcP
      refine wpAnyH_ready (rs := [4]) (by kernel_rfl) (by simp) ?_
      refine AllReadyH.cons rfl (fun K1 hK1 => ?_) AllReadyH.nil
      rw [if_pos (by rfl)]
      go_wp2_with fail
      refine hcP.out.mono ?_
      rintro e w6 ⟨L6, rfl, H6, S6⟩
      have B6 := Lib.hid ((H5.out.drew).go S6 (below_drewN B5'.out 1) hC.out)
      have R6 := Lib.hid ((R5.out.drew).keeps S6.keeps ap.out)
      have ap6 := Lib.hid (apart_step S6 ap.out (fun q hq => ((R5.out.drew).lt q hq).2))
      have b6 := Lib.hid (b5.out.drew.keeps S6.keeps hkL.out)
      have h6 := Lib.hid (h5.out.drew.keeps S6.keeps hfL.out)
      have hS6 : w6.cell? ⟨gx, 1, none⟩ = some (.int .u32 (x.addr : Int)) := (h6.out.cell 1).trans rfl
      replace H6 := Lib.hid H6
      refine hK1.out _ _ hS6 (fun hH => ?_)
      clear hK1 K1 hcP S6
      try simp only [Act.put, List.getElem_toArray, List.getElem_cons_succ, List.getElem_cons_zero, List.setIfInBounds_toArray, List.set_cons_zero, List.set_cons_succ, Nat.zero_add]
      have hcR := Lib.hid (write6P hok.out R6.out (by have := hwl.out; omega) b6.out hkR.out)
      rw [← hnB.out, ← hoB.out] at hcR
      refine wpAnyH_ready (rs := [9]) (by kernel_rfl) (by simp) ?_
      refine AllReadyH.cons rfl (fun K1 hK1 => ?_) AllReadyH.nil
      rw [if_pos (by rfl)]
      go_wp2_with fail
      refine hcR.out.mono ?_
      rintro e w7 ⟨R7, rfl, Rf, S7⟩
      have B7 := Lib.hid (R6.out.go S7 B6.out hC.out)
      have H7 := Lib.hid (H6.out.keeps S7.keeps (fun q hq hm => ap6.out q hm hq))
      have ap7 : Hid (∀ q ∈ R7, q ∉ L6) := fun q hq hm => by
        rcases S7.more q hq with h | h
        · exact ap6.out q h hm
        · have := (H6.out.lt q hm).2; omega
      have h7 := h6.out.keeps S7.keeps hfR.out
      have hS7 : w7.cell? ⟨gx, 1, none⟩ = some (.int .u32 (x.addr : Int)) := (h7.cell 1).trans rfl
      have R7f := Lib.hid Rf
      refine hK1.out _ _ hS7 (fun hH => ?_)
      clear hK1 K1 hcR S7 Rf h7
      try simp only [Act.put, List.getElem_toArray, List.getElem_cons_succ, List.getElem_cons_zero, List.setIfInBounds_toArray, List.set_cons_zero, List.set_cons_succ, Nat.zero_add]
      generalize (writeS s x.addr (actL x)).2 = rv at *
      refine takeH_S (o := ⟨some 86, _, _, _, _, _⟩) (i := 10) rfl (by kernel_rfl) (by kernel_rfl) (by kernel_rfl) (fun _ _ _ _ h => h) rfl (.bool false) (fun w _ => by go_simp) hH ?_
      simp only [Act.put, List.setIfInBounds_toArray, List.set_cons_zero, List.set_cons_succ, Nat.zero_add, decide_true, beq_self_eq_true]
      refine wpAnyH_done (by kernel_rfl) ?_ _
      clear hH hS6 hS7 hS0 c0
      have hT1 := Lib.hid (H7.out.more (M := k + 1) (by omega))
      have hT2 := Lib.hid (fun nq => quiet_sym (waits_x ((H7.out).keep (below_drewN (Below.refl _ _) nq))))
      have hT3 := Lib.hid (fun nq => quiet_sym (down_x ((H7.out).keep (below_drewN (Below.refl _ _) nq))))
      obtain ⟨Ag, cg, cw6, cd6⟩ := ref_wait R7f.out
      have hT4 : Hid (((writeS s x.addr (actL x)).1).size = size) := hsS
      have hwT : (((writeS s x.addr (actL x)).1).waits.length : Int) ≤ 100000 := by have := hT1.out.wle; omega
      generalize (writeS s x.addr (actL x)).1 = sT at *
      generalize sT.waits.length = nT at *
      generalize sT.down = dT at *
      go_wp2
      cases dT with
      | true =>
        go_quiet (first
          | (go_at_call 21; refine Calls.quiet_of_same (hT2.out _))
          | (go_at_call 20; refine Calls.quiet_of_same (hT3.out _)))
        have H8 := Lib.hid (hT1.out.keep (below_drewN (Below.refl _ _) nq))
        have R8 := Lib.hid (R7f.out.keep (below_drewN (Below.refl _ _) nq))
        have B8 := Lib.hid (below_drewN B7.out nq)
        clear cw6 cd6 hT1 hT2 hT3
        go_wp2
        go_roundw
        case rel => exact ⟨k + 1, sT, _, _, by omega, by go_num, H8, R8, ap7, hT4, B8⟩
        case measure => simp [intOf]; omega
      | false =>
        go_quiet (first
          | (go_at_call 21; refine Calls.quiet_of_same (hT2.out _))
          | (go_at_call 20; refine Calls.quiet_of_same (hT3.out _)))
        have H8 := Lib.hid (hT1.out.keep (below_drewN (Below.refl _ _) nq))
        have R8 := Lib.hid (R7f.out.keep (below_drewN (Below.refl _ _) nq))
        have B8 := Lib.hid (below_drewN B7.out nq)
        clear cw6 cd6 hT1 hT2 hT3
        go_wp2
        go_roundw
        case rel => exact ⟨k + 1, sT, _, _, by omega, by go_num, H8, R8, ap7, hT4, B8⟩
        case measure => simp [intOf]; omega
    · obtain rfl : k = n := by omega
      have hzI : (s.size : Int) ≤ 4096 := by have := H.out.ok.size.2; omega
      obtain ⟨gl, vw, Rr, hRe⟩ := hR.out
      have c0 := Rr.c0
      rw [hz.out] at c0
      have hpP := Lib.hid (fun w (a : Nat) (h : Dx B w g L k s) (ha : (a : Int) < size) => peek_x h a (by omega) (by have := hz.out; omega))
      have hli := Lib.hid Rr.lies
      have hll := Lib.hid (lies_len H.out.ok)
      have hsc := Lib.hid (fun a => liesL_sec H.out.ok a)
      have cF := Lib.hid c0
      have b0 := Lib.hid (Below.refl wr.heap.size wr)
      have hg6 := Lib.hid Rr.blk
      have q1 := fun a w => whole512 gl (a * 512) w
      go_wp2
      clear c0
      obtain ⟨wF, hwF⟩ : ∃ wF, Hid (wF = wr) := ⟨_, rfl⟩
      rw [← hwF.out] at b0 cF hli hg6 H hB hR
      go_loopw [204] (fun i wr => ∃ a : Nat, (a : Int) ≤ size ∧ i = .int .i64 (a : Int) ∧ Hid (Below wF.heap.size wF wr)) (fun i _ => size - (intOf i).toNat)
      case atStart => exact ⟨0, by omega, rfl, by have := hwF.out; subst this; exact b0⟩
      case round =>
        clear b0
        obtain ⟨a, ha, rfl, hB2⟩ := hrel
        by_cases hlt2 : (a : Int) < size
        · have hp := Lib.hid (hpP.out wr a (H.out.keep hB2.out) hlt2)
          have hs5 := hsc.out a
          go_wp2_with fail
          refine hp.out.mono fun e w5 hq => ?_
          obtain ⟨k5, c5, rfl, s5, B5⟩ := RetPk.out hq
          have hB5 := hB2.out.trans (B5.mono hB2.out.size)
          have c0 : w5.cell? ⟨g6, 0, none⟩ = some (.slice (some ⟨gl, 0, none⟩) size size) := ((hg6.out.keep hB5).cell 0).trans (by rw [← cF.out]; exact (hg6.out.cell 0).symm)
          have sl5 := sl_at (hli.out.keep hB5) (rcl_get hll.out (by have := hz.out; omega)) (hll.out a (by have := hz.out; omega)) (by unfold maxLen; decide)
          have hsm := Lib.hid (same_any _ _ _ _ w5 s5 sl5 hs5.2 hs5.2)
          rw [decide_eq_true rfl] at hsm
          replace hB5 := Lib.hid hB5
          clear hp hq hB2 B5 s5 sl5
          have q := q1 a
          go_wp2_with fail
          refine hsm.out.mono ?_
          rintro e w6 ⟨rfl, rfl⟩
          clear c0 q
          go_wp2_with fail
          go_roundw
          case rel => exact ⟨a + 1, by omega, by go_num, hB5⟩
          case measure => simp [intOf]; omega
        · obtain rfl : a = size := by omega
          have BB := Lib.hid (hB.out.trans (hB2.out.mono hB.out.size))
          clear hB2
          go_wp2
          go_ret
          exact ⟨rfl, BB.out⟩

theorem walk (z : Int) (z0 : -9223372036854775808 ≤ z) (z1 : z ≤ 9223372036854775807) (v : Value) (l : List ActD) (W : World) (s : Slm W v 7 (l.map actC)) (hl : ∀ y ∈ l, ActOk y) : Calls Try.prog 9 #[.int .i64 z, v] W fun e w' => e = .returned (.bool true) ∧ Below W.heap.size W w' := by
  obtain ⟨A, c, rfl, h1, h2, h3, h4⟩ := id s
  exact core z z0 z1 A _ c l (by simp) (by unfold maxLen at h2; omega) hl W s
end Go.Proofs.Ytkpefffephbhnaa.w_DevActs
