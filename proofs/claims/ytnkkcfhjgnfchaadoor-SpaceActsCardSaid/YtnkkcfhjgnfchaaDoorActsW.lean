/- The law SpaceActs: the walk. -/
import Derived.Test.YtnkkcfhjgnfchaaDoorRfB
import Derived.Test.YtnkkcfhjgnfchaaDoorLaidA
import Derived.Test.YtnkkcfhjgnfchaaDoorOwnW
import Derived.Deep.RegionHeld3
set_option linter.unusedVariables false
set_option linter.unusedSimpArgs false
namespace Go.Proofs.YtnkkcfhjgnfchaaDoor
open Go.RowKit
open Go.Proofs.PlainSpace

/-- Both spaces, the program's T1 and the reference's T2, and the act in its block. -/
structure Both (W : World) (g hz r B n a : Nat) (kd : Int) (v : Value) (w : World) (rh : Nat) (T1 T2 : List Bool) : Prop where
  s : Spc w g hz T1
  f : Rfs w r rh T2
  t : Tab w
  b : Blk w B 50 [.int .i64 kd, .int .u32 (a : Int), v]
  below : Below W.heap.size W w
  lo : W.heap.size ≤ g ∧ W.heap.size ≤ hz ∧ W.heap.size ≤ r ∧ W.heap.size ≤ rh ∧ W.heap.size ≤ B
  ne : g ≠ r ∧ g ≠ rh ∧ hz ≠ r ∧ hz ≠ rh ∧ B ≠ g ∧ B ≠ hz ∧ B ≠ r ∧ B ≠ rh
  l1 : T1.length = n
  l2 : T2.length = n
section
variable {W w w' : World} {g hz r B n a rh : Nat} {kd : Int} {v : Value} {T1 T2 T1' T2' : List Bool}
theorem Both.drew (h : Both W g hz r B n a kd v w rh T1 T2) : Both W g hz r B n a kd v w.drew rh T1 T2 := ⟨h.s, h.f, h.t, h.b, h.below.drew, h.lo, h.ne, h.l1, h.l2⟩
theorem Both.keep (h : Both W g hz r B n a kd v w rh T1 T2) (hk : Below w.heap.size w w') : Both W g hz r B n a kd v w' rh T1 T2 :=
  ⟨h.s.keep hk, h.f.keep hk, h.t.keep hk, h.b.keep hk, below_call h.below h.below.size hk, h.lo, h.ne, h.l1, h.l2⟩
theorem Both.prog (h : Both W g hz r B n a kd v w rh T1 T2) (hs : Spc w' g hz T1') (hk : Keeps [g, hz] w w') (hl : T1'.length = n) : Both W g hz r B n a kd v w' rh T1' T2 := by
  have hn := h.ne
  exact ⟨hs, h.f.keeps hk (by simp; omega) (by simp; omega), h.t.keepsS h.s hk, h.b.keeps hk (by simp; omega), h.below.trans (hk.below h.below.size (by have := h.lo; simp; omega)), h.lo, hn, hl, h.l2⟩
theorem Both.tab0 (h : Both W g hz r B n a kd v w rh T1 T2) : 0 ∉ [r, rh] := by
  have t0 := h.t 0 (by decide)
  obtain ⟨b1, b2, b3, b4⟩ := h.f
  intro hm
  rcases List.mem_cons.1 hm with e | hm
  · subst e; rw [b1.cell 0] at t0; simp at t0
  · have e : 0 = rh := by simpa using hm
    subst e
    rw [b2.cell 0, lv_has (by have := b4.1; omega)] at t0
    simp at t0
theorem Both.ref (h : Both W g hz r B n a kd v w rh T1 T2) (hf : Rfs w' r rh T2') (hk : Keeps [r, rh] w w') (hl : T2'.length = n) : Both W g hz r B n a kd v w' rh T1 T2' := by
  have hn := h.ne
  exact ⟨h.s.keeps hk (by simp; omega) (by simp; omega), hf, h.t.keeps hk h.tab0, h.b.keeps hk (by simp; omega), h.below.trans (hk.below h.below.size (by have := h.lo; simp; omega)), h.lo, hn, h.l1, hl⟩
theorem Both.mark (h : Both W g hz r B n a kd v w rh T1 T2) (ha : a < 4294967296) : Calls Tryd.prog 15 #[pt g, .int .u32 (a : Int)] w fun e w' => e = .returned (.int .i64 (markE T1 a)) ∧ Both W g hz r B n a kd v w' rh (markS T1 a) T2 := by
  refine (mark_any g hz T1 a w h.s ha).mono ?_
  rintro e w' ⟨rfl, h1, h2⟩
  exact ⟨rfl, h.prog h1 h2 (by rw [markS_length]; exact h.l1)⟩
theorem Both.rmark (h : Both W g hz r B n a kd v w rh T1 T2) (ha : a < 4294967296) : Calls Tryd.prog 21 #[pt r, .int .u32 (a : Int)] w fun e w' => e = .returned (.int .i64 (markE T2 a)) ∧ Both W g hz r B n a kd v w' rh T1 (markS T2 a) := by
  refine (rmark_any r rh T2 a w h.f ha).mono ?_
  rintro e w' ⟨rfl, h1, h2⟩
  exact ⟨rfl, h.ref h1 h2 (by rw [markS_length]; exact h.l2)⟩
theorem freeS_length (S : List Bool) (a : Nat) : (freeS S a).length = S.length := by unfold freeS; split <;> simp
theorem Both.free (h : Both W g hz r B n a kd v w rh T1 T2) (ha : a < 4294967296) : Calls Tryd.prog 14 #[pt g, .int .u32 (a : Int)] w fun e w' => e = .returned (.int .i64 (freeE T1 a)) ∧ Both W g hz r B n a kd v w' rh (freeS T1 a) T2 := by
  refine (free_any g hz T1 a w h.s ha).mono ?_
  rintro e w' ⟨rfl, h1, h2⟩
  exact ⟨rfl, h.prog h1 h2 (by rw [freeS_length]; exact h.l1)⟩
theorem Both.rfree (h : Both W g hz r B n a kd v w rh T1 T2) (ha : a < 4294967296) : Calls Tryd.prog 22 #[pt r, .int .u32 (a : Int)] w fun e w' => e = .returned (.int .i64 (freeE T2 a)) ∧ Both W g hz r B n a kd v w' rh T1 (freeS T2 a) := by
  refine (rfree_any r rh T2 a w h.f ha).mono ?_
  rintro e w' ⟨rfl, h1, h2⟩
  exact ⟨rfl, h.ref h1 h2 (by rw [freeS_length]; exact h.l2)⟩
theorem TakeP.len {S U : List Bool} {a : Nat} {f : Int} (h : TakeP S a f U) : U.length = S.length := by cases h <;> simp
theorem Both.cells (h : Both W g hz r B n a kd v w rh T1 T2) : w.cell? ⟨B, 0, none⟩ = some (.int .i64 kd) ∧ w.cell? ⟨B, 1, none⟩ = some (.int .u32 (a : Int)) ∧ w.cell? ⟨B, 2, none⟩ = some v := ⟨h.b.cell 0, h.b.cell 1, h.b.cell 2⟩
end

theorem Both.keepsR {W w w' : World} {g hz r B n a rh rh' : Nat} {kd : Int} {v : Value} {T1 T2 T2' : List Bool} (h : Both W g hz r B n a kd v w rh T1 T2) (hf : Rfs w' r rh' T2') (hk : Keeps [r] w w') (hn' : rh' = rh ∨ w.heap.size ≤ rh') (hl : T2'.length = n) : Both W g hz r B n a kd v w' rh' T1 T2' := by
  have hn := h.ne
  have h1 := h.s.bound
  have h2 := h.f.bound
  have h3 := h.b.lt
  have h4 := h.below.size
  have h5 := h.lo
  refine ⟨h.s.keeps hk (by simp; omega) (by simp; omega), hf, h.t.keeps hk (fun hm => h.tab0 (by simp at hm ⊢; exact .inl hm)), h.b.keeps hk (by simp; omega), h.below.trans (hk.below h.below.size (by simp; omega)), ?_, ?_, h.l1, hl⟩
  · rcases hn' with rfl | h <;> omega
  · rcases hn' with rfl | h <;> omega
theorem setS_length (S : List Bool) (l : List Nat) : (setS S l).length = S.length := by
  unfold setS; split
  · rw [marks_length]; simp
  · rfl
section
variable {W w w' : World} {g hz r B n a rh : Nat} {kd : Int} {AL : Option Addr} {cL : Nat} {L : List Nat} {T1 T2 : List Bool}
theorem Both.set (h : Both W g hz r B n a kd (.slice AL L.length cL) w rh T1 T2) (hL : Sl W (.slice AL L.length cL) (uv L)) (hLb : ∀ x ∈ L, x < 4294967296) (hLl : L.length ≤ 5000) :
    Calls Tryd.prog 19 #[pt g, .slice AL L.length cL] w fun e w' => e = .returned (.int .i64 (setE T1 L)) ∧ Both W g hz r B n a kd (.slice AL L.length cL) w' rh (setS T1 L) T2 := by
  obtain ⟨A', c', e', q1, q2, q3⟩ := hL
  simp only [uv_length, Value.slice.injEq, true_and] at e'
  obtain ⟨rfl, rfl⟩ := e'
  refine (set_core g hz T1 AL cL L w h.s (fun hp => ?_) hLb (by omega) (setE T1 L) (setS T1 L) (fun hA => ⟨if_pos hA, if_pos hA⟩) (fun hA => ⟨if_neg hA, if_neg hA⟩)).mono ?_
  · obtain ⟨b, o, rfl, hc⟩ := q3 hp
    have hb := cell_lt (hc 0 _ (List.getElem?_eq_getElem hp))
    have hlo := h.lo
    exact ⟨b, o, rfl, by omega, by omega, fun i u hu => by rw [(bcell h.below).1 _ _ hb]; exact hc i u hu⟩
  · rintro e w' ⟨rfl, h1, h2⟩
    exact ⟨rfl, h.prog h1 h2 (by rw [setS_length]; exact h.l1)⟩
/-- What the reference's Set leaves. -/
def RSetP (W : World) (g hz r B n a : Nat) (kd : Int) (v : Value) (w : World) (rh : Nat) (T1 T2 : List Bool) (L : List Nat) (e : Ending) (w' : World) : Prop :=
  ∃ rh', e = .returned (.int .i64 (setE T2 L)) ∧ (rh' = rh ∨ w.heap.size ≤ rh') ∧ Both W g hz r B n a kd v w' rh' T1 (setS T2 L)
theorem Both.rset (h : Both W g hz r B n a kd (.slice AL L.length cL) w rh T1 T2) (hL : Sl W (.slice AL L.length cL) (uv L)) (hLb : ∀ x ∈ L, x < 4294967296) (hLl : L.length ≤ 5000) :
    Calls Tryd.prog 23 #[pt r, .slice AL L.length cL] w (RSetP W g hz r B n a kd (.slice AL L.length cL) w rh T1 T2 L) := by
  obtain ⟨A', c', e', q1, q2, q3⟩ := hL
  simp only [uv_length, Value.slice.injEq, true_and] at e'
  obtain ⟨rfl, rfl⟩ := e'
  refine (rset_core r rh T2 AL cL L w h.f (fun hp => ?_) hLb (by omega) (setE T2 L) (setS T2 L) (fun hA => ⟨if_pos hA, if_pos hA⟩) (fun hA => ⟨if_neg hA, if_neg hA⟩)).mono ?_
  · obtain ⟨b, o, rfl, hc⟩ := q3 hp
    have hb := cell_lt (hc 0 _ (List.getElem?_eq_getElem hp))
    have hlo := h.lo
    exact ⟨b, o, rfl, by omega, fun i u hu => by rw [(bcell h.below).1 _ _ hb]; exact hc i u hu⟩
  · rintro e w' ⟨rfl, ⟨rh', h1, h2⟩, h3⟩
    exact ⟨rh', rfl, h1, h.keepsR h2 h3 h1 (by rw [setS_length]; exact h.l2)⟩
end

namespace w_SpaceActs
set_option maxRecDepth 100000 in
set_option maxHeartbeats 4000000 in
theorem core_ok (W : World) (hT : Tab W) (n : Nat) (hn0 : 16 ≤ n) (hn1 : n ≤ 4096) (A : Option Addr) (len c : Nat) (hlen : len ≤ 9223372036854775807) (h3 : ∀ i, i < len → ActAt W A i) :
    Calls Tryd.prog 8 #[.int .i64 (n : Int), .slice A len c] W fun e w' => e = .returned (.bool true) ∧ Below W.heap.size W w' := by
  have hlI : (len : Int) ≤ 9223372036854775807 := by omega
  have hnI0 : (16 : Int) ≤ n := by omega
  have hnI : (n : Int) ≤ 4096 := by omega
  have halive := Lib.hid (alive_any W hT)
  have hnew := Lib.hid (fun w => new_ok n w hn0 hn1)
  have hrnew := Lib.hid (fun w => rnew_ok n w hn0 hn1)
  have HT := Lib.hid hT
  have H3 := Lib.hid h3
  clear hT h3 hn0 hn1
  go_enter Tryd.func8, Tryd.ntmps8
  go_wp2_with fail
  refine halive.out.mono ?_
  rintro e w0 ⟨rfl, hB0⟩
  have hT0 := HT.out.keep hB0
  by_cases h60 : (60 : Int) < len
  · go_wp2
    go_ret
    exact ⟨rfl, hB0⟩
  · go_wp2_with fail
    refine (hnew.out w0).mono ?_
    rintro e w1 ⟨g, hz, rfl, hg, hh, hS1, hB1⟩
    have hT1 := hT0.keep hB1
    have hBW1 := below_call hB0 hB0.size hB1
    go_wp2_with fail
    refine (hrnew.out w1).mono ?_
    rintro e w2 ⟨r, rh, rfl, hr, hrh, hR2, hB2⟩
    have hT2 := hT1.keep hB2
    have hS2 := hS1.keep hB2
    have hBW2 := below_call hBW1 hBW1.size hB2
    have hgb := Lib.hid hS1.bound
    have hsz1 := hB0.size
    have hsz2 := hB1.size
    go_wp2
    go_loopw [48] (fun i wr => ∃ (k : Nat) (S : List Bool) (rh : Nat), k ≤ len ∧ i = .int .i64 (k : Int) ∧ S.length = n ∧ Hid (w1.heap.size ≤ rh ∧ rh ≠ r ∧ rh ≠ g ∧ rh ≠ hz) ∧ Spc wr g hz S ∧ Rfs wr r rh S ∧ Tab wr ∧ Below W.heap.size W wr) (fun i _ => len - (intOf i).toNat)
    case atStart => exact ⟨0, _, rh, Nat.zero_le _, rfl, by simp, ⟨hrh, fun e => hR2.2.2.1 e.symm, by have := hgb.out; omega, by have := hgb.out; omega⟩, hS2, hR2, hT2, hBW2⟩
    case round =>
      obtain ⟨k, S, rh, hk, rfl, hSl, hrh', hS, hR, hTr, hB⟩ := hrel
      by_cases hlt : k < len
      · obtain ⟨b, o, kd, a, v, L, rfl, c0, k0, k1, c1, a1, c2, hL, hLb⟩ := H3.out k hlt
        have hbW := cell_lt c0
        rw [← (bcell hB).1 _ _ hbW] at c0 c1 c2
        have hL' := hL
        obtain ⟨AL, cL, rfl, l1, l2, l3⟩ := hL'
        rw [uv_length] at c2 l1 hL
        have hlLI : (L.length : Int) ≤ 9223372036854775807 := by unfold maxLen at l2; omega
        have haI : (a : Int) ≤ 4294967295 := by omega
        have d0 : wr.cell? ⟨b, o + k * 3, none⟩ = some (.int .i64 kd) := c0
        have d1 : wr.cell? ⟨b, o + k * 3 + 1, none⟩ = some (.int .u32 (a : Int)) := c1
        have d2 : wr.cell? ⟨b, o + k * 3 + 2, none⟩ = some (.slice AL L.length cL) := c2
        clear c0 c1 c2 l3
        by_cases h5 : (5000 : Int) < L.length
        · clear hLb
          go_wp2
          go_ret
          exact ⟨rfl, hB.alloc hB.size _⟩
        · have hgo := hgb.out
          have hro := hrh'.out
          have hb0 : Both W g hz r wr.heap.size n a kd (.slice AL L.length cL) (wr.alloc (.cells #[.int .i64 kd, .int .u32 (a : Int), .slice AL L.length cL] 50)) rh S S := by
            have hk : Keeps [] wr (wr.alloc (.cells #[.int .i64 kd, .int .u32 (a : Int), .slice AL L.length cL] 50)) := (Keeps.refl _ _).alloc _
            have hbs := hS.bound
            have hbr := hR.bound
            refine ⟨hS.keeps hk (by simp) (by simp), hR.keeps hk (by simp) (by simp), hTr.keeps hk (by simp), ?_, hB.alloc hB.size _, ?_, ?_, hSl, hSl⟩
            · simpa using Blk.new wr 50 #[.int .i64 kd, .int .u32 (a : Int), .slice AL L.length cL]
            · have := hB.size; omega
            · omega
          have HB0 := Lib.hid hb0
          clear hS hR hTr hgo
          by_cases hk1 : kd = 1
          · subst hk1
            go_wp2
            go_region_held3 (fun w' => w'.cell? ⟨wr.heap.size, 1, none⟩ = some (.int .u32 (a : Int))) (first | exact hb2.cells.2.1 | exact hb1.cells.2.1 | exact hb0.cells.2.1) (first
              | (go_at_call 15
                 refine (Both.mark (h := hb2) a1).mono ?_
                 rintro e w5 ⟨rfl, hb1⟩)
              | (go_at_call 15
                 refine (Both.mark (h := hb2.drew) a1).mono ?_
                 rintro e w5 ⟨rfl, hb1⟩)
              | (go_at_call 15
                 refine (Both.mark (h := hb0.drew) a1).mono ?_
                 rintro e w5 ⟨rfl, hb1⟩)
              | (go_at_call 21
                 refine (Both.rmark (h := hb1) a1).mono ?_
                 rintro e w6 ⟨rfl, hb2⟩)
              | (go_at_call 21
                 refine (Both.rmark (h := hb1.drew) a1).mono ?_
                 rintro e w6 ⟨rfl, hb2⟩)
              | (go_at_call 21
                 refine (Both.rmark (h := hb0.drew) a1).mono ?_
                 rintro e w6 ⟨rfl, hb2⟩)
              | fail)
            rename_i hHeld
            generalize markS S a = T at *
            generalize markE S a = m at *
            have hok := Lib.hid hb2.s.ok
            have hTl := Lib.hid hb2.l1
            have htlI : ((taken T).length : Int) ≤ 4096 := by have h1 := cnt_le T; have h2 := hb2.l1; unfold cnt at h1; omega
            have HB := Lib.hid hb2
            clear hHeld hb0
            go_wp2_with fail
            refine (rtaken_any r rh T w6 HB.out.f).mono ?_
            rintro e w7 ⟨v7, rfl, own7, hB7⟩
            have hb7 := HB.out.keep hB7
            obtain ⟨A7, c7, rfl⟩ := own_len own7
            have hv7 := Sl.of_own own7
            clear own7
            go_wp2_with fail
            refine (taken_any g hz T w7 hb7.s hb7.t).mono ?_
            rintro e w8 ⟨v8, rfl, hv8, hf8, hB8⟩
            have hb8 := hb7.keep hB8
            have hv7' := hv7.keep hB8
            clear hf8
            go_wp2_with fail
            refine (same_any v8 _ (taken T) (taken T) w8 hv8 hv7' (taken_lt hok.out) (taken_lt hok.out) (by omega) (by omega)).mono ?_
            rintro e w9 ⟨rfl, hB9⟩
            have hb9 := hb8.keep hB9
            have hle := Lib.hid (left_any g hz T w9 hb9.s)
            rw [show cnt T = (taken T).length from rfl, hb9.l1] at hle
            clear hv7 hv8 hv7'
            go_wp2_with fail
            refine hle.out.mono ?_
            rintro e w10 ⟨rfl, hB10⟩
            have hb10 := hb9.keep hB10
            have d1 := hb10.cells.2.1
            have r0 := hb10.f.1.cell 0
            rw [hb10.l2] at r0
            simp only [List.getElem?_cons_zero] at r0
            have hh := Lib.hid (fun w hs => has_any g hz T a w hs a1)
            have HB10 := Lib.hid hb10
            by_cases han : (a : Int) < n
            · have r1 := hb10.f.2.1.cell a
              rw [lv_has (by rw [hb10.l2]; omega)] at r1
              generalize has T a = bb at *
              clear hb7 hb8 hb9 hb10
              go_wp2
              go_quiet (fail)
              go_wp2_with fail
              refine (hh.out _ (by exact HB10.out.s)).mono ?_
              rintro e w11 ⟨rfl, rfl⟩
              go_wp2
              go_roundw
              case rel => exact ⟨k + 1, T, rh, by omega, by simp, hTl.out, hrh', HB10.out.s, HB10.out.f, HB10.out.t, by repeat' (first | (with_reducible exact HB10.out.below) | (with_reducible refine below_drewN ?_ _) | (with_reducible refine Below.drew ?_))⟩
              case measure => simp [intOf]; omega
            · have hge : has T a = false := has_ge (by rw [hb10.l1]; omega)
              rw [hge] at hh
              have hdec : decide (a < n) = false := by simp; omega
              have hdec' : decide ((a : Int) < n) = false := by simp; omega
              clear hb7 hb8 hb9 hb10 hge
              go_wp2
              go_quiet (fail)
              go_wp2_with fail
              refine (hh.out _ (by exact HB10.out.s)).mono ?_
              rintro e w11 ⟨rfl, rfl⟩
              go_wp2
              go_roundw
              case rel => exact ⟨k + 1, T, rh, by omega, by simp, hTl.out, hrh', HB10.out.s, HB10.out.f, HB10.out.t, by repeat' (first | (with_reducible exact HB10.out.below) | (with_reducible refine below_drewN ?_ _) | (with_reducible refine Below.drew ?_))⟩
              case measure => simp [intOf]; omega
          · by_cases hk2 : kd = 2
            · subst hk2
              go_wp2
              go_region_held3 (fun w' => w'.cell? ⟨wr.heap.size, 1, none⟩ = some (.int .u32 (a : Int))) (first | exact hb2.cells.2.1 | exact hb1.cells.2.1 | exact hb0.cells.2.1) (first
                | (go_at_call 14
                   refine (Both.free (h := hb2) a1).mono ?_
                   rintro e w5 ⟨rfl, hb1⟩)
                | (go_at_call 14
                   refine (Both.free (h := hb2.drew) a1).mono ?_
                   rintro e w5 ⟨rfl, hb1⟩)
                | (go_at_call 14
                   refine (Both.free (h := hb0.drew) a1).mono ?_
                   rintro e w5 ⟨rfl, hb1⟩)
                | (go_at_call 22
                   refine (Both.rfree (h := hb1) a1).mono ?_
                   rintro e w6 ⟨rfl, hb2⟩)
                | (go_at_call 22
                   refine (Both.rfree (h := hb1.drew) a1).mono ?_
                   rintro e w6 ⟨rfl, hb2⟩)
                | (go_at_call 22
                   refine (Both.rfree (h := hb0.drew) a1).mono ?_
                   rintro e w6 ⟨rfl, hb2⟩)
                | fail)
              rename_i hHeld
              generalize freeS S a = T at *
              generalize freeE S a = m at *
              have hok := Lib.hid hb2.s.ok
              have hTl := Lib.hid hb2.l1
              have htlI : ((taken T).length : Int) ≤ 4096 := by have h1 := cnt_le T; have h2 := hb2.l1; unfold cnt at h1; omega
              have HB := Lib.hid hb2
              clear hHeld hb0
              go_wp2_with fail
              refine (rtaken_any r rh T w6 HB.out.f).mono ?_
              rintro e w7 ⟨v7, rfl, own7, hB7⟩
              have hb7 := HB.out.keep hB7
              obtain ⟨A7, c7, rfl⟩ := own_len own7
              have hv7 := Sl.of_own own7
              clear own7
              go_wp2_with fail
              refine (taken_any g hz T w7 hb7.s hb7.t).mono ?_
              rintro e w8 ⟨v8, rfl, hv8, hf8, hB8⟩
              have hb8 := hb7.keep hB8
              have hv7' := hv7.keep hB8
              clear hf8
              go_wp2_with fail
              refine (same_any v8 _ (taken T) (taken T) w8 hv8 hv7' (taken_lt hok.out) (taken_lt hok.out) (by omega) (by omega)).mono ?_
              rintro e w9 ⟨rfl, hB9⟩
              have hb9 := hb8.keep hB9
              have hle := Lib.hid (left_any g hz T w9 hb9.s)
              rw [show cnt T = (taken T).length from rfl, hb9.l1] at hle
              clear hv7 hv8 hv7'
              go_wp2_with fail
              refine hle.out.mono ?_
              rintro e w10 ⟨rfl, hB10⟩
              have hb10 := hb9.keep hB10
              have d1 := hb10.cells.2.1
              have r0 := hb10.f.1.cell 0
              rw [hb10.l2] at r0
              simp only [List.getElem?_cons_zero] at r0
              have hh := Lib.hid (fun w hs => has_any g hz T a w hs a1)
              have HB10 := Lib.hid hb10
              by_cases han : (a : Int) < n
              · have r1 := hb10.f.2.1.cell a
                rw [lv_has (by rw [hb10.l2]; omega)] at r1
                have hdec : decide (a < n) = true := by simp; omega
                have hdec' : decide ((a : Int) < n) = true := by simp; omega
                generalize has T a = bb at *
                clear hb7 hb8 hb9 hb10
                go_wp2
                go_quiet (fail)
                go_wp2_with fail
                refine (hh.out _ (by exact HB10.out.s)).mono ?_
                rintro e w11 ⟨rfl, rfl⟩
                go_wp2
                go_roundw
                case rel => exact ⟨k + 1, T, rh, by omega, by simp, hTl.out, hrh', HB10.out.s, HB10.out.f, HB10.out.t, by repeat' (first | (with_reducible exact HB10.out.below) | (with_reducible refine below_drewN ?_ _) | (with_reducible refine Below.drew ?_))⟩
                case measure => simp [intOf]; omega
              · have hge : has T a = false := has_ge (by rw [hb10.l1]; omega)
                rw [hge] at hh
                have hdec : decide (a < n) = false := by simp; omega
                have hdec' : decide ((a : Int) < n) = false := by simp; omega
                clear hb7 hb8 hb9 hb10 hge
                go_wp2
                go_quiet (fail)
                go_wp2_with fail
                refine (hh.out _ (by exact HB10.out.s)).mono ?_
                rintro e w11 ⟨rfl, rfl⟩
                go_wp2
                go_roundw
                case rel => exact ⟨k + 1, T, rh, by omega, by simp, hTl.out, hrh', HB10.out.s, HB10.out.f, HB10.out.t, by repeat' (first | (with_reducible exact HB10.out.below) | (with_reducible refine below_drewN ?_ _) | (with_reducible refine Below.drew ?_))⟩
                case measure => simp [intOf]; omega
            · by_cases hk3 : kd = 3
              · subst hk3
                have hLl : L.length ≤ 5000 := by omega
                have HL := Lib.hid hL
                have HLb := Lib.hid hLb
                have HLl := Lib.hid hLl
                clear hL hLb hLl
                go_wp2
                go_region_held3 (fun w' => w'.cell? ⟨wr.heap.size, 2, none⟩ = some (.slice AL L.length cL)) (first | exact hb2.cells.2.2 | exact hb1.cells.2.2 | exact hb0.cells.2.2) (first
                  | (go_at_call 19
                     refine (Both.set (h := hb0.drew) HL.out HLb.out HLl.out).mono ?_
                     rintro e w5 ⟨rfl, hb1⟩)
                  | (go_at_call 19
                     refine (Both.set (h := hb0) HL.out HLb.out HLl.out).mono ?_
                     rintro e w5 ⟨rfl, hb1⟩)
                  | (go_at_call 23
                     refine (Both.rset (h := hb1) HL.out HLb.out HLl.out).mono ?_
                     rintro e w6 ⟨rh2, rfl, hnn, hb2⟩)
                  | (go_at_call 23
                     refine (Both.rset (h := hb1.drew) HL.out HLb.out HLl.out).mono ?_
                     rintro e w6 ⟨rh2, rfl, hnn, hb2⟩)
                  | fail)
                rename_i hHeld
                have hrh2 : Hid (w1.heap.size ≤ rh2 ∧ rh2 ≠ r ∧ rh2 ≠ g ∧ rh2 ≠ hz) := by
                  have h1 := hb2.ne
                  have h2 := hb1.f.bound
                  have h3 := hrh'.out
                  refine ⟨?_, fun e => h1.1 (by omega), by omega, by omega⟩
                  rcases hnn with rfl | h
                  · exact h3.1
                  · omega
                generalize setS S L = T at *
                generalize setE S L = m at *
                have hok := Lib.hid hb2.s.ok
                have hTl := Lib.hid hb2.l1
                have htlI : ((taken T).length : Int) ≤ 4096 := by have h1 := cnt_le T; have h2 := hb2.l1; unfold cnt at h1; omega
                have HB := Lib.hid hb2
                clear hHeld hb0
                go_wp2_with fail
                refine (rtaken_any r rh2 T w6 HB.out.f).mono ?_
                rintro e w7 ⟨v7, rfl, own7, hB7⟩
                have hb7 := HB.out.keep hB7
                obtain ⟨A7, c7, rfl⟩ := own_len own7
                have hv7 := Sl.of_own own7
                clear own7
                go_wp2_with fail
                refine (taken_any g hz T w7 hb7.s hb7.t).mono ?_
                rintro e w8 ⟨v8, rfl, hv8, hf8, hB8⟩
                have hb8 := hb7.keep hB8
                have hv7' := hv7.keep hB8
                clear hf8
                go_wp2_with fail
                refine (same_any v8 _ (taken T) (taken T) w8 hv8 hv7' (taken_lt hok.out) (taken_lt hok.out) (by omega) (by omega)).mono ?_
                rintro e w9 ⟨rfl, hB9⟩
                have hb9 := hb8.keep hB9
                have hle := Lib.hid (left_any g hz T w9 hb9.s)
                rw [show cnt T = (taken T).length from rfl, hb9.l1] at hle
                clear hv7 hv8 hv7'
                go_wp2_with fail
                refine hle.out.mono ?_
                rintro e w10 ⟨rfl, hB10⟩
                have hb10 := hb9.keep hB10
                have d1 := hb10.cells.2.1
                have r0 := hb10.f.1.cell 0
                rw [hb10.l2] at r0
                simp only [List.getElem?_cons_zero] at r0
                have hh := Lib.hid (fun w hs => has_any g hz T a w hs a1)
                have HB10 := Lib.hid hb10
                by_cases han : (a : Int) < n
                · have r1 := hb10.f.2.1.cell a
                  rw [lv_has (by rw [hb10.l2]; omega)] at r1
                  have hanN : a < n := by omega
                  generalize has T a = bb at *
                  clear hb7 hb8 hb9 hb10
                  go_wp2
                  go_quiet (fail)
                  go_wp2_with fail
                  refine (hh.out _ (by exact HB10.out.s)).mono ?_
                  rintro e w11 ⟨rfl, rfl⟩
                  go_wp2
                  go_roundw
                  case rel => exact ⟨k + 1, T, rh2, by omega, by simp, hTl.out, hrh2, HB10.out.s, HB10.out.f, HB10.out.t, by repeat' (first | (with_reducible exact HB10.out.below) | (with_reducible refine below_drewN ?_ _) | (with_reducible refine Below.drew ?_))⟩
                  case measure => simp [intOf]; omega
                · have hge : has T a = false := has_ge (by rw [hb10.l1]; omega)
                  rw [hge] at hh
                  have hdec : decide (a < n) = false := by simp; omega
                  have hdec' : decide ((a : Int) < n) = false := by simp; omega
                  clear hb7 hb8 hb9 hb10 hge
                  go_wp2
                  go_quiet (fail)
                  go_wp2_with fail
                  refine (hh.out _ (by exact HB10.out.s)).mono ?_
                  rintro e w11 ⟨rfl, rfl⟩
                  go_wp2
                  go_roundw
                  case rel => exact ⟨k + 1, T, rh2, by omega, by simp, hTl.out, hrh2, HB10.out.s, HB10.out.f, HB10.out.t, by repeat' (first | (with_reducible exact HB10.out.below) | (with_reducible refine below_drewN ?_ _) | (with_reducible refine Below.drew ?_))⟩
                  case measure => simp [intOf]; omega
              · have e1 : (kd == 1) = false := by simpa using hk1
                have e2 : (kd == 2) = false := by simpa using hk2
                have e3 : (kd == 3) = false := by simpa using hk3
                go_wp2_with fail
                refine (take_any g hz S _ hb0.s hb0.t).mono ?_
                rintro e w5 ⟨x, f, T, rfl, hP, hS5, hK5⟩
                have hb1 := hb0.prog hS5 hK5 (by rw [TakeP.len hP]; exact hb0.l1)
                go_wp2_with fail
                refine (rtake_any r rh S w5 hb1.f).mono ?_
                rintro e w6 ⟨y, f2, T2, rfl, hP2, hR6, hK6⟩
                obtain ⟨rfl, rfl, rfl⟩ := hP.unique hP2
                have hb2 := hb1.ref hR6 hK6 (by rw [TakeP.len hP]; exact hb0.l1)
                clear hP hP2 hS5 hR6 hK5 hK6
                have hok := Lib.hid hb2.s.ok
                have hTl := Lib.hid hb2.l1
                have htlI : ((taken T).length : Int) ≤ 4096 := by have h1 := cnt_le T; have h2 := hb2.l1; unfold cnt at h1; omega
                have HB := Lib.hid hb2
                clear hb0
                go_wp2_with fail
                refine (rtaken_any r rh T w6 HB.out.f).mono ?_
                rintro e w7 ⟨v7, rfl, own7, hB7⟩
                have hb7 := HB.out.keep hB7
                obtain ⟨A7, c7, rfl⟩ := own_len own7
                have hv7 := Sl.of_own own7
                clear own7
                go_wp2_with fail
                refine (taken_any g hz T w7 hb7.s hb7.t).mono ?_
                rintro e w8 ⟨v8, rfl, hv8, hf8, hB8⟩
                have hb8 := hb7.keep hB8
                have hv7' := hv7.keep hB8
                clear hf8
                go_wp2_with fail
                refine (same_any v8 _ (taken T) (taken T) w8 hv8 hv7' (taken_lt hok.out) (taken_lt hok.out) (by omega) (by omega)).mono ?_
                rintro e w9 ⟨rfl, hB9⟩
                have hb9 := hb8.keep hB9
                have hle := Lib.hid (left_any g hz T w9 hb9.s)
                rw [show cnt T = (taken T).length from rfl, hb9.l1] at hle
                clear hv7 hv8 hv7'
                go_wp2_with fail
                refine hle.out.mono ?_
                rintro e w10 ⟨rfl, hB10⟩
                have hb10 := hb9.keep hB10
                have d1 := hb10.cells.2.1
                have r0 := hb10.f.1.cell 0
                rw [hb10.l2] at r0
                simp only [List.getElem?_cons_zero] at r0
                have hh := Lib.hid (fun w hs => has_any g hz T a w hs a1)
                have HB10 := Lib.hid hb10
                by_cases han : (a : Int) < n
                · have r1 := hb10.f.2.1.cell a
                  rw [lv_has (by rw [hb10.l2]; omega)] at r1
                  have hanN : a < n := by omega
                  generalize has T a = bb at *
                  clear hb7 hb8 hb9 hb10
                  go_wp2
                  go_quiet (fail)
                  go_wp2_with fail
                  refine (hh.out _ (by exact HB10.out.s)).mono ?_
                  rintro e w11 ⟨rfl, rfl⟩
                  go_wp2
                  go_roundw
                  case rel => exact ⟨k + 1, T, rh, by omega, by simp, hTl.out, hrh', HB10.out.s, HB10.out.f, HB10.out.t, by repeat' (first | (with_reducible exact HB10.out.below) | (with_reducible refine below_drewN ?_ _) | (with_reducible refine Below.drew ?_))⟩
                  case measure => simp [intOf]; omega
                · have hge : has T a = false := has_ge (by rw [hb10.l1]; omega)
                  rw [hge] at hh
                  have hdec : decide (a < n) = false := by simp; omega
                  have hdec' : decide ((a : Int) < n) = false := by simp; omega
                  clear hb7 hb8 hb9 hb10 hge
                  go_wp2
                  go_quiet (fail)
                  go_wp2_with fail
                  refine (hh.out _ (by exact HB10.out.s)).mono ?_
                  rintro e w11 ⟨rfl, rfl⟩
                  go_wp2
                  go_roundw
                  case rel => exact ⟨k + 1, T, rh, by omega, by simp, hTl.out, hrh', HB10.out.s, HB10.out.f, HB10.out.t, by repeat' (first | (with_reducible exact HB10.out.below) | (with_reducible refine below_drewN ?_ _) | (with_reducible refine Below.drew ?_))⟩
                  case measure => simp [intOf]; omega
      · obtain rfl : k = len := by omega
        go_wp2
        go_ret
        exact ⟨rfl, hB⟩
theorem core_bad (W : World) (hT : Tab W) (sz : Int) (h0 : -9223372036854775808 ≤ sz) (h1 : sz ≤ 9223372036854775807) (hb : sz < 16 ∨ 4096 < sz) (A : Option Addr) (len c : Nat) (hlen : len ≤ 9223372036854775807) :
    Calls Tryd.prog 8 #[.int .i64 sz, .slice A len c] W fun e w' => e = .returned (.bool true) ∧ Below W.heap.size W w' := by
  have hlI : (len : Int) ≤ 9223372036854775807 := by omega
  have halive := Lib.hid (alive_any W hT)
  have hnew := Lib.hid (fun w => new_bad sz w h0 h1 hb)
  have hrnew := Lib.hid (fun w => rnew_bad sz w h0 h1 hb)
  clear hT hb
  go_enter Tryd.func8, Tryd.ntmps8
  go_wp2_with fail
  refine halive.out.mono ?_
  rintro e w0 ⟨rfl, hB0⟩
  by_cases h60 : (60 : Int) < len
  · go_wp2
    go_ret
    exact ⟨rfl, hB0⟩
  · go_wp2_with fail
    refine (hnew.out w0).mono ?_
    rintro e w1 ⟨rfl, rfl⟩
    go_wp2_with fail
    refine (hrnew.out w0).mono ?_
    rintro e w1 ⟨rfl, rfl⟩
    go_wp2
    go_ret
    exact ⟨rfl, hB0⟩
theorem walk (W : World) (hT : Tab W) (a0 : Int) (b0 : -9223372036854775808 ≤ a0) (c0 : a0 ≤ 9223372036854775807) (v1 : Value) (A1 : Option Addr) (n1 d1 : Nat) (e1 : v1 = .slice A1 n1 d1) (m1 : n1 ≤ 9223372036854775807) (h1 : ∀ i, i < n1 → ActAt W A1 i) :
    Calls Tryd.prog 8 #[.int .i64 a0, v1] W fun e w' => e = .returned (.bool true) ∧ Below W.heap.size W w' := by
  subst e1
  by_cases hb : a0 < 16 ∨ 4096 < a0
  · exact core_bad W hT a0 b0 c0 hb A1 n1 d1 m1
  · obtain ⟨n, rfl⟩ := Int.eq_ofNat_of_zero_le (show 0 ≤ a0 by omega)
    exact core_ok W hT n (by omega) (by omega) A1 n1 d1 m1 h1
end w_SpaceActs
end Go.Proofs.YtnkkcfhjgnfchaaDoor
