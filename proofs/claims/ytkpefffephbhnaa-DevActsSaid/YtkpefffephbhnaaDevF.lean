/- The device: Flush. -/
import Derived.Test.YtkpefffephbhnaaDevE
import Derived.Test.YtkpefffephbhnaaDevC
import Derived.Deep.Cut
set_option linter.unusedVariables false
set_option linter.unusedSimpArgs false
namespace Go.Proofs.PlainDev
/-- One sector is laid. -/
def lset (f : Nat → Option (List Nat)) (a : Nat) (l : List Nat) : Nat → Option (List Nat) := fun x => if x = a then some l else f x
/-- What lies there when all that waits is laid. -/
def flushL (f : Nat → Option (List Nat)) (ws : List (Nat × List Nat)) : Nat → Option (List Nat) := fun x => match lastOf ws x with
  | some i => some (ws.getD i (0, [])).2
  | none => f x
def flushS (s : Dst) : Dst × Int :=
  if s.down then (s, 7) else if (stepS s).down then (stepS s, 7) else ({ stepS s with lies := flushL s.lies s.waits, waits := [] }, 0)
end Go.Proofs.PlainDev
namespace Go.Proofs.Ytkpefffephbhnaa
open Go.RowKit Go.Maps
open Go.Proofs.PlainDev

theorem ranges_keeps {G : List Nat} {w w' : World} {b r n : Nat} {D : DataW Value} {left : Lit → Bool} {cnt : Nat} (h : w.ranges Try.prog 29 heldV b r n D left cnt) (hk : Keeps G w w') (hb : b ∉ G) (hr : r ∉ G) :
    w'.ranges Try.prog 29 heldV b r n D left cnt := by
  have h1 := h.owns.lt
  have h2 := h.lt
  obtain ⟨es, clock, since, seen, c0, e1, F, hs, hD, e2, rest⟩ := h
  exact ⟨es, clock, since, seen, c0, (hk.block b h1 hb).trans e1, F, hs, hD, (hk.block r h2 hr).trans e2, rest⟩
theorem wpList_next_hv (w : World) {ops : Array Oper} {rest : List Oper} {o : Oper} {a : Act} {Q : Exit → Act → World → Prop} (hg : o.guard = none) (it : Operand) (hop : o.op = Op.next it false)
    (b r n : Nat) (D : DataW Value) (left : Lit → Bool) (cnt : Nat) (hit : a.eval it = .pointer (some ⟨r, 0, none⟩)) (h : w.ranges Try.prog 29 heldV b r n D left cnt)
    (hDone : (∀ kl, left kl = false) → wpList Try.prog ops Q rest (a.put o.dst (.tuple #[.bool false])) w)
    (hMore : ∀ (x : Nat) (c : Value) (w' : World) (cnt' : Nat), x < 4294967296 → left (ky x) = true → (∀ zd, D.atKey (ky x) zd = .held c) → w'.ranges Try.prog 29 heldV b r n D (fun z => left z && !z.sameKey (ky x)) cnt' → cnt' < cnt →
      Keeps [r] w w' → (Instr.entry (.pointer (some ⟨r, 0, none⟩))).run Try.prog w' = .ok (.tuple #[.int .u32 (x : Int), c]) w' → wpList Try.prog ops Q rest (a.put o.dst (.tuple #[.bool true, .int .u32 (x : Int), c])) w') :
    wpList Try.prog ops Q (o :: rest) a w :=
  wpList_next_ranges w hg it hop 29 lawU heldV (Value.int .u32) (fun (v : Value) => v) (fun key kl hkey => by obtain ⟨x, rfl, _⟩ := Maps.keyOf_int_inv Try.underlying29 hkey; exact ⟨x, rfl⟩)
    (fun v y hv => ⟨v, rfl⟩)
    b r n D left cnt hit h (fun _ hl => hDone hl) (fun x c kl y w' cnt' hkey hlk hv hat hrg hlt hgr hsz hen => by
      obtain ⟨x', ex, rfl, hwx⟩ := Maps.keyOf_int_inv Try.underlying29 hkey
      cases ex
      have hb : 0 ≤ x ∧ x ≤ 4294967295 := by
        have := hwx
        simp [Lit.wf, IntKind.min, IntKind.max, IntKind.signed, IntKind.bits] at this
        omega
      obtain ⟨m, rfl⟩ := Int.eq_ofNat_of_zero_le hb.1
      have hy : y.1 = .held c := by
        unfold heldV at hv
        injection hv with hv
        rw [← hv]
      exact hMore m c w' cnt' (by omega) hlk (fun zd => (hat zd).trans hy) hrg hlt (Keeps.grown hgr) hen)
section
variable {B : Nat} {w w' : World} {g bl ba : Nat} {vw : Value} {nl : Nat} {s : Dst}
/-- A sector is laid by the map's store. -/
theorem Dv.lay (h : Dv B w g bl ba vw nl s) (hn : nl < 1000000) {a : Nat} (ha : a < 4294967296) {l : List Nat} (hl : Sec l) :
    ∃ w', (Instr.mapUpdate 67 (.map (some bl)) (.int .u32 (a : Int)) (secV l)).run Try.prog w = .ok () w' ∧ Dv B w' g bl ba vw (nl + 1) { s with lies := lset s.lies a l } ∧ Keeps [bl] w w' := by
  obtain ⟨w', hr, hm, hK⟩ := h.lies.put Try.underlying67 hn ha (secV l)
  refine ⟨w', hr, ⟨⟨h.ok.size, ?_, h.ok.waits, h.ok.left⟩, h.blk.keeps hK (by simp; exact h.ne1), ?_, h.last.keeps hK (by simp; exact fun e => h.ne3 e.symm), ownsRow_keeps h.row hK (fun k hk => by simp; exact (h.ne4 k hk).2.1), h.gB, h.blB, h.baB, h.ne1, h.ne2, h.ne3, h.ne4⟩, hK⟩
  · intro x m hx
    change lset s.lies a l x = some m at hx
    unfold lset at hx
    by_cases e : x = a
    · rw [if_pos e] at hx; injection hx with hx; rw [← hx]; exact hl
    · rw [if_neg e] at hx; exact h.ok.lies x m hx
  · have hF : (fun x => (lset s.lies a l x).map secV) = fset (fun x => (s.lies x).map secV) a (secV l) := by
      funext x
      unfold lset fset
      split <;> rfl
    show Fm w' bl (fun x => (lset s.lies a l x).map secV) (nl + 1)
    rw [hF]
    exact hm
end
theorem keeps_more {G : List Nat} {w w3 wr : World} {r : Nat} (h1 : Keeps G w w3) (h2 : Keeps (r :: G) w3 wr) (hr : w.heap.size ≤ r) : Keeps G w wr :=
  ⟨h2.os.trans h1.os, h2.tape.trans h1.tape, h2.output.trans h1.output, Nat.le_trans h1.size h2.size, fun b hb hn => (h2.block b (Nat.lt_of_lt_of_le hb h1.size) (fun hm => by
    rcases List.mem_cons.1 hm with e | e
    · omega
    · exact hn e)).trans (h1.block b hb hn)⟩
/-- So far laid: what isn't to come any more. -/
def sofar (f : Nat → Option (List Nat)) (ws : List (Nat × List Nat)) (left : Lit → Bool) : Nat → Option (List Nat) := fun x => if left (ky x) then f x else flushL f ws x
theorem key_of {ws : List (Nat × List Nat)} {D : DataW Value} (hF : Fmd D (fun x => (lastOf ws x).map (fun (i : Nat) => (Value.int .i64 (i : Int))))) {x : Nat} (hx : x < 4294967296) {c : Value} (hc : ∀ zd, D.atKey (ky x) zd = .held c) : ∃ i, lastOf ws x = some i ∧ c = .int .i64 (i : Int) := by
  have h : ∀ z : Value, c = ((lastOf ws x).map (fun (i : Nat) => (Value.int .i64 (i : Int)))).getD z := fun z => by
    have h1 := (hc (.held z)).symm.trans (hF.2.1 x hx z)
    injection h1
  cases e : lastOf ws x with
  | none =>
    have h1 := h (.bool true)
    have h2 := h (.bool false)
    rw [e] at h1 h2
    simp only [Option.map_none, Option.getD_none] at h1 h2
    rw [h1] at h2
    cases h2
  | some i =>
    have h1 := h (.bool true)
    rw [e] at h1
    exact ⟨i, rfl, h1⟩
theorem sofar_start {f : Nat → Option (List Nat)} {ws : List (Nat × List Nat)} {D : DataW Value} (hF : Fmd D (fun x => (lastOf ws x).map (fun (i : Nat) => (Value.int .i64 (i : Int))))) (hw : ∀ p ∈ ws, p.1 < 4294967296) : sofar f ws (Maps.has D) = f := by
  funext x
  unfold sofar flushL
  by_cases hx : x < 4294967296
  · have h1 : Maps.has D (ky x) = ((lastOf ws x).map (fun (i : Nat) => (Value.int .i64 (i : Int)))).isSome := hF.2.2 x hx
    cases e : lastOf ws x with
    | none => simp
    | some i => rw [e] at h1; rw [h1]; rfl
  · have e : lastOf ws x = none := by
      cases e : lastOf ws x with
      | none => rfl
      | some i =>
        obtain ⟨b, hb⟩ := lastOf_get _ _ _ e
        have := hw _ (List.mem_of_getElem? hb)
        simp only at this
        omega
    rw [e]
    simp
theorem sofar_step (f : Nat → Option (List Nat)) (ws : List (Nat × List Nat)) (left : Lit → Bool) {x : Nat} (hx : x < 4294967296) {i : Nat} {p : Nat × List Nat} (hi : lastOf ws x = some i) (hp : ws[i]? = some p) :
    lset (sofar f ws left) x p.2 = sofar f ws (fun z => left z && !z.sameKey (ky x)) := by
  funext y
  unfold lset sofar
  by_cases e : y = x
  · subst e
    rw [if_pos rfl]
    simp only [WideAt.sameKey_self (ky_is hx)]
    unfold flushL
    rw [hi]
    simp [List.getD_eq_getElem?_getD, hp]
  · rw [if_neg e]
    simp only [sameKey_ne (ky_ne e)]
    simp
theorem sofar_end {f : Nat → Option (List Nat)} {ws : List (Nat × List Nat)} {left : Lit → Bool} (h : ∀ kl, left kl = false) : sofar f ws left = flushL f ws := by
  funext x
  unfold sofar
  rw [h]
  rfl
/-- What Flush answers. -/
def RetFl (B : Nat) (g bl ba : Nat) (vw : Value) (nl : Nat) (s : Dst) (w : World) (e : Ending) (w' : World) : Prop :=
  ∃ ba' vw' nl', e = .returned (.int .i64 (flushS s).2) ∧ Dv B w' g bl ba' vw' nl' (flushS s).1 ∧ nl' + (flushS s).1.waits.length ≤ nl + s.waits.length ∧ Keeps (dblk g bl ba vw) w w' ∧ (ba' = ba ∨ w.heap.size ≤ ba') ∧ Moved w.heap.size vw.ownBlock vw'.ownBlock
set_option maxRecDepth 100000 in
set_option maxHeartbeats 2000000 in
theorem flush_any {B : Nat} {w : World} {g bl ba : Nat} {vw : Value} {nl : Nat} {s : Dst} (h : Dv B w g bl ba vw nl s) (hnw : ((nl + s.waits.length : Nat) : Int) ≤ 100000) :
    Calls Try.prog 15 #[.pointer (some ⟨g, 0, none⟩)] w (RetFl B g bl ba vw nl s w) := by
  have hR : Hid (∀ e w', (∃ ba' vw' nl', e = .returned (.int .i64 (flushS s).2) ∧ Dv B w' g bl ba' vw' nl' (flushS s).1 ∧ nl' + (flushS s).1.waits.length ≤ nl + s.waits.length ∧ Keeps (dblk g bl ba vw) w w' ∧ (ba' = ba ∨ w.heap.size ≤ ba') ∧ Moved w.heap.size vw.ownBlock vw'.ownBlock) → RetFl B g bl ba vw nl s w e w') := fun e w' h => h
  generalize RetFl B g bl ba vw nl s w = RX at *
  unfold flushS at hR
  have c5 := h.c5
  cases hd : s.down with
  | true =>
    rw [hd, if_pos rfl] at hR
    rw [hd] at c5
    have H := Lib.hid h
    clear h
    go_enter Try.func15, Try.ntmps15
    go_wp2
    exact hR.out _ _ ⟨ba, vw, nl, rfl, H.out, Nat.le_refl _, Keeps.refl _ _, .inl rfl, Moved.refl _ _⟩
  | false =>
    have hst := Lib.hid (step_any h hd)
    rw [hd, if_neg (by simp)] at hR
    rw [hd] at c5
    cases hd2 : (stepS s).down with
    | true =>
      rw [hd2, if_pos rfl] at hR
      rw [hd2] at hst
      clear h
      go_enter Try.func15, Try.ntmps15
      go_wp2_with (first
        | (go_at_call 34; refine hst.out.mono ?_; rintro e w2 ⟨rfl, h2, hK2⟩))
      exact hR.out _ _ ⟨ba, vw, nl, rfl, h2, Nat.le_refl _, hK2.mono (by simp [dblk]), .inl rfl, .inl rfl⟩
    | false =>
      rw [hd2, if_neg (by simp)] at hR
      rw [hd2] at hst
      clear h
      go_enter Try.func15, Try.ntmps15
      go_upto_region 5 with (first
        | (go_at_call 34; refine hst.out.mono ?_; rintro e w2 ⟨rfl, h2, hK2⟩))
      have c3 := h2.c3
      obtain ⟨D, hown, hF⟩ := h2.last
      replace h2 := Lib.hid h2
      go_wp2_with (first
        | (at_range; refine wpList_range_own _ rfl _ 68 rfl 29 3 lawU Try.underlying68 _ ba _ D rfl hown ?_; intro w3 hrg3 hg3 hs3)
        | go_in)
      go_frame
      have hK3 : Keeps [] w2 w3 := Keeps.grown hg3
      have H3 := Lib.hid (h2.out.keeps hK3 (by simp))
      have hFh := Lib.hid hF
      have hsz := hown.size_le
      have hmx : Hid ((stepS s).waits.length = s.waits.length) := rfl
      have h0 : Hid (sofar s.lies s.waits (Maps.has D) = s.lies) := sofar_start hF (fun p hp => by have := (h2.out.ok.waits p hp).1; have h3 := h2.out.ok.size; have h4 : (stepS s).size = s.size := rfl; omega)
      have hKW : Hid (Keeps (dblk g bl ba vw) w w3) := (hK2.mono (by simp [dblk])).trans (hK3.mono (by simp))
      have hrlt := Lib.hid (h2.out.lt)
      have hsw : Hid (w.heap.size ≤ w2.heap.size) := hK2.size
      obtain ⟨rr, hrr⟩ : ∃ rr, Hid (rr = w2.heap.size) := ⟨_, rfl⟩
      rw [← hrr.out] at hrg3
      have hrn : Hid (rr ∉ dblk g bl ba vw) := fun hm => by have := (hrlt.out _ hm).2; have := hrr.out; omega
      rw [← hrr.out]
      go_loopw [3] (fun a3 wr => ∃ (left : Lit → Bool) (cnt m : Nat), wr.ranges Try.prog 29 heldV ba rr (stepS s).waits.length D left cnt ∧ Dv B wr g bl ba vw m { stepS s with lies := sofar s.lies s.waits left } ∧ m + cnt ≤ nl + s.waits.length ∧ Keeps (rr :: dblk g bl ba vw) w3 wr) (fun _ wr => wr.rangeLeft ba rr)
      case atStart => exact ⟨_, _, nl, hrg3, by rw [h0.out]; exact H3.out, by have := hmx.out; omega, Keeps.refl _ _⟩
      case round =>
        clear H3 hrg3 h0
        obtain ⟨left, cnt, m, hrg, H, hcm, hKl⟩ := hrel
        replace H := Lib.hid H
        go_wp2_with (first
          | (at_next; refine wpList_next_hv _ rfl _ rfl ba rr _ D left cnt rfl hrg ?_ ?_)
          | go_in)
        · intro hdone
          have e := sofar_end (f := s.lies) (ws := s.waits) hdone
          rw [e] at H
          have hq := Lib.hid (quiet_any H.out)
          clear hrg hdone e
          go_wp2_with fail
          refine hq.out.mono ?_
          rintro e w5 ⟨rfl, H5, hK5⟩
          have hKf := Lib.hid ((keeps_more hKW.out hKl (by rw [hrr.out]; exact hsw.out)).trans (hK5.mono (by simp [dblk])))
          have hwr := Lib.hid (keeps_more hKW.out hKl (by rw [hrr.out]; exact hsw.out)).size
          replace H5 := Lib.hid H5
          clear hK5 hq hKl
          go_wp2
          exact hR.out _ _ ⟨wr.heap.size, .slice none 0 0, m, rfl, H5.out, by simp; omega, hKf.out, .inr hwr.out, .inr fun k hk => by simp [Value.ownBlock] at hk⟩
        · intro x c w4 cnt4 hx hlx hat hrg4 hlt4 hK4 hen
          obtain ⟨i, hi, rfl⟩ := key_of hFh.out hx hat
          have hi : lastOf s.waits x = some i := hi
          obtain ⟨b, hb⟩ := lastOf_get _ _ _ hi
          have H4 := H.out.keeps hK4 (fun k hk => by simp; exact fun e => hrn.out (e ▸ hk))
          have hbs : Sec b := (H.out.ok.waits (x, b) (List.mem_of_getElem? hb)).2
          obtain ⟨k, cap, LL, hvw, hk, hLl, hLd, -, -⟩ := H4.drew.wait hb
          obtain ⟨w5, hrun5, H5, hK5⟩ := H4.drew.lay (by omega) hx hbs
          have hst := sofar_step s.lies s.waits left hx hi hb
          have c1 := H4.drew.c1
          have c2 := H4.drew.c2
          rw [hvw] at c2
          have hrg5 := ranges_keeps hrg4 hK5.undrew (by simp; exact fun e => H4.ne3 e.symm) (by simp; exact fun e => hrn.out (by rw [e]; simp [dblk]))
          have hiI : (i : Int) < ((stepS s).waits.length : Int) := by have := (List.getElem?_eq_some_iff.1 hb).1; show (i : Int) < (s.waits.length : Int); omega
          have hxI : (x : Int) ≤ 4294967295 := by omega
          have hbl5 := Lib.hid (show (bv b).length = 512 by rw [bv_length]; exact hbs.1)
          have hmea : w5.rangeLeft ba rr < wr.rangeLeft ba rr := by rw [hrg5.left_eq, hrg.left_eq]; exact hlt4
          replace hst := Lib.hid hst
          replace hLd := Lib.hid hLd
          replace hLl := Lib.hid hLl
          replace H5 := Lib.hid H5
          replace hrg5 := Lib.hid hrg5
          have hKl5 : Hid (Keeps (rr :: dblk g bl ba vw) w3 w5) := (hKl.trans (hK4.mono (by simp))).trans (hK5.undrew.mono (by simp [dblk]))
          have hcm5 : m + 1 + cnt4 ≤ nl + s.waits.length := by omega
          clear hat hlx hrg4 hK4 hi hb hvw H4 hbs hK5 hrg hx hlt4 hKl hcm
          change Hid ((LL.drop (i * 513 + 1)).take 512 = bv b) at hLd
          unfold secV at hrun5
          generalize hNW : (stepS s).waits.length = nw at *
          replace hNW := Lib.hid hNW
          go_wp2
          go_still_tail 13, (by kernel_rfl)
          refine wpStill_loadA rfl 72 (.tmp 37) rfl 512 arrS' k (i * 513 + 1) rfl 74 LL hk (by have := hLl.out; omega) (bv b) hLd.out ?_
          refine wpStill_nil ?_
          change wpList _ _ _ _ _ w4.drew
          clear c1 c2
          go_wp2
          go_roundw
          case rel => exact ⟨_, _, m + 1, by rw [hNW.out]; exact hrg5.out, by rw [← hst.out]; exact H5.out, hcm5, hKl5.out⟩
          case measure => exact hmea
end Go.Proofs.Ytkpefffephbhnaa
