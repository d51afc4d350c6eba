/- The device: Write. -/
import Derived.Test.YtkpefffephbhnaaDevB
import Derived.Test.YtkpefffephbhnaaReg
import Derived.Test.YtkpefffephbhnaaAppG
import Derived.Test.YtkpefffephbhnaaRefN0
import Derived.Deep.Cut
set_option linter.unusedVariables false
set_option linter.unusedSimpArgs false
namespace Go.Proofs.PlainDev
/-- What a write does, and answers. -/
def writeS (s : Dst) (a : Nat) (l : List Nat) : Dst × Int :=
  if mayE s a l.length = 0 then
    (if s.down then (s, 7) else if (stepS s).down then (stepS s, 7) else ({ stepS s with waits := s.waits ++ [(a, l)] }, 0))
  else (s, mayE s a l.length)
end Go.Proofs.PlainDev
namespace Go.Proofs.Ytkpefffephbhnaa
open Go.RowKit Go.Maps
open Go.Proofs.PlainDev

theorem arrS : ArrTy Try.prog 72 512 := ⟨_, Try.underlying72, rfl, by kernel_rfl⟩
theorem built_fill {P : Program} {t : TypeId} {fs : Array Field} {it : TypeInfo} {z : List Value} {pl : List (Nat × Nat)} (hi : P.info? t = some it) (hu : P.underlying t = some (.struct fs)) (hz : it.zero = some (.agg z.toArray))
    (hp : fs.toList.mapM (fun f => (P.info? f.type).map fun i => (f.offset, i.size)) = some pl) (ps : List (Nat × Value)) : ∃ place : Nat → Option (Nat × Nat), (∀ i, place i = pl[i]?) ∧ P.built t ps = Instr.fill place z.toArray ps := by
  unfold Program.built
  simp only [hi, hu, hz, hp]
  exact ⟨_, fun i => by simp, rfl⟩
theorem fldD2 (g : Nat) (w : World) : (Instr.fieldAt 71 (.pointer (some ⟨g, 0, none⟩)) 2).run Try.prog w = .ok (.pointer (some ⟨g, 2, none⟩)) w := by kernel_rfl
theorem wr_zero : (Try.prog.info? 74).bind (·.zero) = some (.agg (.int .u32 0 :: bv (zeros 512) : List Value).toArray) := by kernel_rfl
theorem wr_size : (Try.prog.info? 74).map (fun i => (i.size, i.bytes)) = some (513, 516) := by kernel_rfl
theorem wr_info : ∃ i z, Try.prog.info? 74 = some i ∧ i.zero = some z ∧ z.cells.size = 513 ∧ i.size = 513 ∧ i.bytes = 516 := by
  have hz := wr_zero
  have hs := wr_size
  cases hi : Try.prog.info? 74 with
  | none => rw [hi] at hz; cases hz
  | some it =>
    rw [hi] at hz hs
    simp only [Option.map_some, Option.some.injEq, Prod.mk.injEq] at hs
    exact ⟨it, _, rfl, hz, by simp [Value.cells], hs.1, hs.2⟩
theorem built_write (a : Nat) (l : List Nat) (hl : l.length = 512) : Try.prog.built 74 [(0, .int .u32 (a : Int)), (1, .agg (bv l).toArray)] = some (.int .u32 (a : Int) :: bv l : List Value).toArray := by
  have hz := wr_zero
  have hZ : (bv (zeros 512)).length = 512 := by rw [bv_length]; exact List.length_replicate
  generalize bv (zeros 512) = Z at *
  have hL : (bv l).length = 512 := by rw [bv_length, hl]
  generalize bv l = L at *
  cases hi : Try.prog.info? 74 with
  | none => rw [hi] at hz; cases hz
  | some it =>
    rw [hi] at hz
    obtain ⟨place, hpl, e⟩ := built_fill (pl := [(0, 1), (1, 512)]) hi Try.underlying74 hz (by kernel_rfl) [(0, .int .u32 (a : Int)), (1, .agg L.toArray)]
    have h1 : putL (.int .u32 0 :: Z) 0 [.int .u32 (a : Int)] = .int .u32 (a : Int) :: Z := rfl
    have h2 : putL (.int .u32 (a : Int) :: Z) 1 L = .int .u32 (a : Int) :: L := by
      unfold putL
      rw [List.drop_of_length_le (by rw [List.length_cons]; omega), List.append_nil]
      rfl
    rw [e, fill_one (off := 0) (hpl 0) _ _ rfl (by rw [List.length_cons]; omega), h1, fill_agg (off := 1) (size := 512) (hpl 1) _ L hL (by rw [List.length_cons]; omega), h2]
    rfl
section
variable {w w' : World} {G : List Nat}
theorem Keeps.undrew (h : Keeps G w.drew w') : Keeps G w w' := ⟨h.os, h.tape, h.output, h.size, h.block⟩
theorem keeps_none (h : Keeps [] w w') : Keeps G w w' := h.mono (by simp)
theorem rng_keeps {g o : Nat} {cs : List Value} (h : w.rangeAt g o cs) (hK : Keeps G w w') (hg : g ∉ G) : w'.rangeAt g o cs := fun j v hv => by
  have h1 := h j v hv
  exact (World.cell?_of_block (hK.block g (cell_lt h1) hg)).trans h1
end
/-- A slice lies outside some blocks. -/
def Apart (v : Value) (G : List Nat) : Prop := ∀ A n c, v = .slice (some A) n c → A.block ∉ G
/-- What Write answers. -/
def RetWr (B : Nat) (g bl ba : Nat) (vw : Value) (nl : Nat) (r : Dst × Int) (w : World) (e : Ending) (w' : World) : Prop :=
  ∃ vw', e = .returned (.int .i64 r.2) ∧ Dv B w' g bl ba vw' nl r.1 ∧ Keeps (dblk g bl ba vw) w w' ∧ Moved w.heap.size vw.ownBlock vw'.ownBlock
theorem keeps_one {G : List Nat} {k : Nat} {w w' : World} (h : Keeps [k] w w') (hk : k ∈ G) : Keeps G w w' :=
  ⟨h.os, h.tape, h.output, h.size, fun b hb hn => h.block b hb (by simp; rintro rfl; exact hn hk)⟩
theorem g_mem (g bl ba : Nat) (vw : Value) : g ∈ dblk g bl ba vw := by simp [dblk]
set_option maxRecDepth 100000 in
set_option maxHeartbeats 2000000 in
theorem write_core {B : Nat} {w : World} {g bl ba : Nat} {vw : Value} {nl : Nat} {s : Dst} (h : Dv B w g bl ba vw nl s) (a : Nat) (ha : (a : Int) ≤ 4294967295) (A : Option Addr) (n c : Nat) (l : List Nat) (hn : n = l.length) (hs : Sl w (.slice A n c) (bv l)) (bl8 : ∀ x ∈ l, x < 256)
    (hap : Apart (.slice A n c) (dblk g bl ba vw)) (hnw : (s.waits.length : Int) ≤ 100000) :
    Calls Try.prog 12 #[.pointer (some ⟨g, 0, none⟩), .int .u32 (a : Int), .slice A n c] w (RetWr B g bl ba vw nl (writeS s a l) w) := by
  have hmay := Lib.hid (may_any h a ha A n c)
  rw [show mayE s a n = mayE s a l.length from by rw [hn]] at hmay
  replace hn := Lib.hid hn
  have hR : Hid (∀ e w', (∃ vw', e = .returned (.int .i64 (writeS s a l).2) ∧ Dv B w' g bl ba vw' nl (writeS s a l).1 ∧ Keeps (dblk g bl ba vw) w w' ∧ Moved w.heap.size vw.ownBlock vw'.ownBlock) → RetWr B g bl ba vw nl (writeS s a l) w e w') := fun e w' h => h
  generalize RetWr B g bl ba vw nl (writeS s a l) w = RX at *
  unfold writeS at hR
  by_cases hm : mayE s a l.length = 0
  · rw [if_pos hm] at hR
    rw [hm] at hmay
    cases hd : s.down with
    | true =>
      rw [hd, if_pos rfl] at hR
      have c5 := h.c5
      rw [hd] at c5
      have H := Lib.hid h
      clear h hm
      go_enter Try.func12, Try.ntmps12
      go_wp2_with fail
      refine hmay.out.mono ?_
      rintro e w1 ⟨rfl, rfl⟩
      go_wp2
      exact hR.out _ _ ⟨vw, rfl, H.out, Keeps.refl _ _, Moved.refl _ _⟩
    | false =>
      have hst := Lib.hid (step_any h hd)
      rw [hd, if_neg (by simp)] at hR
      have c5 := h.c5
      rw [hd] at c5
      cases hd2 : (stepS s).down with
      | true =>
        rw [hd2, if_pos rfl] at hR
        rw [hd2] at hst
        clear h hm
        go_enter Try.func12, Try.ntmps12
        go_wp2_with (first
          | (go_at_call 33; refine hmay.out.mono ?_; rintro e w1 ⟨rfl, rfl⟩)
          | (go_at_call 34; refine hst.out.mono ?_; rintro e w2 ⟨rfl, h2, hK2⟩))
        exact hR.out _ _ ⟨vw, rfl, h2, keeps_one hK2 (g_mem _ _ _ _), by exact .inl rfl⟩
      | false =>
        rw [hd2, if_neg (by simp)] at hR
        rw [hd2] at hst
        have hall : l.length = 512 ∧ a < s.size := by
          unfold mayE at hm
          by_cases h1 : a < s.size
          · rw [if_pos h1] at hm
            by_cases h2 : l.length = 512
            · exact ⟨h2, h1⟩
            · rw [if_neg h2] at hm; cases hm
          · rw [if_neg h1] at hm; cases hm
        obtain ⟨hl512, has⟩ := hall
        obtain rfl : n = 512 := by have := hn.out; omega
        obtain ⟨A0, c0, e0, hc1, hc2, hc3⟩ := id hs
        obtain ⟨gA, oA, rfl, hcell⟩ := hc3 (by rw [bv_length]; omega)
        injection e0 with e1 e2 e3
        subst e1 e3
        clear e2 hc1 hc2 hc3 hcell
        have hl5 := Lib.hid (show (bv l).length = 512 by simp [hl512])
        have hbw := Lib.hid (built_write a l hl512)
        have hapA : Hid (gA ∉ dblk g bl ba vw) := hap _ _ _ rfl
        have hok2 := Lib.hid (show a < s.size ∧ Sec l from ⟨has, hl512, bl8⟩)
        have hBw := Lib.hid (Nat.le_of_lt (Nat.lt_of_le_of_lt h.gB h.blk.lt))
        replace hs := Lib.hid hs
        clear hl512 has hn bl8 hap
        clear h hm
        go_enter Try.func12, Try.ntmps12
        go_upto_region 6 with (first
          | (go_at_call 33; refine hmay.out.mono ?_; rintro e w1 ⟨rfl, rfl⟩)
          | (go_at_call 34; refine hst.out.mono ?_; rintro e w2 ⟨rfl, h2, hK2⟩))
        have c3 := h2.drew.c3
        have c2 := h2.drew.c2
        obtain ⟨Aw, nw, cw, hvw⟩ : ∃ A n c, vw = .slice A n c := by
          rcases h2.row.2 with ⟨e, _⟩ | ⟨g', cap, cur, e, _⟩
          · exact ⟨_, _, _, e⟩
          · exact ⟨_, _, _, e⟩
        subst hvw
        have hwl : Hid ((stepS s).waits.length ≤ 100000) := by show s.waits.length ≤ 100000; omega
        obtain ⟨w3, hrun3, m3, k3⟩ := h2.drew.last.put Try.underlying68 (by have := hnw; show (stepS s).waits.length < 1000000; show s.waits.length < 1000000; omega) (a := a) (by omega) (.int .i64 (nw : Int))
        have hsep2 : Hid (Sl w2 (.slice (some ⟨gA, oA, none⟩) 512 c) (bv l)) := hs.out.keeps hK2 (fun A' n' c' e => by cases e; simp; exact fun e2 => hapA.out (e2 ▸ g_mem _ _ _ _))
        replace h2 := Lib.hid h2
        replace m3 := Lib.hid m3
        replace k3 := Lib.hid k3
        go_wp2
        go_still_tail 10, (by kernel_rfl)
        change wpList _ _ _ _ _ w2.drew
        go_upto_region 7 with fail
        obtain ⟨i0, z0, hi0, hz0, hz2, hz1, hz3⟩ := wr_info
        have hg3 := h2.out.drew.blk.keeps k3.out (by simp; exact h2.out.ne2)
        have hli := Lib.hid (h2.out.drew.lies.keeps k3.out (by simp; exact h2.out.ne3))
        have hrow := Lib.hid (ownsRow_keeps h2.out.drew.row k3.out (fun k hk => by simp; exact (h2.out.ne4 k hk).2.2))
        have hrg3 : w3.rangeAt gA oA (bv l) := by
          obtain ⟨A0, c0, e0, hc1, hc2, hc3⟩ := id hsep2.out
          obtain ⟨g9, o9, e9, hcell⟩ := hc3 (by rw [hl5.out]; decide)
          injection e0 with e1 e2 e3
          rw [← e1] at e9
          injection e9 with e9
          injection e9 with e4 e5
          subst e4 e5
          exact rng_keeps (w := w2.drew) (fun j v hv => hcell j v hv) k3.out (by simp; exact fun e => hapA.out (by rw [e]; simp [dblk]))
        have hK3 : Keeps (dblk g bl ba (.slice Aw nw cw)) w w3 := (keeps_one hK2 (g_mem _ _ _ _)).trans ((keeps_one k3.out (by simp [dblk])).undrew)
        clear c2 c3 hrun3
        have c2 : w3.drew.cell? ⟨g, 2, none⟩ = some (.slice Aw nw cw) := (hg3.drew.cell 2).trans rfl
        replace hK3 := Lib.hid hK3
        replace hg3 := Lib.hid hg3
        refine held_drew2 (S := fun w' => w'.rangeAt gA oA (bv l)) #[false, false, false, false, false, false, false, false, false, false, false, false, false, false, false] (by kernel_rfl) (by kernel_rfl) hrg3 (fun hH => ?_)
        refine takeH_move (o := ⟨some 34, _, _, _, _, _⟩) (i := 0) rfl (by kernel_rfl) (by kernel_rfl) (by kernel_rfl) (fun _ _ _ _ h => h) rfl (.tmp 0) rfl (.pointer (some ⟨g, 0, none⟩)) rfl hH ?_
        simp only [Act.put, List.setIfInBounds_toArray, List.set_cons_zero, List.set_cons_succ, Nat.zero_add, decide_true, beq_self_eq_true]
        refine takeH_move (o := ⟨some 35, _, _, _, _, _⟩) (i := 1) rfl (by kernel_rfl) (by kernel_rfl) (by kernel_rfl) (fun _ _ _ _ h => h) rfl (.tmp 0) rfl (.pointer (some ⟨g, 0, none⟩)) rfl hH ?_
        simp only [Act.put, List.setIfInBounds_toArray, List.set_cons_zero, List.set_cons_succ, Nat.zero_add, decide_true, beq_self_eq_true]
        refine takeH_S (o := ⟨some 36, _, _, _, _, _⟩) (i := 2) rfl (by kernel_rfl) (by kernel_rfl) (by kernel_rfl) (fun _ _ _ _ h => h) rfl (.pointer (some ⟨g, 0, none⟩)) (fun w _ => by go_simp) hH ?_
        simp only [Act.put, List.setIfInBounds_toArray, List.set_cons_zero, List.set_cons_succ, Nat.zero_add, decide_true, beq_self_eq_true]
        refine takeH_field (o := ⟨some 37, _, _, _, _, _⟩) (i := 3) rfl (by kernel_rfl) (by kernel_rfl) (by kernel_rfl) (fun _ _ _ _ h => h) rfl 71 (.tmp 36) 2 rfl g 2 rfl (fun w => fldD2 _ w) hH ?_
        simp only [Act.put, List.setIfInBounds_toArray, List.set_cons_zero, List.set_cons_succ, Nat.zero_add, decide_true, beq_self_eq_true]
        refine takeH_move (o := ⟨some 39, _, _, _, _, _⟩) (i := 5) rfl (by kernel_rfl) (by kernel_rfl) (by kernel_rfl) (fun _ _ _ _ h => h) rfl (.tmp 1) rfl (.int .u32 (a : Int)) rfl hH ?_
        simp only [Act.put, List.setIfInBounds_toArray, List.set_cons_zero, List.set_cons_succ, Nat.zero_add, decide_true, beq_self_eq_true]
        refine takeH_move (o := ⟨some 40, _, _, _, _, _⟩) (i := 6) rfl (by kernel_rfl) (by kernel_rfl) (by kernel_rfl) (fun _ _ _ _ h => h) rfl (.tmp 2) rfl (.slice (some ⟨gA, oA, none⟩) 512 c) rfl hH ?_
        simp only [Act.put, List.setIfInBounds_toArray, List.set_cons_zero, List.set_cons_succ, Nat.zero_add, decide_true, beq_self_eq_true]
        refine takeH_arrayAt (o := ⟨some 41, _, _, _, _, _⟩) (i := 7) rfl (by kernel_rfl) (by kernel_rfl) (by kernel_rfl) (fun _ _ _ _ h => h) rfl 72 (.tmp 40) rfl 512 5 Try.underlying72 _ _ _ rfl (Nat.le_refl _) hH ?_
        simp only [Act.put, List.setIfInBounds_toArray, List.set_cons_zero, List.set_cons_succ, Nat.zero_add, decide_true, beq_self_eq_true]
        refine takeH_load (o := ⟨some 42, _, _, _, _, _⟩) (i := 8) rfl (by kernel_rfl) (by kernel_rfl) (by kernel_rfl) (fun _ _ _ _ h => h) rfl 72 (.tmp 41) rfl 512 arrS gA oA rfl (bv l) hl5.out (fun w h => h) hH ?_
        simp only [Act.put, List.setIfInBounds_toArray, List.set_cons_zero, List.set_cons_succ, Nat.zero_add, decide_true, beq_self_eq_true]
        refine takeH_buildV (o := ⟨some 43, _, _, _, _, _⟩) (i := 9) rfl (by kernel_rfl) (by kernel_rfl) (by kernel_rfl) (fun _ _ _ _ h => h) rfl 74 _ rfl _ rfl (.int .u32 (a : Int) :: bv l) hbw.out hH ?_
        simp only [Act.put, List.setIfInBounds_toArray, List.set_cons_zero, List.set_cons_succ, Nat.zero_add, decide_true, beq_self_eq_true]
        apply meet3 (fun (g5 : Nat) (_ : Nat) (w5 : World) => Blk w5 g5 74 (.int .u32 (a : Int) :: bv l) ∧ Keeps [] w3.drew w5)
        · intro key
          obtain ⟨u0, -⟩ : ∃ g : Nat, g = 0 := ⟨_, rfl⟩
          refine wpAnyH_ready (rs := [4, 10]) (by kernel_rfl) (by simp) ?_
          refine AllReadyH.cons rfl (fun K1 hK1 => ?_) (AllReadyH.cons rfl (fun K1 hK1 => ?_) AllReadyH.nil)
          · rw [if_pos (by rfl)]
            go_wp2_with fail
            refine hK1.out _ _ hH (fun hH => ?_)
            clear hK1 K1
            simp only [Act.put, List.getElem_toArray, List.getElem_cons_succ, List.getElem_cons_zero, List.setIfInBounds_toArray, List.set_cons_zero, List.set_cons_succ, Nat.zero_add]
            refine wpAnyH_ready (rs := [10]) (by kernel_rfl) (by simp) ?_
            refine AllReadyH.cons rfl (fun K1 hK1 => ?_) AllReadyH.nil
            rw [if_pos (by rfl)]
            refine wp_buildOne 69 74 (.tmp 43) rfl 513 Try.underlying69 (by kernel_rfl) (by kernel_rfl) (by decide) (by decide) (.int .u32 (a : Int) :: bv l) rfl (by simp only [List.length_cons]; rw [hl5.out]) ?_
            intro w5 h5 hK5
            have hH5 : w5.rangeAt gA oA (bv l) := rng_keeps hH hK5 (by simp)
            refine hK1.out _ _ hH5 (fun hH => ?_)
            clear hK1 K1
            simp only [Act.put, List.getElem_toArray, List.getElem_cons_succ, List.getElem_cons_zero, List.setIfInBounds_toArray, List.set_cons_zero, List.set_cons_succ, Nat.zero_add]
            generalize w3.drew.heap.size = g5 at *
            exact key g5 u0 w5 ⟨h5, hK5⟩
          · rw [if_pos (by rfl)]
            refine wp_buildOne 69 74 (.tmp 43) rfl 513 Try.underlying69 (by kernel_rfl) (by kernel_rfl) (by decide) (by decide) (.int .u32 (a : Int) :: bv l) rfl (by simp only [List.length_cons]; rw [hl5.out]) ?_
            intro w5 h5 hK5
            have hH5 : w5.rangeAt gA oA (bv l) := rng_keeps hH hK5 (by simp)
            have c25 : w5.cell? ⟨g, 2, none⟩ = some (.slice Aw nw cw) := ((hg3.out.drew.keeps hK5 (by simp)).cell 2).trans rfl
            refine hK1.out _ _ hH5 (fun hH => ?_)
            clear hK1 K1
            simp only [Act.put, List.getElem_toArray, List.getElem_cons_succ, List.getElem_cons_zero, List.setIfInBounds_toArray, List.set_cons_zero, List.set_cons_succ, Nat.zero_add]
            generalize w3.drew.heap.size = g5 at *
            refine wpAnyH_ready (rs := [4]) (by kernel_rfl) (by simp) ?_
            refine AllReadyH.cons rfl (fun K1 hK1 => ?_) AllReadyH.nil
            rw [if_pos (by rfl)]
            go_wp2_with fail
            refine hK1.out _ _ hH5 (fun hH => ?_)
            clear hK1 K1
            simp only [Act.put, List.getElem_toArray, List.getElem_cons_succ, List.getElem_cons_zero, List.setIfInBounds_toArray, List.set_cons_zero, List.set_cons_succ, Nat.zero_add]
            exact key g5 u0 w5 ⟨h5, hK5⟩
        · intro g5 _ w5 hF
          obtain ⟨h5, hK5⟩ := hF
          have hH5 : w5.rangeAt gA oA (bv l) := rng_keeps (w := w3.drew) hrg3 hK5 (by simp)
          have hH := hH5
          have hrow5 := Lib.hid (ownsRow_keeps (w := w3.drew) hrow.out hK5 (fun _ _ => by simp))
          have hg5 := hg3.out.drew.keeps hK5 (by simp)
          have hli5 := Lib.hid (hli.out.drew.keeps hK5 (by simp))
          have hla5 := Lib.hid (m3.out.drew.keeps hK5 (by simp))
          have hKa := hK3.out.trans (keeps_none hK5).undrew

          refine wpAnyH_ready (rs := [11]) (by kernel_rfl) (by simp) ?_
          refine AllReadyH.cons rfl (fun K1 hK1 => ?_) AllReadyH.nil
          rw [if_pos (by rfl)]
          refine wp_append_row2 (.tmp 38) (.tmp 44) 69 rfl B 74 i0 z0 513 i0.bytes Try.underlying69 hi0 hz0 hz1 rfl hz2 (by decide) (.slice Aw nw cw) _ _ rfl hrow5.out ⟨g5, 0, none⟩ 1 1 (.int .u32 (a : Int) :: bv l) rfl (by simp only [List.length_cons]; rw [hl5.out]) (fun j u hu => by rw [h5.cellAdd, Nat.zero_add]; exact hu) ?_ ?_ ?_ ?_ ?_
          · intro u hu
            rcases List.mem_cons.1 hu with rfl | hu
            · rfl
            · exact ones_bv l u hu
          · have := hwl.out; unfold maxLen; omega
          · rw [hz3]; have := hwl.out; omega
          · exact Nat.le_trans hBw.out hKa.size
          intro v6 w6 own6 gr6 mv6
          have hK6 := Keeps.grown gr6
          have hne4 := h2.out.ne4
          have hg6 := hg5.keeps hK6 (fun hm => by rw [Option.mem_toList] at hm; exact (hne4 _ hm).1 rfl)
          have hli6 := Lib.hid (hli5.out.keeps hK6 (fun hm => by rw [Option.mem_toList] at hm; exact (hne4 _ hm).2.1 rfl))
          have hla6 := Lib.hid (hla5.out.keeps hK6 (fun hm => by rw [Option.mem_toList] at hm; exact (hne4 _ hm).2.2 rfl))
          have hH6 : w6.rangeAt gA oA (bv l) := rng_keeps hH5 hK6 (fun hm => by rw [Option.mem_toList] at hm; exact hapA.out (mem_dblk.2 (.inr (.inr (.inr hm)))))
          have hKb : Keeps (dblk g bl ba (.slice Aw nw cw)) w w6 := hKa.trans (hK6.mono (fun k hm => by rw [Option.mem_toList] at hm; exact mem_dblk.2 (.inr (.inr (.inr hm)))))
          obtain ⟨A6, n6, c6, hv6⟩ : ∃ A n c, v6 = .slice A n c := by
            rcases own6.2 with ⟨e, _⟩ | ⟨g', cap, cur, e, _⟩
            · exact ⟨_, _, _, e⟩
            · exact ⟨_, _, _, e⟩
          subst hv6
          have hne6 : ∀ k, (Value.slice A6 n6 c6).ownBlock = some k → k ≠ g ∧ k ≠ bl ∧ k ≠ ba := fun k hk => by
            rcases mv6 with e | e
            · exact hne4 k (by rw [← e]; exact hk)
            · have h1 := e k hk
              have h3 := hg5.lt
              have h4 := hli5.out.lt
              have h5 := hla5.out.lt
              omega
          refine hK1.out _ _ hH6 (fun hH => ?_)
          clear hK1 K1
          simp only [Act.put, List.getElem_toArray, List.getElem_cons_succ, List.getElem_cons_zero, List.setIfInBounds_toArray, List.set_cons_zero, List.set_cons_succ, Nat.zero_add]
          refine takeH_S (o := ⟨some 46, _, _, _, _, _⟩) (i := 12) rfl (by kernel_rfl) (by kernel_rfl) (by kernel_rfl) (fun _ _ _ _ h => h) rfl (.pointer (some ⟨g, 0, none⟩)) (fun w _ => by go_simp) hH ?_
          simp only [Act.put, List.setIfInBounds_toArray, List.set_cons_zero, List.set_cons_succ, Nat.zero_add, decide_true, beq_self_eq_true]
          refine takeH_field (o := ⟨some 47, _, _, _, _, _⟩) (i := 13) rfl (by kernel_rfl) (by kernel_rfl) (by kernel_rfl) (fun _ _ _ _ h => h) rfl 71 (.tmp 46) 2 rfl g 2 rfl (fun w => fldD2 _ w) hH ?_
          simp only [Act.put, List.setIfInBounds_toArray, List.set_cons_zero, List.set_cons_succ, Nat.zero_add, decide_true, beq_self_eq_true]
          have c6' : w6.cell? ⟨g, 2, none⟩ = some (.slice Aw nw cw) := (hg6.cell 2).trans rfl
          have f6' := hg6.frozen 2
          have hgf := Lib.hid (hg6.set_ 2 (.slice A6 n6 c6))
          have hKf : Hid (Keeps [g] w6 (w6.setCell ⟨g, 2, none⟩ (.slice A6 n6 c6))) := (Keeps.refl [g] w6).setCell (p := ⟨g, 2, none⟩) (by simp) _
          have own6' := Lib.hid own6
          have mv6' := Lib.hid mv6
          have hKb' := Lib.hid hKb
          have hsz5 := Lib.hid hKa.size
          have hnwl : Hid (nw = s.waits.length) := by
            rcases hrow.out.2 with ⟨e, e2⟩ | ⟨g', cap, cur, e, _⟩
            · cases e; exact e2.symm
            · cases e; rfl
          clear own6 gr6 mv6 hK6 hKb h5 hg5 hg6 hKa
          refine wpAnyH_ready (rs := [14]) (by kernel_rfl) (by simp) ?_
          refine AllReadyH.cons rfl (fun K1 hK1 => ?_) AllReadyH.nil
          rw [if_pos (by rfl)]
          go_wp2_with fail
          have hHf := rng_keeps hH6 hKf.out (by simp; exact fun e => hapA.out (by rw [e]; simp [dblk]))
          refine hK1.out _ _ hHf (fun hH => ?_)
          clear hK1 K1
          refine wpAnyH_done (by kernel_rfl) ?_ _
          clear c6' f6' hH hHf hH6 hH5
          go_wp2
          refine hR.out _ _ ⟨.slice A6 n6 c6, rfl, ?_, hKb'.out.trans (keeps_one hKf.out (g_mem _ _ _ _)), ?_⟩
          · refine ⟨⟨h2.out.ok.size, h2.out.ok.lies, ?_, h2.out.ok.left⟩, hgf.out, hli6.out.keeps hKf.out (by simp; exact fun e => h2.out.ne1 e.symm), ?_, ?_, h2.out.gB, h2.out.blB, h2.out.baB, h2.out.ne1, h2.out.ne2, h2.out.ne3, hne6⟩
            · intro p hp
              rcases List.mem_append.1 hp with hp | hp
              · exact h2.out.ok.waits p hp
              · rw [List.mem_singleton] at hp
                subst hp
                exact hok2.out
            · have hm := hla6.out.keeps hKf.out (by simp; exact fun e => h2.out.ne2 e.symm)
              rw [hnwl.out] at hm
              show Fm _ ba (fun x => (lastOf (s.waits ++ [(a, l)]) x).map (fun (i : Nat) => (Value.int .i64 (i : Int)))) (s.waits ++ [(a, l)]).length
              rw [List.length_append]
              have hF : (fun x => (lastOf (s.waits ++ [(a, l)]) x).map (fun (i : Nat) => (Value.int .i64 (i : Int)))) = fset (fun x => (lastOf s.waits x).map (fun (i : Nat) => (Value.int .i64 (i : Int)))) a (.int .i64 (s.waits.length : Int)) := by
                funext x
                unfold fset
                rw [lastOf_append]
                by_cases e : x = a
                · rw [if_pos e, if_pos e]; rfl
                · rw [if_neg e, if_neg e]
              rw [hF]
              exact hm
            · have hr := ownsRow_keeps own6'.out hKf.out (fun k hk => by simp; exact (hne6 k hk).1)
              show World.ownsRow _ B 74 513 _ (s.waits ++ [(a, l)]).length (wcl (s.waits ++ [(a, l)]))
              rw [List.length_append, show wcl (s.waits ++ [(a, l)]) = wcl s.waits ++ (.int .u32 (a : Int) :: bv l) from by simp [wcl]]
              exact hr
          · rcases mv6'.out with e | e
            · exact .inl e
            · exact .inr fun k hk => Nat.le_trans hsz5.out (e k hk)
  · rw [if_neg hm] at hR
    have H := Lib.hid h
    have hne : ¬ (mayE s a l.length == 0) = true := by simpa using hm
    have hm2 : mayE s a l.length = 2 := by
      unfold mayE at hm ⊢
      split
      · rename_i h1; rw [if_pos h1] at hm; split
        · rename_i h2; rw [if_pos h2] at hm; exact absurd rfl hm
        · rfl
      · rfl
    rw [hm2] at hmay hR
    clear h hm hne hm2
    go_enter Try.func12, Try.ntmps12
    go_wp2_with fail
    refine hmay.out.mono ?_
    rintro e w1 ⟨rfl, rfl⟩
    go_wp2
    exact hR.out _ _ ⟨vw, rfl, H.out, Keeps.refl _ _, Moved.refl _ _⟩
end Go.Proofs.Ytkpefffephbhnaa
