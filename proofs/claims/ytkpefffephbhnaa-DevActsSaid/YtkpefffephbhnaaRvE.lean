/- The reference's device: Write. -/
import Derived.Test.YtkpefffephbhnaaRvD
set_option linter.unusedVariables false
set_option linter.unusedSimpArgs false
namespace Go.Proofs.Ytkpefffephbhnaa
open Go.RowKit Go.Maps
open Go.Proofs.PlainDev

/-- Four things that meet. -/
theorem meet4 {main : Prop} {α β γ δ : Type} (F : α → β → γ → δ → Prop) {G : α → β → γ → δ → Prop} (h1 : (∀ a b c d, F a b c d → G a b c d) → main) (h2 : ∀ a b c d, F a b c d → G a b c d) : main := h1 h2
/-- append of a row of structs onto a row of the call's own. -/
theorem wp_append_own2 {P : Program} {w : World} {o : Oper} {a : Act} {K : Act → World → Prop} {Q : Exit → Act → World → Prop} (s x : Operand) (t : TypeId)
    (ho : o.op = .call { callee := .builtin .append, args := #[s, x], argTypes := #[t, t] })
    (base B2 : Nat) (e : TypeId) (i : TypeInfo) (z : Value) (size bytes : Nat) (ht : P.underlying t = some (.slice e)) (hi : P.info? e = some i) (hz : i.zero = some z)
    (hsize : i.size = size) (hby : i.bytes = bytes) (hzs : z.cells.size = size) (hsz : 0 < size)
    (v : Value) (n : Nat) (xs : List Value) (hs : a.eval s = v) (hown : w.ownsRow base e size v n xs) (u : Value) (m : Nat) (ys : List Value) (hx : a.eval x = u) (hu : w.ownsRow B2 e size u m ys) (h1 : ∀ y ∈ ys, y.oneCell' = true)
    (h63 : n + m ≤ maxLen) (hbytes : (n + m) * bytes ≤ 140737488355328) (hbase : base ≤ w.heap.size)
    (h : ∀ v' w', w'.ownsRow base e size v' (n + m) (xs ++ ys) → w.grownBy w' v.ownBlock → Moved w.heap.size v.ownBlock v'.ownBlock → K (a.put o.dst v') w') : Oper.wp P o a w K Q := by
  rcases hu.2 with ⟨rfl, rfl⟩ | ⟨b, cap, cur, rfl, hb, hbk, hnc, hcm, hcs, htk⟩
  · have hy : ys = [] := List.eq_nil_of_length_eq_zero (by simpa using hu.1)
    subst hy
    have hr := run_append_nothing (P := P) w base t o.type e i size ht hi v n xs hown 0
    unfold Oper.wp
    simp [execOp, ho, resolve, invoke, builtin, hs, hx, hr, Result.andThen]
    exact h v w (by simpa using hown) (World.grownBy.refl w _) (Moved.refl _ _)
  · exact wp_append_row2 s x t ho base e i z size bytes ht hi hz hsize hby hzs hsz v n xs hs hown ⟨b, 0, none⟩ m cap ys hx hu.1 (hu.cells (g := b) rfl) h1 h63 hbytes hbase h
theorem wr6_size : (Try.prog.info? 80).map (fun i => (i.size, i.bytes)) = some (513, 516) := by kernel_rfl
theorem wr6_info : ∃ i z, Try.prog.info? 80 = some i ∧ i.zero = some z ∧ z.cells.size = 513 ∧ i.size = 513 ∧ i.bytes = 516 := by
  have hz := wr6_zero
  have hs := wr6_size
  cases hi : Try.prog.info? 80 with
  | none => rw [hi] at hz; cases hz
  | some it =>
    rw [hi] at hz hs
    simp only [Option.map_some, Option.some.injEq, Prod.mk.injEq] at hs
    exact ⟨it, _, rfl, hz, by simp [Value.cells], hs.1, hs.2⟩
theorem built_wr6 (a : Nat) : Try.prog.built 80 [(0, .int .u32 (a : Int))] = some (.int .u32 (a : Int) :: bv (zeros 512) : List Value).toArray := by
  have hz := wr6_zero
  generalize bv (zeros 512) = Z at *
  cases hi : Try.prog.info? 80 with
  | none => rw [hi] at hz; cases hz
  | some it =>
    rw [hi] at hz
    obtain ⟨place, hpl, e⟩ := built_fill (pl := [(0, 1), (1, 512)]) hi Try.underlying80 hz (by kernel_rfl) [(0, .int .u32 (a : Int))]
    have h1 : putL (.int .u32 0 :: Z) 0 [.int .u32 (a : Int)] = .int .u32 (a : Int) :: Z := rfl
    rw [e, fill_one (off := 0) (hpl 0) _ _ rfl (by rw [List.length_cons]; omega), h1]
    rfl
theorem put_wr6 (a : Nat) {l : List Nat} (hl : (bv l).length = 512) : putL (.int .u32 (a : Int) :: bv (zeros 512)) 1 (bv l) = .int .u32 (a : Int) :: bv l := by
  have hZ : (bv (zeros 512)).length = 512 := by rw [bv_length]; exact List.length_replicate
  generalize bv (zeros 512) = Z at *
  unfold putL
  rw [List.drop_of_length_le (by rw [List.length_cons]; omega), List.append_nil]
  rfl
theorem fldR1 (g : Nat) (w : World) : (Instr.fieldAt 64 (.pointer (some ⟨g, 0, none⟩)) 1).run Try.prog w = .ok (.pointer (some ⟨g, 1, none⟩)) w := by kernel_rfl
theorem wcl_ones (ws : List (Nat × List Nat)) : ∀ y ∈ wcl ws, y.oneCell' = true := by
  intro y hy
  unfold wcl at hy
  obtain ⟨p, -, hp⟩ := List.mem_flatMap.1 hy
  exact ones_wr p.1 p.2 y hp
set_option maxRecDepth 100000 in
theorem write6_err {B g : Nat} {w : World} {L : List Nat} {s : Dst} (h : Rx B w g L s) (a : Nat) (ha : (a : Int) ≤ 4294967295) (A : Option Addr) (n c : Nat) (he : mayE s a n = 2) :
    Calls Try.prog 32 #[.pointer (some ⟨g, 0, none⟩), .int .u32 (a : Int), .slice A n c] w fun e w' => e = .returned (.int .i64 2) ∧ w = w' := by
  obtain ⟨gl, vw, h, rfl⟩ := h
  have ht := Lib.hid (there6 h a ha)
  unfold mayE at he
  clear h
  by_cases hlt : a < s.size
  · rw [if_pos hlt] at he
    rw [decide_eq_true hlt] at ht
    have hn : ¬ (n : Int) = 512 := fun e => by rw [if_pos (by omega)] at he; cases he
    clear he hlt
    go_enter Try.func32, Try.ntmps32
    go_wp2_with fail
    refine ht.out.mono ?_
    rintro e w1 ⟨rfl, rfl⟩
    go_wp2
    go_ret
    exact ⟨rfl, rfl⟩
  · rw [decide_eq_false hlt] at ht
    clear he hlt
    go_enter Try.func32, Try.ntmps32
    go_wp2_with fail
    refine ht.out.mono ?_
    rintro e w1 ⟨rfl, rfl⟩
    go_wp2
    go_ret
    exact ⟨rfl, rfl⟩
set_option maxRecDepth 100000 in
set_option maxHeartbeats 4000000 in
theorem write6 {B g : Nat} {w : World} {L : List Nat} {s : Dst} (h : Rx B w g L s) (a : Nat) (ha : (a : Int) ≤ 4294967295) (hlt : a < s.size) (A : Option Addr) (c : Nat) (l : List Nat) (hs : Sl w (.slice A 512 c) (bv l)) (hl : Sec l) (hap : Apart (.slice A 512 c) L) (hnw : (s.waits.length : Int) ≤ 100000) :
    Calls Try.prog 32 #[.pointer (some ⟨g, 0, none⟩), .int .u32 (a : Int), .slice A 512 c] w fun e w' => ∃ L', e = .returned (.int .i64 (writeS s a l).2) ∧ Rx B w' g L' (writeS s a l).1 ∧ Step L L' w w' := by
  obtain ⟨gl, vw, h, rfl⟩ := h
  have ht := Lib.hid (there6 h a ha)
  rw [decide_eq_true hlt] at ht
  unfold writeS
  rw [if_pos (by unfold mayE; rw [if_pos hlt, if_pos hl.1])]
  have c3 := h.c3
  cases hd : s.down with
  | true =>
    rw [if_pos rfl]
    rw [hd] at c3
    have H := Lib.hid h
    clear h hlt hs hl hap
    go_enter Try.func32, Try.ntmps32
    go_wp2_with fail
    refine ht.out.mono ?_
    rintro e w1 ⟨rfl, rfl⟩
    go_wp2
    go_ret
    exact ⟨_, rfl, ⟨gl, vw, H.out, rfl⟩, Step.refl _ _⟩
  | false =>
    have hst := Lib.hid (goes6 h hd)
    rw [if_neg (by simp)]
    rw [hd] at c3
    cases hd2 : (stepS s).down with
    | true =>
      rw [if_pos rfl]
      rw [hd2] at hst
      clear h hlt hs hl hap
      go_enter Try.func32, Try.ntmps32
      go_wp2_with (first
        | (go_at_call 39; refine ht.out.mono ?_; rintro e w1 ⟨rfl, rfl⟩)
        | (go_at_call 38; refine hst.out.mono ?_; rintro e w2 ⟨rfl, h2, hK2⟩))
      go_ret
      exact ⟨_, rfl, ⟨gl, vw, h2, rfl⟩, ⟨keeps_one hK2 (mem_rblk.2 (.inl rfl)), fun k hk => .inl hk⟩⟩
    | false =>
      rw [if_neg (by simp)]
      rw [hd2] at hst
      have hl5 := Lib.hid (show (bv l).length = 512 by rw [bv_length]; exact hl.1)
      have hbw := Lib.hid (built_wr6 a)
      have hpw := Lib.hid (put_wr6 a hl5.out)
      have hok := Lib.hid (show a < s.size ∧ Sec l from ⟨hlt, hl⟩)
      have hwl : Hid ((stepS s).waits = s.waits ∧ s.waits.length ≤ 100000) := ⟨rfl, by omega⟩
      have hlt0 := Lib.hid h.lt
      have q1 := fun g w => whole512 g 1 w
      obtain ⟨i0, z0, hi0, hz0, hz2, hz1, hz3⟩ := wr6_info
      replace hap := Lib.hid hap
      replace hs := Lib.hid hs
      clear h hlt hl
      go_enter Try.func32, Try.ntmps32
      go_wp2_with (first
        | (go_at_call 39; refine ht.out.mono ?_; rintro e w1 ⟨rfl, rfl⟩)
        | (go_at_call 38; refine hst.out.mono ?_; rintro e w2 ⟨rfl, h2, hK2⟩; clear c3)
        | refine wpList_buildV rfl 80 _ rfl _ rfl (.int .u32 (a : Int) :: bv (zeros 512)) hbw.out ?_
        | refine wpList_allocA rfl 80 rfl (.int .u32 0 :: bv (zeros 512)) wr6_zero ?_)
      intro w3 h7 hK3 hz3'
      have hsl3 := (hs.out.keeps hK2 (fun A' n' c' e => by simp; exact fun e2 => (hap.out _ _ _ e) (by rw [e2]; exact mem_rblk.2 (.inl rfl)))).keeps hK3 (by simp)
      have hK3' := Lib.hid ((keeps_one (G := rblk g gl vw) hK2 (mem_rblk.2 (.inl rfl))).trans (hK3.mono (by simp)))
      have H3 := Lib.hid (h2.keeps hK3 (by simp))
      have hge7 : Hid (w.heap.size ≤ w2.heap.size) := hK2.size
      have hap7 : Hid (∀ A' n' c', (Value.slice A 512 c) = .slice (some A') n' c' → A'.block ≠ w2.heap.size) := fun A' n' c' e e2 => by
        injection e with e1 e3 e4
        obtain ⟨A0, c0, e5, -, -, hc3⟩ := id hs.out
        injection e5 with e6 e7 e8
        obtain ⟨g9, o9, e9, hcell⟩ := hc3 (by rw [hl5.out]; decide)
        rw [← e6, e1] at e9
        injection e9 with e9
        have hg9 : (bv l)[0]? = some ((bv l)[0]'(by rw [hl5.out]; decide)) := List.getElem?_eq_getElem _
        have := cell_lt (hcell 0 _ hg9)
        have hb : A'.block = g9 := by rw [e9]
        have := hge7.out
        omega
      have hd7 : Hid (∀ x ∈ rblk g gl vw, x ≠ w2.heap.size) := fun x hx e => by have := (h2.lt x hx).2; omega
      clear hK2 hK3 hz3' h2
      generalize w2.heap.size = g7 at *
      go_wp2_with (refine wpList_storeW rfl 80 (.tmp 7) (.tmp 27) rfl 513 arrWr6 g7 rfl (.int .u32 (a : Int) :: bv (zeros 512)) rfl 80 _ h7 ?_ ?_ (ones_wr a (zeros 512)) ?_)
      · rw [List.length_cons, bv_length]; rw [show (zeros 512).length = 512 from List.length_replicate]
      · rw [List.length_cons, bv_length]; rw [show (zeros 512).length = 512 from List.length_replicate]
      intro w4 h7 hK4
      have hsl4 := hsl3.keeps hK4 (fun A' n' c' e => by simp; exact hap7.out _ _ _ e)
      have hK4' := Lib.hid (keeps_own hK4 hK3'.out hge7.out)
      have H4 := Lib.hid (H3.out.keeps hK4 (fun x hx => by simp; exact hd7.out x hx))
      clear hK4 hsl3 H3 hK3'
      go_wp2_with (refine wpList_copySl rfl (.tmp 29) (.tmp 30) 22 22 rfl 5 Try.underlying22 (by kernel_rfl) g7 1 512 512 rfl _ (bv l) rfl hsl4 80 _ h7 ?_ (ones_bv _) ?_)
      · refine Nat.le_trans (Nat.add_le_add_left (Nat.min_le_right _ _) _) ?_
        rw [List.length_cons, bv_length]; rw [show (zeros 512).length = 512 from List.length_replicate]; decide
      intro w5 h7 hK5
      rw [List.take_of_length_le (Nat.le_of_eq hl5.out), hpw.out] at h7
      have hK5' := Lib.hid (keeps_own hK5 hK4'.out hge7.out)
      have H5 := H4.out.keeps hK5 (fun x hx => by simp; exact hd7.out x hx)
      clear hK5 hsl4 H4 hK4'
      go_upto_region 7 with fail
      have h7d := h7.drew
      have h7len : (Value.int .u32 (a : Int) :: bv l).length = 513 := by rw [List.length_cons, hl5.out]
      have H5d := H5.drew
      have hrow := H5d.row
      have hrg : w5.drew.rangeAt g7 0 (.int .u32 (a : Int) :: bv l) := hSS h7d rfl
      have hne7 : g7 ∉ [g] := by simp; exact fun e => hd7.out g (mem_rblk.2 (.inl rfl)) e.symm
      obtain ⟨N0, hN0⟩ : ∃ N0, N0 = w5.drew.heap.size := ⟨_, rfl⟩
      have hBel : Below N0 w5.drew w5.drew := Below.refl _ _
      have hle0 : N0 ≤ w5.drew.heap.size := Nat.le_of_eq hN0
      have cg := H5d.c1
      have hgN : g < N0 := by rw [hN0]; exact (H5d.lt g (mem_rblk.2 (.inl rfl))).2
      have hrowN : ∀ k, vw.ownBlock = some k → k < N0 := fun k hk => by rw [hN0]; exact (hrow.lt k hk).2
      have hS0 : Keeps [g] w5.drew w5.drew := Keeps.refl _ _
      have hK5d := Lib.hid (hK5'.out.drew)
      clear hK5' H5 h7
      refine held_drew2 (S := fun w' => Keeps [g] w5.drew w') #[false, false, false, false, false, false, false, false, false, false, false, false, false] (by kernel_rfl) (by kernel_rfl) hS0 (fun hH => ?_)
      generalize w5.drew = wD at *
      refine takeH_move (o := ⟨some 32, _, _, _, _, _⟩) (i := 0) rfl (by kernel_rfl) (by kernel_rfl) (by kernel_rfl) (fun _ _ _ _ h => h) rfl (.tmp 0) rfl (.pointer (some ⟨g, 0, none⟩)) rfl hH ?_
      simp only [Act.put, List.setIfInBounds_toArray, List.set_cons_zero, List.set_cons_succ, Nat.zero_add, decide_true, beq_self_eq_true]
      refine takeH_move (o := ⟨some 34, _, _, _, _, _⟩) (i := 2) rfl (by kernel_rfl) (by kernel_rfl) (by kernel_rfl) (fun _ _ _ _ h => h) rfl (.tmp 0) rfl (.pointer (some ⟨g, 0, none⟩)) rfl hH ?_
      simp only [Act.put, List.setIfInBounds_toArray, List.set_cons_zero, List.set_cons_succ, Nat.zero_add, decide_true, beq_self_eq_true]
      refine takeH_S (o := ⟨some 35, _, _, _, _, _⟩) (i := 3) rfl (by kernel_rfl) (by kernel_rfl) (by kernel_rfl) (fun _ _ _ _ h => h) rfl (.pointer (some ⟨g, 0, none⟩)) (fun w _ => by go_simp) hH ?_
      simp only [Act.put, List.setIfInBounds_toArray, List.set_cons_zero, List.set_cons_succ, Nat.zero_add, decide_true, beq_self_eq_true]
      refine takeH_field (o := ⟨some 36, _, _, _, _, _⟩) (i := 4) rfl (by kernel_rfl) (by kernel_rfl) (by kernel_rfl) (fun _ _ _ _ h => h) rfl 64 (.tmp 35) 1 rfl g 1 rfl (fun w => fldR1 _ w) hH ?_
      simp only [Act.put, List.setIfInBounds_toArray, List.set_cons_zero, List.set_cons_succ, Nat.zero_add, decide_true, beq_self_eq_true]
      refine takeH_load (o := ⟨some 39, _, _, _, _, _⟩) (i := 7) rfl (by kernel_rfl) (by kernel_rfl) (by kernel_rfl) (fun _ _ _ _ h => h) rfl 80 (.tmp 7) rfl 513 arrWr6 g7 0 rfl (.int .u32 (a : Int) :: bv l) h7len (fun w h => rng_keeps hrg h hne7) hH ?_
      simp only [Act.put, List.setIfInBounds_toArray, List.set_cons_zero, List.set_cons_succ, Nat.zero_add, decide_true, beq_self_eq_true]
      apply meet4 (fun (g3 : Nat) (v8 : Value) (g4 : Nat) (wX : World) => wX.ownsRow N0 80 513 v8 s.waits.length (wcl s.waits) ∧ Blk wX g4 80 (.int .u32 (a : Int) :: bv l) ∧ N0 ≤ g4 ∧ v8.ownBlock ≠ some g4 ∧ Below N0 wD wX ∧ N0 ≤ wX.heap.size)
      · intro key
        refine wpAnyH_ready (rs := [1, 5, 8]) (by kernel_rfl) (by simp) ?_
        refine AllReadyH.cons rfl (fun K1 hK1 => ?_) (AllReadyH.cons rfl (fun K1 hK1 => ?_) (AllReadyH.cons rfl (fun K1 hK1 => ?_) AllReadyH.nil))
        · rw [if_pos (by rfl)]
          have bq1 : Below wD.heap.size wD (wD.alloc (.cells #[] 80)) := (Below.refl _ _).alloc (Nat.le_refl _) _
          have own1 : (wD.alloc (.cells #[] 80)).ownsRow N0 80 513 (.slice (some ⟨wD.heap.size, 0, none⟩) 0 0) 0 [] := World.ownsRow_made wD #[] 0 hle0 (Nat.zero_le _) rfl
          have bel1 := hBel.trans (bq1.mono hle0)
          have le1 := Nat.le_trans hle0 bq1.size
          have hS1 := hH.trans (Keeps.of_below (G := [g]) bq1)
          have lt1 : wD.heap.size < (wD.alloc (.cells #[] 80)).heap.size := by rw [World.size_alloc]; omega
          have cg1 : (wD.alloc (.cells #[] 80)).cell? ⟨g, 1, none⟩ = some vw := (World.cell?_of_block (bel1.block g hgN)).trans cg
          clear bq1
          go_wp2_with fail
          refine hK1.out _ _ hS1 (fun hH => ?_)
          clear hK1 K1
          simp only [Act.put, List.getElem_toArray, List.getElem_cons_succ, List.getElem_cons_zero, List.setIfInBounds_toArray, List.set_cons_zero, List.set_cons_succ, Nat.zero_add]
          generalize wD.alloc (.cells #[] 80) = wA1 at own1 bel1 le1 hS1 hH cg1 lt1 ⊢
          generalize wD.heap.size = gA1 at own1 lt1 ⊢
          refine wpAnyH_ready (rs := [5, 8]) (by kernel_rfl) (by simp) ?_
          refine AllReadyH.cons rfl (fun K1 hK1 => ?_) (AllReadyH.cons rfl (fun K1 hK1 => ?_) AllReadyH.nil)
          · rw [if_pos (by rfl)]
            go_wp2_with fail
            refine hK1.out _ _ hS1 (fun hH => ?_)
            clear hK1 K1
            simp only [Act.put, List.getElem_toArray, List.getElem_cons_succ, List.getElem_cons_zero, List.setIfInBounds_toArray, List.set_cons_zero, List.set_cons_succ, Nat.zero_add]
            refine wpAnyH_ready (rs := [6, 8]) (by kernel_rfl) (by simp) ?_
            refine AllReadyH.cons rfl (fun K1 hK1 => ?_) (AllReadyH.cons rfl (fun K1 hK1 => ?_) AllReadyH.nil)
            · rw [if_pos (by rfl)]
              have rw3 : wA1.ownsRow B 80 513 vw s.waits.length (wcl s.waits) := ownsRow_keeps hrow (Keeps.of_below (G := []) (hN0 ▸ bel1)) (fun _ _ => by simp)
              refine wp_append_own2 (.tmp 33) (.tmp 37) 62 rfl N0 B 80 i0 z0 513 i0.bytes Try.underlying62 hi0 hz0 hz1 rfl hz2 (by decide) (.slice (some ⟨gA1, 0, none⟩) 0 0) 0 [] rfl own1 _ _ _ rfl rw3 (wcl_ones _) (by have := hwl.out.2; unfold maxLen; omega) (by rw [hz3]; have := hwl.out.2; omega) le1 ?_
              intro v83 wA3 own3 gr3 mv3
              have kq3 := Keeps.grown gr3
              have bq3 : Below N0 wA1 wA3 := kq3.below le1 (fun q hq => by rw [Option.mem_toList] at hq; exact (own1.lt q hq).1)
              have bel3 := bel1.trans bq3
              have le3 := Nat.le_trans le1 bq3.size
              rw [Nat.zero_add, List.nil_append] at own3
              have hS3 : Keeps [g] wD wA3 := Keeps.of_below (hN0 ▸ bel3)
              refine hK1.out _ _ hS3 (fun hH => ?_)
              clear hK1 K1 kq3 bq3 gr3 rw3
              simp only [Act.put, List.getElem_toArray, List.getElem_cons_succ, List.getElem_cons_zero, List.setIfInBounds_toArray, List.set_cons_zero, List.set_cons_succ, Nat.zero_add]
              refine wpAnyH_ready (rs := [8]) (by kernel_rfl) (by simp) ?_
              refine AllReadyH.cons rfl (fun K1 hK1 => ?_) AllReadyH.nil
              rw [if_pos (by rfl)]
              refine wp_buildOne 62 80 (.tmp 39) rfl 513 Try.underlying62 (by kernel_rfl) (by kernel_rfl) (by decide) (by decide) (.int .u32 (a : Int) :: bv l) rfl (by simp only [List.length_cons]; rw [hl5.out]) ?_
              intro wA4 b44 kq4
              have bq4 := kq4.below (Nat.le_refl _) (by simp)
              have bel4 := bel3.trans (bq4.mono le3)
              have le4 := Nat.le_trans le3 bq4.size
              have n44 : N0 ≤ wA3.heap.size := le3
              have hS4 := hS3.trans (Keeps.of_below (G := [g]) bq4)
              have own4 := ownsRow_keeps own3 kq4 (fun _ _ => by simp)
              have ne4 : v83.ownBlock ≠ some wA3.heap.size := fun e => by have := (own3.lt _ e).2; omega
              refine hK1.out _ _ hS4 (fun hH => ?_)
              clear hK1 K1 kq4 bq4
              simp only [Act.put, List.getElem_toArray, List.getElem_cons_succ, List.getElem_cons_zero, List.setIfInBounds_toArray, List.set_cons_zero, List.set_cons_succ, Nat.zero_add]
              generalize wA3.heap.size = gB4 at b44 n44 ne4 ⊢
              exact key gA1 v83 gB4 wA4 ⟨own4, b44, n44, ne4, bel4, le4⟩
            · rw [if_pos (by rfl)]
              refine wp_buildOne 62 80 (.tmp 39) rfl 513 Try.underlying62 (by kernel_rfl) (by kernel_rfl) (by decide) (by decide) (.int .u32 (a : Int) :: bv l) rfl (by simp only [List.length_cons]; rw [hl5.out]) ?_
              intro wA5 b45 kq5
              have bq5 := kq5.below (Nat.le_refl _) (by simp)
              have bel5 := bel1.trans (bq5.mono le1)
              have le5 := Nat.le_trans le1 bq5.size
              have n45 : N0 ≤ wA1.heap.size := le1
              have hS5 := hS1.trans (Keeps.of_below (G := [g]) bq5)
              have own5 := ownsRow_keeps own1 kq5 (fun _ _ => by simp)
              have ne5 : wA1.heap.size ≠ gA1 := fun e => by have := lt1; omega
              refine hK1.out _ _ hS5 (fun hH => ?_)
              clear hK1 K1 kq5 bq5
              simp only [Act.put, List.getElem_toArray, List.getElem_cons_succ, List.getElem_cons_zero, List.setIfInBounds_toArray, List.set_cons_zero, List.set_cons_succ, Nat.zero_add]
              generalize wA1.heap.size = gB5 at b45 n45 ne5 ⊢
              refine wpAnyH_ready (rs := [6]) (by kernel_rfl) (by simp) ?_
              refine AllReadyH.cons rfl (fun K1 hK1 => ?_) AllReadyH.nil
              rw [if_pos (by rfl)]
              have rw6 : wA5.ownsRow B 80 513 vw s.waits.length (wcl s.waits) := ownsRow_keeps hrow (Keeps.of_below (G := []) (hN0 ▸ bel5)) (fun _ _ => by simp)
              refine wp_append_own2 (.tmp 33) (.tmp 37) 62 rfl N0 B 80 i0 z0 513 i0.bytes Try.underlying62 hi0 hz0 hz1 rfl hz2 (by decide) (.slice (some ⟨gA1, 0, none⟩) 0 0) 0 [] rfl own5 _ _ _ rfl rw6 (wcl_ones _) (by have := hwl.out.2; unfold maxLen; omega) (by rw [hz3]; have := hwl.out.2; omega) le5 ?_
              intro v86 wA6 own6 gr6 mv6
              have kq6 := Keeps.grown gr6
              have bq6 : Below N0 wA5 wA6 := kq6.below le5 (fun q hq => by rw [Option.mem_toList] at hq; exact (own5.lt q hq).1)
              have bel6 := bel5.trans bq6
              have le6 := Nat.le_trans le5 bq6.size
              rw [Nat.zero_add, List.nil_append] at own6
              have hS6 : Keeps [g] wD wA6 := Keeps.of_below (hN0 ▸ bel6)
              have b46 := b45.keeps kq6 (fun hm => by rw [Option.mem_toList] at hm; simp only [Value.ownBlock, Option.some.injEq] at hm; exact ne5 hm.symm)
              have ne6 : v86.ownBlock ≠ some gB5 := mv6.ne b45.lt (fun e => by simp only [Value.ownBlock, Option.some.injEq] at e; exact ne5 e.symm)
              refine hK1.out _ _ hS6 (fun hH => ?_)
              clear hK1 K1 kq6 bq6 gr6 rw6
              simp only [Act.put, List.getElem_toArray, List.getElem_cons_succ, List.getElem_cons_zero, List.setIfInBounds_toArray, List.set_cons_zero, List.set_cons_succ, Nat.zero_add]
              exact key gA1 v86 gB5 wA6 ⟨own6, b46, n45, ne6, bel6, le6⟩
          · rw [if_pos (by rfl)]
            refine wp_buildOne 62 80 (.tmp 39) rfl 513 Try.underlying62 (by kernel_rfl) (by kernel_rfl) (by decide) (by decide) (.int .u32 (a : Int) :: bv l) rfl (by simp only [List.length_cons]; rw [hl5.out]) ?_
            intro wA7 b47 kq7
            have bq7 := kq7.below (Nat.le_refl _) (by simp)
            have bel7 := bel1.trans (bq7.mono le1)
            have le7 := Nat.le_trans le1 bq7.size
            have n47 : N0 ≤ wA1.heap.size := le1
            have hS7 := hS1.trans (Keeps.of_below (G := [g]) bq7)
            have own7 := ownsRow_keeps own1 kq7 (fun _ _ => by simp)
            have ne7 : wA1.heap.size ≠ gA1 := fun e => by have := lt1; omega
            have cg7 : wA7.cell? ⟨g, 1, none⟩ = some vw := (World.cell?_of_block (bel7.block g hgN)).trans cg
            refine hK1.out _ _ hS7 (fun hH => ?_)
            clear hK1 K1 kq7 bq7
            simp only [Act.put, List.getElem_toArray, List.getElem_cons_succ, List.getElem_cons_zero, List.setIfInBounds_toArray, List.set_cons_zero, List.set_cons_succ, Nat.zero_add]
            generalize wA1.heap.size = gB7 at b47 n47 ne7 ⊢
            refine wpAnyH_ready (rs := [5]) (by kernel_rfl) (by simp) ?_
            refine AllReadyH.cons rfl (fun K1 hK1 => ?_) AllReadyH.nil
            rw [if_pos (by rfl)]
            go_wp2_with fail
            refine hK1.out _ _ hS7 (fun hH => ?_)
            clear hK1 K1
            simp only [Act.put, List.getElem_toArray, List.getElem_cons_succ, List.getElem_cons_zero, List.setIfInBounds_toArray, List.set_cons_zero, List.set_cons_succ, Nat.zero_add]
            refine wpAnyH_ready (rs := [6]) (by kernel_rfl) (by simp) ?_
            refine AllReadyH.cons rfl (fun K1 hK1 => ?_) AllReadyH.nil
            rw [if_pos (by rfl)]
            have rw9 : wA7.ownsRow B 80 513 vw s.waits.length (wcl s.waits) := ownsRow_keeps hrow (Keeps.of_below (G := []) (hN0 ▸ bel7)) (fun _ _ => by simp)
            refine wp_append_own2 (.tmp 33) (.tmp 37) 62 rfl N0 B 80 i0 z0 513 i0.bytes Try.underlying62 hi0 hz0 hz1 rfl hz2 (by decide) (.slice (some ⟨gA1, 0, none⟩) 0 0) 0 [] rfl own7 _ _ _ rfl rw9 (wcl_ones _) (by have := hwl.out.2; unfold maxLen; omega) (by rw [hz3]; have := hwl.out.2; omega) le7 ?_
            intro v89 wA9 own9 gr9 mv9
            have kq9 := Keeps.grown gr9
            have bq9 : Below N0 wA7 wA9 := kq9.below le7 (fun q hq => by rw [Option.mem_toList] at hq; exact (own7.lt q hq).1)
            have bel9 := bel7.trans bq9
            have le9 := Nat.le_trans le7 bq9.size
            rw [Nat.zero_add, List.nil_append] at own9
            have hS9 : Keeps [g] wD wA9 := Keeps.of_below (hN0 ▸ bel9)
            have b49 := b47.keeps kq9 (fun hm => by rw [Option.mem_toList] at hm; simp only [Value.ownBlock, Option.some.injEq] at hm; exact ne7 hm.symm)
            have ne9 : v89.ownBlock ≠ some gB7 := mv9.ne b47.lt (fun e => by simp only [Value.ownBlock, Option.some.injEq] at e; exact ne7 e.symm)
            refine hK1.out _ _ hS9 (fun hH => ?_)
            clear hK1 K1 kq9 bq9 gr9 rw9
            simp only [Act.put, List.getElem_toArray, List.getElem_cons_succ, List.getElem_cons_zero, List.setIfInBounds_toArray, List.set_cons_zero, List.set_cons_succ, Nat.zero_add]
            exact key gA1 v89 gB7 wA9 ⟨own9, b49, n47, ne9, bel9, le9⟩
        · rw [if_pos (by rfl)]
          go_wp2_with fail
          refine hK1.out _ _ hH (fun hH => ?_)
          clear hK1 K1
          simp only [Act.put, List.getElem_toArray, List.getElem_cons_succ, List.getElem_cons_zero, List.setIfInBounds_toArray, List.set_cons_zero, List.set_cons_succ, Nat.zero_add]
          refine wpAnyH_ready (rs := [1, 8]) (by kernel_rfl) (by simp) ?_
          refine AllReadyH.cons rfl (fun K1 hK1 => ?_) (AllReadyH.cons rfl (fun K1 hK1 => ?_) AllReadyH.nil)
          · rw [if_pos (by rfl)]
            have bq11 : Below wD.heap.size wD (wD.alloc (.cells #[] 80)) := (Below.refl _ _).alloc (Nat.le_refl _) _
            have own11 : (wD.alloc (.cells #[] 80)).ownsRow N0 80 513 (.slice (some ⟨wD.heap.size, 0, none⟩) 0 0) 0 [] := World.ownsRow_made wD #[] 0 hle0 (Nat.zero_le _) rfl
            have bel11 := hBel.trans (bq11.mono hle0)
            have le11 := Nat.le_trans hle0 bq11.size
            have hS11 := hH.trans (Keeps.of_below (G := [g]) bq11)
            have lt11 : wD.heap.size < (wD.alloc (.cells #[] 80)).heap.size := by rw [World.size_alloc]; omega
            clear bq11
            go_wp2_with fail
            refine hK1.out _ _ hS11 (fun hH => ?_)
            clear hK1 K1
            simp only [Act.put, List.getElem_toArray, List.getElem_cons_succ, List.getElem_cons_zero, List.setIfInBounds_toArray, List.set_cons_zero, List.set_cons_succ, Nat.zero_add]
            generalize wD.alloc (.cells #[] 80) = wA11 at own11 bel11 le11 hS11 hH lt11 ⊢
            generalize wD.heap.size = gA11 at own11 lt11 ⊢
            refine wpAnyH_ready (rs := [6, 8]) (by kernel_rfl) (by simp) ?_
            refine AllReadyH.cons rfl (fun K1 hK1 => ?_) (AllReadyH.cons rfl (fun K1 hK1 => ?_) AllReadyH.nil)
            · rw [if_pos (by rfl)]
              have rw12 : wA11.ownsRow B 80 513 vw s.waits.length (wcl s.waits) := ownsRow_keeps hrow (Keeps.of_below (G := []) (hN0 ▸ bel11)) (fun _ _ => by simp)
              refine wp_append_own2 (.tmp 33) (.tmp 37) 62 rfl N0 B 80 i0 z0 513 i0.bytes Try.underlying62 hi0 hz0 hz1 rfl hz2 (by decide) (.slice (some ⟨gA11, 0, none⟩) 0 0) 0 [] rfl own11 _ _ _ rfl rw12 (wcl_ones _) (by have := hwl.out.2; unfold maxLen; omega) (by rw [hz3]; have := hwl.out.2; omega) le11 ?_
              intro v812 wA12 own12 gr12 mv12
              have kq12 := Keeps.grown gr12
              have bq12 : Below N0 wA11 wA12 := kq12.below le11 (fun q hq => by rw [Option.mem_toList] at hq; exact (own11.lt q hq).1)
              have bel12 := bel11.trans bq12
              have le12 := Nat.le_trans le11 bq12.size
              rw [Nat.zero_add, List.nil_append] at own12
              have hS12 : Keeps [g] wD wA12 := Keeps.of_below (hN0 ▸ bel12)
              refine hK1.out _ _ hS12 (fun hH => ?_)
              clear hK1 K1 kq12 bq12 gr12 rw12
              simp only [Act.put, List.getElem_toArray, List.getElem_cons_succ, List.getElem_cons_zero, List.setIfInBounds_toArray, List.set_cons_zero, List.set_cons_succ, Nat.zero_add]
              refine wpAnyH_ready (rs := [8]) (by kernel_rfl) (by simp) ?_
              refine AllReadyH.cons rfl (fun K1 hK1 => ?_) AllReadyH.nil
              rw [if_pos (by rfl)]
              refine wp_buildOne 62 80 (.tmp 39) rfl 513 Try.underlying62 (by kernel_rfl) (by kernel_rfl) (by decide) (by decide) (.int .u32 (a : Int) :: bv l) rfl (by simp only [List.length_cons]; rw [hl5.out]) ?_
              intro wA13 b413 kq13
              have bq13 := kq13.below (Nat.le_refl _) (by simp)
              have bel13 := bel12.trans (bq13.mono le12)
              have le13 := Nat.le_trans le12 bq13.size
              have n413 : N0 ≤ wA12.heap.size := le12
              have hS13 := hS12.trans (Keeps.of_below (G := [g]) bq13)
              have own13 := ownsRow_keeps own12 kq13 (fun _ _ => by simp)
              have ne13 : v812.ownBlock ≠ some wA12.heap.size := fun e => by have := (own12.lt _ e).2; omega
              refine hK1.out _ _ hS13 (fun hH => ?_)
              clear hK1 K1 kq13 bq13
              simp only [Act.put, List.getElem_toArray, List.getElem_cons_succ, List.getElem_cons_zero, List.setIfInBounds_toArray, List.set_cons_zero, List.set_cons_succ, Nat.zero_add]
              generalize wA12.heap.size = gB13 at b413 n413 ne13 ⊢
              exact key gA11 v812 gB13 wA13 ⟨own13, b413, n413, ne13, bel13, le13⟩
            · rw [if_pos (by rfl)]
              refine wp_buildOne 62 80 (.tmp 39) rfl 513 Try.underlying62 (by kernel_rfl) (by kernel_rfl) (by decide) (by decide) (.int .u32 (a : Int) :: bv l) rfl (by simp only [List.length_cons]; rw [hl5.out]) ?_
              intro wA14 b414 kq14
              have bq14 := kq14.below (Nat.le_refl _) (by simp)
              have bel14 := bel11.trans (bq14.mono le11)
              have le14 := Nat.le_trans le11 bq14.size
              have n414 : N0 ≤ wA11.heap.size := le11
              have hS14 := hS11.trans (Keeps.of_below (G := [g]) bq14)
              have own14 := ownsRow_keeps own11 kq14 (fun _ _ => by simp)
              have ne14 : wA11.heap.size ≠ gA11 := fun e => by have := lt11; omega
              refine hK1.out _ _ hS14 (fun hH => ?_)
              clear hK1 K1 kq14 bq14
              simp only [Act.put, List.getElem_toArray, List.getElem_cons_succ, List.getElem_cons_zero, List.setIfInBounds_toArray, List.set_cons_zero, List.set_cons_succ, Nat.zero_add]
              generalize wA11.heap.size = gB14 at b414 n414 ne14 ⊢
              refine wpAnyH_ready (rs := [6]) (by kernel_rfl) (by simp) ?_
              refine AllReadyH.cons rfl (fun K1 hK1 => ?_) AllReadyH.nil
              rw [if_pos (by rfl)]
              have rw15 : wA14.ownsRow B 80 513 vw s.waits.length (wcl s.waits) := ownsRow_keeps hrow (Keeps.of_below (G := []) (hN0 ▸ bel14)) (fun _ _ => by simp)
              refine wp_append_own2 (.tmp 33) (.tmp 37) 62 rfl N0 B 80 i0 z0 513 i0.bytes Try.underlying62 hi0 hz0 hz1 rfl hz2 (by decide) (.slice (some ⟨gA11, 0, none⟩) 0 0) 0 [] rfl own14 _ _ _ rfl rw15 (wcl_ones _) (by have := hwl.out.2; unfold maxLen; omega) (by rw [hz3]; have := hwl.out.2; omega) le14 ?_
              intro v815 wA15 own15 gr15 mv15
              have kq15 := Keeps.grown gr15
              have bq15 : Below N0 wA14 wA15 := kq15.below le14 (fun q hq => by rw [Option.mem_toList] at hq; exact (own14.lt q hq).1)
              have bel15 := bel14.trans bq15
              have le15 := Nat.le_trans le14 bq15.size
              rw [Nat.zero_add, List.nil_append] at own15
              have hS15 : Keeps [g] wD wA15 := Keeps.of_below (hN0 ▸ bel15)
              have b415 := b414.keeps kq15 (fun hm => by rw [Option.mem_toList] at hm; simp only [Value.ownBlock, Option.some.injEq] at hm; exact ne14 hm.symm)
              have ne15 : v815.ownBlock ≠ some gB14 := mv15.ne b414.lt (fun e => by simp only [Value.ownBlock, Option.some.injEq] at e; exact ne14 e.symm)
              refine hK1.out _ _ hS15 (fun hH => ?_)
              clear hK1 K1 kq15 bq15 gr15 rw15
              simp only [Act.put, List.getElem_toArray, List.getElem_cons_succ, List.getElem_cons_zero, List.setIfInBounds_toArray, List.set_cons_zero, List.set_cons_succ, Nat.zero_add]
              exact key gA11 v815 gB14 wA15 ⟨own15, b415, n414, ne15, bel15, le15⟩
          · rw [if_pos (by rfl)]
            refine wp_buildOne 62 80 (.tmp 39) rfl 513 Try.underlying62 (by kernel_rfl) (by kernel_rfl) (by decide) (by decide) (.int .u32 (a : Int) :: bv l) rfl (by simp only [List.length_cons]; rw [hl5.out]) ?_
            intro wA16 b416 kq16
            have bq16 := kq16.below (Nat.le_refl _) (by simp)
            have bel16 := hBel.trans (bq16.mono hle0)
            have le16 := Nat.le_trans hle0 bq16.size
            have n416 : N0 ≤ wD.heap.size := hle0
            have hS16 := hH.trans (Keeps.of_below (G := [g]) bq16)
            refine hK1.out _ _ hS16 (fun hH => ?_)
            clear hK1 K1 kq16 bq16
            simp only [Act.put, List.getElem_toArray, List.getElem_cons_succ, List.getElem_cons_zero, List.setIfInBounds_toArray, List.set_cons_zero, List.set_cons_succ, Nat.zero_add]
            generalize wD.heap.size = gB16 at b416 n416 ⊢
            refine wpAnyH_ready (rs := [1]) (by kernel_rfl) (by simp) ?_
            refine AllReadyH.cons rfl (fun K1 hK1 => ?_) AllReadyH.nil
            rw [if_pos (by rfl)]
            have bq17 : Below wA16.heap.size wA16 (wA16.alloc (.cells #[] 80)) := (Below.refl _ _).alloc (Nat.le_refl _) _
            have own17 : (wA16.alloc (.cells #[] 80)).ownsRow N0 80 513 (.slice (some ⟨wA16.heap.size, 0, none⟩) 0 0) 0 [] := World.ownsRow_made wA16 #[] 0 le16 (Nat.zero_le _) rfl
            have bel17 := bel16.trans (bq17.mono le16)
            have le17 := Nat.le_trans le16 bq17.size
            have hS17 := hS16.trans (Keeps.of_below (G := [g]) bq17)
            have b417 := b416.keep bq17
            have ne17 : gB16 ≠ wA16.heap.size := fun e => by have := b416.lt; omega
            clear bq17
            go_wp2_with fail
            refine hK1.out _ _ hS17 (fun hH => ?_)
            clear hK1 K1
            simp only [Act.put, List.getElem_toArray, List.getElem_cons_succ, List.getElem_cons_zero, List.setIfInBounds_toArray, List.set_cons_zero, List.set_cons_succ, Nat.zero_add]
            generalize wA16.alloc (.cells #[] 80) = wA17 at own17 bel17 le17 hS17 hH b417 ⊢
            generalize wA16.heap.size = gA17 at own17 ne17 ⊢
            refine wpAnyH_ready (rs := [6]) (by kernel_rfl) (by simp) ?_
            refine AllReadyH.cons rfl (fun K1 hK1 => ?_) AllReadyH.nil
            rw [if_pos (by rfl)]
            have rw18 : wA17.ownsRow B 80 513 vw s.waits.length (wcl s.waits) := ownsRow_keeps hrow (Keeps.of_below (G := []) (hN0 ▸ bel17)) (fun _ _ => by simp)
            refine wp_append_own2 (.tmp 33) (.tmp 37) 62 rfl N0 B 80 i0 z0 513 i0.bytes Try.underlying62 hi0 hz0 hz1 rfl hz2 (by decide) (.slice (some ⟨gA17, 0, none⟩) 0 0) 0 [] rfl own17 _ _ _ rfl rw18 (wcl_ones _) (by have := hwl.out.2; unfold maxLen; omega) (by rw [hz3]; have := hwl.out.2; omega) le17 ?_
            intro v818 wA18 own18 gr18 mv18
            have kq18 := Keeps.grown gr18
            have bq18 : Below N0 wA17 wA18 := kq18.below le17 (fun q hq => by rw [Option.mem_toList] at hq; exact (own17.lt q hq).1)
            have bel18 := bel17.trans bq18
            have le18 := Nat.le_trans le17 bq18.size
            rw [Nat.zero_add, List.nil_append] at own18
            have hS18 : Keeps [g] wD wA18 := Keeps.of_below (hN0 ▸ bel18)
            have b418 := b417.keeps kq18 (fun hm => by rw [Option.mem_toList] at hm; simp only [Value.ownBlock, Option.some.injEq] at hm; exact ne17 hm.symm)
            have ne18 : v818.ownBlock ≠ some gB16 := mv18.ne b417.lt (fun e => by simp only [Value.ownBlock, Option.some.injEq] at e; exact ne17 e.symm)
            refine hK1.out _ _ hS18 (fun hH => ?_)
            clear hK1 K1 kq18 bq18 gr18 rw18
            simp only [Act.put, List.getElem_toArray, List.getElem_cons_succ, List.getElem_cons_zero, List.setIfInBounds_toArray, List.set_cons_zero, List.set_cons_succ, Nat.zero_add]
            exact key gA17 v818 gB16 wA18 ⟨own18, b418, n416, ne18, bel18, le18⟩
        · rw [if_pos (by rfl)]
          refine wp_buildOne 62 80 (.tmp 39) rfl 513 Try.underlying62 (by kernel_rfl) (by kernel_rfl) (by decide) (by decide) (.int .u32 (a : Int) :: bv l) rfl (by simp only [List.length_cons]; rw [hl5.out]) ?_
          intro wA19 b419 kq19
          have bq19 := kq19.below (Nat.le_refl _) (by simp)
          have bel19 := hBel.trans (bq19.mono hle0)
          have le19 := Nat.le_trans hle0 bq19.size
          have n419 : N0 ≤ wD.heap.size := hle0
          have hS19 := hH.trans (Keeps.of_below (G := [g]) bq19)
          have cg19 : wA19.cell? ⟨g, 1, none⟩ = some vw := (World.cell?_of_block (bel19.block g hgN)).trans cg
          refine hK1.out _ _ hS19 (fun hH => ?_)
          clear hK1 K1 kq19 bq19
          simp only [Act.put, List.getElem_toArray, List.getElem_cons_succ, List.getElem_cons_zero, List.setIfInBounds_toArray, List.set_cons_zero, List.set_cons_succ, Nat.zero_add]
          generalize wD.heap.size = gB19 at b419 n419 ⊢
          refine wpAnyH_ready (rs := [1, 5]) (by kernel_rfl) (by simp) ?_
          refine AllReadyH.cons rfl (fun K1 hK1 => ?_) (AllReadyH.cons rfl (fun K1 hK1 => ?_) AllReadyH.nil)
          · rw [if_pos (by rfl)]
            have bq20 : Below wA19.heap.size wA19 (wA19.alloc (.cells #[] 80)) := (Below.refl _ _).alloc (Nat.le_refl _) _
            have own20 : (wA19.alloc (.cells #[] 80)).ownsRow N0 80 513 (.slice (some ⟨wA19.heap.size, 0, none⟩) 0 0) 0 [] := World.ownsRow_made wA19 #[] 0 le19 (Nat.zero_le _) rfl
            have bel20 := bel19.trans (bq20.mono le19)
            have le20 := Nat.le_trans le19 bq20.size
            have hS20 := hS19.trans (Keeps.of_below (G := [g]) bq20)
            have b420 := b419.keep bq20
            have ne20 : gB19 ≠ wA19.heap.size := fun e => by have := b419.lt; omega
            have cg20 : (wA19.alloc (.cells #[] 80)).cell? ⟨g, 1, none⟩ = some vw := (World.cell?_of_block (bel20.block g hgN)).trans cg
            clear bq20
            go_wp2_with fail
            refine hK1.out _ _ hS20 (fun hH => ?_)
            clear hK1 K1
            simp only [Act.put, List.getElem_toArray, List.getElem_cons_succ, List.getElem_cons_zero, List.setIfInBounds_toArray, List.set_cons_zero, List.set_cons_succ, Nat.zero_add]
            generalize wA19.alloc (.cells #[] 80) = wA20 at own20 bel20 le20 hS20 hH cg20 b420 ⊢
            generalize wA19.heap.size = gA20 at own20 ne20 ⊢
            refine wpAnyH_ready (rs := [5]) (by kernel_rfl) (by simp) ?_
            refine AllReadyH.cons rfl (fun K1 hK1 => ?_) AllReadyH.nil
            rw [if_pos (by rfl)]
            go_wp2_with fail
            refine hK1.out _ _ hS20 (fun hH => ?_)
            clear hK1 K1
            simp only [Act.put, List.getElem_toArray, List.getElem_cons_succ, List.getElem_cons_zero, List.setIfInBounds_toArray, List.set_cons_zero, List.set_cons_succ, Nat.zero_add]
            refine wpAnyH_ready (rs := [6]) (by kernel_rfl) (by simp) ?_
            refine AllReadyH.cons rfl (fun K1 hK1 => ?_) AllReadyH.nil
            rw [if_pos (by rfl)]
            have rw22 : wA20.ownsRow B 80 513 vw s.waits.length (wcl s.waits) := ownsRow_keeps hrow (Keeps.of_below (G := []) (hN0 ▸ bel20)) (fun _ _ => by simp)
            refine wp_append_own2 (.tmp 33) (.tmp 37) 62 rfl N0 B 80 i0 z0 513 i0.bytes Try.underlying62 hi0 hz0 hz1 rfl hz2 (by decide) (.slice (some ⟨gA20, 0, none⟩) 0 0) 0 [] rfl own20 _ _ _ rfl rw22 (wcl_ones _) (by have := hwl.out.2; unfold maxLen; omega) (by rw [hz3]; have := hwl.out.2; omega) le20 ?_
            intro v822 wA22 own22 gr22 mv22
            have kq22 := Keeps.grown gr22
            have bq22 : Below N0 wA20 wA22 := kq22.below le20 (fun q hq => by rw [Option.mem_toList] at hq; exact (own20.lt q hq).1)
            have bel22 := bel20.trans bq22
            have le22 := Nat.le_trans le20 bq22.size
            rw [Nat.zero_add, List.nil_append] at own22
            have hS22 : Keeps [g] wD wA22 := Keeps.of_below (hN0 ▸ bel22)
            have b422 := b420.keeps kq22 (fun hm => by rw [Option.mem_toList] at hm; simp only [Value.ownBlock, Option.some.injEq] at hm; exact ne20 hm.symm)
            have ne22 : v822.ownBlock ≠ some gB19 := mv22.ne b420.lt (fun e => by simp only [Value.ownBlock, Option.some.injEq] at e; exact ne20 e.symm)
            refine hK1.out _ _ hS22 (fun hH => ?_)
            clear hK1 K1 kq22 bq22 gr22 rw22
            simp only [Act.put, List.getElem_toArray, List.getElem_cons_succ, List.getElem_cons_zero, List.setIfInBounds_toArray, List.set_cons_zero, List.set_cons_succ, Nat.zero_add]
            exact key gA20 v822 gB19 wA22 ⟨own22, b422, n419, ne22, bel22, le22⟩
          · rw [if_pos (by rfl)]
            go_wp2_with fail
            refine hK1.out _ _ hS19 (fun hH => ?_)
            clear hK1 K1
            simp only [Act.put, List.getElem_toArray, List.getElem_cons_succ, List.getElem_cons_zero, List.setIfInBounds_toArray, List.set_cons_zero, List.set_cons_succ, Nat.zero_add]
            refine wpAnyH_ready (rs := [1]) (by kernel_rfl) (by simp) ?_
            refine AllReadyH.cons rfl (fun K1 hK1 => ?_) AllReadyH.nil
            rw [if_pos (by rfl)]
            have bq24 : Below wA19.heap.size wA19 (wA19.alloc (.cells #[] 80)) := (Below.refl _ _).alloc (Nat.le_refl _) _
            have own24 : (wA19.alloc (.cells #[] 80)).ownsRow N0 80 513 (.slice (some ⟨wA19.heap.size, 0, none⟩) 0 0) 0 [] := World.ownsRow_made wA19 #[] 0 le19 (Nat.zero_le _) rfl
            have bel24 := bel19.trans (bq24.mono le19)
            have le24 := Nat.le_trans le19 bq24.size
            have hS24 := hS19.trans (Keeps.of_below (G := [g]) bq24)
            have b424 := b419.keep bq24
            have ne24 : gB19 ≠ wA19.heap.size := fun e => by have := b419.lt; omega
            clear bq24
            go_wp2_with fail
            refine hK1.out _ _ hS24 (fun hH => ?_)
            clear hK1 K1
            simp only [Act.put, List.getElem_toArray, List.getElem_cons_succ, List.getElem_cons_zero, List.setIfInBounds_toArray, List.set_cons_zero, List.set_cons_succ, Nat.zero_add]
            generalize wA19.alloc (.cells #[] 80) = wA24 at own24 bel24 le24 hS24 hH b424 ⊢
            generalize wA19.heap.size = gA24 at own24 ne24 ⊢
            refine wpAnyH_ready (rs := [6]) (by kernel_rfl) (by simp) ?_
            refine AllReadyH.cons rfl (fun K1 hK1 => ?_) AllReadyH.nil
            rw [if_pos (by rfl)]
            have rw25 : wA24.ownsRow B 80 513 vw s.waits.length (wcl s.waits) := ownsRow_keeps hrow (Keeps.of_below (G := []) (hN0 ▸ bel24)) (fun _ _ => by simp)
            refine wp_append_own2 (.tmp 33) (.tmp 37) 62 rfl N0 B 80 i0 z0 513 i0.bytes Try.underlying62 hi0 hz0 hz1 rfl hz2 (by decide) (.slice (some ⟨gA24, 0, none⟩) 0 0) 0 [] rfl own24 _ _ _ rfl rw25 (wcl_ones _) (by have := hwl.out.2; unfold maxLen; omega) (by rw [hz3]; have := hwl.out.2; omega) le24 ?_
            intro v825 wA25 own25 gr25 mv25
            have kq25 := Keeps.grown gr25
            have bq25 : Below N0 wA24 wA25 := kq25.below le24 (fun q hq => by rw [Option.mem_toList] at hq; exact (own24.lt q hq).1)
            have bel25 := bel24.trans bq25
            have le25 := Nat.le_trans le24 bq25.size
            rw [Nat.zero_add, List.nil_append] at own25
            have hS25 : Keeps [g] wD wA25 := Keeps.of_below (hN0 ▸ bel25)
            have b425 := b424.keeps kq25 (fun hm => by rw [Option.mem_toList] at hm; simp only [Value.ownBlock, Option.some.injEq] at hm; exact ne24 hm.symm)
            have ne25 : v825.ownBlock ≠ some gB19 := mv25.ne b424.lt (fun e => by simp only [Value.ownBlock, Option.some.injEq] at e; exact ne24 e.symm)
            refine hK1.out _ _ hS25 (fun hH => ?_)
            clear hK1 K1 kq25 bq25 gr25 rw25
            simp only [Act.put, List.getElem_toArray, List.getElem_cons_succ, List.getElem_cons_zero, List.setIfInBounds_toArray, List.set_cons_zero, List.set_cons_succ, Nat.zero_add]
            exact key gA24 v825 gB19 wA25 ⟨own25, b425, n419, ne25, bel25, le25⟩
      · intro g3 v8 g4 wX hF
        obtain ⟨own8, b4, n4, ne8, bel8, le8⟩ := hF
        have hSX : Keeps [g] wD wX := Keeps.of_below (hN0 ▸ bel8)
        have hH := hSX
        refine wpAnyH_ready (rs := [9]) (by kernel_rfl) (by simp) ?_
        refine AllReadyH.cons rfl (fun K1 hK1 => ?_) AllReadyH.nil
        rw [if_pos (by rfl)]
        refine wp_append_row2 (.tmp 38) (.tmp 40) 62 rfl N0 80 i0 z0 513 i0.bytes Try.underlying62 hi0 hz0 hz1 rfl hz2 (by decide) v8 _ _ rfl own8 ⟨g4, 0, none⟩ 1 1 (.int .u32 (a : Int) :: bv l) rfl (by rw [h7len]) (fun j u hu => by rw [b4.cellAdd, Nat.zero_add]; exact hu) (ones_wr a l) (by have := hwl.out.2; unfold maxLen; omega) (by rw [hz3]; have := hwl.out.2; omega) le8 ?_
        intro v9 w9 own9 gr9 mv9
        have k9 := Keeps.grown gr9
        have bq9 : Below N0 wX w9 := k9.below le8 (fun q hq => by rw [Option.mem_toList] at hq; exact (own8.lt q hq).1)
        have bel9 := bel8.trans bq9
        have hS9 : Keeps [g] wD w9 := Keeps.of_below (hN0 ▸ bel9)
        have H9 : Rv B w9 g gl vw (stepS s) := H5d.keeps (Keeps.of_below (G := []) (hN0 ▸ bel9)) (by simp)
        have own9N : ∀ k, v9.ownBlock = some k → N0 ≤ k := fun k hk => (own9.lt k hk).1
        obtain ⟨A9, n9, c9, hv9⟩ : ∃ A n c, v9 = .slice A n c := by
          rcases own9.2 with ⟨e, _⟩ | ⟨g', cap, cur, e, _⟩
          · exact ⟨_, _, _, e⟩
          · exact ⟨_, _, _, e⟩
        subst hv9
        refine hK1.out _ _ hS9 (fun hH => ?_)
        clear hK1 K1 gr9 mv9 k9 bq9
        simp only [Act.put, List.getElem_toArray, List.getElem_cons_succ, List.getElem_cons_zero, List.setIfInBounds_toArray, List.set_cons_zero, List.set_cons_succ, Nat.zero_add]
        refine takeH_S (o := ⟨some 42, _, _, _, _, _⟩) (i := 10) rfl (by kernel_rfl) (by kernel_rfl) (by kernel_rfl) (fun _ _ _ _ h => h) rfl (.pointer (some ⟨g, 0, none⟩)) (fun w _ => by go_simp) hH ?_
        simp only [Act.put, List.setIfInBounds_toArray, List.set_cons_zero, List.set_cons_succ, Nat.zero_add, decide_true, beq_self_eq_true]
        refine takeH_field (o := ⟨some 43, _, _, _, _, _⟩) (i := 11) rfl (by kernel_rfl) (by kernel_rfl) (by kernel_rfl) (fun _ _ _ _ h => h) rfl 64 (.tmp 42) 1 rfl g 1 rfl (fun w => fldR1 _ w) hH ?_
        simp only [Act.put, List.setIfInBounds_toArray, List.set_cons_zero, List.set_cons_succ, Nat.zero_add, decide_true, beq_self_eq_true]
        have c9' := H9.c1
        have f9' := H9.blk.frozen 1
        have hgf := Lib.hid (H9.blk.set_ 1 (.slice A9 n9 c9))
        have hKf : Hid (Keeps [g] w9 (w9.setCell ⟨g, 1, none⟩ (.slice A9 n9 c9))) := (Keeps.refl [g] w9).setCell (p := ⟨g, 1, none⟩) (by simp) _
        have hSf := hS9.trans hKf.out
        refine wpAnyH_ready (rs := [12]) (by kernel_rfl) (by simp) ?_
        refine AllReadyH.cons rfl (fun K1 hK1 => ?_) AllReadyH.nil
        rw [if_pos (by rfl)]
        replace own9 := Lib.hid own9
        replace H9 := Lib.hid H9
        replace bel9 := Lib.hid bel9
        replace own9N := Lib.hid own9N
        replace hgN := Lib.hid hgN
        have hglN : Hid (gl < N0) := by show _ < _; rw [hN0]; exact (H5d.lt gl (mem_rblk.2 (.inr (.inl rfl)))).2
        have hBN : Hid (B ≤ N0) := Nat.le_of_lt (Nat.lt_of_le_of_lt (H5d.lt g (mem_rblk.2 (.inl rfl))).1 hgN.out)
        have hwN : Hid (w.heap.size ≤ N0) := by show _ ≤ _; rw [hN0]; exact hK5d.out.size
        clear b4 own8 bel8 le8 hSX n4 ne8 H5d hrow hrg hBel hle0 cg hrowN hS0 h7d
        go_wp2_with fail
        refine hK1.out _ _ hSf (fun hH => ?_)
        clear hK1 K1
        refine wpAnyH_done (by kernel_rfl) ?_ _
        clear c9' f9' hH hSf hS9
        go_wp2
        go_ret
        have ne9 : ∀ k, (Value.slice A9 n9 c9).ownBlock = some k → k ≠ g ∧ k ≠ gl := fun k hk => by have := own9N.out k hk; have := hgN.out; have := hglN.out; omega
        have own10 := ownsRow_keeps own9.out hKf.out (fun k hk => by simp; exact (ne9 k hk).1)
        have hKall : Keeps (rblk g gl vw) w (w9.setCell ⟨g, 1, none⟩ (.slice A9 n9 c9)) := (hK5d.out.trans (Keeps.of_below (G := rblk g gl vw) (by have := bel9.out; rw [hN0] at this; exact this))).trans (keeps_one hKf.out (mem_rblk.2 (.inl rfl)))
        refine ⟨rblk g gl (.slice A9 n9 c9), rfl, ⟨gl, .slice A9 n9 c9, ⟨⟨H9.out.ok.size, H9.out.ok.lies, ?_, H9.out.ok.left⟩, ?_, H9.out.lies.keeps hKf.out (by simp; exact fun e => H9.out.ne e.symm), ?_, H9.out.gB, H9.out.glB, H9.out.ne, ne9⟩, rfl⟩, ⟨hKall, ?_⟩⟩
        · intro p hp
          rcases List.mem_append.1 hp with hp | hp
          · exact H9.out.ok.waits p hp
          · rw [List.mem_singleton] at hp
            subst hp
            exact hok.out
        · exact hgf.out
        · show World.ownsRow _ B 80 513 _ (s.waits ++ [(a, l)]).length (wcl (s.waits ++ [(a, l)]))
          rw [List.length_append, show wcl (s.waits ++ [(a, l)]) = wcl s.waits ++ (.int .u32 (a : Int) :: bv l) from by simp [wcl]]
          obtain ⟨j1, j2⟩ := own10
          refine ⟨j1, ?_⟩
          rcases j2 with j2 | ⟨g', cap, cur, e, hb, r⟩
          · exact .inl j2
          · exact .inr ⟨g', cap, cur, e, Nat.le_trans hBN.out hb, r⟩
        · intro k hk
          rcases mem_rblk.1 hk with e | e | e
          · exact .inl (mem_rblk.2 (.inl e))
          · exact .inl (mem_rblk.2 (.inr (.inl e)))
          · exact .inr (Nat.le_trans hwN.out (own9N.out k e))
end Go.Proofs.Ytkpefffephbhnaa
