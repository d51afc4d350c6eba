/- The walk of SealBack. -/
import Derived.Test.YtlifpmglaoppoaaQ12P4
import Derived.Test.YtlifpmglaoppoaaEqH
set_option linter.unusedVariables false
set_option linter.unusedSimpArgs false
namespace Go.Proofs.Ytlifpmglaoppoaa.w_SealBack
open Go.RowKit
open Go.Proofs.PlainAes
open Go.Proofs.PlainSha
open Go.Proofs.PlainMac
open Go.Proofs.PlainSeal

theorem takeH_neqB {P : Program} {ops : Array Oper} {o : Oper} {a : Act} {w : World} {Q : Exit → Act → World → Prop} {S : World → Prop} {md : Region.Mode} {i : Nat} {fuel : Nat} {listed : Array Bool} (hi : ops[i]? = some o) (hs : Region.noSelect ops = true) (hf : Region.free md ops listed i = true) (hr : (Region.ready md ops listed).contains i = true)
    (hQ : ∀ c a w v, Q (.panic c) (a.put o.dst v) w → Q (.panic c) a w) (hw : Region.wanted o (yielded ops a.tmps) = true) (t : TypeId) (x y : Operand) (u : Nat) (ho : o.op = .binOp .neq t x y u) (n : Nat) (hB : ByteArr P t n) (l m : List Nat) (hx : a.eval x = .agg (bv l).toArray) (hy : a.eval y = .agg (bv m).toArray) (hl : l.length = n) (hm : m.length = n)
    (hH : S w) (h : wpAnyH P md ops Q S fuel (listed.setIfInBounds i true) (a.put o.dst (.bool (!decide (l = m)))) w) : wpAnyH P md ops Q S (fuel + 1) listed a w :=
  wpAnyH_take hi hs hf hr (fun c a w => hQ c a w _) (.inl ⟨hw, fun w _ => by
    obtain ⟨⟨e, hu, he, hs⟩, hg⟩ := hB
    unfold execOp
    simp only [ho, hx, hy, Sem.run_bind, run_eqGuard_agg w _ t x y _ _ hg, run_neq_bytes hu he hs hl hm, Result.andThen_ok, Sem.run_pure]⟩) hH h
theorem fldT0 (g : Nat) (w : World) : (Instr.fieldAt 58 (.pointer (some ⟨g, 0, none⟩)) 0).run Try.prog w = .ok (.pointer (some ⟨g, 0, none⟩)) w := by kernel_rfl
theorem fldT1 (g : Nat) (w : World) : (Instr.fieldAt 58 (.pointer (some ⟨g, 0, none⟩)) 1).run Try.prog w = .ok (.pointer (some ⟨g, 1, none⟩)) w := by kernel_rfl
theorem fldT2 (g : Nat) (w : World) : (Instr.fieldAt 58 (.pointer (some ⟨g, 0, none⟩)) 2).run Try.prog w = .ok (.pointer (some ⟨g, 2, none⟩)) w := by kernel_rfl
theorem fldT3 (g : Nat) (w : World) : (Instr.fieldAt 58 (.pointer (some ⟨g, 0, none⟩)) 3).run Try.prog w = .ok (.pointer (some ⟨g, 3, none⟩)) w := by kernel_rfl
theorem fldT4 (g : Nat) (w : World) : (Instr.fieldAt 58 (.pointer (some ⟨g, 0, none⟩)) 4).run Try.prog w = .ok (.pointer (some ⟨g, 4, none⟩)) w := by kernel_rfl
def RetOp' (S s : List Nat) (I : List Nat) (w : World) (e : Ending) (w' : World) : Prop :=
  (S = s → ∃ v, e = .returned (.tuple #[v, .int .i64 0]) ∧ Sl w' v (bv I) ∧ Below w.heap.size w w') ∧ (S ≠ s → e = .returned (.tuple #[.slice none 0 0, .int .i64 5]) ∧ Below w.heap.size w w')
set_option maxRecDepth 100000 in
set_option maxHeartbeats 4000000 in
theorem core (A A2 : Option Addr) (n c n2 c2 a t u : Nat) (k l : List Nat) (W : World) (hn : n = k.length) (hn2 : n2 = l.length) (hs : Sl W (.slice A n c) (bv k)) (hs2 : Sl W (.slice A2 n2 c2) (bv l)) (bk : Byt k) (bl : Byt l) (hnI : (n : Int) ≤ 140737488355328) (hnI2 : (n2 : Int) ≤ 140737488355328) (ha : (a : Int) ≤ 65535) (ht : (t : Int) ≤ 65535) (hu : (u : Int) ≤ 255) :
    Calls Try.prog 6 #[.agg #[.slice A n c, .slice A2 n2 c2, .int .u16 (a : Int), .int .u16 (t : Int), .int .u8 (u : Int)]] W fun e w' => e = .returned (.bool true) ∧ Below W.heap.size W w' := by
  obtain ⟨i0, hi, hz0, hz1, hz2⟩ := info_parts (P := Try.prog) (e := 5) (z := .int .u8 0) (size := 1) (bytes := 1) (by kernel_rfl)
  have hal := Lib.hid (fun w => alive12 w)
  have hder := Lib.hid (fun v w h hk => derive_keys v k w h bk hk)
  have bE : Byt (keyE k) := macL_byt _ _
  have hblk0 := Lib.hid (fun v w (h : Sl w v (bv l)) hl => block12 v l w h bl hl)
  have bI := blkL_byt bl
  have hIl := Lib.hid (blkL_length l)
  obtain ⟨ad, had⟩ : ∃ ad, ad = 2 + a % 4000 := ⟨_, rfl⟩
  have hBA : (ad : Int) ≤ 4095 ∧ 2 ≤ (ad : Int) := by omega
  have hsea := Lib.hid (fun v w h => sealed_blk v (keyE k) (keyM k) l 7 ad w h (keyE_length k) (keyM_length k) bE bl (by decide) (by decide) hBA.1 hBA.2)
  have bC := sealL_byt bE 7 ad bI
  have hCl : (sealL (keyE k) 7 ad (blkL l)).length = 512 := by simp
  have hback : sealL (keyE k) 7 ad (sealL (keyE k) 7 ad (blkL l)) = blkL l := crypt_twice _ _ _
  have hfit0 := fun v w (h : Sl w v (bv (sealL (keyE k) 7 ad (blkL l)))) => fits12 v _ (shaL (sealL (keyE k) 7 ad (blkL l))) 7 ad w h bC hCl (shaL_len _)
  unfold RetF at hfit0
  simp only [decide_true] at hfit0
  have hfit := Lib.hid hfit0
  have hsum := Lib.hid (fun v w (h : Sl w v (bv (sealL (keyE k) 7 ad (blkL l)))) => shasum_any _ v w h bC (by rw [hCl]; decide))
  have hsame := Lib.hid (fun va vb w ha hb => (same_any va vb (blkL l) (blkL l) w ha hb bI bI))
  rw [decide_eq_true (rfl : blkL l = blkL l)] at hsame
  have hop := Lib.hid (fun (D : List Nat) (bD : Byt D) (hD : D.length = 512) (I : List Nat) (hI : shaL D = shaL (sealL (keyE k) 7 ad (blkL l)) → sealL (keyE k) 7 ad D = I) v w (h : Sl w v (bv D)) => (opened_any v (keyE k) (keyM k) D (shaL (sealL (keyE k) 7 ad (blkL l))) 7 ad w h (keyE_length k) (keyM_length k) bE bD hD (shaL_len _) (by decide) (by omega)).mono (fun e w' h => (⟨fun h1 => (h.1 h1).imp fun v h2 => ⟨h2.1, by rw [← hI h1]; exact Sl.of_own h2.2.1, h2.2.2⟩, h.2⟩ : RetOp' (shaL D) (shaL (sealL (keyE k) 7 ad (blkL l))) I w e w')))
  have hopC := Lib.hid (hop.out _ bC hCl (blkL l) (fun _ => hback))
  have hS1 := Lib.hid (shaL_len (sealL (keyE k) 7 ad (blkL l)))
  have hSl := Lib.hid (show (bv (shaL (sealL (keyE k) 7 ad (blkL l)))).length = 32 by simp)
  have hpl := Lib.hid (show (pcells ad 7 (shaL (sealL (keyE k) 7 ad (blkL l)))).length = 34 by simp)
  have hKl := Lib.hid (show (bv (keyE k ++ keyM k)).length = 64 by simp)
  have hSC : Hid (shaL (sealL (keyE k) 7 ad (blkL l)) = shaL (sealL (keyE k) 7 ad (blkL l))) := rfl
  have hback := Lib.hid hback
  have HCl := Lib.hid hCl
  have HbC := Lib.hid bC
  have sA0 := Lib.hid hs
  have sB0 := Lib.hid hs2
  have hnA := Lib.hid hn
  have hnB := Lib.hid hn2
  clear bC hCl hfit0 hs hs2 hn hn2 bk bl bE bI
  generalize hCe : sealL (keyE k) 7 ad (blkL l) = C at *
  generalize hSe : shaL C = S at *
  replace hSe := Lib.hid hSe
  replace hCe := Lib.hid hCe
  generalize keyE k = E at *
  generalize keyM k = M at *
  go_enter Try.func6, Try.ntmps6
  go_wp2_with fail
  refine (hal.out _).mono ?_
  rintro e w1 ⟨rfl, hB1⟩
  have h1 : Blk (W.alloc (.cells #[.slice A n c, .slice A2 n2 c2, .int .u16 (a : Int), .int .u16 (t : Int), .int .u8 (u : Int)] 58)) W.heap.size 58 [.slice A n c, .slice A2 n2 c2, .int .u16 (a : Int), .int .u16 (t : Int), .int .u8 (u : Int)] := Blk.new_at rfl rfl
  have hB : Below W.heap.size W (W.alloc (.cells #[.slice A n c, .slice A2 n2 c2, .int .u16 (a : Int), .int .u16 (t : Int), .int .u8 (u : Int)] 58)) := (Below.refl _ _).alloc (Nat.le_refl _) _
  replace h1 := h1.keep hB1
  replace hB := below_call hB hB.size hB1
  clear hB1
  go_upto_region 3 with fail
  refine wp_region_held_drew (S := fun w' => Below w1.heap.size w1 w') (by kernel_rfl) ((Below.refl _ _).drew) (fun hH => ?_)
  refine takeH_field (o := ⟨some 21, _, _, _, _, _⟩) (i := 0) rfl (by kernel_rfl) (by kernel_rfl) (by kernel_rfl) (fun _ _ _ _ h => h) rfl 58 (.tmp 1) 0 rfl W.heap.size 0 rfl (fun w => fldT0 _ w) hH ?_
  simp only [Act.put, List.setIfInBounds_toArray, List.set_cons_zero, List.set_cons_succ, Nat.zero_add, decide_true, beq_self_eq_true]
  refine takeH_cell (o := ⟨some 22, _, _, _, _, _⟩) (i := 1) rfl (by kernel_rfl) (by kernel_rfl) (by kernel_rfl) (fun _ _ _ _ h => h) rfl 22 (.tmp 21) rfl Try.underlying22 rfl W.heap.size 0 rfl (.slice A n c) (fun w h => (h1.keep h).cell 0) hH ?_
  simp only [Act.put, List.setIfInBounds_toArray, List.set_cons_zero, List.set_cons_succ, Nat.zero_add, decide_true, beq_self_eq_true]
  refine takeH_field (o := ⟨some 23, _, _, _, _, _⟩) (i := 2) rfl (by kernel_rfl) (by kernel_rfl) (by kernel_rfl) (fun _ _ _ _ h => h) rfl 58 (.tmp 1) 1 rfl W.heap.size 1 rfl (fun w => fldT1 _ w) hH ?_
  simp only [Act.put, List.setIfInBounds_toArray, List.set_cons_zero, List.set_cons_succ, Nat.zero_add, decide_true, beq_self_eq_true]
  refine takeH_cell (o := ⟨some 24, _, _, _, _, _⟩) (i := 3) rfl (by kernel_rfl) (by kernel_rfl) (by kernel_rfl) (fun _ _ _ _ h => h) rfl 22 (.tmp 23) rfl Try.underlying22 rfl W.heap.size 1 rfl (.slice A2 n2 c2) (fun w h => (h1.keep h).cell 1) hH ?_
  simp only [Act.put, List.setIfInBounds_toArray, List.set_cons_zero, List.set_cons_succ, Nat.zero_add, decide_true, beq_self_eq_true]
  refine takeH_field (o := ⟨some 25, _, _, _, _, _⟩) (i := 4) rfl (by kernel_rfl) (by kernel_rfl) (by kernel_rfl) (fun _ _ _ _ h => h) rfl 58 (.tmp 1) 2 rfl W.heap.size 2 rfl (fun w => fldT2 _ w) hH ?_
  simp only [Act.put, List.setIfInBounds_toArray, List.set_cons_zero, List.set_cons_succ, Nat.zero_add, decide_true, beq_self_eq_true]
  refine takeH_cell (o := ⟨some 26, _, _, _, _, _⟩) (i := 5) rfl (by kernel_rfl) (by kernel_rfl) (by kernel_rfl) (fun _ _ _ _ h => h) rfl 56 (.tmp 25) rfl Try.underlying56 rfl W.heap.size 2 rfl (.int .u16 (a : Int)) (fun w h => (h1.keep h).cell 2) hH ?_
  simp only [Act.put, List.setIfInBounds_toArray, List.set_cons_zero, List.set_cons_succ, Nat.zero_add, decide_true, beq_self_eq_true]
  refine takeH_field (o := ⟨some 27, _, _, _, _, _⟩) (i := 6) rfl (by kernel_rfl) (by kernel_rfl) (by kernel_rfl) (fun _ _ _ _ h => h) rfl 58 (.tmp 1) 3 rfl W.heap.size 3 rfl (fun w => fldT3 _ w) hH ?_
  simp only [Act.put, List.setIfInBounds_toArray, List.set_cons_zero, List.set_cons_succ, Nat.zero_add, decide_true, beq_self_eq_true]
  refine takeH_cell (o := ⟨some 28, _, _, _, _, _⟩) (i := 7) rfl (by kernel_rfl) (by kernel_rfl) (by kernel_rfl) (fun _ _ _ _ h => h) rfl 56 (.tmp 27) rfl Try.underlying56 rfl W.heap.size 3 rfl (.int .u16 (t : Int)) (fun w h => (h1.keep h).cell 3) hH ?_
  simp only [Act.put, List.setIfInBounds_toArray, List.set_cons_zero, List.set_cons_succ, Nat.zero_add, decide_true, beq_self_eq_true]
  refine takeH_field (o := ⟨some 29, _, _, _, _, _⟩) (i := 8) rfl (by kernel_rfl) (by kernel_rfl) (by kernel_rfl) (fun _ _ _ _ h => h) rfl 58 (.tmp 1) 4 rfl W.heap.size 4 rfl (fun w => fldT4 _ w) hH ?_
  simp only [Act.put, List.setIfInBounds_toArray, List.set_cons_zero, List.set_cons_succ, Nat.zero_add, decide_true, beq_self_eq_true]
  refine takeH_cell (o := ⟨some 30, _, _, _, _, _⟩) (i := 9) rfl (by kernel_rfl) (by kernel_rfl) (by kernel_rfl) (fun _ _ _ _ h => h) rfl 5 (.tmp 29) rfl Try.underlying5 rfl W.heap.size 4 rfl (.int .u8 (u : Int)) (fun w h => (h1.keep h).cell 4) hH ?_
  simp only [Act.put, List.setIfInBounds_toArray, List.set_cons_zero, List.set_cons_succ, Nat.zero_add, decide_true, beq_self_eq_true]
  refine takeH_assign (o := ⟨some 3, _, _, _, _, _⟩) (i := 10) rfl (by kernel_rfl) (by kernel_rfl) (by kernel_rfl) (fun _ _ _ _ h => h) rfl (.tmp 22) rfl (.slice A n c) rfl hH ?_
  simp only [Act.put, List.setIfInBounds_toArray, List.set_cons_zero, List.set_cons_succ, Nat.zero_add, decide_true, beq_self_eq_true]
  refine takeH_assign (o := ⟨some 4, _, _, _, _, _⟩) (i := 11) rfl (by kernel_rfl) (by kernel_rfl) (by kernel_rfl) (fun _ _ _ _ h => h) rfl (.tmp 24) rfl (.slice A2 n2 c2) rfl hH ?_
  simp only [Act.put, List.setIfInBounds_toArray, List.set_cons_zero, List.set_cons_succ, Nat.zero_add, decide_true, beq_self_eq_true]
  refine takeH_assign (o := ⟨some 5, _, _, _, _, _⟩) (i := 12) rfl (by kernel_rfl) (by kernel_rfl) (by kernel_rfl) (fun _ _ _ _ h => h) rfl (.tmp 26) rfl (.int .u16 (a : Int)) rfl hH ?_
  simp only [Act.put, List.setIfInBounds_toArray, List.set_cons_zero, List.set_cons_succ, Nat.zero_add, decide_true, beq_self_eq_true]
  refine takeH_assign (o := ⟨some 6, _, _, _, _, _⟩) (i := 13) rfl (by kernel_rfl) (by kernel_rfl) (by kernel_rfl) (fun _ _ _ _ h => h) rfl (.tmp 28) rfl (.int .u16 (t : Int)) rfl hH ?_
  simp only [Act.put, List.setIfInBounds_toArray, List.set_cons_zero, List.set_cons_succ, Nat.zero_add, decide_true, beq_self_eq_true]
  refine takeH_assign (o := ⟨some 7, _, _, _, _, _⟩) (i := 14) rfl (by kernel_rfl) (by kernel_rfl) (by kernel_rfl) (fun _ _ _ _ h => h) rfl (.tmp 30) rfl (.int .u8 (u : Int)) rfl hH ?_
  simp only [Act.put, List.setIfInBounds_toArray, List.set_cons_zero, List.set_cons_succ, Nat.zero_add, decide_true, beq_self_eq_true]
  refine wpAnyH_done (by kernel_rfl) ?_ _
  replace hB := below_call hB hB.size hH
  clear hH h1
  by_cases hlt : (200 : Int) < (n : Int)
  · go_wp2
    go_ret
    exact ⟨rfl, hB⟩
  by_cases hlt2 : (600 : Int) < (n2 : Int)
  · go_wp2
    go_ret
    exact ⟨rfl, hB⟩
  have d1 : decide ((200 : Int) < (n : Int)) = false := by simp; omega
  have d2 : decide ((600 : Int) < (n2 : Int)) = false := by simp; omega
  have hder1 := Lib.hid (fun v w h => hder.out v w h (by rw [← hnA.out]; omega))
  have hblk := Lib.hid (fun v w h => hblk0.out v w h (by rw [← hnB.out]; omega))
  clear hlt hlt2 hnA hnB hder hblk0
  have sA := Lib.hid (sA0.out.keep hB)
  have sB := Lib.hid (sB0.out.keep hB)
  clear sA0
  go_wp2_with fail
  refine (hder1.out _ _ sA.out).mono ?_
  rintro e w2 ⟨rfl, hB2⟩
  replace hB := below_call hB hB.size hB2
  replace sB := Lib.hid (sB.out.keep hB2)
  clear hB2 sA hder1
  go_wp2_with fail
  refine (hblk.out _ _ sB.out).mono ?_
  rintro e w3 ⟨gb, rfl, -, hb9, hB3⟩
  replace hB := below_call hB hB.size hB3
  clear hB3 sB
  have hgl := Lib.hid hb9.lt
  have hgw := Lib.hid hB.size
  go_wp2_with (refine wpList_allocA rfl 28 rfl (bv (zeros 64)) ks_zero ?_)
  intro w4 h8 hK4 hz4
  replace hB := hB.trans (hK4.below hB.size (by simp))
  replace hb9 := hb9.keeps hK4 (by simp)
  clear hK4 hz4
  have hne8 : Hid (gb ≠ w3.heap.size) := fun h => by have := hgl.out; omega
  generalize w3.heap.size = g8 at *
  obtain ⟨r, hr⟩ : ∃ r, Hid (r = a % 4000) := ⟨_, rfl⟩
  have q1 : Int.tmod (a : Int) 4000 = (r : Int) := by rw [hr.out, Int.tmod_eq_emod_of_nonneg (by omega)]; omega
  have q1' : (a : Int) % 4000 = (r : Int) := by rw [hr.out]; omega
  have q2 : (2 : Int) + (r : Int) = (ad : Int) := by have := hr.out; omega
  have q3 : IntKind.u32.wrap (ad : Int) = (ad : Int) := by rw [IntKind.wrap_u32]; omega
  clear had hBA
  go_wp2_with (refine wpList_storeW rfl 28 (.tmp 8) (.tmp 40) rfl 64 arrKs _ rfl (bv (E ++ M)) rfl 28 _ h8 hKl.out (by simp) (ones_bv _) ?_)
  intro w5 h8b hK5
  replace hb9 := hb9.keeps hK5 (by simp; exact hne8.out)
  replace h8 := h8b
  replace hB := hB.trans (hK5.below hB.size (by intro b hb; simp only [List.mem_singleton] at hb; subst hb; exact hgw.out))
  clear hK5 h8b
  go_wp2_with (refine wpList_loadW rfl 28 (.tmp 8) rfl 64 arrKs _ rfl 28 _ h8 hKl.out ?_)
  refine (hsea.out _ _ (blk_sl hb9 hIl.out)).mono ?_
  rintro e w6 ⟨Av, cv, rfl, oc, hB6⟩
  have h8l := Lib.hid (Nat.lt_of_lt_of_le h8.lt hB6.size)
  have h9l := Lib.hid (Nat.lt_of_lt_of_le hb9.lt hB6.size)
  replace h8 := h8.keep hB6
  replace hb9 := hb9.keep hB6
  replace hB := below_call hB hB.size hB6
  clear hB6 hsea
  have hne := Lib.hid (own_ne2 oc (g := w6.heap.size) (Nat.le_refl _))
  have hgc := Lib.hid hB.size
  replace oc := Lib.hid oc
  go_wp2_with (refine wpList_allocA rfl 41 rfl (pcells 0 0 (zeros 32)) pt_zero ?_)
  intro w7 h12 hK7 hz7
  replace oc := Lib.hid (own_keeps oc.out hK7 (fun k _ _ hm => by simp at hm))
  replace h8 := h8.keeps hK7 (by simp)
  replace hb9 := hb9.keeps hK7 (by simp)
  replace hB := hB.trans (hK7.below hB.size (by simp))
  clear hK7 hz7
  generalize w6.heap.size = g12 at *
  go_wp2_with (refine wpList_storeW rfl 41 (.tmp 12) (.tmp 53) rfl 34 arrPt _ rfl (pcells ad 7 S) rfl 41 _ h12 hpl.out (by simp) (pcells_ones _ _ _) ?_)
  intro w8 h12b hK8
  replace oc := Lib.hid (own_keeps oc.out hK8 (fun k _ hk hm => hne.out k hk (by simpa using hm)))
  replace h8 := h8.keeps hK8 (by simp; have := h8l.out; omega)
  replace hb9 := hb9.keeps hK8 (by simp; have := h9l.out; omega)
  replace hB := hB.trans (hK8.below hB.size (by intro b hb; simp only [List.mem_singleton] at hb; subst hb; exact hgc.out))
  clear h12 hK8 hne8 hgl hgw h8l h9l hne
  have h12 := h12b
  clear h12b
  have o11 := Lib.hid (Sl.of_own oc.out)
  have s9 := Lib.hid (blk_sl hb9 hIl.out)
  have sB := Lib.hid (sB0.out.keep hB)
  clear oc hb9 sB0
  go_upto_region 9 with fail
  refine wp_region_held_drew (S := fun w' => Below w8.heap.size w8 w') (by kernel_rfl) ((Below.refl _ _).drew) (fun hH => ?_)
  refine takeH_move (o := ⟨some 55, _, _, _, _, _⟩) (i := 0) rfl (by kernel_rfl) (by kernel_rfl) (by kernel_rfl) (fun _ _ _ _ h => h) rfl (.tmp 13) rfl (.int .i64 0) rfl hH ?_
  simp only [Act.put, List.setIfInBounds_toArray, List.set_cons_zero, List.set_cons_succ, Nat.zero_add, decide_true, beq_self_eq_true]
  refine takeH_S (o := ⟨some 56, _, _, _, _, _⟩) (i := 1) rfl (by kernel_rfl) (by kernel_rfl) (by kernel_rfl) (fun _ _ _ _ h => h) rfl (.bool false) (fun w _ => by go_simp) hH ?_
  simp only [Act.put, List.setIfInBounds_toArray, List.set_cons_zero, List.set_cons_succ, Nat.zero_add, decide_true, beq_self_eq_true]
  refine takeH_move (o := ⟨some 57, _, _, _, _, _⟩) (i := 2) rfl (by kernel_rfl) (by kernel_rfl) (by kernel_rfl) (fun _ _ _ _ h => h) rfl (.tmp 56) rfl (.bool false) rfl hH ?_
  simp only [Act.put, List.setIfInBounds_toArray, List.set_cons_zero, List.set_cons_succ, Nat.zero_add, decide_true, beq_self_eq_true]
  refine takeH_load (o := ⟨some 58, _, _, _, _, _⟩) (i := 3) rfl (by kernel_rfl) (by kernel_rfl) (by kernel_rfl) (fun _ _ _ _ h => h) rfl 41 (.tmp 12) rfl 34 arrPt g12 0 rfl (pcells ad 7 S) hpl.out (fun w h => hSS (h12.keep h) hpl.out) hH ?_
  simp only [Act.put, List.setIfInBounds_toArray, List.set_cons_zero, List.set_cons_succ, Nat.zero_add, decide_true, beq_self_eq_true]
  refine takeH_move (o := ⟨some 59, _, _, _, _, _⟩) (i := 4) rfl (by kernel_rfl) (by kernel_rfl) (by kernel_rfl) (fun _ _ _ _ h => h) rfl (.tmp 11) rfl (.slice Av 512 cv) rfl hH ?_
  simp only [Act.put, List.setIfInBounds_toArray, List.set_cons_zero, List.set_cons_succ, Nat.zero_add, decide_true, beq_self_eq_true]
  refine wpAnyH_ready (rs := [5]) (by kernel_rfl) (by simp) ?_
  refine AllReadyH.cons rfl (fun K1 hK1 => ?_) AllReadyH.nil
  rw [if_pos (by rfl)]
  go_wp2_with fail
  refine (hfit.out _ _ (o11.out.keep hH)).mono ?_
  rintro e wa ⟨rfl, hBa⟩
  refine hK1.out _ _ (below_call hH hH.size hBa) (fun hH => ?_)
  clear hK1 K1
  refine takeH_S (o := ⟨some 61, _, _, _, _, _⟩) (i := 6) rfl (by kernel_rfl) (by kernel_rfl) (by kernel_rfl) (fun _ _ _ _ h => h) rfl (.bool false) (fun w _ => by go_simp) hH ?_
  simp only [Act.put, List.setIfInBounds_toArray, List.set_cons_zero, List.set_cons_succ, Nat.zero_add, decide_true, beq_self_eq_true]
  refine takeH_pick (o := ⟨some 62, _, _, _, _, _⟩) (i := 7) rfl (by kernel_rfl) (by kernel_rfl) (by kernel_rfl) (fun _ _ _ _ h => h) rfl (.tmp 57) (.const (.bool true)) (.tmp 61) rfl false rfl (.bool false) rfl hH ?_
  simp only [Act.put, List.setIfInBounds_toArray, List.set_cons_zero, List.set_cons_succ, Nat.zero_add, decide_true, beq_self_eq_true]
  refine takeH_move (o := ⟨some 63, _, _, _, _, _⟩) (i := 8) rfl (by kernel_rfl) (by kernel_rfl) (by kernel_rfl) (fun _ _ _ _ h => h) rfl (.tmp 62) rfl (.bool false) rfl hH ?_
  simp only [Act.put, List.setIfInBounds_toArray, List.set_cons_zero, List.set_cons_succ, Nat.zero_add, decide_true, beq_self_eq_true]
  refine takeH_field (o := ⟨some 64, _, _, _, _, _⟩) (i := 9) rfl (by kernel_rfl) (by kernel_rfl) (by kernel_rfl) (fun _ _ _ _ h => h) rfl 41 (.tmp 12) 0 rfl g12 0 rfl (fun w => fldP0 _ w) hH ?_
  simp only [Act.put, List.setIfInBounds_toArray, List.set_cons_zero, List.set_cons_succ, Nat.zero_add, decide_true, beq_self_eq_true]
  refine takeH_cell (o := ⟨some 65, _, _, _, _, _⟩) (i := 10) rfl (by kernel_rfl) (by kernel_rfl) (by kernel_rfl) (fun _ _ _ _ h => h) rfl 35 (.tmp 64) rfl Try.underlying35 rfl g12 0 rfl (.int .u32 (ad : Int)) (fun w h => (h12.keep h).cell 0) hH ?_
  simp only [Act.put, List.setIfInBounds_toArray, List.set_cons_zero, List.set_cons_succ, Nat.zero_add, decide_true, beq_self_eq_true]
  refine takeH_move (o := ⟨some 66, _, _, _, _, _⟩) (i := 11) rfl (by kernel_rfl) (by kernel_rfl) (by kernel_rfl) (fun _ _ _ _ h => h) rfl (.tmp 10) rfl (.int .u32 (ad : Int)) rfl hH ?_
  simp only [Act.put, List.setIfInBounds_toArray, List.set_cons_zero, List.set_cons_succ, Nat.zero_add, decide_true, beq_self_eq_true]
  refine takeH_S (o := ⟨some 67, _, _, _, _, _⟩) (i := 12) rfl (by kernel_rfl) (by kernel_rfl) (by kernel_rfl) (fun _ _ _ _ h => h) rfl (.bool false) (fun w _ => by go_simp) hH ?_
  simp only [Act.put, List.setIfInBounds_toArray, List.set_cons_zero, List.set_cons_succ, Nat.zero_add, decide_true, beq_self_eq_true]
  refine takeH_pick (o := ⟨some 68, _, _, _, _, _⟩) (i := 13) rfl (by kernel_rfl) (by kernel_rfl) (by kernel_rfl) (fun _ _ _ _ h => h) rfl (.tmp 63) (.const (.bool true)) (.tmp 67) rfl false rfl (.bool false) rfl hH ?_
  simp only [Act.put, List.setIfInBounds_toArray, List.set_cons_zero, List.set_cons_succ, Nat.zero_add, decide_true, beq_self_eq_true]
  refine takeH_move (o := ⟨some 69, _, _, _, _, _⟩) (i := 14) rfl (by kernel_rfl) (by kernel_rfl) (by kernel_rfl) (fun _ _ _ _ h => h) rfl (.tmp 68) rfl (.bool false) rfl hH ?_
  simp only [Act.put, List.setIfInBounds_toArray, List.set_cons_zero, List.set_cons_succ, Nat.zero_add, decide_true, beq_self_eq_true]
  refine takeH_field (o := ⟨some 70, _, _, _, _, _⟩) (i := 15) rfl (by kernel_rfl) (by kernel_rfl) (by kernel_rfl) (fun _ _ _ _ h => h) rfl 41 (.tmp 12) 1 rfl g12 1 rfl (fun w => fldP1 _ w) hH ?_
  simp only [Act.put, List.setIfInBounds_toArray, List.set_cons_zero, List.set_cons_succ, Nat.zero_add, decide_true, beq_self_eq_true]
  refine takeH_cell (o := ⟨some 71, _, _, _, _, _⟩) (i := 16) rfl (by kernel_rfl) (by kernel_rfl) (by kernel_rfl) (fun _ _ _ _ h => h) rfl 34 (.tmp 70) rfl Try.underlying34 rfl g12 1 rfl (.int .u64 ((7 : Nat) : Int)) (fun w h => (h12.keep h).cell 1) hH ?_
  simp only [Act.put, List.setIfInBounds_toArray, List.set_cons_zero, List.set_cons_succ, Nat.zero_add, decide_true, beq_self_eq_true]
  refine takeH_S (o := ⟨some 72, _, _, _, _, _⟩) (i := 17) rfl (by kernel_rfl) (by kernel_rfl) (by kernel_rfl) (fun _ _ _ _ h => h) rfl (.bool false) (fun w _ => by go_simp) hH ?_
  simp only [Act.put, List.setIfInBounds_toArray, List.set_cons_zero, List.set_cons_succ, Nat.zero_add, decide_true, beq_self_eq_true]
  refine takeH_pick (o := ⟨some 73, _, _, _, _, _⟩) (i := 18) rfl (by kernel_rfl) (by kernel_rfl) (by kernel_rfl) (fun _ _ _ _ h => h) rfl (.tmp 69) (.const (.bool true)) (.tmp 72) rfl false rfl (.bool false) rfl hH ?_
  simp only [Act.put, List.setIfInBounds_toArray, List.set_cons_zero, List.set_cons_succ, Nat.zero_add, decide_true, beq_self_eq_true]
  refine takeH_move (o := ⟨some 74, _, _, _, _, _⟩) (i := 19) rfl (by kernel_rfl) (by kernel_rfl) (by kernel_rfl) (fun _ _ _ _ h => h) rfl (.tmp 73) rfl (.bool false) rfl hH ?_
  simp only [Act.put, List.setIfInBounds_toArray, List.set_cons_zero, List.set_cons_succ, Nat.zero_add, decide_true, beq_self_eq_true]
  refine takeH_field (o := ⟨some 75, _, _, _, _, _⟩) (i := 20) rfl (by kernel_rfl) (by kernel_rfl) (by kernel_rfl) (fun _ _ _ _ h => h) rfl 41 (.tmp 12) 2 rfl g12 2 rfl (fun w => fldP2 _ w) hH ?_
  simp only [Act.put, List.setIfInBounds_toArray, List.set_cons_zero, List.set_cons_succ, Nat.zero_add, decide_true, beq_self_eq_true]
  refine takeH_load (o := ⟨some 76, _, _, _, _, _⟩) (i := 21) rfl (by kernel_rfl) (by kernel_rfl) (by kernel_rfl) (fun _ _ _ _ h => h) rfl 26 (.tmp 75) rfl 32 arrH g12 2 rfl (bv S) hSl.out (fun w h => SP2 (h12.keep h)) hH ?_
  simp only [Act.put, List.setIfInBounds_toArray, List.set_cons_zero, List.set_cons_succ, Nat.zero_add, decide_true, beq_self_eq_true]
  refine takeH_move (o := ⟨some 77, _, _, _, _, _⟩) (i := 22) rfl (by kernel_rfl) (by kernel_rfl) (by kernel_rfl) (fun _ _ _ _ h => h) rfl (.tmp 11) rfl (.slice Av 512 cv) rfl hH ?_
  simp only [Act.put, List.setIfInBounds_toArray, List.set_cons_zero, List.set_cons_succ, Nat.zero_add, decide_true, beq_self_eq_true]
  refine wpAnyH_ready (rs := [23]) (by kernel_rfl) (by simp) ?_
  refine AllReadyH.cons rfl (fun K1 hK1 => ?_) AllReadyH.nil
  rw [if_pos (by rfl)]
  go_wp2_with fail
  refine (hsum.out _ _ (o11.out.keep hH)).mono ?_
  rintro e wa ⟨rfl, hBa⟩
  refine hK1.out _ _ (below_call hH hH.size hBa) (fun hH => ?_)
  clear hK1 K1
  refine takeH_neqB (o := ⟨some 79, _, _, _, _, _⟩) (i := 24) rfl (by kernel_rfl) (by kernel_rfl) (by kernel_rfl) (fun _ _ _ _ h => h) rfl 26 (.tmp 76) (.tmp 78) 26 rfl 32 bytH S S rfl rfl hS1.out hS1.out hH ?_
  rw [decide_eq_true (rfl : S = S), Bool.not_true]
  simp only [Act.put, List.setIfInBounds_toArray, List.set_cons_zero, List.set_cons_succ, Nat.zero_add, decide_true, beq_self_eq_true]
  refine takeH_pick (o := ⟨some 80, _, _, _, _, _⟩) (i := 25) rfl (by kernel_rfl) (by kernel_rfl) (by kernel_rfl) (fun _ _ _ _ h => h) rfl (.tmp 74) (.const (.bool true)) (.tmp 79) rfl false rfl (.bool false) rfl hH ?_
  simp only [Act.put, List.setIfInBounds_toArray, List.set_cons_zero, List.set_cons_succ, Nat.zero_add, decide_true, beq_self_eq_true]
  refine takeH_move (o := ⟨some 81, _, _, _, _, _⟩) (i := 26) rfl (by kernel_rfl) (by kernel_rfl) (by kernel_rfl) (fun _ _ _ _ h => h) rfl (.tmp 80) rfl (.bool false) rfl hH ?_
  simp only [Act.put, List.setIfInBounds_toArray, List.set_cons_zero, List.set_cons_succ, Nat.zero_add, decide_true, beq_self_eq_true]
  refine takeH_move (o := ⟨some 82, _, _, _, _, _⟩) (i := 27) rfl (by kernel_rfl) (by kernel_rfl) (by kernel_rfl) (fun _ _ _ _ h => h) rfl (.tmp 9) rfl (.slice (some ⟨gb, 0, none⟩) 512 512) rfl hH ?_
  simp only [Act.put, List.setIfInBounds_toArray, List.set_cons_zero, List.set_cons_succ, Nat.zero_add, decide_true, beq_self_eq_true]
  refine takeH_move (o := ⟨some 83, _, _, _, _, _⟩) (i := 28) rfl (by kernel_rfl) (by kernel_rfl) (by kernel_rfl) (fun _ _ _ _ h => h) rfl (.tmp 4) rfl (.slice A2 n2 c2) rfl hH ?_
  simp only [Act.put, List.setIfInBounds_toArray, List.set_cons_zero, List.set_cons_succ, Nat.zero_add, decide_true, beq_self_eq_true]
  refine wpAnyH_ready (rs := [29]) (by kernel_rfl) (by simp) ?_
  refine AllReadyH.cons rfl (fun K1 hK1 => ?_) AllReadyH.nil
  rw [if_pos (by rfl)]
  go_wp2_with fail
  refine (hblk.out _ _ (sB.out.keep hH)).mono ?_
  rintro e wk ⟨gk, rfl, -, hbk, hBa⟩
  refine hK1.out _ _ (below_call hH hH.size hBa) (fun hH => ?_)
  clear hK1 K1 hBa
  refine wpAnyH_ready (rs := [30]) (by kernel_rfl) (by simp) ?_
  refine AllReadyH.cons rfl (fun K1 hK1 => ?_) AllReadyH.nil
  rw [if_pos (by rfl)]
  go_wp2_with fail
  refine (hsame.out _ _ _ (s9.out.keep hH) (blk_sl hbk hIl.out)).mono ?_
  rintro e wk2 ⟨rfl, rfl⟩
  refine hK1.out _ _ hH (fun hH => ?_)
  clear hK1 K1 hbk
  refine takeH_S (o := ⟨some 86, _, _, _, _, _⟩) (i := 31) rfl (by kernel_rfl) (by kernel_rfl) (by kernel_rfl) (fun _ _ _ _ h => h) rfl (.bool false) (fun w _ => by go_simp) hH ?_
  simp only [Act.put, List.setIfInBounds_toArray, List.set_cons_zero, List.set_cons_succ, Nat.zero_add, decide_true, beq_self_eq_true]
  refine takeH_pick (o := ⟨some 87, _, _, _, _, _⟩) (i := 32) rfl (by kernel_rfl) (by kernel_rfl) (by kernel_rfl) (fun _ _ _ _ h => h) rfl (.tmp 81) (.const (.bool true)) (.tmp 86) rfl false rfl (.bool false) rfl hH ?_
  simp only [Act.put, List.setIfInBounds_toArray, List.set_cons_zero, List.set_cons_succ, Nat.zero_add, decide_true, beq_self_eq_true]
  refine wpAnyH_done (by kernel_rfl) ?_ _
  replace hB := below_call hB hB.size hH
  replace h8 := h8.keep hH
  replace h12 := h12.keep hH
  replace o11 := Lib.hid (o11.out.keep hH)
  replace s9 := Lib.hid (s9.out.keep hH)
  clear hH sB hblk hfit
  go_wp2_with (first
    | refine wpList_loadW rfl 28 (.tmp 8) rfl 64 arrKs _ rfl 28 _ h8 hKl.out ?_
    | refine wpList_loadW rfl 41 (.tmp 12) rfl 34 arrPt _ rfl 41 _ h12 hpl.out ?_)
  refine (hopC.out _ _ o11.out).mono ?_
  intro e w9 hrr
  obtain ⟨vx, rfl, sx, hB9⟩ := hrr.1 trivial
  clear hrr
  replace hB := below_call hB hB.size hB9
  replace h8 := h8.keep hB9
  replace h12 := h12.keep hB9
  replace o11 := Lib.hid (o11.out.keep hB9)
  replace s9 := Lib.hid (s9.out.keep hB9)
  clear hB9
  replace sx := Lib.hid sx
  go_wp2_with fail
  refine (hsame.out _ _ _ sx.out s9.out).mono ?_
  rintro e wq ⟨rfl, rfl⟩
  clear sx
  have own0 : (w9.alloc (.cells #[] 5)).ownsRow w9.heap.size 5 1 (.slice (some ⟨w9.heap.size, 0, none⟩) 0 0) 0 [] := World.ownsRow_made w9 #[] 0 (Nat.le_refl _) (Nat.zero_le _) rfl
  have bel0 : Below w9.heap.size w9 (w9.alloc (.cells #[] 5)) := (Below.refl _ _).alloc (Nat.le_refl _) _
  have sl1 := o11.out.keep bel0
  have hCb : (bv C).length = 512 := by rw [bv_length, HCl.out]
  replace hCb := Lib.hid hCb
  go_wp2_with (at_builtin; refine wpList_append_sl rfl (.tmp 103) (.tmp 104) 22 rfl w9.heap.size 5 i0 (.int .u8 0) 1 Try.underlying22 hi hz0 hz1 hz2 rfl _ 0 [] rfl own0 _ (bv C) rfl sl1 (bv_oneCell _) ?_ ?_ ?_ ?_)
  · rw [hCb.out]; simp [maxLen]
  · rw [hCb.out]; decide
  · simp
  intro v5 wd own5 gr5
  have bel5 := own_below bel0 gr5 own0 (by simp)
  have own6 : wd.ownsRow w9.heap.size 5 1 v5 512 (bv C) := by
    try simp only [Nat.zero_add, List.nil_append] at own5
    first | rw [HCl.out] at own5 | rw [hCb.out] at own5
    exact own5
  clear own5 gr5 own0 bel0 sl1
  obtain ⟨Ad, cd, rfl, -⟩ := own_shape own6
  obtain ⟨m, hm⟩ : ∃ m, m = t % 512 := ⟨_, rfl⟩
  have hml : m < 512 := by omega
  have p1 : Int.tmod (t : Int) 512 = (m : Int) := by rw [hm, Int.tmod_eq_emod_of_nonneg (by omega)]; omega
  have p2 : (0 : Int) ≤ (m : Int) := by omega
  have p3 : (m : Int) < 512 := by omega
  obtain ⟨kd, rfl, hk1, hk2, f0, c0, hset⟩ := own_set own6 (i := m) hml
  have hy := gd_get (l := C) (i := m) (by rw [HCl.out]; exact hml)
  have hylt := gd_lt HbC.out m
  obtain ⟨y, hyy⟩ : ∃ y, y = gd C m := ⟨_, rfl⟩
  rw [← hyy] at hy hylt
  have hx8 := x8m hylt (show u < 256 by omega)
  obtain ⟨oD, hKs⟩ := hset (.int .u8 ((y ^^^ u : Nat) : Int))
  rw [bv_get, hy] at c0
  simp only [Option.map_some] at c0
  rw [bv_set] at oD
  have bD : Byt (C.set m (y ^^^ u)) := fun x hx => by
    rcases List.mem_or_eq_of_mem_set hx with h | rfl
    · exact HbC.out x h
    · exact hx8.2
  have hDl : (C.set m (y ^^^ u)).length = 512 := by rw [List.length_set]; exact HCl.out
  have hD0 : Hid (u = 0 → C.set m (y ^^^ u) = C) := fun h => by
    subst h
    rw [Nat.xor_zero]
    exact List.ext_getElem? (fun i => by
      rw [List.getElem?_set]
      split
      · next h => subst h; rw [if_pos (by rw [HCl.out]; exact hml), hy]
      · rfl)
  have hopD := Lib.hid (hop.out _ bD hDl (sealL E 7 ad (C.set m (y ^^^ u))) (fun _ => rfl))
  have hsumD := Lib.hid (fun v w (h : Sl w v (bv (C.set m (y ^^^ u)))) => shasum_any _ v w h bD (by rw [hDl]; decide))
  have hSD := Lib.hid (shaL_len (C.set m (y ^^^ u)))
  have slD := Sl.of_own oD
  have bel6 := bel5.trans (hKs.below bel5.size (by intro b hb; simp only [List.mem_singleton] at hb; subst hb; exact hk1))
  replace hB := below_call hB hB.size bel6
  replace h8 := h8.keep bel6
  replace h12 := h12.keep bel6
  replace o11 := Lib.hid (o11.out.keep bel6)
  replace s9 := Lib.hid (s9.out.keep bel6)
  have hx := hx8.1
  clear hset oD hKs own6 bel5 bel6 hk1 hk2 hx8 hop bD hDl hyy hy hylt hm hml
  generalize hDe : C.set m (y ^^^ u) = D at *
  generalize hZe : shaL D = Z at *
  replace hDe := Lib.hid hDe
  replace hZe := Lib.hid hZe
  generalize y ^^^ u = z at *
  replace slD := Lib.hid slD
  by_cases hu0 : u = 0
  · have hDC := hD0.out hu0
    rw [hDC] at slD
    have e1 : ((u : Int) == 0) = true := by simp [hu0]
    clear hu0 hD0 hopD hsumD
    go_wp2_with (first
      | refine wpList_loadW rfl 28 (.tmp 8) rfl 64 arrKs _ rfl 28 _ h8 hKl.out ?_
      | refine wpList_loadW rfl 41 (.tmp 12) rfl 34 arrPt _ rfl 41 _ h12 hpl.out ?_)
    refine (hopC.out _ _ slD.out).mono ?_
    intro e wf hrr
    obtain ⟨vy, rfl, sy, hBf⟩ := hrr.1 trivial
    clear hrr
    replace hB := below_call hB hB.size hBf
    replace s9 := Lib.hid (s9.out.keep hBf)
    clear hBf
    replace sy := Lib.hid sy
    go_wp2_with fail
    refine (hsame.out _ _ _ sy.out s9.out).mono ?_
    rintro e wq ⟨rfl, rfl⟩
    go_wp2
    go_ret
    exact ⟨rfl, hB⟩
  · have e1 : ((u : Int) == 0) = false := by simp; omega
    clear hD0 hu0
    by_cases hZS : Z = S
    · replace hZS := Lib.hid hZS
      go_wp2_with (first
        | refine wpList_loadW rfl 28 (.tmp 8) rfl 64 arrKs _ rfl 28 _ h8 hKl.out ?_
        | refine wpList_loadW rfl 41 (.tmp 12) rfl 34 arrPt _ rfl 41 _ h12 hpl.out ?_)
      refine (hopD.out _ _ slD.out).mono ?_
      intro e wf hrr
      obtain ⟨vy, rfl, sy, hBf⟩ := hrr.1 hZS.out
      clear hrr sy
      replace hB := below_call hB hB.size hBf
      replace slD := Lib.hid (slD.out.keep hBf)
      replace o11 := Lib.hid (o11.out.keep hBf)
      clear hBf
      go_wp2_with fail
      refine (hsumD.out _ _ slD.out).mono ?_
      rintro e w9 ⟨rfl, hBg⟩
      replace hB := below_call hB hB.size hBg
      replace o11 := Lib.hid (o11.out.keep hBg)
      clear hBg
      go_wp2_with fail
      refine (hsum.out _ _ o11.out).mono ?_
      rintro e w10 ⟨rfl, hBh⟩
      replace hB := below_call hB hB.size hBh
      clear hBh
      go_wp2_with (refine wpList_eqlG rfl 26 (.tmp 142) (.tmp 144) 26 rfl 32 bytH Z S rfl rfl hSD.out hS1.out ?_; rw [decide_eq_true hZS.out])
      go_wp2
      go_ret
      exact ⟨rfl, hB⟩
    · replace hZS := Lib.hid hZS
      go_wp2_with (first
        | refine wpList_loadW rfl 28 (.tmp 8) rfl 64 arrKs _ rfl 28 _ h8 hKl.out ?_
        | refine wpList_loadW rfl 41 (.tmp 12) rfl 34 arrPt _ rfl 41 _ h12 hpl.out ?_)
      refine (hopD.out _ _ slD.out).mono ?_
      intro e wf hrr
      obtain ⟨rfl, hBf⟩ := hrr.2 hZS.out
      clear hrr
      replace hB := below_call hB hB.size hBf
      clear hBf
      go_wp2
      go_ret
      exact ⟨rfl, hB⟩
theorem walk (A A2 : Option Addr) (n c n2 c2 a t u : Nat) (k m : List Nat) (W : World) (s1 : Sl W (.slice A n c) (bv k)) (b1 : ∀ x ∈ k, x < 256) (n1 : n = k.length) (l1 : (n : Int) ≤ 140737488351232) (s2 : Sl W (.slice A2 n2 c2) (bv m)) (b2 : ∀ x ∈ m, x < 256) (nn2 : n2 = m.length) (l2 : (n2 : Int) ≤ 140737488351232) (ha : (a : Int) ≤ 65535) (ht : (t : Int) ≤ 65535) (hu : (u : Int) ≤ 255) :
    Calls Try.prog 6 #[.agg #[.slice A n c, .slice A2 n2 c2, .int .u16 (a : Int), .int .u16 (t : Int), .int .u8 (u : Int)]] W fun e w' => e = .returned (.bool true) ∧ Below W.heap.size W w' :=
  core A A2 n c n2 c2 a t u k m W n1 nn2 s1 s2 b1 b2 (by omega) (by omega) ha ht hu
end Go.Proofs.Ytlifpmglaoppoaa.w_SealBack
