/- Contracts of package sha: Write. -/
import Derived.Test.YthlebobfbalknaaShE
import Derived.Deep.LoopGhost
set_option linter.unusedVariables false
set_option linter.unusedSimpArgs false
namespace Go.Proofs.Ythlebobfbalknaa
open Go.RowKit
open Go.Proofs.PlainAes
open Go.Proofs.PlainSha

section
variable {P : Program} {ops : Array Oper} {Q : Exit → Act → World → Prop} {S : World → Prop} {md : Region.Mode}
theorem takeH_nil {i : Nat} {o : Oper} {fuel : Nat} {listed : Array Bool} {a : Act} {w : World} (hi : ops[i]? = some o) (hs : Region.noSelect ops = true) (hf : Region.free md ops listed i = true) (hr : (Region.ready md ops listed).contains i = true)
    (hQ : ∀ c a w v, Q (.panic c) (a.put o.dst v) w → Q (.panic c) a w) (hw : Region.wanted o (yielded ops a.tmps) = true) (x : Operand) (ho : o.op = .nilCheck x) (A : Addr) (hx : a.eval x = .pointer (some A))
    (hH : S w) (h : wpAnyH P md ops Q S fuel (listed.setIfInBounds i true) (a.put o.dst (.pointer (some A))) w) : wpAnyH P md ops Q S (fuel + 1) listed a w :=
  wpAnyH_take hi hs hf hr (fun c a w => hQ c a w _) (.inl ⟨hw, fun w _ => by unfold execOp; simp [ho, hx]⟩) hH h
/-- A part of a slice. -/
theorem takeH_slice {i : Nat} {o : Oper} {fuel : Nat} {listed : Array Bool} {a : Act} {w : World} (hi : ops[i]? = some o) (hs : Region.noSelect ops = true) (hf : Region.free md ops listed i = true) (hr : (Region.ready md ops listed).contains i = true)
    (hQ : ∀ c a w v, Q (.panic c) (a.put o.dst v) w → Q (.panic c) a w) (hw : Region.wanted o (yielded ops a.tmps) = true) (ty : TypeId) (x : Operand) (lo hi' : Option Operand) (ho : o.op = .slice ty x lo hi' none) (u : Value) (hx : a.eval x = u) (vl vh : Option Value) (hl : lo.map a.eval = vl) (hh : hi'.map a.eval = vh) (v : Value)
    (hrun : ∀ w, (Instr.sliceAt ty u vl vh none).run P w = .ok v w)
    (hH : S w) (h : wpAnyH P md ops Q S fuel (listed.setIfInBounds i true) (a.put o.dst v) w) : wpAnyH P md ops Q S (fuel + 1) listed a w :=
  wpAnyH_take hi hs hf hr (fun c a w => hQ c a w _) (.inl ⟨hw, fun w _ => by
    unfold execOp
    simp [ho, hx, hl, hh, Sem.run_bind, hrun w]⟩) hH h
/-- A load of an array, carried out. -/
theorem wp_loadA {o : Oper} {a : Act} {w : World} {K : Act → World → Prop} (ty : TypeId) (x : Operand) (ho : o.op = .load ty x) (n : Nat) (hT : ArrTy P ty n) (g off : Nat) (hx : a.eval x = .pointer (some ⟨g, off, none⟩)) (t : TypeId) (L : List Value) (hb : Blk w g t L)
    (hl : off + n ≤ L.length) (M : List Value) (hM : (L.drop off).take n = M) (h : K (a.put o.dst (.agg M.toArray)) w) : Oper.wp P o a w K Q := by
  subst hM
  unfold Oper.wp execOp
  simp only [ho, hx, Sem.run_bind, run_loadA hb hT hl, Result.andThen_ok, Sem.run_pure]
  exact h
end
theorem hfld0 (g : Nat) (w : World) : (Instr.fieldAt 75 (.pointer (some ⟨g, 0, none⟩)) 0).run Try.prog w = .ok (.pointer (some ⟨g, 0, none⟩)) w := by kernel_rfl
theorem hfld1 (g : Nat) (w : World) : (Instr.fieldAt 75 (.pointer (some ⟨g, 0, none⟩)) 1).run Try.prog w = .ok (.pointer (some ⟨g, 8, none⟩)) w := by kernel_rfl
theorem hfld2 (g : Nat) (w : World) : (Instr.fieldAt 75 (.pointer (some ⟨g, 0, none⟩)) 2).run Try.prog w = .ok (.pointer (some ⟨g, 72, none⟩)) w := by kernel_rfl

theorem head64 (k n c : Nat) (hc : 64 ≤ c) (w : World) : (Instr.sliceAt 22 (.slice (some ⟨k, 0, none⟩) n c) none (some (.int .i64 64)) none).run Try.prog w = .ok (.slice (some ⟨k, 0, none⟩) 64 c) w := by
  have hu : Try.prog.underlying 22 = some (.slice (Try.prog.elem 22)) := by kernel_rfl
  have hz : (sizeOf (Try.prog.elem 22)).run Try.prog w = .ok 1 w := by kernel_rfl
  have hne : ¬ c = 0 := by omega
  rw [run_sliceAt_slice (h := hu), run_slice_h (ht := hu) (h0 := by omega) (h2 := by omega), hz]
  simp [Result.andThen, sliced, hne]
  unfold Addr.add; split <;> simp_all

theorem own_shape {b : Nat} {w : World} {e : TypeId} {v : Value} {n : Nat} {xs : List Value} (h : w.ownsRow b e 1 v n xs) : ∃ A c, v = .slice A n c ∧ n ≤ c ∧ c ≤ maxLen ∧ (0 < n → ∃ k, A = some ⟨k, 0, none⟩ ∧ k < w.heap.size) := by
  rcases h.2 with ⟨rfl, rfl⟩ | ⟨g, cap, cur, rfl, hb2, hg, h3, h4, _⟩
  · exact ⟨none, 0, rfl, Nat.le_refl _, Nat.zero_le _, fun h => absurd h (by decide)⟩
  · exact ⟨_, cap, rfl, h3, h4, fun _ => ⟨g, rfl, (h.lt g rfl).2⟩⟩
/-- What Write does. -/
def RetWr (B g : Nat) (r : Option Nat) (l : List Nat) (w : World) (e : Ending) (w' : World) : Prop :=
  e = .returned (.int .i64 0) ∧ ∃ r', Hsh w' B g r' l ∧ Keeps (g :: r.toList) w w' ∧ Moved w.heap.size r r'
/-- In the loop: q blocks of l are taken. -/
def WrAt (B g : Nat) (r : Option Nat) (l : List Nat) (w0 : World) (q : Nat) (w : World) : Prop :=
  q ≤ l.length / 64 ∧ ∃ v, Blk w g 75 (hcells (states K0 H0 l q) v l.length) ∧ w.ownsRow B 5 1 v (l.length - 64 * q) (bv (l.drop (64 * q))) ∧ v.ownBlock ≠ some g ∧ Moved w0.heap.size r v.ownBlock ∧ Keeps (g :: r.toList) w0 w ∧ B ≤ g ∧ B ≤ w0.heap.size
theorem Sl.keeps2 {G : List Nat} {w w' : World} {v : Value} {xs : List Value} (h : Sl w v xs) (hk : Keeps G w w') (hg : 0 < xs.length → ∀ A n c, v = .slice (some A) n c → A.block ∉ G) : Sl w' v xs := by
  obtain ⟨A, c, rfl, h1, h2, h3⟩ := h
  refine ⟨A, c, rfl, h1, h2, fun hp => ?_⟩
  obtain ⟨g, o, rfl, hc⟩ := h3 hp
  refine ⟨g, o, rfl, fun i u hu => ?_⟩
  have hl := hc i u hu
  have hb := hk.block g (cell_lt hl) (hg hp _ _ _ rfl)
  rw [← hl]
  simp [World.cell?, hb]
theorem rest_app (l b : List Nat) : rsOf l ++ b = (l ++ b).drop (64 * (l.length / 64)) := by
  unfold rsOf
  rw [List.drop_append_of_le_length (by omega)]
theorem rest_len (l b : List Nat) : (rsOf l).length + b.length = (l ++ b).length - 64 * (l.length / 64) := by
  simp [rsOf]; omega
theorem st_app (l b : List Nat) : stOf l = states K0 H0 (l ++ b) (l.length / 64) := (states_append K0 H0 l b _ (by omega)).symm
theorem hshS {w : World} {g n : Nat} {s : List Nat} {v : Value} (hs : s.length = 8) (hb : Blk w g 75 (hcells s v n)) : w.rangeAt g 0 (wv s) ∧ w.cell? ⟨g, 72, none⟩ = some v := by
  refine ⟨?_, by rw [hb.cell, hcells_v _ _ _ hs]⟩
  have h := At.of_blk hb 0 8
  rw [hcells_s _ _ _ hs] at h
  exact h
theorem hshK {w : World} {g n : Nat} {s : List Nat} {v : Value} (hs : s.length = 8) (hb : Blk w g 75 (hcells s v n)) : At w g 8 (wv K0) := by
  have h := At.of_blk hb 8 64
  rw [hcells_k _ _ _ hs] at h
  exact h
set_option maxRecDepth 100000 in
set_option maxHeartbeats 2000000 in
theorem write_core (l b : List Nat) (B g n c : Nat) (A : Option Addr) (r : Option Nat) (w : World) (h : Hsh w B g r l) (hs : Sl w (.slice A n c) (bv b)) (bl : Byt l) (bb : Byt b) (hlen : (l.length : Int) + b.length ≤ 1099511627776)
    (hsep : 0 < b.length → ∀ a, A = some a → a.block ≠ g ∧ r ≠ some a.block) :
    Calls Try.prog 22 #[.pointer (some ⟨g, 0, none⟩), .slice A n c] w (RetWr B g r (l ++ b) w) := by
  obtain ⟨i0, hi, hz0, hz1, hz2⟩ := info_parts (P := Try.prog) (e := 5) (z := .int .u8 0) (size := 1) (bytes := 1) (by kernel_rfl)
  obtain ⟨v0, hb0, own0, hr0, hrg, hBg⟩ := h
  obtain ⟨hcap, hcm, hbn⟩ := hs.cap
  rw [bv_length] at hbn
  have hst := stOf_length l
  have hgl := hb0.lt
  have c1 := hb0.cell 73
  rw [hcells_n _ _ _ hst] at c1
  have f1 := hb0.frozen 73
  have e73 : (Value.int .i64 ((l.length : Int) + (b.length : Int))) = .int .i64 ((l.length + b.length : Nat) : Int) := by simp
  have hb1 := hb0.set_ 73 (.int .i64 ((l.length : Int) + (b.length : Int)))
  rw [e73, hcells_set_n _ _ _ _ hst, ← e73] at hb1
  clear e73
  have hK1 : Keeps [g] w (w.setCell ⟨g, 73, none⟩ (.int .i64 ((l.length : Int) + (b.length : Int)))) := (Keeps.refl _ _).setCell (by simp) _
  have own1 := own_keeps own0 hK1 (fun k hk hv => by simp; intro e; exact hrg (by rw [← hr0, hv, e]))
  have hs1 := hs.keeps2 hK1 (fun hp A' n' c' e => by injection e with e1 _ _; simp; exact (hsep (by simpa using hp) _ e1).1)
  have c2 := hb0.cell 72
  rw [hcells_v _ _ _ hst] at c2
  have f2 := hb0.frozen 72
  replace hb0 := Lib.hid hb0
  replace own0 := Lib.hid own0
  replace own1 := Lib.hid own1
  replace hs := Lib.hid hs
  replace hs1 := Lib.hid hs1
  replace hsep := Lib.hid hsep
  subst hbn
  replace hr0 := Lib.hid hr0
  replace hrg := Lib.hid hrg
  replace hK1 := Lib.hid hK1
  replace hb1 := Lib.hid hb1
  replace hst := Lib.hid hst
  go_enter Try.func22, Try.ntmps22
  go_wp2_with (at_builtin; refine wpList_append_sl2 rfl (.tmp 20) (.tmp 21) 22 rfl B 5 i0 (.int .u8 0) 1 Try.underlying22 hi hz0 hz1 hz2 rfl _ (rsOf l).length (bv (rsOf l)) rfl own1.out _ (bv b) rfl hs1.out (bv_oneCell b) ?_ ?_ ?_ ?_)
  · simp [maxLen, rsOf]; omega
  · simp [rsOf]; omega
  · simp; omega
  intro v1 w1 own2 gr hmv
  rw [hr0.out] at gr hmv
  obtain ⟨A1, cp1, hv1, -⟩ := own_shape own2
  subst hv1
  have hgr : g ∉ r.toList := by
    intro hm
    cases r with
    | none => simp at hm
    | some k => simp only [Option.toList_some, List.mem_cons, List.not_mem_nil, or_false] at hm; exact hrg.out (by rw [hm])
  have hK2 := Keeps.grown gr
  have hb2 := hb1.out.keeps hK2 hgr
  have hg1 : (Value.slice A1 ((rsOf l).length + b.length) cp1).ownBlock ≠ some g := hmv.ne hgl hrg.out
  have hW : WrAt B g r (l ++ b) w (l.length / 64) (w1.setCell ⟨g, 72, none⟩ (.slice A1 ((rsOf l).length + b.length) cp1)) := by
    have hKs : Keeps [g] w1 (w1.setCell ⟨g, 72, none⟩ (.slice A1 ((rsOf l).length + b.length) cp1)) := (Keeps.refl _ _).setCell (by simp) _
    refine ⟨by simp; omega, .slice A1 ((rsOf l).length + b.length) cp1, ?_, ?_, hg1, hmv, ?_, hBg, Nat.le_trans hBg (Nat.le_of_lt hgl)⟩
    · have h3 := hb2.set_ 72 (.slice A1 ((rsOf l).length + b.length) cp1)
      rw [hcells_set_v _ _ _ _ hst.out, st_app l b, show l.length + b.length = (l ++ b).length from by simp] at h3
      exact h3
    · rw [← rest_app, ← rest_len, bv_app]
      exact own_keeps own2 hKs (fun k hk hv => by simp; intro e; exact hg1 (by rw [hv, e]))
    · exact ((hK1.out.mono (by simp)).trans (hK2.mono (by simp; exact fun b hb => .inr hb))).trans (hKs.mono (by simp))
  have c72 : w1.cell? ⟨g, 72, none⟩ = some v0 := by rw [hb2.cell, hcells_v _ _ _ hst.out]
  have f72 := hb2.frozen 72
  replace hW := Lib.hid hW
  have hL := Lib.hid (show (l ++ b).length = l.length + b.length from by simp)
  have bB := Lib.hid (show Byt (l ++ b) from fun x hx => (List.mem_append.1 hx).elim (bl x) (bb x))
  have hq0 := Lib.hid (show l.length / 64 ≤ (l ++ b).length / 64 from by simp; omega)
  clear hb2 hK2 hgr gr hmv hg1 own2 hb0 own0 own1 hs hs1 hr0 hrg hK1 hb1 hst hsep bl bb c1 f1 c2 f2
  generalize hlb : l ++ b = M at *
  have hM : (M.length : Int) ≤ 1099511627776 := by have := hL.out; omega
  clear hlb
  go_wp2
  go_loopg [25] (M.length / 64 - l.length / 64) (fun gk x wr => ∃ q, Hid (gk + q = M.length / 64) ∧ WrAt B g r M w q wr)
  case atStart => exact ⟨l.length / 64, by show _ = _; have := hq0.out; omega, hW.out⟩
  case round =>
    clear hW
    obtain ⟨q, hgk, hq, v, hb, own, hvg, hmv, hK, hBg, hBw⟩ := hrel
    obtain ⟨A2, c2, rfl, hc1, hcm2, hsome⟩ := own_shape own
    have hsl0 : (states K0 H0 M q).length = 8 := states_length H0_length q
    have hsw := states_wds (K := K0) (l := M) H0_wds q
    have hst1 : Hid (states K0 H0 M (q + 1) = takeS K0 (states K0 H0 M q) (seg M (64 * q) 64)) := rfl
    obtain ⟨s, hs⟩ : ∃ s, s = states K0 H0 M q := ⟨_, rfl⟩
    rw [← hs] at hb hsl0 hsw hst1
    replace hs := Lib.hid hs
    have hsl := Lib.hid (show (wv s).length = 8 by simp [hsl0])
    have c72 := (hshS hsl0 hb).2
    obtain ⟨m, hm⟩ : ∃ m, m = M.length - 64 * q := ⟨_, rfl⟩
    rw [← hm] at hb own hvg hmv hc1 hsome c72
    replace hm := Lib.hid hm
    have hmI : (m : Int) ≤ 1099511627776 := by have := hm.out; omega
    by_cases hge : 64 ≤ (m : Int)
    · obtain ⟨k, rfl, hkl⟩ := hsome (by omega)
      have hc64 : 64 ≤ c2 := by omega
      have hseg : (seg M (64 * q) 64).length = 64 := seg_length (by have := hm.out; omega)
      have hpart : Sl wr.drew (.slice (some ⟨k, 0, none⟩) 64 c2) (bv (seg M (64 * q) 64)) := by
        have h := own_part (w := wr.drew) own 0 64 (by omega) hcm2 hc1
        rw [bv_seg] at h
        simp only [List.drop_zero, Nat.sub_zero] at h
        exact h
      have hT := Lib.hid (take_any s K0 (seg M (64 * q) 64) _ g 8 wr.drew hsl0 hsw K0_length K0_wds hpart hseg (seg_lt bB.out _ _) (hshK hsl0 hb.drew))
      have hT1 := Lib.hid (takeS_length K0 s (seg M (64 * q) 64))
      rw [← hst1.out] at hT hT1
      change Hid (Calls _ _ _ _ (fun e w' => e = .returned (.agg (wv (states K0 H0 M (q + 1))).toArray) ∧ Below wr.drew.heap.size wr.drew w')) at hT
      obtain ⟨s', hs'⟩ : ∃ s', s' = states K0 H0 M (q + 1) := ⟨_, rfl⟩
      rw [← hs'] at hT hT1
      replace hs' := Lib.hid hs'
      replace hsl0 := Lib.hid hsl0
      replace hvg := Lib.hid hvg
      replace own := Lib.hid own
      clear hpart hsw hseg
      go_wp2
      refine wp_region_held_drew (S := fun w' => w'.cell? ⟨g, 72, none⟩ = some (.slice (some ⟨k, 0, none⟩) m c2)) (by kernel_rfl) (hshS hsl0.out hb.drew).2 (fun hH => ?_)
      refine takeH_move (o := ⟨some 31, _, _, _, _, _⟩) (i := 0) rfl (by kernel_rfl) (by kernel_rfl) (by kernel_rfl) (fun _ _ _ _ h => h) rfl (.tmp 0) rfl (.pointer (some ⟨g, 0, none⟩)) rfl hH ?_
      simp only [Act.put, List.setIfInBounds_toArray, List.set_cons_zero, List.set_cons_succ, Nat.zero_add, decide_true, beq_self_eq_true]
      refine takeH_move (o := ⟨some 32, _, _, _, _, _⟩) (i := 1) rfl (by kernel_rfl) (by kernel_rfl) (by kernel_rfl) (fun _ _ _ _ h => h) rfl (.tmp 0) rfl (.pointer (some ⟨g, 0, none⟩)) rfl hH ?_
      simp only [Act.put, List.setIfInBounds_toArray, List.set_cons_zero, List.set_cons_succ, Nat.zero_add, decide_true, beq_self_eq_true]
      refine takeH_nil (o := ⟨some 33, _, _, _, _, _⟩) (i := 2) rfl (by kernel_rfl) (by kernel_rfl) (by kernel_rfl) (fun _ _ _ _ h => h) rfl (.tmp 32) rfl ⟨g, 0, none⟩ rfl hH ?_
      simp only [Act.put, List.setIfInBounds_toArray, List.set_cons_zero, List.set_cons_succ, Nat.zero_add, decide_true, beq_self_eq_true]
      refine takeH_field (o := ⟨some 34, _, _, _, _, _⟩) (i := 3) rfl (by kernel_rfl) (by kernel_rfl) (by kernel_rfl) (fun _ _ _ _ h => h) rfl 75 (.tmp 33) 0 rfl g 0 rfl (fun w => hfld0 _ w) hH ?_
      simp only [Act.put, List.setIfInBounds_toArray, List.set_cons_zero, List.set_cons_succ, Nat.zero_add, decide_true, beq_self_eq_true]
      refine takeH_move (o := ⟨some 36, _, _, _, _, _⟩) (i := 5) rfl (by kernel_rfl) (by kernel_rfl) (by kernel_rfl) (fun _ _ _ _ h => h) rfl (.tmp 0) rfl (.pointer (some ⟨g, 0, none⟩)) rfl hH ?_
      simp only [Act.put, List.setIfInBounds_toArray, List.set_cons_zero, List.set_cons_succ, Nat.zero_add, decide_true, beq_self_eq_true]
      refine takeH_nil (o := ⟨some 37, _, _, _, _, _⟩) (i := 6) rfl (by kernel_rfl) (by kernel_rfl) (by kernel_rfl) (fun _ _ _ _ h => h) rfl (.tmp 36) rfl ⟨g, 0, none⟩ rfl hH ?_
      simp only [Act.put, List.setIfInBounds_toArray, List.set_cons_zero, List.set_cons_succ, Nat.zero_add, decide_true, beq_self_eq_true]
      refine takeH_field (o := ⟨some 38, _, _, _, _, _⟩) (i := 7) rfl (by kernel_rfl) (by kernel_rfl) (by kernel_rfl) (fun _ _ _ _ h => h) rfl 75 (.tmp 37) 2 rfl g 72 rfl (fun w => hfld2 _ w) hH ?_
      simp only [Act.put, List.setIfInBounds_toArray, List.set_cons_zero, List.set_cons_succ, Nat.zero_add, decide_true, beq_self_eq_true]
      refine takeH_cell (o := ⟨some 39, _, _, _, _, _⟩) (i := 8) rfl (by kernel_rfl) (by kernel_rfl) (by kernel_rfl) (fun _ _ _ _ h => h) rfl 22 (.tmp 38) rfl Try.underlying22 rfl g 72 rfl (.slice (some ⟨k, 0, none⟩) m c2) (fun w h => h) hH ?_
      simp only [Act.put, List.setIfInBounds_toArray, List.set_cons_zero, List.set_cons_succ, Nat.zero_add, decide_true, beq_self_eq_true]
      refine takeH_slice (o := ⟨some 40, _, _, _, _, _⟩) (i := 9) rfl (by kernel_rfl) (by kernel_rfl) (by kernel_rfl) (fun _ _ _ _ h => h) rfl 22 (.tmp 39) none (some (.const (.int .i64 64))) rfl (.slice (some ⟨k, 0, none⟩) m c2) rfl none (some (.int .i64 64)) rfl rfl (.slice (some ⟨k, 0, none⟩) 64 c2) (fun w => head64 k m c2 hc64 w) hH ?_
      simp only [Act.put, List.setIfInBounds_toArray, List.set_cons_zero, List.set_cons_succ, Nat.zero_add, decide_true, beq_self_eq_true]
      refine takeH_move (o := ⟨some 41, _, _, _, _, _⟩) (i := 10) rfl (by kernel_rfl) (by kernel_rfl) (by kernel_rfl) (fun _ _ _ _ h => h) rfl (.tmp 0) rfl (.pointer (some ⟨g, 0, none⟩)) rfl hH ?_
      simp only [Act.put, List.setIfInBounds_toArray, List.set_cons_zero, List.set_cons_succ, Nat.zero_add, decide_true, beq_self_eq_true]
      refine takeH_nil (o := ⟨some 42, _, _, _, _, _⟩) (i := 11) rfl (by kernel_rfl) (by kernel_rfl) (by kernel_rfl) (fun _ _ _ _ h => h) rfl (.tmp 41) rfl ⟨g, 0, none⟩ rfl hH ?_
      simp only [Act.put, List.setIfInBounds_toArray, List.set_cons_zero, List.set_cons_succ, Nat.zero_add, decide_true, beq_self_eq_true]
      refine takeH_field (o := ⟨some 43, _, _, _, _, _⟩) (i := 12) rfl (by kernel_rfl) (by kernel_rfl) (by kernel_rfl) (fun _ _ _ _ h => h) rfl 75 (.tmp 42) 1 rfl g 8 rfl (fun w => hfld1 _ w) hH ?_
      simp only [Act.put, List.setIfInBounds_toArray, List.set_cons_zero, List.set_cons_succ, Nat.zero_add, decide_true, beq_self_eq_true]
      refine wpAnyH_ready (rs := [4]) (by kernel_rfl) (by simp) ?_
      refine AllReadyH.cons rfl (fun K1 hK1 => ?_) AllReadyH.nil
      rw [if_pos (by rfl)]
      refine wp_loadA 72 (.tmp 34) rfl 8 arr8s g 0 rfl 75 _ hb.drew (by rw [hcells_length _ _ _ hsl0.out]; decide) (wv s) (hcells_s _ _ _ hsl0.out) ?_
      refine hK1.out _ _ (hshS hsl0.out hb.drew).2 (fun hH => ?_)
      clear hK1 K1
      refine wpAnyH_ready (rs := [13]) (by kernel_rfl) (by simp) ?_
      refine AllReadyH.cons rfl (fun K1 hK1 => ?_) AllReadyH.nil
      rw [if_pos (by rfl)]
      go_wp2_with fail
      refine hT.out.mono ?_
      rintro e w5 ⟨rfl, hB5⟩
      have hb5 := hb.drew.keep hB5
      have own5 := own_keep (w := wr.drew) own.out hB5
      have hK5 : Keeps (g :: r.toList) w w5 := (hK.drew).trans (Keeps.of_below hB5)
      refine hK1.out _ _ (hshS hsl0.out hb5).2 (fun hH => ?_)
      clear hK1 K1 hB5
      refine takeH_nil (o := ⟨some 45, _, _, _, _, _⟩) (i := 14) rfl (by kernel_rfl) (by kernel_rfl) (by kernel_rfl) (fun _ _ _ _ h => h) rfl (.tmp 31) rfl ⟨g, 0, none⟩ rfl hH ?_
      simp only [Act.put, List.setIfInBounds_toArray, List.set_cons_zero, List.set_cons_succ, Nat.zero_add, decide_true, beq_self_eq_true]
      refine takeH_field (o := ⟨some 46, _, _, _, _, _⟩) (i := 15) rfl (by kernel_rfl) (by kernel_rfl) (by kernel_rfl) (fun _ _ _ _ h => h) rfl 75 (.tmp 45) 0 rfl g 0 rfl (fun w => hfld0 _ w) hH ?_
      simp only [Act.put, List.setIfInBounds_toArray, List.set_cons_zero, List.set_cons_succ, Nat.zero_add, decide_true, beq_self_eq_true]
      refine wpAnyH_ready (rs := [16]) (by kernel_rfl) (by simp) ?_
      refine AllReadyH.cons rfl (fun K1 hK1 => ?_) AllReadyH.nil
      rw [if_pos (by rfl)]
      have hsl1 := Lib.hid (show (wv s').length = 8 by simp [hT1.out])
      refine wp_storeA 72 (.tmp 46) (.tmp 44) rfl 8 arr8s g 0 rfl (wv s') rfl 75 _ hb5 hsl1.out (by rw [hcells_length _ _ _ hsl0.out]; decide) (ones_wv _) ?_
      intro w6 hb6 hK6
      rw [hcells_put_s _ _ _ _ hsl0.out hT1.out] at hb6
      have own6 := own_keeps own5 hK6 (fun k' hk hv => by simp; intro e; exact hvg.out (by rw [hv, e]))
      have hKa : Keeps (g :: r.toList) w w6 := hK5.trans (hK6.mono (by simp))
      refine hK1.out _ _ (hshS hT1.out hb6).2 (fun hH => ?_)
      clear hK1 K1 hb5 hb own5 hK5 hK6
      refine wpAnyH_done (by kernel_rfl) ?_ _
      have hMd := Lib.hid (show (M.drop (64 * (q + 1))).length = m - 64 by simp; have := hm.out; omega)
      have hbw := hb6.lt
      have hBw6 := Lib.hid (show B ≤ w6.heap.size by omega)
      have hw6 := Lib.hid (show w.heap.size ≤ w6.heap.size from hKa.size)
      have c72 : w6.cell? ⟨g, 72, none⟩ = some (.slice (some ⟨k, 0, none⟩) m c2) := (hshS hT1.out hb6).2
      have h7 : Hid (∀ o c', (c2 = 64 → o = 0 ∧ c' = 0) → (c2 ≠ 64 → o = 64 ∧ c' = c2 - 64) → Calls Try.prog 28 #[.slice (some ⟨k, o, none⟩) (m - 64) c'] w6 (RetO (M.drop (64 * (q + 1))) w6)) := by
        intro o c' h0 h1
        have hsl : Sl w6 (.slice (some ⟨k, o, none⟩) (m - 64) c') (bv (M.drop (64 * (q + 1)))) := by
          by_cases hc : c2 = 64
          · obtain ⟨rfl, rfl⟩ := h0 hc
            have hm64 : m = 64 := by omega
            have e : M.drop (64 * (q + 1)) = [] := List.drop_of_length_le (by have := hm.out; omega)
            rw [e, hm64]
            exact ⟨_, 0, rfl, Nat.le_refl _, Nat.zero_le _, fun h => absurd h (by simp [bv])⟩
          · obtain ⟨rfl, rfl⟩ := h1 hc
            have h := own_part own6 64 (m - 64) (by omega) hcm2 hc1
            rw [bv_seg, List.drop_drop, show 64 * q + 64 = 64 * (q + 1) from by omega, List.take_of_length_le (by rw [hMd.out]; exact Nat.le_refl _)] at h
            exact h
        exact clone_any _ _ _ _ _ hsl (by rw [hMd.out]; omega)
      replace own6 := Lib.hid own6
      by_cases hceq : c2 = 64
      · subst hceq
        have hmm : m = 64 := by omega
        subst hmm
        replace h7 := Lib.hid (h7.out 0 0 (fun _ => ⟨rfl, rfl⟩) (fun h => absurd rfl h))
        go_wp2_with fail
        refine h7.out.mono ?_
        rintro e w7 ⟨v7, rfl, own7, hB7⟩
        have hfr : ∀ k', v7.ownBlock = some k' → w6.heap.size ≤ k' := fun k' hk' => (own7.lt k' hk').1
        obtain ⟨A7, c7, hv7, -⟩ := own_shape own7
        have hne7 : v7.ownBlock ≠ some g := fun e => by have := hfr _ e; omega
        have hb7 := hb6.keep hB7
        have own8 := own_keeps (ownsRow_mono own7 hBw6.out) ((Keeps.refl [g] w7).setCell (p := ⟨g, 72, none⟩) (by simp) v7) (fun k' hk' hv => by simp; intro e; exact hne7 (by rw [hv, e]))
        have hb8 := hb7.set_ 72 v7
        rw [hcells_set_v _ _ _ _ hT1.out, hs'.out] at hb8
        have hK8 : Keeps (g :: r.toList) w (w7.setCell ⟨g, 72, none⟩ v7) := (hKa.trans (Keeps.of_below hB7)).setCell (by simp) _
        have hW8 := Lib.hid (show WrAt B g r M w (q + 1) (w7.setCell ⟨g, 72, none⟩ v7) from ⟨by have := hm.out; omega, v7, hb8, by rw [show M.length - 64 * (q + 1) = (M.drop (64 * (q + 1))).length from by simp]; exact own8, hne7, .inr (fun k' hk' => by have := hfr _ hk'; have := hw6.out; omega), hK8, hBg, hBw⟩)
        have d72 : w7.cell? ⟨g, 72, none⟩ = some (.slice (some ⟨k, 0, none⟩) 64 64) := (hshS hT1.out hb7).2
        have f72 := hb7.frozen 72
        clear hb8 hK8 own8 hne7 hfr hb7 own7 c72
        subst hv7
        go_wp2
        go_roundg (gk - 1)
        case measure => have := hgk.out; have := hm.out; omega
        case rel => exact ⟨q + 1, by show _ = _; have := hgk.out; have := hm.out; omega, by have h := hW8.out; rw [List.length_drop] at h; exact h⟩
      · replace h7 := Lib.hid (h7.out 64 (c2 - 64) (fun h => absurd h hceq) (fun _ => ⟨rfl, rfl⟩))
        have hcI : (65 : Int) ≤ c2 := by omega
        go_wp2_with fail
        refine h7.out.mono ?_
        rintro e w7 ⟨v7, rfl, own7, hB7⟩
        have hfr : ∀ k', v7.ownBlock = some k' → w6.heap.size ≤ k' := fun k' hk' => (own7.lt k' hk').1
        obtain ⟨A7, c7, hv7, -⟩ := own_shape own7
        have hne7 : v7.ownBlock ≠ some g := fun e => by have := hfr _ e; omega
        have hb7 := hb6.keep hB7
        have own8 := own_keeps (ownsRow_mono own7 hBw6.out) ((Keeps.refl [g] w7).setCell (p := ⟨g, 72, none⟩) (by simp) v7) (fun k' hk' hv => by simp; intro e; exact hne7 (by rw [hv, e]))
        have hb8 := hb7.set_ 72 v7
        rw [hcells_set_v _ _ _ _ hT1.out, hs'.out] at hb8
        have hK8 : Keeps (g :: r.toList) w (w7.setCell ⟨g, 72, none⟩ v7) := (hKa.trans (Keeps.of_below hB7)).setCell (by simp) _
        have hW8 := Lib.hid (show WrAt B g r M w (q + 1) (w7.setCell ⟨g, 72, none⟩ v7) from ⟨by have := hm.out; omega, v7, hb8, by rw [show M.length - 64 * (q + 1) = (M.drop (64 * (q + 1))).length from by simp]; exact own8, hne7, .inr (fun k' hk' => by have := hfr _ hk'; have := hw6.out; omega), hK8, hBg, hBw⟩)
        have d72 : w7.cell? ⟨g, 72, none⟩ = some (.slice (some ⟨k, 0, none⟩) m c2) := (hshS hT1.out hb7).2
        have f72 := hb7.frozen 72
        clear hb8 hK8 own8 hne7 hfr hb7 own7 c72
        subst hv7
        go_wp2
        go_roundg (gk - 1)
        case measure => have := hgk.out; have := hm.out; omega
        case rel => exact ⟨q + 1, by show _ = _; have := hgk.out; have := hm.out; omega, by have h := hW8.out; rw [List.length_drop] at h; exact h⟩
    · have hqe : q = M.length / 64 := by have := hm.out; omega
      go_wp2
      go_ret
      refine ⟨rfl, _, ⟨_, ?_, ?_, rfl, hvg, hBg⟩, hK, hmv⟩
      · rw [stOf, ← hqe, ← hs.out]; exact hb
      · rw [rsOf, ← hqe, show (M.drop (64 * q)).length = m from by rw [hm.out]; simp]; exact own
theorem write_any (l b : List Nat) (B g : Nat) (v : Value) (r : Option Nat) (w : World) (h : Hsh w B g r l) (hs : Sl w v (bv b)) (bl : Byt l) (bb : Byt b) (hlen : (l.length : Int) + b.length ≤ 1099511627776)
    (hsep : 0 < b.length → ∀ a n c, v = .slice (some a) n c → a.block ≠ g ∧ r ≠ some a.block) :
    Calls Try.prog 22 #[.pointer (some ⟨g, 0, none⟩), v] w (RetWr B g r (l ++ b) w) := by
  obtain ⟨A, c, rfl, _⟩ := id hs
  exact write_core l b B g _ c A r w h hs bl bb hlen (fun hp a e => hsep hp a _ _ (by rw [e]))
end Go.Proofs.Ythlebobfbalknaa
