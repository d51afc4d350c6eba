/- Contracts of package sha: consts. -/
import Derived.Test.YthlebobfbalknaaShC
import Derived.Test.YthlebobfbalknaaReg
import Derived.Deep.LoopGhost
import Derived.Deep.Cut
set_option linter.unusedVariables false
set_option linter.unusedSimpArgs false
namespace Go.Proofs.Ythlebobfbalknaa
open Go.RowKit
open Go.Proofs.PlainAes
open Go.Proofs.PlainSha

/-- What a function answers whose two results lie in blocks. -/
theorem res_cell2 {P : Program} {fn : Func} {p q : Tmp} {ty ty' n n' : Nat} (h : fn.results = #[.cell p ty, .cell q ty']) (tmps : Array Value) (w : World) (g g' : Nat) (t t' : TypeId) (L L' : List Value) (hT : ArrTy P ty n) (hT' : ArrTy P ty' n') (hl : L.length = n) (hl' : L'.length = n')
    (hp : tmps.getD p undef = .pointer (some ⟨g, 0, none⟩)) (hq : tmps.getD q undef = .pointer (some ⟨g', 0, none⟩)) (hb : Blk w g t L) (hb' : Blk w g' t' L') : (results fn tmps).run P w = .ok (.tuple #[.agg L.toArray, .agg L'.toArray]) w := by
  obtain ⟨d, hu, hd, hi⟩ := hT
  obtain ⟨d', hu', hd', hi'⟩ := hT'
  have hp' : tmps[p]?.getD undef = .pointer (some ⟨g, 0, none⟩) := by simpa using hp
  have hq' : tmps[q]?.getD undef = .pointer (some ⟨g', 0, none⟩) := by simpa using hq
  have e1 := run_loadVar_row (P := P) w g t ty L.toArray (0, 0) d hb hu (by cases d <;> simp_all) (by simpa [hl] using hi)
  have e2 := run_loadVar_row (P := P) w g' t' ty' L'.toArray (0, 0) d' hb' hu' (by cases d' <;> simp_all) (by simpa [hl'] using hi')
  simp [results, h, hp', hq', asAddr, e1, e2]

def RetC (w : World) (e : Ending) (w' : World) : Prop := e = .returned (.tuple #[.agg (wv H0).toArray, .agg (wv K0).toArray]) ∧ Below w.heap.size w w'
/-- At the head of a round. -/
def ConsAt (B : Nat) (w0 : World) (p : Nat) (gp : Nat) (v : Value) (w : World) : Prop :=
  2 ≤ p ∧ p ≤ 312 ∧ w.ownsRow (B + 2) 70 1 v (pl p).length (wv (pl p)) ∧ v.ownBlock ≠ some gp ∧ B + 2 ≤ gp ∧ Blk w gp 70 [.int .u32 (p : Int)] ∧
  Blk w B 72 (wv (upd H0 (zeros 8) (min (pl p).length 8))) ∧ Blk w (B + 1) 73 (wv (upd K0 (zeros 64) (pl p).length)) ∧ Below B w0 w

set_option maxRecDepth 100000 in
set_option maxHeartbeats 2000000 in
theorem consts_any (w : World) : Calls Try.prog 31 #[] w (RetC w) := by
  obtain ⟨i0, hi, hz0, hz1, hz2⟩ := info_parts (P := Try.prog) (e := 70) (z := .int .u32 0) (size := 1) (bytes := 4) (by kernel_rfl)
  have hf := Lib.hid (fun p k w a b c d => frac_ok p k w a b c d)
  have hh := Lib.hid (fun v l p gp w a b c d e => has_any v l p gp w a b c d e)
  go_enter Try.func31, Try.ntmps31
  have e2 : Hid (pl 2 = []) := by show _ = _; decide
  go_wp2_with (refine wpList_allocA rfl 72 rfl (wv (zeros 8)) (by kernel_rfl) ?_)
  intro w1 h1 hK1 hz1
  have hB1 := hK1.below (Nat.le_refl _) (by simp)
  clear hK1
  go_wp2_with (refine wpList_allocA rfl 73 rfl (wv (zeros 64)) (by kernel_rfl) ?_)
  intro w2 k1 hK2 hz2
  replace h1 := h1.keeps hK2 (by simp)
  replace hB1 := hB1.trans (hK2.below (by omega) (by simp))
  have hz : w2.heap.size = w.heap.size + 2 := by omega
  replace k1 : Blk w2 (w.heap.size + 1) 73 (wv (zeros 64)) := k1
  clear hK2 hz1 hz2
  replace hz := Lib.hid hz
  go_wp2
  go_loopg [2, 3, 4] 310 (fun gk n v q wr => ∃ p gp, Hid (gk + p = 312) ∧ n = .int .i64 ((pl p).length : Nat) ∧ q = .pointer (some ⟨gp, 0, none⟩) ∧ ConsAt w.heap.size w p gp v wr)
  case atStart =>
    refine ⟨2, w2.heap.size, rfl, by rw [e2.out]; rfl, rfl, by decide, by decide, by rw [e2.out]; exact World.ownsRow_nil _ _ _ _, by simp [Value.ownBlock], by rw [hz.out]; exact Nat.le_refl _, Blk.new_at rfl rfl, ?_, ?_, hB1.alloc (by rw [hz.out]; omega) _⟩
    · rw [e2.out]; exact h1.alloc _
    · rw [e2.out]; exact k1.alloc _
  case round =>
    clear h1 k1 hB1 hz
    obtain ⟨p, gp, hgk, rfl, rfl, hC⟩ := hrel
    obtain ⟨h2, h312, own, hgv, hgp, hbp, hh0, hk0, hB⟩ := hC
    have hpl := pl_mem p
    have hh1 := Lib.hid (hh.out u3 (pl p) p gp wr (Sl.of_own own) (fun q hq => by have := hpl q hq; omega) (by have := pl_len (q := 312) h2 h312; have := pl312_length; omega) (by omega) (by have := hbp.cell 0; simpa using this))
    have cp : wr.cell? ⟨gp, 0, none⟩ = some (.int .u32 (p : Int)) := by have := hbp.cell 0; simpa using this
    have hgv := Lib.hid hgv
    have own := Lib.hid own
    clear hpl
    by_cases hlt : (((pl p).length : Nat) : Int) < 64
    · cases hd : hasDiv (pl p) p with
      | true =>
        rw [hd] at hh1
        have hpn := Lib.hid (pl_yes h2 hd)
        have hp312 := Lib.hid (pl_lt (q := 312) (by decide) pl312_length (show (pl p).length < 64 by omega))
        clear hd
        go_wp2_with fail
        refine hh1.out.mono ?_
        rintro e w' ⟨rfl, rfl⟩
        go_wp2
        go_roundg (gk - 1)
        case measure => have := hgk.out; have := hp312.out; omega
        case rel =>
          refine ⟨p + 1, wr.heap.size, ?_, by rw [hpn.out], rfl, by omega, by have := hp312.out; omega, by rw [hpn.out]; exact own.out.alloc _, ?_, ?_, Blk.new_at rfl (by simp), by rw [hpn.out]; exact hh0.alloc _, by rw [hpn.out]; exact hk0.alloc _, hB.alloc ?_ _⟩
          · show _ = _; have := hgk.out; have := hp312.out; omega
          · intro h; have := (own.out.lt _ h).2; omega
          · have := hbp.lt; omega
          · have := hbp.lt; omega
      | false =>
        rw [hd] at hh1
        have hpn := Lib.hid (pl_no h2 hd)
        have hp312 := Lib.hid (pl_lt (q := 312) (by decide) pl312_length (show (pl p).length < 64 by omega))
        have hK := Lib.hid (K0_at h2 (show (pl p).length < 64 by omega) hd)
        have hH := Lib.hid (fun h8 => H0_at h2 h8 hd)
        have hf2 := Lib.hid (fun w => hf.out p 2 w (by decide) (by decide) (by omega) (by have := hp312.out; omega))
        have hf3 := Lib.hid (fun w => hf.out p 3 w (by decide) (by decide) (by omega) (by have := hp312.out; omega))
        have hpl2 := pl_len (q := 312) h2 h312
        rw [pl312_length] at hpl2
        clear hd
        go_wp2_with (first
          | (go_at_call 41; refine hh1.out.mono ?_; rintro e w' ⟨rfl, rfl⟩)
          | (at_builtin; refine wpList_append_sl rfl (.tmp 12) (.tmp 14) 56 rfl (w.heap.size + 2) 70 i0 (.int .u32 0) 4 Try.underlying56 hi hz0 hz1 hz2 rfl _ (pl p).length (wv (pl p)) rfl (own.out.alloc _) _ (wv [p]) rfl ?_ (ones_wv _) ?_ ?_ ?_ ?_))
        · exact (Sl.of_blk (n := 1) (c := 1) (Blk.new_at (w := wr) (t := 70) (cs := #[.int .u32 (p : Int)]) rfl rfl) (Nat.le_refl _) (by simp) (by unfold maxLen; omega))
        · simp [maxLen]; omega
        · simp; omega
        · have := hbp.lt; simp; omega
        intro v' w2 own2 gr
        have hK2 := Keeps.grown gr
        have hrow : ∀ b ∈ u3.ownBlock.toList, w.heap.size + 2 ≤ b ∧ b ≠ gp := fun b hb => by
          cases hv : u3.ownBlock with
          | none => rw [hv] at hb; simp at hb
          | some k =>
            rw [hv] at hb
            simp only [Option.toList_some, List.mem_cons, List.not_mem_nil, or_false] at hb
            subst hb
            exact ⟨(own.out.lt _ hv).1, fun e => hgv.out (by rw [hv, e])⟩
        replace hbp := (hbp.alloc (.cells #[.int .u32 (p : Int)] 70)).keeps hK2 (fun h => (hrow _ h).2 rfl)
        replace hh0 := (hh0.alloc (.cells #[.int .u32 (p : Int)] 70)).keeps hK2 (fun h => by have := (hrow _ h).1; omega)
        replace hk0 := (hk0.alloc (.cells #[.int .u32 (p : Int)] 70)).keeps hK2 (fun h => by have := (hrow _ h).1; omega)
        replace hB := (hB.alloc hB.size (.cells #[.int .u32 (p : Int)] 70)).trans (hK2.below (by have := hB.size; simp; omega) (fun b hb => by have := (hrow b hb).1; omega))
        rw [← wv_app, show pl p ++ [p] = pl (p + 1) from hpn.out.symm] at own2
        rw [show (pl p).length + 1 = (pl (p + 1)).length from by rw [hpn.out]; simp] at own2
        replace own2 := Lib.hid own2
        clear hrow hK2 gr own hgv hh1 cp
        have hpn1 := Lib.hid (show (pl (p + 1)).length = (pl p).length + 1 from by rw [hpn.out]; simp)
        generalize (pl p).length = a at *
        by_cases h8 : (a : Int) < 8
        · skip
          have ch := hh0.cell a
          have fh := hh0.frozen a
          rw [show min a 8 = a from by omega] at hh0 ch
          rw [wv_get, upd_get (by rw [H0_length]; simp) (Nat.le_refl _) (by simp; omega), zeros_get (by omega)] at ch
          simp only [Option.map_some] at ch
          have cp : w2.cell? ⟨gp, 0, none⟩ = some (.int .u32 (p : Int)) := by have := hbp.cell 0; simpa using this
          have hs2 := Lib.hid (upd_set (new := H0) (old := zeros 8) (k := a) (by rw [H0_length]; simp) (by simp; omega) (hH.out (by omega)))
          have l2 := frac_lt p 2
          generalize PlainRoot.frac p 2 = f2 at *
          go_wp2_with fail
          refine (hf2.out _).mono ?_
          rintro e w9 ⟨rfl, hB9⟩
          have lk := hh0.lt
          have lp := hbp.lt
          replace hbp := hbp.keep hB9
          replace hh0 := hh0.keep hB9
          replace hk0 := hk0.keep hB9
          replace own2 := Lib.hid (own_keep own2.out hB9)
          replace hB := below_call hB hB.size hB9
          replace ch := (hB9.cell (p := ⟨w.heap.size, a, none⟩) lk).trans ch
          replace fh := hh0.frozen a
          replace cp : w9.cell? ⟨gp, 0, none⟩ = some (.int .u32 (p : Int)) := by have := hbp.cell 0; simpa using this
          have hh1 := hh0.set_ a (.int .u32 (f2 : Int))
          rw [wv_set, hs2.out] at hh1
          have hh1 := Lib.hid hh1
          have hk1 := Lib.hid (hk0.far (p := ⟨w.heap.size, a, none⟩) (by simp) (.int .u32 (f2 : Int)))
          have hbp1 := Lib.hid (hbp.far (p := ⟨w.heap.size, a, none⟩) (by simp; omega) (.int .u32 (f2 : Int)))
          have hB1 := Lib.hid (hB.setCell (p := ⟨w.heap.size, a, none⟩) (by simp) (.int .u32 (f2 : Int)))
          have own1 := Lib.hid (own_keeps own2.out ((Keeps.refl [w.heap.size] _).setCell (p := ⟨w.heap.size, a, none⟩) (by simp) (.int .u32 (f2 : Int))) (fun k hk _ => by simp; omega))
          go_upto_region 10 with (fail)
          clear hbp hh0 hk0 hB own2 ch fh cp hH hs2 hB9
          replace hh0 := hh1.out
          replace hk0 := hk1.out
          replace hbp := hbp1.out
          replace hB := hB1.out
          have own2 := own1
          clear hh1 hk1 hbp1 hB1
          generalize w9.setCell ⟨w.heap.size, a, none⟩ (.int .u32 (f2 : Int)) = w8 at *
          have ck := hk0.cell a
          have fk := hk0.frozen a
          rw [wv_get, upd_get (by rw [K0_length]; simp) (Nat.le_refl _) (by simp; omega), zeros_get (by omega)] at ck
          simp only [Option.map_some] at ck
          have cp : w8.cell? ⟨gp, 0, none⟩ = some (.int .u32 (p : Int)) := by have := hbp.cell 0; simpa using this
          have hs := Lib.hid (upd_set (new := K0) (old := zeros 64) (k := a) (by rw [K0_length]; simp) (by simp; omega) hK.out)
          have l1 := frac_lt p 3
          generalize PlainRoot.frac p 3 = f3 at *
          go_wp2_with (go_at_call 43; refine (hf3.out _).mono ?_; rintro e w9 ⟨rfl, hB9⟩; have lk := hk0.lt; have lp := hbp.lt; replace hbp := hbp.keep hB9; replace hh0 := hh0.keep hB9; replace hk0 := hk0.keep hB9; replace own2 := Lib.hid (own_keep own2.out hB9); replace hB := below_call hB hB.size hB9; replace ck := (hB9.cell (p := ⟨w.heap.size + 1, a, none⟩) lk).trans ck; replace fk := hk0.frozen a; replace cp : w9.cell? ⟨gp, 0, none⟩ = some (.int .u32 (p : Int)) := by have := hbp.cell 0; simpa using this)
          go_roundg (gk - 1)
          case measure => have := hgk.out; have := hp312.out; omega
          case rel =>
            have hk1 := hk0.set_ a (.int .u32 (f3 : Int))
            rw [wv_set, hs.out, ← hpn1.out] at hk1
            have lq := hbp.lt
            refine ⟨p + 1, w9.heap.size, ?_, by rw [hpn1.out]; rfl, rfl, by omega, by have := hp312.out; omega, ?_, ?_, ?_, Blk.new_at (by simp) (by simp), ?_, hk1.alloc _, (hB.setCell (by simp) _).alloc ?_ _⟩
            · show _ = _; have := hgk.out; have := hp312.out; omega
            · exact (own_keeps own2.out ((Keeps.refl [w.heap.size + 1] _).setCell (p := ⟨w.heap.size + 1, a, none⟩) (by simp) _) (fun k hk _ => by simp; omega)).alloc _
            · intro h; have := (own2.out.lt _ h).2; omega
            · omega
            · exact (by rw [hpn1.out, show min (a + 1) 8 = a + 1 from by omega]; exact (hh0.far (by simp) _).alloc _)
            · have := hB.size; simp; omega
        · replace hH := Lib.hid h8
          have ck := hk0.cell a
          have fk := hk0.frozen a
          rw [wv_get, upd_get (by rw [K0_length]; simp) (Nat.le_refl _) (by simp; omega), zeros_get (by omega)] at ck
          simp only [Option.map_some] at ck
          have cp : w2.cell? ⟨gp, 0, none⟩ = some (.int .u32 (p : Int)) := by have := hbp.cell 0; simpa using this
          have hs := Lib.hid (upd_set (new := K0) (old := zeros 64) (k := a) (by rw [K0_length]; simp) (by simp; omega) hK.out)
          have l1 := frac_lt p 3
          generalize PlainRoot.frac p 3 = f3 at *
          go_wp2_with (go_at_call 43; refine (hf3.out _).mono ?_; rintro e w9 ⟨rfl, hB9⟩; have lk := hk0.lt; have lp := hbp.lt; replace hbp := hbp.keep hB9; replace hh0 := hh0.keep hB9; replace hk0 := hk0.keep hB9; replace own2 := Lib.hid (own_keep own2.out hB9); replace hB := below_call hB hB.size hB9; replace ck := (hB9.cell (p := ⟨w.heap.size + 1, a, none⟩) lk).trans ck; replace fk := hk0.frozen a; replace cp : w9.cell? ⟨gp, 0, none⟩ = some (.int .u32 (p : Int)) := by have := hbp.cell 0; simpa using this)
          go_roundg (gk - 1)
          case measure => have := hgk.out; have := hp312.out; omega
          case rel =>
            have hk1 := hk0.set_ a (.int .u32 (f3 : Int))
            rw [wv_set, hs.out, ← hpn1.out] at hk1
            have lq := hbp.lt
            refine ⟨p + 1, w9.heap.size, ?_, by rw [hpn1.out]; rfl, rfl, by omega, by have := hp312.out; omega, ?_, ?_, ?_, Blk.new_at (by simp) (by simp), ?_, hk1.alloc _, (hB.setCell (by simp) _).alloc ?_ _⟩
            · show _ = _; have := hgk.out; have := hp312.out; omega
            · exact (own_keeps own2.out ((Keeps.refl [w.heap.size + 1] _).setCell (p := ⟨w.heap.size + 1, a, none⟩) (by simp) _) (fun k hk _ => by simp; omega)).alloc _
            · intro h; have := (own2.out.lt _ h).2; omega
            · omega
            · exact (by rw [hpn1.out, show min (a + 1) 8 = min a 8 from by omega]; exact (hh0.far (by simp) _).alloc _)
            · have := hB.size; simp; omega
    · have hpl2 := pl_len (q := 312) h2 h312
      rw [pl312_length] at hpl2
      have ha : (pl p).length = 64 := by omega
      rw [ha, show min 64 8 = 8 from rfl, upd_all H0_length (by simp)] at hh0
      rw [ha, upd_all K0_length (by simp)] at hk0
      have ha := Lib.hid ha
      have hHl := Lib.hid (show (wv H0).length = 8 by simp [H0_length])
      have hKl := Lib.hid (show (wv K0).length = 64 by simp [K0_length])
      obtain ⟨H, hHe⟩ : ∃ H, H = wv H0 := ⟨_, rfl⟩
      obtain ⟨K, hKe⟩ : ∃ K, K = wv K0 := ⟨_, rfl⟩
      have hH1 := Lib.hid (show Ones H from hHe ▸ ones_wv H0)
      have hKo := Lib.hid (show Ones K from hKe ▸ ones_wv K0)
      rw [← hHe] at hh0 hHl
      rw [← hKe] at hk0 hKl
      replace hHe := Lib.hid hHe
      replace hKe := Lib.hid hKe
      clear hpl2 hh1 hgv own cp hbp
      go_wp2
      refine wp_region_held_drew (S := fun w' => w'.rangeAt w.heap.size 0 H ∧ w'.rangeAt (w.heap.size + 1) 0 K) (by kernel_rfl) ⟨hSS hh0.drew hHl.out, hSS hk0.drew hKl.out⟩ (fun hH => ?_)
      refine takeH_load (o := ⟨some 35, _, _, _, _, _⟩) (i := 0) rfl (by kernel_rfl) (by kernel_rfl) (by kernel_rfl) (fun _ _ _ _ h => h) rfl 72 (.tmp 0) rfl 8 arr8s _ _ rfl H hHl.out (fun w h => h.1) hH ?_
      simp only [Act.put, List.setIfInBounds_toArray, List.set_cons_zero, List.set_cons_succ, Nat.zero_add, decide_true, beq_self_eq_true]
      refine takeH_load (o := ⟨some 36, _, _, _, _, _⟩) (i := 1) rfl (by kernel_rfl) (by kernel_rfl) (by kernel_rfl) (fun _ _ _ _ h => h) rfl 73 (.tmp 1) rfl 64 arr64w _ _ rfl K hKl.out (fun w h => h.2) hH ?_
      simp only [Act.put, List.setIfInBounds_toArray, List.set_cons_zero, List.set_cons_succ, Nat.zero_add, decide_true, beq_self_eq_true]
      refine wpAnyH_ready (rs := [2]) (by kernel_rfl) (by simp) ?_
      refine AllReadyH.cons rfl (fun K1 hK1 => ?_) AllReadyH.nil
      rw [if_pos (by rfl)]
      refine wp_storeA 72 (.tmp 0) (.tmp 35) rfl 8 arr8s _ _ rfl H rfl 72 _ hh0.drew hHl.out (by rw [hHl.out]; decide) hH1.out ?_
      intro w3 h3 hK3
      rw [putL_all rfl] at h3
      have k3 := hk0.drew.keeps hK3 (by simp)
      have hB3 := hB.drew.trans (hK3.below hB.drew.size (by simp))
      refine hK1.out _ _ ⟨hSS h3 hHl.out, hSS k3 hKl.out⟩ (fun hH => ?_)
      clear hK1 K1 hK3
      refine wpAnyH_ready (rs := [3]) (by kernel_rfl) (by simp) ?_
      refine AllReadyH.cons rfl (fun K1 hK1 => ?_) AllReadyH.nil
      rw [if_pos (by rfl)]
      refine wp_storeA 73 (.tmp 1) (.tmp 36) rfl 64 arr64w _ _ rfl K rfl 73 _ k3 hKl.out (by rw [hKl.out]; decide) hKo.out ?_
      intro w4 k4 hK4
      rw [putL_all rfl] at k4
      have h4 := h3.keeps hK4 (by simp)
      have hB4 := hB3.trans (hK4.below hB3.size (by simp))
      refine hK1.out _ _ ⟨hSS h4 hHl.out, hSS k4 hKl.out⟩ (fun hH => ?_)
      clear hK1 K1 hK4
      refine wpAnyH_done (by kernel_rfl) ?_ _
      go_wp2_with fail
      exact bodyPost_ret (v := .tuple #[.agg H.toArray, .agg K.toArray]) (res_cell2 Try.results31 _ _ _ _ 72 73 _ _ arr8s arr64w hHl.out hKl.out rfl rfl h4 k4) rfl ⟨by rw [hHe.out, hKe.out], hB4⟩
end Go.Proofs.Ythlebobfbalknaa
