/- The walk of SealKeys. -/
import Derived.Test.YtlifpmglaoppoaaQ12P4
import Derived.Test.YtlifpmglaoppoaaRfO
import Derived.Test.YtlifpmglaoppoaaEqH
set_option linter.unusedVariables false
set_option linter.unusedSimpArgs false
namespace Go.Proofs.Ytlifpmglaoppoaa.w_SealKeys
open Go.RowKit
open Go.Proofs.PlainAes
open Go.Proofs.PlainSha
open Go.Proofs.PlainMac
open Go.Proofs.PlainSeal

theorem arrRk : ArrTy Try.prog 31 64 := ⟨_, Try.underlying31, rfl, by kernel_rfl⟩
theorem rk_zero : (Try.prog.info? 31).bind (·.zero) = some (.agg (bv (zeros 64)).toArray) := by kernel_rfl
theorem built_rkeys (x y : List Nat) (hx : x.length = 32) (hy : y.length = 32) : Try.prog.built 31 [(0, .agg (bv x).toArray), (1, .agg (bv y).toArray)] = some (bv (x ++ y)).toArray := by
  have hz := rk_zero
  cases hi : Try.prog.info? 31 with
  | none => rw [hi] at hz; cases hz
  | some it =>
    rw [hi] at hz
    rw [built_two (n := 32) (m := 32) hi Try.underlying31 hz (by simp) (by kernel_rfl) (bv x) (bv y) (by simp [hx]) (by simp [hy]), bv_app]
set_option maxRecDepth 100000 in
set_option maxHeartbeats 1000000 in
theorem rderive_keys (v : Value) (k : List Nat) (w : World) (hs : Sl w v (bv k)) (bk : Byt k) (hlk : (k.length : Int) ≤ 549755813888) :
    Calls Try.prog 12 #[v] w (RetA (keyE k ++ keyM k) w) := by
  have h1 := Lib.hid (fun w (h : Sl w v (bv k)) => rderive_any v k encL w h bk encL_byt hlk (by decide))
  have h2 := Lib.hid (fun w (h : Sl w v (bv k)) => rderive_any v k macS w h bk macS_byt hlk (by decide))
  change Hid (∀ w h, Calls _ _ _ w (RetH (keyE k) w)) at h1
  change Hid (∀ w h, Calls _ _ _ w (RetH (keyM k) w)) at h2
  have hb := Lib.hid (built_rkeys (keyE k) (keyM k) (by simp) (by simp))
  have hl := Lib.hid (show (bv (keyE k ++ keyM k)).length = 64 by simp)
  replace hs := Lib.hid hs
  rw [← enc_str] at h1
  rw [← mac_str] at h2
  clear bk hlk
  generalize keyE k = E at *
  generalize keyM k = M at *
  go_enter Try.func12, Try.ntmps12
  go_wp2_with (refine wpList_allocA rfl 31 rfl (bv (zeros 64)) rk_zero ?_)
  intro w1 hb1 hK1 hz1
  have hB1 := (Below.refl w.heap.size w).trans (hK1.below (Nat.le_refl _) (by simp))
  clear hK1 hz1
  go_wp2_with fail
  refine (h1.out _ (hs.out.keep hB1)).mono ?_
  rintro e w2 ⟨rfl, hB2⟩
  have hB2' := below_call hB1 hB1.size hB2
  have hb2 := hb1.keep hB2
  clear hb1 hB1 hB2
  go_wp2_with fail
  refine (h2.out _ (hs.out.keep hB2')).mono ?_
  rintro e w3 ⟨rfl, hB3⟩
  have hB3' := below_call hB2' hB2'.size hB3
  have hb3 := hb2.keep hB3
  clear hb2 hB2' hB3
  go_wp2_with (first
    | refine wpList_buildV rfl 31 _ rfl _ rfl (bv (E ++ M)) hb.out ?_
    | refine wpList_storeW rfl 31 (.tmp 2) (.tmp 7) rfl 64 arrRk _ rfl (bv (E ++ M)) rfl 31 _ hb3 hl.out (by simp) (ones_bv _) ?_)
  intro w4 hb4 hK4
  go_wp2
  exact bodyPost_ret (v := .agg (bv (E ++ M)).toArray) (res_cell Try.results12 _ _ _ 31 _ arrRk hl.out rfl hb4) rfl ⟨rfl, hB3'.trans (hK4.below hB3'.size (by simp))⟩
theorem arr24 : ArrTy Try.prog 24 32 := ⟨_, Try.underlying24, rfl, by kernel_rfl⟩
theorem byt24 : ByteArr Try.prog 24 32 := ⟨⟨_, Try.underlying24, Try.underlying5, by kernel_rfl⟩, by kernel_rfl⟩
theorem fldR0 (g : Nat) (w : World) : (Instr.fieldAt 31 (.pointer (some ⟨g, 0, none⟩)) 0).run Try.prog w = .ok (.pointer (some ⟨g, 0, none⟩)) w := by kernel_rfl
theorem fldR1 (g : Nat) (w : World) : (Instr.fieldAt 31 (.pointer (some ⟨g, 0, none⟩)) 1).run Try.prog w = .ok (.pointer (some ⟨g, 32, none⟩)) w := by kernel_rfl
theorem fldK1 (g : Nat) (w : World) : (Instr.fieldAt 28 (.pointer (some ⟨g, 0, none⟩)) 1).run Try.prog w = .ok (.pointer (some ⟨g, 32, none⟩)) w := by kernel_rfl
/-- A guarded load of a part of a block, where the guard holds. -/
theorem wpList_loadPG {P : Program} {ops : Array Oper} {rest : List Oper} {o : Oper} {a : Act} {w : World} {Q : Exit → Act → World → Prop} (hw : Region.wanted o (yielded ops a.tmps) = true) (ty : TypeId) (x : Operand) (ho : o.op = .load ty x) (n : Nat) (hT : ArrTy P ty n) (g off : Nat) (hx : a.eval x = .pointer (some ⟨g, off, none⟩)) (t : TypeId) (L : List Value) (hb : Blk w g t L)
    (hl : off + n ≤ L.length) (M : List Value) (hM : (L.drop off).take n = M) (h : wpList P ops Q rest (a.put o.dst (.agg M.toArray)) w) : wpList P ops Q (o :: rest) a w := by
  subst hM
  refine wpList_step fun K hK => ?_
  rw [if_pos hw]
  unfold Oper.wp execOp
  simp only [ho, hx, Sem.run_bind, run_loadA hb hT hl, Result.andThen_ok, Sem.run_pure]
  exact hK _ _ h
set_option maxRecDepth 100000 in
set_option maxHeartbeats 2000000 in
theorem walk (v : Value) (k : List Nat) (bk : Byt k) (hlk : k.length ≤ 140737488351232) (W : World) (hs : Sl W v (bv k)) :
    Calls Try.prog 3 #[v] W fun e w' => e = .returned (.bool true) ∧ Below W.heap.size W w' := by
  have hal := Lib.hid (fun w => alive12 w)
  have hd := Lib.hid (fun w h hk => derive_keys v k w h bk hk)
  have hr := Lib.hid (fun w h hk => rderive_keys v k w h bk hk)
  have hl := Lib.hid (show (bv (keyE k ++ keyM k)).length = 64 by simp)
  have hE := Lib.hid (keyE_length k)
  have hM := Lib.hid (keyM_length k)
  obtain ⟨A, c, rfl, -⟩ := id hs
  obtain ⟨n, hn⟩ : ∃ n, n = (bv k).length := ⟨_, rfl⟩
  rw [← hn] at hs hd hr ⊢
  replace hs := Lib.hid hs
  have hkn : Hid ((n : Int) ≤ 300 → (k.length : Int) ≤ 549755813888) := fun h => by rw [hn, bv_length] at h; omega
  have hnI : (n : Int) ≤ 140737488355328 := by rw [hn, bv_length]; omega
  clear hlk bk hn
  generalize keyE k = E at *
  generalize keyM k = M at *
  have hp1 : Hid (((bv (E ++ M)).drop 0).take 32 = bv E) := by
    show _ = _
    rw [List.drop_zero, bv_app, List.take_left' (by simp [hE.out])]
  have hp2 : Hid (((bv (E ++ M)).drop 32).take 32 = bv M) := by
    show _ = _
    rw [bv_app, List.drop_left' (by simp [hE.out]), List.take_of_length_le (by simp [hM.out])]
  go_enter Try.func3, Try.ntmps3
  go_wp2_with fail
  refine (hal.out _).mono ?_
  rintro e w1 ⟨rfl, hB1⟩
  by_cases hlt : (n : Int) ≤ 300
  · go_wp2_with fail
    refine (hd.out _ (hs.out.keep hB1) (hkn.out hlt)).mono ?_
    rintro e w2 ⟨rfl, hB2⟩
    replace hB2 := below_call hB1 hB1.size hB2
    clear hB1
    go_wp2_with fail
    refine (hr.out _ (hs.out.keep hB2) (hkn.out hlt)).mono ?_
    rintro e w3 ⟨rfl, hB3⟩
    replace hB3 := below_call hB2 hB2.size hB3
    clear hB2
    have hW3 := Lib.hid hB3.size
    go_wp2_with (refine wpList_allocA rfl 28 rfl (bv (zeros 64)) ks_zero ?_)
    intro w4 h4 hK4 hz4
    replace hB3 := hB3.trans (hK4.below hB3.size (by simp))
    have h3l := Lib.hid h4.lt
    clear hK4
    go_wp2_with (refine wpList_allocA rfl 31 rfl (bv (zeros 64)) rk_zero ?_)
    intro w5 h5 hK5 hz5
    have h5l := Lib.hid h5.lt
    replace h4 := h4.keeps hK5 (by simp)
    replace hB3 := hB3.trans (hK5.below hB3.size (by simp))
    have hgs := Lib.hid (show w3.heap.size < w4.heap.size from h3l.out)
    clear hK5 hz5
    have hgg : Hid (W.heap.size ≤ w3.heap.size) := hW3
    clear hgs
    generalize hg3 : w3.heap.size = g3 at *
    replace hg3 := Lib.hid hg3
    have e1 := Lib.hid (show decide (E = E) = true from decide_eq_true rfl)
    have e2 := Lib.hid (show decide (M = M) = true from decide_eq_true rfl)
    go_wp2_with (refine wpList_storeW rfl 28 (.tmp 3) (.tmp 11) rfl 64 arrKs _ rfl (bv (E ++ M)) rfl 28 _ h4 hl.out (by simp) (ones_bv _) ?_)
    intro w6 h6 hK6
    replace h5 := h5.keeps hK6 (by simp)
    replace hB3 := hB3.trans (hK6.below hB3.size (by intro b hb; simp only [List.mem_singleton] at hb; subst hb; exact hgg.out))
    clear hK6 h4
    go_wp2_with (refine wpList_storeW rfl 31 (.tmp 4) (.tmp 13) rfl 64 arrRk _ rfl (bv (E ++ M)) rfl 31 _ h5 hl.out (by simp) (ones_bv _) ?_)
    intro w7 h7 hK7
    replace h6 := h6.keeps hK7 (by simp)
    replace hB3 := hB3.trans (hK7.below hB3.size (by intro b hb; simp only [List.mem_singleton] at hb; subst hb; have := hgg.out; omega))
    clear hK7 h5
    go_wp2_with (first
      | refine wpList_loadA rfl 25 (.tmp 14) rfl 32 arrK g3 0 rfl 28 _ h6 (by rw [hl.out]; decide) (bv E) hp1.out ?_
      | refine wpList_loadA rfl 24 (.tmp 16) rfl 32 arr24 (g3 + 1) 0 rfl 31 _ h7 (by rw [hl.out]; decide) (bv E) hp1.out ?_
      | (refine wpList_eqlG rfl 24 (.tmp 15) (.tmp 17) 24 rfl 32 byt24 E E rfl rfl hE.out hE.out ?_; rw [decide_eq_true (rfl : E = E)])
      | refine wpList_loadPG rfl 26 (.tmp 20) rfl 32 arrH g3 32 rfl 28 _ h6 (by rw [hl.out]; decide) (bv M) hp2.out ?_
      | refine wpList_loadPG rfl 26 (.tmp 22) rfl 32 arrH (g3 + 1) 32 rfl 31 _ h7 (by rw [hl.out]; decide) (bv M) hp2.out ?_
      | (refine wpList_eqlG rfl 26 (.tmp 21) (.tmp 23) 26 rfl 32 bytH M M rfl rfl hM.out hM.out ?_; rw [decide_eq_true (rfl : M = M)]))
    go_wp2
    go_ret
    exact ⟨rfl, hB3⟩
  · go_wp2
    go_ret
    exact ⟨rfl, hB1⟩
end Go.Proofs.Ytlifpmglaoppoaa.w_SealKeys
