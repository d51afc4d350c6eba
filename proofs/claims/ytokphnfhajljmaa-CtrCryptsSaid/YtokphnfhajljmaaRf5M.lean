/- Contract of banyanref05: Made. -/
import Derived.Test.YtokphnfhajljmaaQ05P1
import Derived.Test.YtokphnfhajljmaaNonP
import Derived.Test.YtokphnfhajljmaaCtrC
import Derived.Test.YtokphnfhajljmaaCpS
import Derived.Test.YtokphnfhajljmaaRgx
import Derived.Deep.Cut
set_option linter.unusedVariables false
set_option linter.unusedSimpArgs false
namespace Go.Proofs.PlainSeal
open Go.Proofs.PlainAes
open Go.Proofs.PlainSha
theorem nonceL_put (b a : Nat) : putB b 8 ++ putB a 4 = nonceL b a := by
  show [b / 72057594037927936 % 256, b / 281474976710656 % 256, b / 1099511627776 % 256, b / 4294967296 % 256, b / 16777216 % 256, b / 65536 % 256, b / 256 % 256, b / 1 % 256,
      a / 16777216 % 256, a / 65536 % 256, a / 256 % 256, a / 1 % 256] =
    [b / 4294967296 / 16777216 % 256, b / 4294967296 / 65536 % 256, b / 4294967296 / 256 % 256, b / 4294967296 % 256,
      b % 4294967296 / 16777216 % 256, b % 4294967296 / 65536 % 256, b % 4294967296 / 256 % 256, b % 4294967296 % 256,
      a / 16777216 % 256, a / 65536 % 256, a / 256 % 256, a % 256]
  simp only [List.cons.injEq, and_true]
  repeat' apply And.intro
  all_goals first | trivial | omega
end Go.Proofs.PlainSeal
namespace Go.Proofs.Ytokphnfhajljmaa
open Go.RowKit
open Go.Proofs.PlainAes
open Go.Proofs.PlainSha
open Go.Proofs.PlainSeal

theorem wp_append_sl2 {P : Program} {w : World} {o : Oper} {a : Act} {K : Act → World → Prop} {Q : Exit → Act → World → Prop} (s x : Operand) (t : TypeId)
    (ho : o.op = .call { callee := .builtin .append, args := #[s, x], argTypes := #[t, t] })
    (base : Nat) (e : TypeId) (i : TypeInfo) (z : Value) (bytes : Nat) (ht : P.underlying t = some (.slice e)) (hi : P.info? e = some i) (hz : i.zero = some z)
    (hsize : i.size = 1) (hby : i.bytes = bytes) (hzs : z.cells.size = 1)
    (v : Value) (n : Nat) (xs : List Value) (hs : a.eval s = v) (hown : w.ownsRow base e 1 v n xs) (u : Value) (ys : List Value) (hx : a.eval x = u) (hu : Sl w u ys) (h1 : ∀ y ∈ ys, y.oneCell' = true)
    (h63 : n + ys.length ≤ maxLen) (hbytes : (n + ys.length) * bytes ≤ 140737488355328) (hbase : base ≤ w.heap.size)
    (h : ∀ v' w', w'.ownsRow base e 1 v' (n + ys.length) (xs ++ ys) → w.grownBy w' v.ownBlock → Moved w.heap.size v.ownBlock v'.ownBlock → K (a.put o.dst v') w') : Oper.wp P o a w K Q := by
  obtain ⟨v', w', hr, h2, h3, h4⟩ := run_append_sl2 (P := P) w base t o.type e i z bytes ht hi hz hsize hby hzs v n xs hown u ys hu h1 h63 hbytes hbase
  unfold Oper.wp
  simp [execOp, ho, resolve, invoke, builtin, hs, hx, hr, Result.andThen]
  exact h v' w' h2 h3 h4
theorem arrN12 : ArrTy Try.prog 29 12 := ⟨_, Try.underlying29, rfl, by kernel_rfl⟩
set_option maxRecDepth 100000 in
set_option maxHeartbeats 2000000 in
theorem rmade_any (b a : Nat) (w : World) (hb : (b : Int) ≤ 18446744073709551615) (ha : (a : Int) ≤ 4294967295) :
    Calls Try.prog 14 #[.int .u64 (b : Int), .int .u32 (a : Int)] w (RetA (nonceL b a) w) := by
  obtain ⟨i0, hi, hz0, hz1, hz2⟩ := info_parts (P := Try.prog) (e := 5) (z := .int .u8 0) (size := 1) (bytes := 1) (by kernel_rfl)
  have h8 := Lib.hid (fun w => rbytes_row b 8 w (by omega) (by omega) (by simp; omega))
  have h4 := Lib.hid (fun w => rbytes_row a 4 w (by omega) (by omega) (by simp; omega))
  have hcat := Lib.hid (nonceL_put b a)
  have hl8 := Lib.hid (putB_length b 8)
  have hl4 := Lib.hid (putB_length a 4)
  have hnl := Lib.hid (show (bv (nonceL b a)).length = 12 by rw [bv_length]; exact nonceL_length b a)
  have hR : Hid (∀ w', Below w.heap.size w w' → RetA (nonceL b a) w (.returned (.agg (bv (nonceL b a)).toArray)) w') := fun w' h => ⟨rfl, h⟩
  have hcv : IntKind.u64.wrap (a : Int) = (a : Int) := by rw [IntKind.wrap_u64]; omega
  clear hb
  generalize RetA (nonceL b a) w = RX at *
  generalize nonceL b a = O at *
  generalize putB b 8 = P8 at *
  generalize putB a 4 = P4 at *
  go_enter Try.func14, Try.ntmps14
  go_wp2_with (refine wpList_allocA rfl 29 rfl (bv (zeros 12)) (by kernel_rfl) ?_)
  intro w1 n4 hK1 hz1'
  have hB := (Below.refl w.heap.size w).trans (hK1.below (Nat.le_refl _) (by simp))
  clear hK1 hz1'
  have ga := Lib.hid n4.lt
  go_wp2_with (refine wpList_allocA rfl 29 rfl (bv (zeros 12)) (by kernel_rfl) ?_)
  intro w2 n5 hK2 hz2'
  replace n4 := n4.keeps hK2 (by simp)
  replace hB := hB.trans (hK2.below hB.size (by simp))
  clear hK2 hz2'
  generalize w1.heap.size = g5 at *
  generalize hg4 : w.heap.size = g4 at n4 ga
  replace hg4 := Lib.hid hg4
  have gw := Lib.hid hB.size
  go_upto_region 2 with fail
  refine wp_region_held_drew (S := fun w' => Below w.heap.size w w') (by kernel_rfl) hB.drew (fun hH => ?_)
  refine takeH_S (o := ⟨some 6, _, _, _, _, _⟩) (i := 0) rfl (by kernel_rfl) (by kernel_rfl) (by kernel_rfl) (fun _ _ _ _ h => h) rfl (.slice (some ⟨g5, 0, none⟩) 12 12) (fun w _ => by go_simp) hH ?_
  simp only [Act.put, List.setIfInBounds_toArray, List.set_cons_zero, List.set_cons_succ, Nat.zero_add, decide_true, beq_self_eq_true]
  refine takeH_move (o := ⟨some 7, _, _, _, _, _⟩) (i := 1) rfl (by kernel_rfl) (by kernel_rfl) (by kernel_rfl) (fun _ _ _ _ h => h) rfl (.tmp 0) rfl (.int .u64 (b : Int)) rfl hH ?_
  simp only [Act.put, List.setIfInBounds_toArray, List.set_cons_zero, List.set_cons_succ, Nat.zero_add, decide_true, beq_self_eq_true]
  refine takeH_move (o := ⟨some 9, _, _, _, _, _⟩) (i := 3) rfl (by kernel_rfl) (by kernel_rfl) (by kernel_rfl) (fun _ _ _ _ h => h) rfl (.tmp 1) rfl (.int .u32 (a : Int)) rfl hH ?_
  simp only [Act.put, List.setIfInBounds_toArray, List.set_cons_zero, List.set_cons_succ, Nat.zero_add, decide_true, beq_self_eq_true]
  refine takeH_S (o := ⟨some 10, _, _, _, _, _⟩) (i := 4) rfl (by kernel_rfl) (by kernel_rfl) (by kernel_rfl) (fun _ _ _ _ h => h) rfl (.int .u64 (a : Int)) (fun w _ => by go_simp) hH ?_
  simp only [Act.put, List.setIfInBounds_toArray, List.set_cons_zero, List.set_cons_succ, Nat.zero_add, decide_true, beq_self_eq_true]
  refine wpAnyH_ready (rs := [2]) (by kernel_rfl) (by simp) ?_
  refine AllReadyH.cons rfl (fun K1 hK1 => ?_) AllReadyH.nil
  rw [if_pos (by rfl)]
  go_wp2_with fail
  refine (h8.out _).mono ?_
  rintro e wa ⟨v, rfl, g8, rfl, b8, gg8, hBa⟩
  have hH1 : Below w2.heap.size w2 wa := below_call ((Below.refl w2.heap.size w2).drew) ((Below.refl w2.heap.size w2).drew).size hBa
  refine hK1.out _ _ (hB.trans (hH1.mono gw.out)) (fun hH => ?_)
  clear hK1 K1 hBa
  refine wpAnyH_ready (rs := [5]) (by kernel_rfl) (by simp) ?_
  refine AllReadyH.cons rfl (fun K1 hK1 => ?_) AllReadyH.nil
  rw [if_pos (by rfl)]
  go_wp2_with fail
  refine (h4.out _).mono ?_
  rintro e wb ⟨v, rfl, g9, rfl, b9, gg9, hBb⟩
  replace b8 := b8.keep hBb
  have hH2 : Below w2.heap.size w2 wb := below_call hH1 hH1.size hBb
  refine hK1.out _ _ (hB.trans (hH2.mono gw.out)) (fun hH => ?_)
  clear hK1 K1 hBb
  have o8 := Blk.own (B := w2.heap.size) b8 (by exact gg8) (by rw [hl8.out]; unfold maxLen; omega)
  have s9 : Sl wb (.slice (some ⟨g9, 0, none⟩) P4.length P4.length) (bv P4) := by
    have := Sl.of_blk (n := P4.length) (c := P4.length) b9 (Nat.le_refl _) (by simp) (by rw [hl4.out]; unfold maxLen; omega)
    rwa [List.take_of_length_le (by simp)] at this
  refine wpAnyH_ready (rs := [6]) (by kernel_rfl) (by simp) ?_
  refine AllReadyH.cons rfl (fun K1 hK1 => ?_) AllReadyH.nil
  rw [if_pos (by rfl)]
  refine wp_append_sl2 (.tmp 8) (.tmp 11) 32 rfl w2.heap.size 5 i0 (.int .u8 0) 1 Try.underlying32 hi hz0 hz1 hz2 rfl _ _ _ rfl o8 _ (bv P4) rfl s9 (bv_oneCell P4) ?_ ?_ hH2.size ?_
  · rw [hl8.out, bv_length, hl4.out]; unfold maxLen; omega
  · rw [hl8.out, bv_length, hl4.out]; omega
  intro v' wc own gr mv
  have hH3 : Below w2.heap.size w2 wc := own_below hH2 gr o8 hH2.size
  rw [show bv P8 ++ bv P4 = bv O from by rw [← hcat.out]; simp [bv]] at own
  have sl := Sl.of_own own
  refine hK1.out _ _ (hB.trans (hH3.mono gw.out)) (fun hH => ?_)
  clear hK1 K1 gr mv own s9 o8 b8 b9
  simp only [Act.put, List.getElem_toArray, List.getElem_cons_succ, List.getElem_cons_zero, List.setIfInBounds_toArray, List.set_cons_zero, List.set_cons_succ, Nat.zero_add]
  refine wpAnyH_ready (rs := [7]) (by kernel_rfl) (by simp) ?_
  refine AllReadyH.cons rfl (fun K1 hK1 => ?_) AllReadyH.nil
  rw [if_pos (by rfl)]
  have n5' := n5.keep hH3
  refine wp_copySl (.tmp 6) (.tmp 12) 32 32 rfl 5 Try.underlying32 (by kernel_rfl) g5 0 12 12 rfl v' (bv O) rfl sl 29 _ n5' ?_ (ones_bv _) ?_
  · rw [hnl.out]; simp
  intro wd nd hKd
  have hBd : Below w.heap.size w wd := (hB.trans (hH3.mono gw.out)).trans (hKd.below (hB.trans (hH3.mono gw.out)).size (by intro b hb; simp only [List.mem_singleton] at hb; subst hb; have := ga.out; have := hg4.out; omega))
  have n4' := (n4.keep hH3).keeps hKd (by simp; have := ga.out; omega)
  rw [show (bv O).take 12 = bv O from List.take_of_length_le (by rw [hnl.out]; exact Nat.le_refl _), putL_all (by rw [hnl.out]; simp)] at nd
  refine hK1.out _ _ hBd (fun hH => ?_)
  clear hK1 K1 hKd n5 n5' n4 sl
  refine wpAnyH_done (by kernel_rfl) ?_ _
  go_wp2_with (first
    | refine wpList_loadW rfl 29 (.tmp 5) rfl 12 arrN12 _ rfl 29 _ nd hnl.out ?_
    | refine wpList_storeW rfl 29 (.tmp 4) (.tmp 14) rfl 12 arrN12 _ rfl (bv O) rfl 29 _ n4' hnl.out (by simp) (ones_bv _) ?_)
  intro wf hf hKf
  go_wp2
  exact bodyPost_ret (v := .agg (bv O).toArray) (res_cell Try.results14 _ _ _ 29 _ arrN12 hnl.out rfl hf) rfl (hR.out _ (hBd.trans (hKf.below hBd.size (by intro b hb; simp only [List.mem_singleton] at hb; subst hb; exact Nat.le_of_eq hg4.out))))
end Go.Proofs.Ytokphnfhajljmaa
