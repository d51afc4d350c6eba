/- Several texts in one (written by mergetop.py): CtrE Rf5M Rf5S Rf5C CrypW StrW. -/
import Derived.Test.YtokphnfhajljmaaCtrC
import Derived.Test.YtokphnfhajljmaaQ05P1
import Derived.Test.YtokphnfhajljmaaNonP
import Derived.Test.YtokphnfhajljmaaCpS
import Derived.Test.YtokphnfhajljmaaRgx
import Derived.Deep.Cut
import Derived.Test.YtokphnfhajljmaaRefL
import Derived.Test.YtokphnfhajljmaaCtrL
import Derived.Test.YtokphnfhajljmaaCtrS
import Derived.Test.YtokphnfhajljmaaOpenA
import Derived.Test.YtokphnfhajljmaaOpenB
import Derived.Test.YtokphnfhajljmaaMadeA
import Derived.Test.YtokphnfhajljmaaRefN0
import Derived.Test.YtokphnfhajljmaaRegB
set_option linter.unusedVariables false
set_option linter.unusedSimpArgs false

/- Contracts of package ctr: where it is refused. -/
namespace Go.Proofs.Ytokphnfhajljmaa
open Go.RowKit
open Go.Proofs.PlainAes

/-- Nothing, and that the arguments may not be. -/
def RetE (w : World) (e : Ending) (w' : World) : Prop := e = .returned (.tuple #[.slice none 0 0, .int .i64 2]) ∧ Below w.heap.size w w'
set_option maxRecDepth 100000 in
set_option maxHeartbeats 1000000 in
theorem stream_err (k n : List Nat) (p m : Int) (w : World) (hp0 : -9223372036854775808 ≤ p) (hp1 : p ≤ 9223372036854775807) (hm0 : -9223372036854775808 ≤ m) (hm1 : m ≤ 9223372036854775807) (hbad : p < 0 ∨ 65536 < p ∨ m < 0 ∨ 65536 < m) :
    Calls Try.prog 11 #[.agg (bv k).toArray, .agg (bv n).toArray, .int .i64 p, .int .i64 m] w (RetE w) := by
  have hB := Lib.hid (show Below w.heap.size w ((w.alloc (.cells (bv k).toArray 28)).alloc (.cells (bv n).toArray 30)) from ((Below.refl _ _).alloc (Nat.le_refl _) _).alloc (by simp) _)
  have hR : Hid (∀ w', Below w.heap.size w w' → RetE w (.returned (.tuple #[.slice none 0 0, .int .i64 2])) w') := fun w' h => ⟨rfl, h⟩
  generalize RetE w = RX at *
  replace hbad := Lib.hid hbad
  by_cases h1 : p < 0
  · go_enter Try.func11, Try.ntmps11
    go_wp2
    go_wp2_with fail
    exact hR.out _ hB.out
  · by_cases h2 : 65536 < p
    · go_enter Try.func11, Try.ntmps11
      go_wp2
      go_wp2_with fail
      exact hR.out _ hB.out
    · by_cases h3 : m < 0
      · go_enter Try.func11, Try.ntmps11
        go_wp2
        go_wp2_with fail
        exact hR.out _ hB.out
      · have h4 : 65536 < m := by have := hbad.out; omega
        go_enter Try.func11, Try.ntmps11
        go_wp2
        go_wp2_with fail
        exact hR.out _ hB.out

set_option maxRecDepth 100000 in
set_option maxHeartbeats 1000000 in
theorem crypt_err (k n : List Nat) (A : Option Addr) (len cap : Nat) (w : World) (hk : k.length = 32) (hn : n.length = 12) (hl : 65536 < (len : Int)) (hl2 : (len : Int) ≤ 9223372036854775807) :
    Calls Try.prog 16 #[.agg (bv k).toArray, .agg (bv n).toArray, .slice A len cap] w (RetE w) := by
  have hst := Lib.hid (fun w => stream_err k n 0 len w (by omega) (by omega) (by omega) hl2 (.inr (.inr (.inr hl))))
  have hkl := Lib.hid (show (bv k).length = 32 by simp [hk])
  have hnl := Lib.hid (show (bv n).length = 12 by simp [hn])
  have k0 := (Blk.new_at (w := w) (t := 28) (cs := (bv k).toArray) rfl rfl).alloc (.cells (bv n).toArray 30)
  have n0 := Blk.new_at (w := w.alloc (.cells (bv k).toArray 28)) (n := w.heap.size + 1) (t := 30) (cs := (bv n).toArray) (by simp) rfl
  have hB0 := Lib.hid (show Below w.heap.size w ((w.alloc (.cells (bv k).toArray 28)).alloc (.cells (bv n).toArray 30)) from ((Below.refl _ _).alloc (Nat.le_refl _) _).alloc (by simp) _)
  have hR : Hid (∀ w', Below w.heap.size w w' → RetE w (.returned (.tuple #[.slice none 0 0, .int .i64 2])) w') := fun w' h => ⟨rfl, h⟩
  simp only [List.size_toArray] at k0 n0
  clear hk hn hl
  generalize RetE w = RX at *
  go_enter Try.func16, Try.ntmps16
  go_wp2_with (first
    | refine wpList_loadW rfl 28 (.tmp 3) rfl 32 arrK _ rfl 28 _ k0 hkl.out ?_
    | refine wpList_loadW rfl 30 (.tmp 4) rfl 12 arrN _ rfl 30 _ n0 hnl.out ?_
    | (go_at_call 11; refine (hst.out _).mono ?_; rintro e w2 ⟨rfl, hB2⟩))
  go_wp2_with fail
  exact hR.out _ (below_call hB0.out hB0.out.size hB2)
end Go.Proofs.Ytokphnfhajljmaa

/- Contract of banyanref05: Made. -/
namespace Go.Proofs.PlainSeal
open Go.Proofs.PlainAes
open Go.Proofs.PlainSha
theorem nonceL_put (b a : Nat) : putB b 8 ++ putB a 4 = nonceL b a := by
  show [b / 72057594037927936 % 256, b / 281474976710656 % 256, b / 1099511627776 % 256, b / 4294967296 % 256, b / 16777216 % 256, b / 65536 % 256, b / 256 % 256, b / 1 % 256,
      a / 16777216 % 256, a / 65536 % 256, a / 256 % 256, a / 1 % 256] =
    [b / 4294967296 / 16777216 % 256, b / 4294967296 / 65536 % 256, b / 4294967296 / 256 % 256, b / 4294967296 % 256,
      b % 4294967296 / 16777216 % 256, b % 4294967296 / 65536 % 256, b % 4294967296 / 256 % 256, b % 4294967296 % 256,
      a / 16777216 % 256, a / 65536 % 256, a / 256 % 256, a % 256]
  simp only [List.cons.injEq, and_true]
  repeat' apply And.intro
  all_goals first | trivial | omega
end Go.Proofs.PlainSeal
namespace Go.Proofs.Ytokphnfhajljmaa
open Go.RowKit
open Go.Proofs.PlainAes
open Go.Proofs.PlainSha
open Go.Proofs.PlainSeal

theorem wp_append_sl2 {P : Program} {w : World} {o : Oper} {a : Act} {K : Act → World → Prop} {Q : Exit → Act → World → Prop} (s x : Operand) (t : TypeId)
    (ho : o.op = .call { callee := .builtin .append, args := #[s, x], argTypes := #[t, t] })
    (base : Nat) (e : TypeId) (i : TypeInfo) (z : Value) (bytes : Nat) (ht : P.underlying t = some (.slice e)) (hi : P.info? e = some i) (hz : i.zero = some z)
    (hsize : i.size = 1) (hby : i.bytes = bytes) (hzs : z.cells.size = 1)
    (v : Value) (n : Nat) (xs : List Value) (hs : a.eval s = v) (hown : w.ownsRow base e 1 v n xs) (u : Value) (ys : List Value) (hx : a.eval x = u) (hu : Sl w u ys) (h1 : ∀ y ∈ ys, y.oneCell' = true)
    (h63 : n + ys.length ≤ maxLen) (hbytes : (n + ys.length) * bytes ≤ 140737488355328) (hbase : base ≤ w.heap.size)
    (h : ∀ v' w', w'.ownsRow base e 1 v' (n + ys.length) (xs ++ ys) → w.grownBy w' v.ownBlock → Moved w.heap.size v.ownBlock v'.ownBlock → K (a.put o.dst v') w') : Oper.wp P o a w K Q := by
  obtain ⟨v', w', hr, h2, h3, h4⟩ := run_append_sl2 (P := P) w base t o.type e i z bytes ht hi hz hsize hby hzs v n xs hown u ys hu h1 h63 hbytes hbase
  unfold Oper.wp
  simp [execOp, ho, resolve, invoke, builtin, hs, hx, hr, Result.andThen]
  exact h v' w' h2 h3 h4
theorem arrN12 : ArrTy Try.prog 29 12 := ⟨_, Try.underlying29, rfl, by kernel_rfl⟩
set_option maxRecDepth 100000 in
set_option maxHeartbeats 2000000 in
theorem rmade_any (b a : Nat) (w : World) (hb : (b : Int) ≤ 18446744073709551615) (ha : (a : Int) ≤ 4294967295) :
    Calls Try.prog 14 #[.int .u64 (b : Int), .int .u32 (a : Int)] w (RetA (nonceL b a) w) := by
  obtain ⟨i0, hi, hz0, hz1, hz2⟩ := info_parts (P := Try.prog) (e := 5) (z := .int .u8 0) (size := 1) (bytes := 1) (by kernel_rfl)
  have h8 := Lib.hid (fun w => rbytes_row b 8 w (by omega) (by omega) (by simp; omega))
  have h4 := Lib.hid (fun w => rbytes_row a 4 w (by omega) (by omega) (by simp; omega))
  have hcat := Lib.hid (nonceL_put b a)
  have hl8 := Lib.hid (putB_length b 8)
  have hl4 := Lib.hid (putB_length a 4)
  have hnl := Lib.hid (show (bv (nonceL b a)).length = 12 by rw [bv_length]; exact nonceL_length b a)
  have hR : Hid (∀ w', Below w.heap.size w w' → RetA (nonceL b a) w (.returned (.agg (bv (nonceL b a)).toArray)) w') := fun w' h => ⟨rfl, h⟩
  have hcv : IntKind.u64.wrap (a : Int) = (a : Int) := by rw [IntKind.wrap_u64]; omega
  clear hb
  generalize RetA (nonceL b a) w = RX at *
  generalize nonceL b a = O at *
  generalize putB b 8 = P8 at *
  generalize putB a 4 = P4 at *
  go_enter Try.func14, Try.ntmps14
  go_wp2_with (refine wpList_allocA rfl 29 rfl (bv (zeros 12)) (by kernel_rfl) ?_)
  intro w1 n4 hK1 hz1'
  have hB := (Below.refl w.heap.size w).trans (hK1.below (Nat.le_refl _) (by simp))
  clear hK1 hz1'
  have ga := Lib.hid n4.lt
  go_wp2_with (refine wpList_allocA rfl 29 rfl (bv (zeros 12)) (by kernel_rfl) ?_)
  intro w2 n5 hK2 hz2'
  replace n4 := n4.keeps hK2 (by simp)
  replace hB := hB.trans (hK2.below hB.size (by simp))
  clear hK2 hz2'
  generalize w1.heap.size = g5 at *
  generalize hg4 : w.heap.size = g4 at n4 ga
  replace hg4 := Lib.hid hg4
  have gw := Lib.hid hB.size
  go_upto_region 2 with fail
  refine wp_region_held_drew (S := fun w' => Below w.heap.size w w') (by kernel_rfl) hB.drew (fun hH => ?_)
  refine takeH_S (o := ⟨some 6, _, _, _, _, _⟩) (i := 0) rfl (by kernel_rfl) (by kernel_rfl) (by kernel_rfl) (fun _ _ _ _ h => h) rfl (.slice (some ⟨g5, 0, none⟩) 12 12) (fun w _ => by go_simp) hH ?_
  simp only [Act.put, List.setIfInBounds_toArray, List.set_cons_zero, List.set_cons_succ, Nat.zero_add, decide_true, beq_self_eq_true]
  refine takeH_move (o := ⟨some 7, _, _, _, _, _⟩) (i := 1) rfl (by kernel_rfl) (by kernel_rfl) (by kernel_rfl) (fun _ _ _ _ h => h) rfl (.tmp 0) rfl (.int .u64 (b : Int)) rfl hH ?_
  simp only [Act.put, List.setIfInBounds_toArray, List.set_cons_zero, List.set_cons_succ, Nat.zero_add, decide_true, beq_self_eq_true]
  refine takeH_move (o := ⟨some 9, _, _, _, _, _⟩) (i := 3) rfl (by kernel_rfl) (by kernel_rfl) (by kernel_rfl) (fun _ _ _ _ h => h) rfl (.tmp 1) rfl (.int .u32 (a : Int)) rfl hH ?_
  simp only [Act.put, List.setIfInBounds_toArray, List.set_cons_zero, List.set_cons_succ, Nat.zero_add, decide_true, beq_self_eq_true]
  refine takeH_S (o := ⟨some 10, _, _, _, _, _⟩) (i := 4) rfl (by kernel_rfl) (by kernel_rfl) (by kernel_rfl) (fun _ _ _ _ h => h) rfl (.int .u64 (a : Int)) (fun w _ => by go_simp) hH ?_
  simp only [Act.put, List.setIfInBounds_toArray, List.set_cons_zero, List.set_cons_succ, Nat.zero_add, decide_true, beq_self_eq_true]
  refine wpAnyH_ready (rs := [2]) (by kernel_rfl) (by simp) ?_
  refine AllReadyH.cons rfl (fun K1 hK1 => ?_) AllReadyH.nil
  rw [if_pos (by rfl)]
  go_wp2_with fail
  refine (h8.out _).mono ?_
  rintro e wa ⟨v, rfl, g8, rfl, b8, gg8, hBa⟩
  have hH1 : Below w2.heap.size w2 wa := below_call ((Below.refl w2.heap.size w2).drew) ((Below.refl w2.heap.size w2).drew).size hBa
  refine hK1.out _ _ (hB.trans (hH1.mono gw.out)) (fun hH => ?_)
  clear hK1 K1 hBa
  refine wpAnyH_ready (rs := [5]) (by kernel_rfl) (by simp) ?_
  refine AllReadyH.cons rfl (fun K1 hK1 => ?_) AllReadyH.nil
  rw [if_pos (by rfl)]
  go_wp2_with fail
  refine (h4.out _).mono ?_
  rintro e wb ⟨v, rfl, g9, rfl, b9, gg9, hBb⟩
  replace b8 := b8.keep hBb
  have hH2 : Below w2.heap.size w2 wb := below_call hH1 hH1.size hBb
  refine hK1.out _ _ (hB.trans (hH2.mono gw.out)) (fun hH => ?_)
  clear hK1 K1 hBb
  have o8 := Blk.own (B := w2.heap.size) b8 (by exact gg8) (by rw [hl8.out]; unfold maxLen; omega)
  have s9 : Sl wb (.slice (some ⟨g9, 0, none⟩) P4.length P4.length) (bv P4) := by
    have := Sl.of_blk (n := P4.length) (c := P4.length) b9 (Nat.le_refl _) (by simp) (by rw [hl4.out]; unfold maxLen; omega)
    rwa [List.take_of_length_le (by simp)] at this
  refine wpAnyH_ready (rs := [6]) (by kernel_rfl) (by simp) ?_
  refine AllReadyH.cons rfl (fun K1 hK1 => ?_) AllReadyH.nil
  rw [if_pos (by rfl)]
  refine wp_append_sl2 (.tmp 8) (.tmp 11) 32 rfl w2.heap.size 5 i0 (.int .u8 0) 1 Try.underlying32 hi hz0 hz1 hz2 rfl _ _ _ rfl o8 _ (bv P4) rfl s9 (bv_oneCell P4) ?_ ?_ hH2.size ?_
  · rw [hl8.out, bv_length, hl4.out]; unfold maxLen; omega
  · rw [hl8.out, bv_length, hl4.out]; omega
  intro v' wc own gr mv
  have hH3 : Below w2.heap.size w2 wc := own_below hH2 gr o8 hH2.size
  rw [show bv P8 ++ bv P4 = bv O from by rw [← hcat.out]; simp [bv]] at own
  have sl := Sl.of_own own
  refine hK1.out _ _ (hB.trans (hH3.mono gw.out)) (fun hH => ?_)
  clear hK1 K1 gr mv own s9 o8 b8 b9
  simp only [Act.put, List.getElem_toArray, List.getElem_cons_succ, List.getElem_cons_zero, List.setIfInBounds_toArray, List.set_cons_zero, List.set_cons_succ, Nat.zero_add]
  refine wpAnyH_ready (rs := [7]) (by kernel_rfl) (by simp) ?_
  refine AllReadyH.cons rfl (fun K1 hK1 => ?_) AllReadyH.nil
  rw [if_pos (by rfl)]
  have n5' := n5.keep hH3
  refine wp_copySl (.tmp 6) (.tmp 12) 32 32 rfl 5 Try.underlying32 (by kernel_rfl) g5 0 12 12 rfl v' (bv O) rfl sl 29 _ n5' ?_ (ones_bv _) ?_
  · rw [hnl.out]; simp
  intro wd nd hKd
  have hBd : Below w.heap.size w wd := (hB.trans (hH3.mono gw.out)).trans (hKd.below (hB.trans (hH3.mono gw.out)).size (by intro b hb; simp only [List.mem_singleton] at hb; subst hb; have := ga.out; have := hg4.out; omega))
  have n4' := (n4.keep hH3).keeps hKd (by simp; have := ga.out; omega)
  rw [show (bv O).take 12 = bv O from List.take_of_length_le (by rw [hnl.out]; exact Nat.le_refl _), putL_all (by rw [hnl.out]; simp)] at nd
  refine hK1.out _ _ hBd (fun hH => ?_)
  clear hK1 K1 hKd n5 n5' n4 sl
  refine wpAnyH_done (by kernel_rfl) ?_ _
  go_wp2_with (first
    | refine wpList_loadW rfl 29 (.tmp 5) rfl 12 arrN12 _ rfl 29 _ nd hnl.out ?_
    | refine wpList_storeW rfl 29 (.tmp 4) (.tmp 14) rfl 12 arrN12 _ rfl (bv O) rfl 29 _ n4' hnl.out (by simp) (ones_bv _) ?_)
  intro wf hf hKf
  go_wp2
  exact bodyPost_ret (v := .agg (bv O).toArray) (res_cell Try.results14 _ _ _ 29 _ arrN12 hnl.out rfl hf) rfl (hR.out _ (hBd.trans (hKf.below hBd.size (by intro b hb; simp only [List.mem_singleton] at hb; subst hb; exact Nat.le_of_eq hg4.out))))
end Go.Proofs.Ytokphnfhajljmaa

/- Contract of banyanref05: Stream. -/
namespace Go.Proofs.Ytokphnfhajljmaa
open Go.RowKit
open Go.Proofs.PlainAes
open Go.Proofs.PlainSha

theorem be4_put (x : Nat) : putB x 4 = be4 x := by
  show [x / 16777216 % 256, x / 65536 % 256, x / 256 % 256, x / 1 % 256] = [x / 16777216 % 256, x / 65536 % 256, x / 256 % 256, x % 256]
  rw [Nat.div_one]
/-- Something that reads as these bytes, and no error. -/
def RetSl (l : List Nat) (w : World) (e : Ending) (w' : World) : Prop := ∃ v, e = .returned (.tuple #[v, .int .i64 0]) ∧ Sl w' v (bv l) ∧ Below w.heap.size w w'

set_option maxRecDepth 100000 in
set_option maxHeartbeats 1000000 in
theorem rstream_err (t k n : List Nat) (p m : Int) (w : World) (hp0 : -9223372036854775808 ≤ p) (hp1 : p ≤ 9223372036854775807) (hm0 : -9223372036854775808 ≤ m) (hm1 : m ≤ 9223372036854775807) (hbad : p < 0 ∨ 65536 < p ∨ m < 0 ∨ 65536 < m) :
    Calls Try.prog 12 #[.agg (bv t).toArray, .agg (bv k).toArray, .agg (bv n).toArray, .int .i64 p, .int .i64 m] w (RetE w) := by
  have hB := Lib.hid (show Below w.heap.size w (((w.alloc (.cells (bv t).toArray 37)).alloc (.cells (bv k).toArray 22)).alloc (.cells (bv n).toArray 29)) from (((Below.refl _ _).alloc (Nat.le_refl _) _).alloc (by simp) _).alloc (by simp; omega) _)
  have hR : Hid (∀ w', Below w.heap.size w w' → RetE w (.returned (.tuple #[.slice none 0 0, .int .i64 2])) w') := fun w' h => ⟨rfl, h⟩
  generalize RetE w = RX at *
  replace hbad := Lib.hid hbad
  by_cases h1 : p < 0
  · go_enter Try.func12, Try.ntmps12
    go_wp2
    exact hR.out _ hB.out
  · by_cases h2 : 65536 < p
    · go_enter Try.func12, Try.ntmps12
      go_wp2
      exact hR.out _ hB.out
    · by_cases h3 : m < 0
      · go_enter Try.func12, Try.ntmps12
        go_wp2
        exact hR.out _ hB.out
      · have h4 : 65536 < m := by have := hbad.out; omega
        go_enter Try.func12, Try.ntmps12
        go_wp2
        exact hR.out _ hB.out

/-- What lies there while a stream is made. -/
structure Sq (w : World) (k n : List Nat) (wr : World) : Prop where
  t : Blk wr w.heap.size 37 (bv (tbl box))
  k : Blk wr (w.heap.size + 1) 22 (bv k)
  n : Blk wr (w.heap.size + 1 + 1) 29 (bv n)
  below : Below w.heap.size w wr
theorem Sq.below' {w wr wr' : World} {k n : List Nat} {B : Nat} (h : Sq w k n wr) (hB : Below B wr wr') (h3 : w.heap.size + 1 + 1 < B) : Sq w k n wr' :=
  ⟨h.t.below hB (by omega), h.k.below hB (by omega), h.n.below hB h3, h.below.trans (hB.mono (by omega))⟩
set_option maxRecDepth 100000 in
set_option maxHeartbeats 4000000 in
theorem rstream_any (k n : List Nat) (p m : Nat) (w : World) (hk : k.length = 32) (bk : Byt k) (hn : n.length = 12) (bn : Byt n) (hp : (p : Int) ≤ 65536) (hm : (m : Int) ≤ 65536) :
    Calls Try.prog 12 #[.agg (bv (tbl box)).toArray, .agg (bv k).toArray, .agg (bv n).toArray, .int .i64 (p : Int), .int .i64 (m : Int)] w (RetSl (strm k n p m) w) := by
  obtain ⟨i0, hi, hz0, hz1, hz2⟩ := info_parts (P := Try.prog) (e := 5) (z := .int .u8 0) (size := 1) (bytes := 1) (by kernel_rfl)
  have hsb : Hid (∀ (i : Nat) (w : World), Calls Try.prog 25 #[.agg (bv (tbl box)).toArray, .agg (bv k).toArray, .agg (bv (nblk n i)).toArray] w (RetA (sblk k n i) w)) :=
    fun i w => rseal_any k (nblk n i) w hk bk (nblk_length hn i) (nblk_byt bn i)
  have hby := Lib.hid (fun (i : Nat) (hi : (i : Int) ≤ 65536) w => rbytes_row i 4 w (by omega) (by omega) (by omega))
  have hstep := Lib.hid (fun q j => strm_block hk hn q j)
  have hpart := Lib.hid (fun j h => strm_part k n p m j h)
  have hkl := Lib.hid (show (bv k).length = 32 by simp [hk])
  have hnl := Lib.hid (show (bv n).length = 12 by simp [hn])
  have hsl := Lib.hid (fun i => show (bv (sblk k n i)).length = 16 by simp [sblk_length hk hn])
  have hbl := Lib.hid (fun i => show (bv (nblk n i)).length = 16 by simp [nblk_length hn])
  have hlo : Hid (putL (bv (zeros 16)) 0 (bv n) = bv (n ++ zeros 4)) := put_lo n hn
  have hhi : Hid (∀ i, putL (bv (n ++ zeros 4)) 12 (bv (be4 i)) = bv (nblk n i)) := fun i => by
    show _ = _
    rw [putL_bv]
    congr 1
    exact put_hi n hn i
  have hlen4 : Hid ((bv (n ++ zeros 4)).length = 16) := by show _ = _; simp [hn]
  have h00 : Hid (m = 0 → strm k n p m = []) := fun h => by subst h; rfl
  have hLl : Hid (∀ a b, (strm k n a b).length = b) := fun a b => strm_length k n a b
  have q1 : Int.tmod (p : Int) 16 = ((p % 16 : Nat) : Int) := by rw [Int.tmod_eq_emod_of_nonneg (by omega)]; omega
  have q2 : Int.tdiv (p : Int) 16 = ((p / 16 : Nat) : Int) := by rw [Int.tdiv_eq_ediv_of_nonneg (by omega)]; omega
  have q3 : (p : Int) / 16 = ((p / 16 : Nat) : Int) := by omega
  have q4 : (p : Int) % 16 = ((p % 16 : Nat) : Int) := by omega
  have hsk : ((p % 16 : Nat) : Int) ≤ 15 := by omega
  have hq : ((p / 16 : Nat) : Int) ≤ 4096 := by omega
  have hpq := Lib.hid (show p = 16 * (p / 16) + p % 16 by omega)
  have hR : Hid (∀ v w', Sl w' v (bv (strm k n p m)) → Below w.heap.size w w' → RetSl (strm k n p m) w (.returned (.tuple #[v, .int .i64 0])) w') := fun v w' h1 h2 => ⟨v, rfl, h1, h2⟩
  generalize RetSl (strm k n p m) w = RX at *
  clear hk bk hn bn
  generalize hS : p % 16 = sk at *
  generalize hQ : p / 16 = q at *
  clear hS hQ
  have h0 : Sq w k n (((w.alloc (.cells (bv (tbl box)).toArray 37)).alloc (.cells (bv k).toArray 22)).alloc (.cells (bv n).toArray 29)) :=
    ⟨((Blk.new_at rfl rfl).alloc _).alloc _, (Blk.new_at (by simp) rfl).alloc _, Blk.new_at (by simp) rfl, (((Below.refl _ _).alloc (Nat.le_refl _) _).alloc (by simp) _).alloc (by simp; omega) _⟩
  replace h0 := Lib.hid h0
  have hz3 : Hid ((((w.alloc (.cells (bv (tbl box)).toArray 37)).alloc (.cells (bv k).toArray 22)).alloc (.cells (bv n).toArray 29)).heap.size = w.heap.size + 1 + 1 + 1) := by show _ = _; simp
  go_enter Try.func12, Try.ntmps12
  go_wp2
  try simp only [q2, q3]
  go_loopw [12, 13] (fun s i wr => ∃ j : Nat, i = .int .i64 ((q : Int) + (j : Int)) ∧ (16 * j : Int) ≤ (sk : Int) + m + 15 ∧
    wr.ownsRow (w.heap.size + 1 + 1 + 1) 5 1 s (16 * j) (bv (strm k n (16 * q) (16 * j))) ∧ w.heap.size + 1 + 1 + 1 ≤ wr.heap.size ∧ Sq w k n wr) (fun _ i _ => 100000 - (intOf i).toNat)
  case atStart => exact ⟨0, by simp, by omega, World.ownsRow_nil _ _ _ _, by rw [hz3.out]; exact Nat.le_refl _, h0.out⟩
  case round =>
    clear h0 hz3
    obtain ⟨j, rfl, hj, own, hsz, hE⟩ := hrel
    have hpI := hpq.out
    by_cases hlt : (16 * j : Int) < (sk : Int) + m
    · have e2 : (p : Int) + (m : Int) = 16 * (q : Int) + ((sk : Int) + (m : Int)) := by omega
      have hst := Lib.hid (hstep.out q j)
      have hsl := Lib.hid (hsl.out (q + j))
      have hbl := Lib.hid (hbl.out (q + j))
      have hsb := Lib.hid (fun w => hsb.out (q + j) w)
      have hby := Lib.hid (fun w => hby.out (q + j) (by omega) w)
      have hhi := Lib.hid (hhi.out (q + j))
      rw [be4_put] at hby
      have hb4 := Lib.hid (be4_length (q + j))
      have hLl1 := Lib.hid (hLl.out (16 * q) (16 * j))
      generalize strm k n (16 * q) (16 * j) = L at *
      generalize sblk k n (q + j) = S at *
      generalize nblk n (q + j) = NB at *
      generalize be4 (q + j) = B4 at *
      have e1 : ((q + j : Nat) : Int) = (q : Int) + (j : Int) := by omega
      rw [e1] at hby
      have own := Lib.hid own
      clear e1 hpI
      go_wp2_with (refine wpList_allocA rfl 54 rfl (bv (zeros 16)) (by kernel_rfl) ?_)
      intro w3 h3 hK3 hz3
      have hB3 : Below wr.heap.size wr w3 := hK3.below (Nat.le_refl _) (by simp)
      have hgb := Lib.hid (show w.heap.size + 1 + 1 < wr.heap.size from hE.n.lt)
      have hsz' := Lib.hid hsz
      generalize hgw : wr.heap.size = gb at *
      replace hgw := Lib.hid hgw
      have hle := Lib.hid (Nat.le_of_eq hgw.out.symm)
      have hn3 := (hE.below' hB3 hgb.out).n
      replace hE := Lib.hid hE
      clear hK3
      go_wp2
      go_still_tail 2, (by kernel_rfl)
      change wpList _ _ _ _ _ w3.drew
      go_wp2_with (refine wpList_copyA rfl (.tmp 39) (.tmp 40) 32 32 rfl 5 Try.underlying32 (by kernel_rfl) gb _ _ _ rfl ⟨w.heap.size + 1 + 1, _, none⟩ _ _ rfl 54 _ h3.drew (bv n) ?_ ?_ ?_ (ones_bv _) ?_)
      · rw [hnl.out]; rfl
      · intro j v hj
        rw [hn3.drew.cellAdd, Nat.zero_add]
        exact hj
      · rw [hnl.out]; simp
      intro w4 h4 hK4
      rw [hlo.out] at h4
      have hB4 : Below gb wr w4 := hB3.drew.trans (hK4.below (Nat.le_trans hle.out hB3.drew.size) (by simp))
      clear hK4 h3 hn3
      have hz4 : gb < w4.heap.size := h4.lt
      have hcv : IntKind.u64.wrap ((q : Int) + (j : Int)) = (q : Int) + (j : Int) := by rw [IntKind.wrap_u64]; omega
      go_upto_region 9 with fail
      refine wp_region_held_drew (S := fun w' => Below gb wr w') (by kernel_rfl) hB4.drew (fun hH => ?_)
      refine takeH_S (o := ⟨some 42, _, _, _, _, _⟩) (i := 0) rfl (by kernel_rfl) (by kernel_rfl) (by kernel_rfl) (fun _ _ _ _ h => h) rfl (.slice (some ⟨gb, 12, none⟩) 4 4) (fun w _ => by go_simp) hH ?_
      simp only [Act.put, List.setIfInBounds_toArray, List.set_cons_zero, List.set_cons_succ, Nat.zero_add, decide_true, beq_self_eq_true]
      refine takeH_move (o := ⟨some 43, _, _, _, _, _⟩) (i := 1) rfl (by kernel_rfl) (by kernel_rfl) (by kernel_rfl) (fun _ _ _ _ h => h) rfl (.tmp 13) rfl (.int .i64 ((q : Int) + (j : Int))) rfl hH ?_
      simp only [Act.put, List.setIfInBounds_toArray, List.set_cons_zero, List.set_cons_succ, Nat.zero_add, decide_true, beq_self_eq_true]
      refine takeH_S (o := ⟨some 44, _, _, _, _, _⟩) (i := 2) rfl (by kernel_rfl) (by kernel_rfl) (by kernel_rfl) (fun _ _ _ _ h => h) rfl (.int .u64 ((q : Int) + (j : Int))) (fun w _ => by go_simp) hH ?_
      simp only [Act.put, List.setIfInBounds_toArray, List.set_cons_zero, List.set_cons_succ, Nat.zero_add, decide_true, beq_self_eq_true]
      clear hcv
      refine wpAnyH_ready (rs := [3]) (by kernel_rfl) (by simp) ?_
      refine AllReadyH.cons rfl (fun K1 hK1 => ?_) AllReadyH.nil
      rw [if_pos (by rfl)]
      go_wp2_with fail
      refine (hby.out _).mono ?_
      rintro e wa ⟨v, rfl, g9, rfl, b9, gg9, hBa⟩
      have hBA : Below gb wr wa := below_call hH (Nat.le_trans hle.out hH.size) hBa
      replace h4 := h4.drew.keep hBa
      refine hK1.out _ _ hBA (fun hH => ?_)
      clear hK1 K1 hBa
      have s9 : Sl wa (.slice (some ⟨g9, 0, none⟩) B4.length B4.length) (bv B4) := by
        have := Sl.of_blk (n := B4.length) (c := B4.length) b9 (Nat.le_refl _) (by simp) (by rw [hb4.out]; unfold maxLen; omega)
        rwa [List.take_of_length_le (by simp)] at this
      refine wpAnyH_ready (rs := [4]) (by kernel_rfl) (by simp) ?_
      refine AllReadyH.cons rfl (fun K1 hK1 => ?_) AllReadyH.nil
      rw [if_pos (by rfl)]
      refine wp_copySl (.tmp 42) (.tmp 45) 32 32 rfl 5 Try.underlying32 (by kernel_rfl) gb 12 4 4 rfl _ (bv B4) rfl s9 54 _ h4 ?_ (ones_bv _) ?_
      · rw [hlen4.out, bv_length, hb4.out]; decide
      intro w5 h5 hK5
      rw [show (bv B4).take 4 = bv B4 from List.take_of_length_le (by rw [bv_length, hb4.out]; exact Nat.le_refl _), hhi.out] at h5
      have hB5 : Below gb wr w5 := hBA.trans (hK5.below (Nat.le_trans hle.out hBA.size) (by simp))
      refine hK1.out _ _ hB5 (fun hH => ?_)
      clear hK1 K1 hK5 h4 s9 b9 hBA hz4
      simp only [Act.put, List.getElem_toArray, List.getElem_cons_succ, List.getElem_cons_zero, List.setIfInBounds_toArray, List.set_cons_zero, List.set_cons_succ, Nat.zero_add]
      refine wpAnyH_done (by kernel_rfl) ?_ _
      have hE5 := hE.out.below' hB5 hgb.out
      have st := hE5.t
      have sk' := hE5.k
      clear hE5
      go_wp2_with (first
        | refine wpList_loadW rfl 37 (.tmp 5) rfl 256 arrT256 _ rfl 37 _ st (tbl_len _) ?_
        | refine wpList_loadW rfl 22 (.tmp 6) rfl 32 arrK32 _ rfl 22 _ sk' hkl.out ?_
        | refine wpList_loadW rfl 54 (.tmp 14) rfl 16 arrR16 _ rfl 54 _ h5 hbl.out ?_
        | (go_at_call 25; refine (hsb.out _).mono ?_; rintro e w6 ⟨rfl, hB6⟩)
        | refine wpList_storeW rfl 54 (.tmp 14) (.tmp 50) rfl 16 arrR16 gb rfl (bv S) rfl 54 _ (h5.keep hB6) hsl.out hbl.out (ones_bv _) ?_)
      intro w7 h7 hK7
      have hB7 : Below gb wr w7 := (below_call hB5 (Nat.le_trans hle.out hB5.size) hB6).trans (hK7.below (Nat.le_trans hle.out (below_call hB5 (Nat.le_trans hle.out hB5.size) hB6).size) (by simp))
      have own7 := own_keep own.out (by rw [hgw.out]; exact hB7)
      have sl7 : Sl w7 (.slice (some ⟨gb, 0, none⟩) 16 16) (bv S) := by
        have := Sl.of_blk (n := 16) (c := 16) h7 (Nat.le_refl _) (by rw [hsl.out]; exact Nat.le_refl _) (by unfold maxLen; omega)
        rwa [List.take_of_length_le (by rw [hsl.out]; exact Nat.le_refl _)] at this
      clear hK7 hB6 h5 st sk' hB5
      have hz7 : w.heap.size + 1 + 1 + 1 ≤ w7.heap.size := by have := hB7.size; have := hsz'.out; have := hgw.out; omega
      have hE7 := Lib.hid (hE.out.below' hB7 hgb.out)
      go_wp2_with (at_builtin; refine wpList_append_sl rfl (.tmp 51) (.tmp 52) 32 rfl (w.heap.size + 1 + 1 + 1) 5 i0 (.int .u8 0) 1 Try.underlying32 hi hz0 hz1 hz2 rfl _ _ _ rfl own7 _ (bv S) rfl sl7 (bv_oneCell S) ?_ ?_ hz7 ?_)
      · rw [hsl.out]; unfold maxLen; omega
      · rw [hsl.out]; omega
      intro v' w8 own8 gr8
      have hB8 := own_below (Below.refl (w.heap.size + 1 + 1 + 1) w7) gr8 own7 hz7
      rw [show S.length = 16 from by have := hsl.out; rwa [bv_length] at this, show bv L ++ bv S = bv (strm k n (16 * q) (16 * (j + 1))) from by rw [← hst.out]; simp [bv], show 16 * j + 16 = 16 * (j + 1) from by omega] at own8
      have hE8 := hE7.out.below' hB8 (by omega)
      have hz8 : w.heap.size + 1 + 1 + 1 ≤ w8.heap.size := Nat.le_trans hz7 hB8.size
      replace own8 := Lib.hid own8
      clear gr8 own7 sl7 hB8 hB7 h7
      go_wp2
      go_roundw
      case rel => exact ⟨j + 1, by go_num, by omega, own8.out, hz8, hE8⟩
      case measure => simp [intOf]; omega
    · have e2 : (p : Int) + (m : Int) = 16 * (q : Int) + ((sk : Int) + (m : Int)) := by omega
      have hpt := hpart.out j (by omega)
      by_cases hm0 : (m : Int) = 0
      · have hnil := h00.out (by omega)
        rw [hnil] at hR
        have hB := hE.below
        clear hE own hpt hpI hpq
        go_wp2
        exact hR.out _ _ (Sl.nil_ _) hB
      · obtain ⟨g, c, rfl, hc1, hc2⟩ := own_form own (by omega)
        have sl := own_part own sk m (by omega) hc2 hc1
        rw [show ((bv (strm k n (16 * q) (16 * j))).drop sk).take m = bv (strm k n p m) from by rw [← hpt]; simp [bv]] at sl
        generalize strm k n p m = T at *
        have sl := Lib.hid sl
        have hB := Lib.hid hE.below
        have hJ : (sk : Int) + m ≤ ((16 * j : Nat) : Int) := by omega
        have hJ2 : ((16 * j : Nat) : Int) ≤ (c : Int) := by omega
        clear hE hpt own hpI hc1 hc2 hpq
        go_wp2
        exact hR.out _ _ sl.out hB.out
end Go.Proofs.Ytokphnfhajljmaa

/- Contract of banyanref05: Crypt. -/
namespace Go.Proofs.Ytokphnfhajljmaa
open Go.RowKit
open Go.Proofs.PlainAes

set_option maxRecDepth 100000 in
set_option maxHeartbeats 1000000 in
theorem rcrypt_err (k n : List Nat) (A : Option Addr) (len cap : Nat) (w : World) (hk : k.length = 32) (hn : n.length = 12) (hl : 65536 < (len : Int)) (hl2 : (len : Int) ≤ 9223372036854775807) :
    Calls Try.prog 17 #[.agg (bv (tbl box)).toArray, .agg (bv k).toArray, .agg (bv n).toArray, .slice A len cap] w (RetE w) := by
  have hst := Lib.hid (fun w => rstream_err (tbl box) k n 0 len w (by omega) (by omega) (by omega) hl2 (.inr (.inr (.inr hl))))
  have hkl := Lib.hid (show (bv k).length = 32 by simp [hk])
  have hnl := Lib.hid (show (bv n).length = 12 by simp [hn])
  have t0 := ((Blk.new_at (w := w) (t := 37) (cs := (bv (tbl box)).toArray) rfl rfl).alloc (.cells (bv k).toArray 22)).alloc (.cells (bv n).toArray 29)
  have k0 := (Blk.new_at (w := w.alloc (.cells (bv (tbl box)).toArray 37)) (n := w.heap.size + 1) (t := 22) (cs := (bv k).toArray) (by simp) rfl).alloc (.cells (bv n).toArray 29)
  have n0 := Blk.new_at (w := (w.alloc (.cells (bv (tbl box)).toArray 37)).alloc (.cells (bv k).toArray 22)) (n := w.heap.size + 1 + 1) (t := 29) (cs := (bv n).toArray) (by simp) rfl
  have hB0 := Lib.hid (show Below w.heap.size w (((w.alloc (.cells (bv (tbl box)).toArray 37)).alloc (.cells (bv k).toArray 22)).alloc (.cells (bv n).toArray 29)) from (((Below.refl _ _).alloc (Nat.le_refl _) _).alloc (by simp) _).alloc (by simp; omega) _)
  have hR : Hid (∀ w', Below w.heap.size w w' → RetE w (.returned (.tuple #[.slice none 0 0, .int .i64 2])) w') := fun w' h => ⟨rfl, h⟩
  simp only [List.size_toArray] at k0 n0 t0
  clear hk hn hl
  generalize RetE w = RX at *
  go_enter Try.func17, Try.ntmps17
  go_wp2_with (first
    | refine wpList_loadW rfl 37 (.tmp 4) rfl 256 arrT256 _ rfl 37 _ t0 (tbl_len _) ?_
    | refine wpList_loadW rfl 22 (.tmp 5) rfl 32 arrK32 _ rfl 22 _ k0 hkl.out ?_
    | refine wpList_loadW rfl 29 (.tmp 6) rfl 12 arrN12 _ rfl 29 _ n0 hnl.out ?_
    | (go_at_call 12; refine (hst.out _).mono ?_; rintro e w2 ⟨rfl, hB2⟩))
  exact hR.out _ (below_call hB0.out hB0.out.size hB2)

set_option maxRecDepth 100000 in
set_option maxHeartbeats 2000000 in
theorem rcrypt_core (k n l : List Nat) (A : Option Addr) (len cap : Nat) (w : World) (hlen : len = l.length) (hk : k.length = 32) (bk : Byt k) (hn : n.length = 12) (bn : Byt n) (bl : Byt l) (hl : (l.length : Int) ≤ 65536) (hs : Sl w (.slice A len cap) (bv l)) :
    Calls Try.prog 17 #[.agg (bv (tbl box)).toArray, .agg (bv k).toArray, .agg (bv n).toArray, .slice A len cap] w (RetOK (crypt k n l) w) := by
  obtain ⟨i0, hi, hz0, hz1, hz2⟩ := info_parts (P := Try.prog) (e := 5) (z := .int .u8 0) (size := 1) (bytes := 1) (by kernel_rfl)
  have hst := Lib.hid (fun w => rstream_any k n 0 l.length w hk bk hn bn (by omega) hl)
  have hkl := Lib.hid (show (bv k).length = 32 by simp [hk])
  have hnl := Lib.hid (show (bv n).length = 12 by simp [hn])
  have Bs := Lib.hid (show Byt (strm k n 0 l.length) from strm_lt bk bn _ _)
  have Hs := Lib.hid (show (strm k n 0 l.length).length = l.length from strm_length _ _ _ _)
  have hC : crypt k n l = xorl (strm k n 0 l.length) l := rfl
  rw [hC]
  clear hk bk hn bn hC
  generalize strm k n 0 l.length = S at *
  have Hx := Lib.hid (show (xorl S l).length = l.length by rw [xorl_length Hs.out, Hs.out])
  have hcomm : Hid (∀ a b : Nat, a ^^^ b = b ^^^ a) := fun a b => Nat.xor_comm a b
  have Bl := Lib.hid bl
  have hR : Hid (∀ v w', w'.ownsRow w.heap.size 5 1 v len (bv (xorl S l)) → Below w.heap.size w w' → RetOK (xorl S l) w (.returned (.tuple #[v, .int .i64 0])) w') := fun v w' h1 h2 => ⟨v, rfl, by rw [Hx.out, ← hlen]; exact h1, h2⟩
  generalize RetOK (xorl S l) w = RX at *
  clear bl
  generalize hm : l.length = m at *
  subst hlen
  replace hm := Lib.hid hm
  replace hs := Lib.hid hs
  have t0 := ((Blk.new_at (w := w) (t := 37) (cs := (bv (tbl box)).toArray) rfl rfl).alloc (.cells (bv k).toArray 22)).alloc (.cells (bv n).toArray 29)
  have k0 := (Blk.new_at (w := w.alloc (.cells (bv (tbl box)).toArray 37)) (n := w.heap.size + 1) (t := 22) (cs := (bv k).toArray) (by simp) rfl).alloc (.cells (bv n).toArray 29)
  have n0 := Blk.new_at (w := (w.alloc (.cells (bv (tbl box)).toArray 37)).alloc (.cells (bv k).toArray 22)) (n := w.heap.size + 1 + 1) (t := 29) (cs := (bv n).toArray) (by simp) rfl
  have hB0 := Lib.hid (show Below w.heap.size w (((w.alloc (.cells (bv (tbl box)).toArray 37)).alloc (.cells (bv k).toArray 22)).alloc (.cells (bv n).toArray 29)) from (((Below.refl _ _).alloc (Nat.le_refl _) _).alloc (by simp) _).alloc (by simp; omega) _)
  simp only [List.size_toArray] at k0 n0 t0
  go_enter Try.func17, Try.ntmps17
  go_wp2_with (first
    | refine wpList_loadW rfl 37 (.tmp 4) rfl 256 arrT256 _ rfl 37 _ t0 (tbl_len _) ?_
    | refine wpList_loadW rfl 22 (.tmp 5) rfl 32 arrK32 _ rfl 22 _ k0 hkl.out ?_
    | refine wpList_loadW rfl 29 (.tmp 6) rfl 12 arrN12 _ rfl 29 _ n0 hnl.out ?_
    | (go_at_call 12; refine (hst.out _).mono ?_; rintro e w2 ⟨v, rfl, sl, hB2⟩; obtain ⟨A2, c2, hv, hv2, hv3, -⟩ := id sl; rw [show (bv S).length = len from by rw [bv_length, Hs.out]] at hv hv2; subst hv; replace sl := Lib.hid sl; replace hB2 := below_call hB0.out hB0.out.size hB2; have own0 : (w2.alloc (.cells #[] 5)).ownsRow w2.heap.size 5 1 (.slice (some ⟨w2.heap.size, 0, none⟩) 0 0) 0 [] := World.ownsRow_made w2 #[] 0 (Nat.le_refl _) (Nat.zero_le _) rfl; have bel0 : Below w2.heap.size w2 (w2.alloc (.cells #[] 5)) := (Below.refl _ _).alloc (Nat.le_refl _) _; have sl0 := hs.out.keep ((hB2.trans (bel0.mono hB2.size)).mono (Nat.le_refl _)))
    | (at_builtin; refine wpList_append_sl rfl (.tmp 26) (.tmp 27) 32 rfl w2.heap.size 5 i0 (.int .u8 0) 1 Try.underlying32 hi hz0 hz1 hz2 rfl _ 0 [] rfl own0 _ (bv l) rfl sl0 (bv_oneCell l) ?_ ?_ ?_ ?_))
  · rw [bv_length, hm.out]; unfold maxLen; omega
  · rw [bv_length, hm.out]; omega
  · simp
  intro v' w3 own1 gr1
  have bel1 := own_below bel0 gr1 own0 (by simp)
  clear gr1 own0 sl0 bel0 t0 k0 n0
  have own1 : w3.ownsRow w2.heap.size 5 1 v' len (bv l) := by have := own1; simp only [bv_length, hm.out, Nat.zero_add, List.nil_append] at this; exact this
  obtain ⟨A3, c3, hv4, hv5, -, -⟩ := Sl.of_own own1
  rw [show (bv l).length = len from by rw [bv_length, hm.out]] at hv4 hv5
  subst hv4
  have hw2 := Lib.hid hB2.size
  have hz3 := Lib.hid bel1.size
  replace hB2 := Lib.hid hB2
  replace own1 := Lib.hid own1
  replace bel1 := Lib.hid bel1
  clear hB0
  go_wp2
  go_loopw [31] (fun i wr => ∃ j : Nat, (j : Int) ≤ len ∧ i = .int .i64 (j : Int) ∧ wr.ownsRow w2.heap.size 5 1 (.slice A3 len c3) len (bv (upd (xorl S l) l j)) ∧ Below w2.heap.size w2 wr) (fun i _ => len - (intOf i).toNat)
  case atStart => exact ⟨0, by omega, rfl, by rw [upd_zero]; exact own1.out, bel1.out⟩
  case round =>
    obtain ⟨j, hj, rfl, own, hB⟩ := hrel
    by_cases hlt : (j : Int) < len
    · obtain ⟨g, c', e, -, -⟩ := own_form own (by omega)
      cases e
      have c1 := own.cellAt j (by omega)
      have f1 := own.frozenAt j
      obtain ⟨x, hx⟩ := get_lt (l := S) (k := j) (by have := Hs.out; omega)
      obtain ⟨y, hy⟩ := get_lt (l := l) (k := j) (by have := hm.out; omega)
      rw [bv_get, upd_get (by have := hm.out; have := Hx.out; omega) (Nat.le_refl _) (by have := hm.out; omega), hy] at c1
      simp only [Option.map_some] at c1
      obtain ⟨A', cc, e', -, -, hce⟩ := sl.out.keep hB
      obtain ⟨g2, o2, e2, hcell⟩ := hce (by rw [bv_length, Hs.out]; omega)
      have eA : A2 = some ⟨g2, o2, none⟩ := by rw [← e2]; injection e'
      subst eA
      clear e' e2
      have c2 := hcell j _ (bv_some hx)
      obtain ⟨hxy, hl2⟩ := x8 (Bl.out.get hy) (Bs.out.get hx)
      rw [hcomm.out y x] at hxy
      have hst := (own.stored j (.int .u8 ((x ^^^ y : Nat) : Int)))
      rw [bv_set, upd_set (by have := hm.out; have := Hx.out; omega) (by have := hm.out; omega) (xorl_get hx hy)] at hst
      have hst := Lib.hid hst
      have own := Lib.hid own
      clear hx hy hcell hce hl2
      go_wp2
      go_still_tail 10, (by kernel_rfl)
      change wpList _ _ _ _ _ wr.drew
      go_wp2
      go_roundw
      case rel =>
        refine ⟨j + 1, by omega, by go_num, hst.out.1, ?_⟩
        exact hB.drew.setCell (by simp; exact (own.out.lt g rfl).1) _
      case measure => simp [intOf]; omega
    · obtain rfl : j = len := by omega
      rw [upd_all Hx.out hm.out] at own
      replace own := Lib.hid (ownsRow_mono own hw2.out)
      have hBf := Lib.hid (hB2.out.trans (hB.mono hw2.out))
      go_wp2
      exact hR.out _ _ own.out hBf.out
end Go.Proofs.Ytokphnfhajljmaa

/- The law CtrCrypts: the walk. -/
namespace Go.Proofs.Ytokphnfhajljmaa
open Go.RowKit
open Go.Proofs.PlainAes

theorem RetOK.toB {l : List Nat} {w : World} {e : Ending} {w' : World} (h : RetOK l w e w') : RetB l 0 w e w' := by
  obtain ⟨v, h1, h2, h3⟩ := h
  exact ⟨v, h1, Sl.of_own h2, h3⟩
theorem RetE.toB {w : World} {e : Ending} {w' : World} (h : RetE w e w') : RetB [] 2 w e w' := ⟨_, h.1, Sl.nil_ _, h.2⟩
/-- Of any bytes both answer the same. -/
theorem crypts_both (k n l : List Nat) (A : Option Addr) (len cap : Nat) (hlen : len = l.length) (hk : k.length = 32) (bk : Byt k) (hn : n.length = 12) (bn : Byt n) (bl : Byt l) (hl : (l.length : Int) ≤ 140737488351232) :
    ∃ (L : List Nat) (c : Int), Byt L ∧ (∀ w, Sl w (.slice A len cap) (bv l) → Calls Try.prog 16 #[.agg (bv k).toArray, .agg (bv n).toArray, .slice A len cap] w (RetB L c w)) ∧
      (∀ w, Sl w (.slice A len cap) (bv l) → Calls Try.prog 17 #[.agg (bv (tbl box)).toArray, .agg (bv k).toArray, .agg (bv n).toArray, .slice A len cap] w (RetB L c w)) := by
  by_cases h : (l.length : Int) ≤ 65536
  · exact ⟨crypt k n l, 0, crypt_lt bk bn bl, fun w hs => (crypt_core k n l A len cap w hlen hk bk hn bn bl h hs).mono (fun e w' h => h.toB), fun w hs => (rcrypt_core k n l A len cap w hlen hk bk hn bn bl h hs).mono (fun e w' h => h.toB)⟩
  · exact ⟨[], 2, (by intro x hx; cases hx), fun w hs => (crypt_err k n A len cap w hk hn (by omega) (by omega)).mono (fun e w' h => h.toB), fun w hs => (rcrypt_err k n A len cap w hk hn (by omega) (by omega)).mono (fun e w' h => h.toB)⟩
namespace w_CtrCrypts
set_option maxRecDepth 100000 in
set_option maxHeartbeats 2000000 in
theorem core (k : List Nat) (hk : k.length = 32) (bk : Byt k) (n : List Nat) (hn : n.length = 12) (bn : Byt n) (A : Option Addr) (len cap : Nat) (l : List Nat) (hlen : len = l.length) (bl : Byt l) (ml : (l.length : Int) ≤ 140737488351232) (W : World) (hs : Sl W (.slice A len cap) (bv l)) :
    Calls Try.prog 4 #[.agg (bv k).toArray, .agg (bv n).toArray, .slice A len cap] W fun e w' => e = .returned (.bool true) ∧ Below W.heap.size W w' := by
  obtain ⟨L, cd, bL, hx0, hy0⟩ := crypts_both k n l A len cap hlen hk bk hn bn bl ml
  have hx := Lib.hid hx0
  have hy := Lib.hid hy0
  have htb : Hid (∀ w, Calls Try.prog 13 #[] w (RetA (tbl box) w)) := fun w => rtable_any w
  have hsm := Lib.hid (fun va vb w ha hb => same_self va vb L w ha hb bL)
  have hal := Lib.hid (fun w => alive_any w)
  have hkl := Lib.hid (show (bv k).length = 32 by simp [hk])
  have hnl := Lib.hid (show (bv n).length = 12 by simp [hn])
  have hI : (len : Int) ≤ 140737488351232 := by omega
  clear hx0 hy0 bL hk bk hn bn bl ml hlen
  have k0 := (Blk.new_at (w := W) (t := 22) (cs := (bv k).toArray) rfl rfl).alloc (.cells (bv n).toArray 29)
  have n0 := Blk.new_at (w := W.alloc (.cells (bv k).toArray 22)) (n := W.heap.size + 1) (t := 29) (cs := (bv n).toArray) (by simp) rfl
  have hB0 : Below W.heap.size W ((W.alloc (.cells (bv k).toArray 22)).alloc (.cells (bv n).toArray 29)) := ((Below.refl _ _).alloc (Nat.le_refl _) _).alloc (by simp) _
  replace k0 := Lib.hid k0
  replace n0 := Lib.hid n0
  replace hB0 := Lib.hid hB0
  replace hs := Lib.hid hs
  by_cases hg : 100 < (len : Int) ∧ (len : Int) ≤ 65536
  · obtain ⟨hg1, hg2⟩ := hg
    go_enter Try.func4, Try.ntmps4
    go_wp2_with (first
      | (go_at_call 9; refine (hal.out _).mono ?_; rintro e w1 ⟨rfl, hB1⟩))
    go_ret
    exact ⟨rfl, below_call hB0.out hB0.out.size hB1⟩
  · have hg' : (len : Int) ≤ 100 ∨ 65536 < (len : Int) := by omega
    clear hg
    -- TAIL
    rcases hg' with hg' | hg'
    all_goals
      go_enter Try.func4, Try.ntmps4
      go_wp2_with (first
        | (go_at_call 9; refine (hal.out _).mono ?_; rintro e w1 ⟨rfl, hB1⟩; have k1 := k0.out.keep hB1; have n1 := n0.out.keep hB1; have hs1 := hs.out.keep (below_call hB0.out hB0.out.size hB1))
        | refine wpList_loadW rfl 22 (.tmp 3) rfl 32 arr32' _ rfl 22 _ k1 hkl.out ?_
        | refine wpList_loadW rfl 29 (.tmp 4) rfl 12 arr12' _ rfl 29 _ n1 hnl.out ?_
        | (go_at_call 16; refine (hx.out _ hs1).mono ?_; rintro e w2 ⟨v1, rfl, s1, hB2⟩; replace k1 := k1.keep hB2; replace n1 := n1.keep hB2; replace hs1 := hs1.keep hB2; replace hB2 := Lib.hid (below_call (below_call hB0.out hB0.out.size hB1) (below_call hB0.out hB0.out.size hB1).size hB2))
        | (go_not_at_region 6; go_in))
      replace k1 := Lib.hid k1
      replace n1 := Lib.hid n1
      replace hs1 := Lib.hid hs1
      replace s1 := Lib.hid s1
      refine wp_region_held_drew (S := fun w' => Below w2.heap.size w2 w') (by kernel_rfl) ((Below.refl _ _).drew) (fun hH => ?_)
      refine takeH_load (o := ⟨some 30, _, _, _, _, _⟩) (i := 1) rfl (by kernel_rfl) (by kernel_rfl) (by kernel_rfl) (fun _ _ _ _ h => h) rfl 22 (.tmp 3) rfl 32 arr32' _ _ rfl (bv k) hkl.out (fun w h => hSS (k1.out.keep h) hkl.out) hH ?_
      simp only [Act.put, List.setIfInBounds_toArray, List.set_cons_zero, List.set_cons_succ, Nat.zero_add, decide_true, beq_self_eq_true]
      refine takeH_load (o := ⟨some 31, _, _, _, _, _⟩) (i := 2) rfl (by kernel_rfl) (by kernel_rfl) (by kernel_rfl) (fun _ _ _ _ h => h) rfl 29 (.tmp 4) rfl 12 arr12' _ _ rfl (bv n) hnl.out (fun w h => hSS (n1.out.keep h) hnl.out) hH ?_
      simp only [Act.put, List.setIfInBounds_toArray, List.set_cons_zero, List.set_cons_succ, Nat.zero_add, decide_true, beq_self_eq_true]
      refine takeH_move (o := ⟨some 32, _, _, _, _, _⟩) (i := 3) rfl (by kernel_rfl) (by kernel_rfl) (by kernel_rfl) (fun _ _ _ _ h => h) rfl (.tmp 2) rfl (.slice A len cap) rfl hH ?_
      simp only [Act.put, List.setIfInBounds_toArray, List.set_cons_zero, List.set_cons_succ, Nat.zero_add, decide_true, beq_self_eq_true]
      refine wpAnyH_ready (rs := [0]) (by kernel_rfl) (by simp) ?_
      refine AllReadyH.cons rfl (fun K1 hK1 => ?_) AllReadyH.nil
      rw [if_pos (by rfl)]
      go_wp2_with fail
      refine (htb.out _).mono ?_
      rintro e w3 ⟨rfl, hBa⟩
      have hB3 : Below w2.heap.size w2 w3 := below_call hH hH.size hBa
      refine hK1.out _ _ hB3 (fun hH => ?_)
      clear hK1 K1 hBa
      refine wpAnyH_ready (rs := [4]) (by kernel_rfl) (by simp) ?_
      refine AllReadyH.cons rfl (fun K1 hK1 => ?_) AllReadyH.nil
      rw [if_pos (by rfl)]
      go_wp2_with fail
      refine (hy.out _ (hs1.out.keep hB3)).mono ?_
      rintro e w4 ⟨v2, rfl, s2, hBa⟩
      have hB4 : Below w2.heap.size w2 w4 := below_call hB3 hB3.size hBa
      replace s2 := Lib.hid s2
      refine hK1.out _ _ hB4 (fun hH => ?_)
      clear hK1 K1 hBa
      refine takeH_move (o := ⟨some 28, _, _, _, _, _⟩) (i := 5) rfl (by kernel_rfl) (by kernel_rfl) (by kernel_rfl) (fun _ _ _ _ h => h) rfl (.tmp 33) rfl (.tuple #[v2, .int .i64 cd]) rfl hH ?_
      simp only [Act.put, List.setIfInBounds_toArray, List.set_cons_zero, List.set_cons_succ, Nat.zero_add, decide_true, beq_self_eq_true]
      refine takeH_S (o := ⟨some 34, _, _, _, _, _⟩) (i := 6) rfl (by kernel_rfl) (by kernel_rfl) (by kernel_rfl) (fun _ _ _ _ h => h) rfl v2 (fun w _ => by go_simp) hH ?_
      simp only [Act.put, List.setIfInBounds_toArray, List.set_cons_zero, List.set_cons_succ, Nat.zero_add, decide_true, beq_self_eq_true]
      refine takeH_S (o := ⟨some 35, _, _, _, _, _⟩) (i := 7) rfl (by kernel_rfl) (by kernel_rfl) (by kernel_rfl) (fun _ _ _ _ h => h) rfl (.int .i64 cd) (fun w _ => by go_simp) hH ?_
      simp only [Act.put, List.setIfInBounds_toArray, List.set_cons_zero, List.set_cons_succ, Nat.zero_add, decide_true, beq_self_eq_true]
      refine takeH_assign (o := ⟨some 9, _, _, _, _, _⟩) (i := 8) rfl (by kernel_rfl) (by kernel_rfl) (by kernel_rfl) (fun _ _ _ _ h => h) rfl (.tmp 34) rfl v2 rfl hH ?_
      simp only [Act.put, List.setIfInBounds_toArray, List.set_cons_zero, List.set_cons_succ, Nat.zero_add, decide_true, beq_self_eq_true]
      refine takeH_assign (o := ⟨some 10, _, _, _, _, _⟩) (i := 9) rfl (by kernel_rfl) (by kernel_rfl) (by kernel_rfl) (fun _ _ _ _ h => h) rfl (.tmp 35) rfl (.int .i64 cd) rfl hH ?_
      simp only [Act.put, List.setIfInBounds_toArray, List.set_cons_zero, List.set_cons_succ, Nat.zero_add, decide_true, beq_self_eq_true]
      refine wpAnyH_done (by kernel_rfl) ?_ _
      have hss := Lib.hid (hsm.out v1 v2 w4 (s1.out.keep hB4) s2.out)
      have hBf := Lib.hid (below_call hB2.out hB2.out.size hB4)
      go_wp2_with (first
        | (go_at_call 15; refine hss.out.mono ?_; rintro e w5 ⟨rfl, rfl⟩))
      go_ret
      exact ⟨rfl, hBf.out⟩
theorem walk (k : List Nat) (hk : k.length = 32) (bk : Byt k) (n : List Nat) (hn : n.length = 12) (bn : Byt n) (v : Value) (l : List Nat) (b : Byt l) (m : l.length ≤ 140737488351232) (W : World) (s : Sl W v (bv l)) :
    Calls Try.prog 4 #[.agg (bv k).toArray, .agg (bv n).toArray, v] W fun e w' => e = .returned (.bool true) ∧ Below W.heap.size W w' := by
  obtain ⟨A, c, rfl, -⟩ := id s
  exact core k hk bk n hn bn A _ c l (bv_length l) b (by omega) W s
end w_CtrCrypts
end Go.Proofs.Ytokphnfhajljmaa

/- The law CtrStreams: the walk. -/
namespace Go.Proofs.Ytokphnfhajljmaa
open Go.RowKit
open Go.Proofs.PlainAes
open Go.Proofs.PlainSeal

theorem fldA0 (g : Nat) (w : World) : (Instr.fieldAt 26 (.pointer (some ⟨g, 0, none⟩)) 0).run Try.prog w = .ok (.pointer (some ⟨g, 0, none⟩)) w := by kernel_rfl
theorem fldA1 (g : Nat) (w : World) : (Instr.fieldAt 26 (.pointer (some ⟨g, 0, none⟩)) 1).run Try.prog w = .ok (.pointer (some ⟨g, 32, none⟩)) w := by kernel_rfl
theorem fldA2 (g : Nat) (w : World) : (Instr.fieldAt 26 (.pointer (some ⟨g, 0, none⟩)) 2).run Try.prog w = .ok (.pointer (some ⟨g, 33, none⟩)) w := by kernel_rfl
theorem fldA3 (g : Nat) (w : World) : (Instr.fieldAt 26 (.pointer (some ⟨g, 0, none⟩)) 3).run Try.prog w = .ok (.pointer (some ⟨g, 34, none⟩)) w := by kernel_rfl
theorem fldA4 (g : Nat) (w : World) : (Instr.fieldAt 26 (.pointer (some ⟨g, 0, none⟩)) 4).run Try.prog w = .ok (.pointer (some ⟨g, 35, none⟩)) w := by kernel_rfl
theorem arrB12 : ByteArr Try.prog 29 12 := ⟨⟨_, Try.underlying29, Try.underlying5, by kernel_rfl⟩, by kernel_rfl⟩
/-- Of any place and size both answer the same. -/
theorem streams_both (k n : List Nat) (p m : Int) (hk : k.length = 32) (bk : Byt k) (hn : n.length = 12) (bn : Byt n) (hp : -9223372036854775808 ≤ p ∧ p ≤ 9223372036854775807) (hm : -9223372036854775808 ≤ m ∧ m ≤ 9223372036854775807) :
    ∃ (L : List Nat) (c : Int), Byt L ∧ (∀ w, Calls Try.prog 11 #[.agg (bv k).toArray, .agg (bv n).toArray, .int .i64 p, .int .i64 m] w (RetB L c w)) ∧
      (∀ w, Calls Try.prog 12 #[.agg (bv (tbl box)).toArray, .agg (bv k).toArray, .agg (bv n).toArray, .int .i64 p, .int .i64 m] w (RetB L c w)) := by
  by_cases h : 0 ≤ p ∧ p ≤ 65536 ∧ 0 ≤ m ∧ m ≤ 65536
  · obtain ⟨h1, h2, h3, h4⟩ := h
    obtain ⟨p, rfl⟩ := Int.eq_ofNat_of_zero_le h1
    obtain ⟨m, rfl⟩ := Int.eq_ofNat_of_zero_le h3
    exact ⟨strm k n p m, 0, strm_lt bk bn _ _, fun w => (stream_any k n p m w hk bk hn bn h2 h4).mono (fun e w' h => h.toB), fun w => (rstream_any k n p m w hk bk hn bn h2 h4).mono (fun e w' h => h)⟩
  · have hbad : p < 0 ∨ 65536 < p ∨ m < 0 ∨ 65536 < m := by omega
    exact ⟨[], 2, (by intro x hx; cases hx), fun w => (stream_err k n p m w hp.1 hp.2 hm.1 hm.2 hbad).mono (fun e w' h => h.toB), fun w => (rstream_err (tbl box) k n p m w hp.1 hp.2 hm.1 hm.2 hbad).mono (fun e w' h => h.toB)⟩
/-- The argument's cells. -/
def askC (k : List Nat) (a b : Nat) (p m : Int) : List Value := bv k ++ ([.int .u64 (a : Int), .int .u32 (b : Int), .int .i64 p, .int .i64 m] : List Value)
theorem askS {w : World} {g t : Nat} {k : List Nat} {a b : Nat} {p m : Int} (hk : k.length = 32) (h : Blk w g t (askC k a b p m)) :
    w.rangeAt g 0 (bv k) ∧ w.cell? ⟨g, 32, none⟩ = some (.int .u64 (a : Int)) ∧ w.cell? ⟨g, 33, none⟩ = some (.int .u32 (b : Int)) ∧ w.cell? ⟨g, 34, none⟩ = some (.int .i64 p) ∧ w.cell? ⟨g, 35, none⟩ = some (.int .i64 m) := by
  have hl : (bv k).length = 32 := by simp [hk]
  have hc : ∀ j, (askC k a b p m)[32 + j]? = ([.int .u64 (a : Int), .int .u32 (b : Int), .int .i64 p, .int .i64 m] : List Value)[j]? := fun j => by
    unfold askC
    rw [List.getElem?_append_right (by omega), hl, Nat.add_sub_cancel_left]
  refine ⟨?_, (h.cell 32).trans (hc 0), (h.cell 33).trans (hc 1), (h.cell 34).trans (hc 2), (h.cell 35).trans (hc 3)⟩
  intro j v hv
  rw [h.cell, Nat.zero_add, askC, List.getElem?_append_left (List.getElem?_eq_some_iff.1 hv).1]
  exact hv
namespace w_CtrStreams
set_option maxRecDepth 100000 in
set_option maxHeartbeats 4000000 in
theorem walk (k : List Nat) (a b : Nat) (p m : Int) (hk : k.length = 32) (bk : Byt k) (ha : (a : Int) ≤ 18446744073709551615) (hb : (b : Int) ≤ 4294967295) (hp : -9223372036854775808 ≤ p ∧ p ≤ 9223372036854775807) (hm : -9223372036854775808 ≤ m ∧ m ≤ 9223372036854775807) (W : World) :
    Calls Try.prog 3 #[.agg (askC k a b p m).toArray] W fun e w' => e = .returned (.bool true) ∧ Below W.heap.size W w' := by
  obtain ⟨Ls, cd, bL, hx0, hy0⟩ := streams_both k (nonceL a b) p m hk bk (nonceL_length a b) (nonceL_byt a b) hp hm
  have hx := Lib.hid hx0
  have hy := Lib.hid hy0
  have htb : Hid (∀ w, Calls Try.prog 13 #[] w (RetA (tbl box) w)) := fun w => rtable_any w
  have hmd := Lib.hid (fun w => made_ctr a b w ha hb)
  have hrm := Lib.hid (fun w => rmade_any a b w ha hb)
  have hsm := Lib.hid (fun va vb w ha hb => same_self va vb Ls w ha hb bL)
  have hal := Lib.hid (fun w => alive_any w)
  have hkl := Lib.hid (show (bv k).length = 32 by simp [hk])
  have hNl := Lib.hid (nonceL_length a b)
  have hnl := Lib.hid (show (bv (nonceL a b)).length = 12 by simp)
  have hAs : Hid (∀ (w : World) (g t : Nat), Blk w g t (askC k a b p m) → w.rangeAt g 0 (bv k) ∧ w.cell? ⟨g, 32, none⟩ = some (.int .u64 (a : Int)) ∧ w.cell? ⟨g, 33, none⟩ = some (.int .u32 (b : Int)) ∧ w.cell? ⟨g, 34, none⟩ = some (.int .i64 p) ∧ w.cell? ⟨g, 35, none⟩ = some (.int .i64 m)) := fun w g t h => askS hk h
  clear hx0 hy0 bL hk bk
  generalize nonceL a b = N at *
  have q0 := Blk.new_at (w := W) (n := W.heap.size) (t := 26) (cs := (askC k a b p m).toArray) rfl rfl
  have hB0 : Below W.heap.size W (W.alloc (.cells (askC k a b p m).toArray 26)) := (Below.refl _ _).alloc (Nat.le_refl _) _
  generalize askC k a b p m = CS at *
  replace q0 := Lib.hid q0
  replace hB0 := Lib.hid hB0
  by_cases hg : 60 < m ∧ m ≤ 65536
  · obtain ⟨hg1, hg2⟩ := hg
    go_enter Try.func3, Try.ntmps3
    go_wp2_with (first
      | (go_at_call 9; refine (hal.out _).mono ?_; rintro e w1 ⟨rfl, hB1⟩)
      | (go_not_at_region 3; go_in))
    have q1 := Lib.hid (q0.out.keep hB1)
    have hW1 := Lib.hid (below_call hB0.out hB0.out.size hB1)
    clear hB1
    refine wp_region_held_drew (S := fun w' => Below w1.heap.size w1 w') (by kernel_rfl) ((Below.refl _ _).drew) (fun hH => ?_)
    refine takeH_field (o := ⟨some 15, _, _, _, _, _⟩) (i := 0) rfl (by kernel_rfl) (by kernel_rfl) (by kernel_rfl) (fun _ _ _ _ h => h) rfl 26 (.tmp 1) 0 rfl _ 0 rfl (fun w => fldA0 _ w) hH ?_
    simp only [Act.put, List.setIfInBounds_toArray, List.set_cons_zero, List.set_cons_succ, Nat.zero_add, decide_true, beq_self_eq_true]
    refine takeH_load (o := ⟨some 16, _, _, _, _, _⟩) (i := 1) rfl (by kernel_rfl) (by kernel_rfl) (by kernel_rfl) (fun _ _ _ _ h => h) rfl 22 (.tmp 15) rfl 32 arr32' _ _ rfl (bv k) hkl.out (fun w h => (hAs.out _ _ _ (q1.out.keep h)).1) hH ?_
    simp only [Act.put, List.setIfInBounds_toArray, List.set_cons_zero, List.set_cons_succ, Nat.zero_add, decide_true, beq_self_eq_true]
    refine takeH_field (o := ⟨some 17, _, _, _, _, _⟩) (i := 2) rfl (by kernel_rfl) (by kernel_rfl) (by kernel_rfl) (fun _ _ _ _ h => h) rfl 26 (.tmp 1) 1 rfl _ 32 rfl (fun w => fldA1 _ w) hH ?_
    simp only [Act.put, List.setIfInBounds_toArray, List.set_cons_zero, List.set_cons_succ, Nat.zero_add, decide_true, beq_self_eq_true]
    refine takeH_cell (o := ⟨some 18, _, _, _, _, _⟩) (i := 3) rfl (by kernel_rfl) (by kernel_rfl) (by kernel_rfl) (fun _ _ _ _ h => h) rfl 23 (.tmp 17) rfl Try.underlying23 rfl _ 32 rfl (.int .u64 (a : Int)) (fun w h => (hAs.out _ _ _ (q1.out.keep h)).2.1) hH ?_
    simp only [Act.put, List.setIfInBounds_toArray, List.set_cons_zero, List.set_cons_succ, Nat.zero_add, decide_true, beq_self_eq_true]
    refine takeH_field (o := ⟨some 19, _, _, _, _, _⟩) (i := 4) rfl (by kernel_rfl) (by kernel_rfl) (by kernel_rfl) (fun _ _ _ _ h => h) rfl 26 (.tmp 1) 2 rfl _ 33 rfl (fun w => fldA2 _ w) hH ?_
    simp only [Act.put, List.setIfInBounds_toArray, List.set_cons_zero, List.set_cons_succ, Nat.zero_add, decide_true, beq_self_eq_true]
    refine takeH_cell (o := ⟨some 20, _, _, _, _, _⟩) (i := 5) rfl (by kernel_rfl) (by kernel_rfl) (by kernel_rfl) (fun _ _ _ _ h => h) rfl 24 (.tmp 19) rfl Try.underlying24 rfl _ 33 rfl (.int .u32 (b : Int)) (fun w h => (hAs.out _ _ _ (q1.out.keep h)).2.2.1) hH ?_
    simp only [Act.put, List.setIfInBounds_toArray, List.set_cons_zero, List.set_cons_succ, Nat.zero_add, decide_true, beq_self_eq_true]
    refine takeH_field (o := ⟨some 21, _, _, _, _, _⟩) (i := 6) rfl (by kernel_rfl) (by kernel_rfl) (by kernel_rfl) (fun _ _ _ _ h => h) rfl 26 (.tmp 1) 3 rfl _ 34 rfl (fun w => fldA3 _ w) hH ?_
    simp only [Act.put, List.setIfInBounds_toArray, List.set_cons_zero, List.set_cons_succ, Nat.zero_add, decide_true, beq_self_eq_true]
    refine takeH_cell (o := ⟨some 22, _, _, _, _, _⟩) (i := 7) rfl (by kernel_rfl) (by kernel_rfl) (by kernel_rfl) (fun _ _ _ _ h => h) rfl 3 (.tmp 21) rfl Try.underlying3 rfl _ 34 rfl (.int .i64 p) (fun w h => (hAs.out _ _ _ (q1.out.keep h)).2.2.2.1) hH ?_
    simp only [Act.put, List.setIfInBounds_toArray, List.set_cons_zero, List.set_cons_succ, Nat.zero_add, decide_true, beq_self_eq_true]
    refine takeH_field (o := ⟨some 23, _, _, _, _, _⟩) (i := 8) rfl (by kernel_rfl) (by kernel_rfl) (by kernel_rfl) (fun _ _ _ _ h => h) rfl 26 (.tmp 1) 4 rfl _ 35 rfl (fun w => fldA4 _ w) hH ?_
    simp only [Act.put, List.setIfInBounds_toArray, List.set_cons_zero, List.set_cons_succ, Nat.zero_add, decide_true, beq_self_eq_true]
    refine takeH_cell (o := ⟨some 24, _, _, _, _, _⟩) (i := 9) rfl (by kernel_rfl) (by kernel_rfl) (by kernel_rfl) (fun _ _ _ _ h => h) rfl 3 (.tmp 23) rfl Try.underlying3 rfl _ 35 rfl (.int .i64 m) (fun w h => (hAs.out _ _ _ (q1.out.keep h)).2.2.2.2) hH ?_
    simp only [Act.put, List.setIfInBounds_toArray, List.set_cons_zero, List.set_cons_succ, Nat.zero_add, decide_true, beq_self_eq_true]
    refine wpAnyH_ready (rs := [10]) (by kernel_rfl) (by simp) ?_
    refine AllReadyH.cons rfl (fun K1 hK1 => ?_) AllReadyH.nil
    rw [if_pos (by rfl)]
    refine wp_allocA 28 rfl (bv (zeros 32)) (by kernel_rfl) ?_
    intro w2 k2 hK2
    have hB2 : Below w1.heap.size w1 w2 := ((Below.refl w1.heap.size w1).drew).trans (hK2.below (Nat.le_refl _) (by simp))
    have hg : w1.heap.size ≤ w1.drew.heap.size := Nat.le_refl _
    refine hK1.out _ _ hB2 (fun hH => ?_)
    clear hK1 K1 hK2
    simp only [Act.put, List.getElem_toArray, List.getElem_cons_succ, List.getElem_cons_zero, List.setIfInBounds_toArray, List.set_cons_zero, List.set_cons_succ, Nat.zero_add]
    generalize w1.drew.heap.size = g3 at *
    refine wpAnyH_ready (rs := [11]) (by kernel_rfl) (by simp) ?_
    refine AllReadyH.cons rfl (fun K1 hK1 => ?_) AllReadyH.nil
    rw [if_pos (by rfl)]
    refine wp_storeA 28 (.tmp 3) (.tmp 16) rfl 32 arrK _ _ rfl (bv k) rfl 28 _ k2 hkl.out (by simp) (ones_bv _) ?_
    intro w3 k3 hK3
    rw [putL_all (by rw [hkl.out]; simp)] at k3
    have hB3 : Below w1.heap.size w1 w3 := hB2.trans (hK3.below hB2.size (by intro b hb; simp only [List.mem_singleton] at hb; subst hb; exact hg))
    refine hK1.out _ _ hB3 (fun hH => ?_)
    clear hK1 K1 hK3 hB2 k2
    simp only [Act.put, List.getElem_toArray, List.getElem_cons_succ, List.getElem_cons_zero, List.setIfInBounds_toArray, List.set_cons_zero, List.set_cons_succ, Nat.zero_add]
    refine takeH_assign (o := ⟨some 4, _, _, _, _, _⟩) (i := 12) rfl (by kernel_rfl) (by kernel_rfl) (by kernel_rfl) (fun _ _ _ _ h => h) rfl (.tmp 18) rfl (.int .u64 (a : Int)) rfl hH ?_
    simp only [Act.put, List.setIfInBounds_toArray, List.set_cons_zero, List.set_cons_succ, Nat.zero_add, decide_true, beq_self_eq_true]
    refine takeH_assign (o := ⟨some 5, _, _, _, _, _⟩) (i := 13) rfl (by kernel_rfl) (by kernel_rfl) (by kernel_rfl) (fun _ _ _ _ h => h) rfl (.tmp 20) rfl (.int .u32 (b : Int)) rfl hH ?_
    simp only [Act.put, List.setIfInBounds_toArray, List.set_cons_zero, List.set_cons_succ, Nat.zero_add, decide_true, beq_self_eq_true]
    refine takeH_assign (o := ⟨some 6, _, _, _, _, _⟩) (i := 14) rfl (by kernel_rfl) (by kernel_rfl) (by kernel_rfl) (fun _ _ _ _ h => h) rfl (.tmp 22) rfl (.int .i64 p) rfl hH ?_
    simp only [Act.put, List.setIfInBounds_toArray, List.set_cons_zero, List.set_cons_succ, Nat.zero_add, decide_true, beq_self_eq_true]
    refine takeH_assign (o := ⟨some 7, _, _, _, _, _⟩) (i := 15) rfl (by kernel_rfl) (by kernel_rfl) (by kernel_rfl) (fun _ _ _ _ h => h) rfl (.tmp 24) rfl (.int .i64 m) rfl hH ?_
    simp only [Act.put, List.setIfInBounds_toArray, List.set_cons_zero, List.set_cons_succ, Nat.zero_add, decide_true, beq_self_eq_true]
    refine wpAnyH_done (by kernel_rfl) ?_ _
    clear hH hg
    have hW3 := Lib.hid (below_call hW1.out hW1.out.size hB3)
    have q3 := Lib.hid (q1.out.keep hB3)
    clear hB3
    have k3lt := Lib.hid k3.lt
    go_wp2
    go_ret
    exact ⟨rfl, hW3.out⟩
  · have hg' : m ≤ 60 ∨ 65536 < m := by omega
    clear hg
    rcases hg' with hg' | hg'
    all_goals
      go_enter Try.func3, Try.ntmps3
      go_wp2_with (first
        | (go_at_call 9; refine (hal.out _).mono ?_; rintro e w1 ⟨rfl, hB1⟩)
        | (go_not_at_region 3; go_in))
      have q1 := Lib.hid (q0.out.keep hB1)
      have hW1 := Lib.hid (below_call hB0.out hB0.out.size hB1)
      clear hB1
      refine wp_region_held_drew (S := fun w' => Below w1.heap.size w1 w') (by kernel_rfl) ((Below.refl _ _).drew) (fun hH => ?_)
      refine takeH_field (o := ⟨some 15, _, _, _, _, _⟩) (i := 0) rfl (by kernel_rfl) (by kernel_rfl) (by kernel_rfl) (fun _ _ _ _ h => h) rfl 26 (.tmp 1) 0 rfl _ 0 rfl (fun w => fldA0 _ w) hH ?_
      simp only [Act.put, List.setIfInBounds_toArray, List.set_cons_zero, List.set_cons_succ, Nat.zero_add, decide_true, beq_self_eq_true]
      refine takeH_load (o := ⟨some 16, _, _, _, _, _⟩) (i := 1) rfl (by kernel_rfl) (by kernel_rfl) (by kernel_rfl) (fun _ _ _ _ h => h) rfl 22 (.tmp 15) rfl 32 arr32' _ _ rfl (bv k) hkl.out (fun w h => (hAs.out _ _ _ (q1.out.keep h)).1) hH ?_
      simp only [Act.put, List.setIfInBounds_toArray, List.set_cons_zero, List.set_cons_succ, Nat.zero_add, decide_true, beq_self_eq_true]
      refine takeH_field (o := ⟨some 17, _, _, _, _, _⟩) (i := 2) rfl (by kernel_rfl) (by kernel_rfl) (by kernel_rfl) (fun _ _ _ _ h => h) rfl 26 (.tmp 1) 1 rfl _ 32 rfl (fun w => fldA1 _ w) hH ?_
      simp only [Act.put, List.setIfInBounds_toArray, List.set_cons_zero, List.set_cons_succ, Nat.zero_add, decide_true, beq_self_eq_true]
      refine takeH_cell (o := ⟨some 18, _, _, _, _, _⟩) (i := 3) rfl (by kernel_rfl) (by kernel_rfl) (by kernel_rfl) (fun _ _ _ _ h => h) rfl 23 (.tmp 17) rfl Try.underlying23 rfl _ 32 rfl (.int .u64 (a : Int)) (fun w h => (hAs.out _ _ _ (q1.out.keep h)).2.1) hH ?_
      simp only [Act.put, List.setIfInBounds_toArray, List.set_cons_zero, List.set_cons_succ, Nat.zero_add, decide_true, beq_self_eq_true]
      refine takeH_field (o := ⟨some 19, _, _, _, _, _⟩) (i := 4) rfl (by kernel_rfl) (by kernel_rfl) (by kernel_rfl) (fun _ _ _ _ h => h) rfl 26 (.tmp 1) 2 rfl _ 33 rfl (fun w => fldA2 _ w) hH ?_
      simp only [Act.put, List.setIfInBounds_toArray, List.set_cons_zero, List.set_cons_succ, Nat.zero_add, decide_true, beq_self_eq_true]
      refine takeH_cell (o := ⟨some 20, _, _, _, _, _⟩) (i := 5) rfl (by kernel_rfl) (by kernel_rfl) (by kernel_rfl) (fun _ _ _ _ h => h) rfl 24 (.tmp 19) rfl Try.underlying24 rfl _ 33 rfl (.int .u32 (b : Int)) (fun w h => (hAs.out _ _ _ (q1.out.keep h)).2.2.1) hH ?_
      simp only [Act.put, List.setIfInBounds_toArray, List.set_cons_zero, List.set_cons_succ, Nat.zero_add, decide_true, beq_self_eq_true]
      refine takeH_field (o := ⟨some 21, _, _, _, _, _⟩) (i := 6) rfl (by kernel_rfl) (by kernel_rfl) (by kernel_rfl) (fun _ _ _ _ h => h) rfl 26 (.tmp 1) 3 rfl _ 34 rfl (fun w => fldA3 _ w) hH ?_
      simp only [Act.put, List.setIfInBounds_toArray, List.set_cons_zero, List.set_cons_succ, Nat.zero_add, decide_true, beq_self_eq_true]
      refine takeH_cell (o := ⟨some 22, _, _, _, _, _⟩) (i := 7) rfl (by kernel_rfl) (by kernel_rfl) (by kernel_rfl) (fun _ _ _ _ h => h) rfl 3 (.tmp 21) rfl Try.underlying3 rfl _ 34 rfl (.int .i64 p) (fun w h => (hAs.out _ _ _ (q1.out.keep h)).2.2.2.1) hH ?_
      simp only [Act.put, List.setIfInBounds_toArray, List.set_cons_zero, List.set_cons_succ, Nat.zero_add, decide_true, beq_self_eq_true]
      refine takeH_field (o := ⟨some 23, _, _, _, _, _⟩) (i := 8) rfl (by kernel_rfl) (by kernel_rfl) (by kernel_rfl) (fun _ _ _ _ h => h) rfl 26 (.tmp 1) 4 rfl _ 35 rfl (fun w => fldA4 _ w) hH ?_
      simp only [Act.put, List.setIfInBounds_toArray, List.set_cons_zero, List.set_cons_succ, Nat.zero_add, decide_true, beq_self_eq_true]
      refine takeH_cell (o := ⟨some 24, _, _, _, _, _⟩) (i := 9) rfl (by kernel_rfl) (by kernel_rfl) (by kernel_rfl) (fun _ _ _ _ h => h) rfl 3 (.tmp 23) rfl Try.underlying3 rfl _ 35 rfl (.int .i64 m) (fun w h => (hAs.out _ _ _ (q1.out.keep h)).2.2.2.2) hH ?_
      simp only [Act.put, List.setIfInBounds_toArray, List.set_cons_zero, List.set_cons_succ, Nat.zero_add, decide_true, beq_self_eq_true]
      refine wpAnyH_ready (rs := [10]) (by kernel_rfl) (by simp) ?_
      refine AllReadyH.cons rfl (fun K1 hK1 => ?_) AllReadyH.nil
      rw [if_pos (by rfl)]
      refine wp_allocA 28 rfl (bv (zeros 32)) (by kernel_rfl) ?_
      intro w2 k2 hK2
      have hB2 : Below w1.heap.size w1 w2 := ((Below.refl w1.heap.size w1).drew).trans (hK2.below (Nat.le_refl _) (by simp))
      have hg : w1.heap.size ≤ w1.drew.heap.size := Nat.le_refl _
      refine hK1.out _ _ hB2 (fun hH => ?_)
      clear hK1 K1 hK2
      simp only [Act.put, List.getElem_toArray, List.getElem_cons_succ, List.getElem_cons_zero, List.setIfInBounds_toArray, List.set_cons_zero, List.set_cons_succ, Nat.zero_add]
      generalize w1.drew.heap.size = g3 at *
      refine wpAnyH_ready (rs := [11]) (by kernel_rfl) (by simp) ?_
      refine AllReadyH.cons rfl (fun K1 hK1 => ?_) AllReadyH.nil
      rw [if_pos (by rfl)]
      refine wp_storeA 28 (.tmp 3) (.tmp 16) rfl 32 arrK _ _ rfl (bv k) rfl 28 _ k2 hkl.out (by simp) (ones_bv _) ?_
      intro w3 k3 hK3
      rw [putL_all (by rw [hkl.out]; simp)] at k3
      have hB3 : Below w1.heap.size w1 w3 := hB2.trans (hK3.below hB2.size (by intro b hb; simp only [List.mem_singleton] at hb; subst hb; exact hg))
      refine hK1.out _ _ hB3 (fun hH => ?_)
      clear hK1 K1 hK3 hB2 k2
      simp only [Act.put, List.getElem_toArray, List.getElem_cons_succ, List.getElem_cons_zero, List.setIfInBounds_toArray, List.set_cons_zero, List.set_cons_succ, Nat.zero_add]
      refine takeH_assign (o := ⟨some 4, _, _, _, _, _⟩) (i := 12) rfl (by kernel_rfl) (by kernel_rfl) (by kernel_rfl) (fun _ _ _ _ h => h) rfl (.tmp 18) rfl (.int .u64 (a : Int)) rfl hH ?_
      simp only [Act.put, List.setIfInBounds_toArray, List.set_cons_zero, List.set_cons_succ, Nat.zero_add, decide_true, beq_self_eq_true]
      refine takeH_assign (o := ⟨some 5, _, _, _, _, _⟩) (i := 13) rfl (by kernel_rfl) (by kernel_rfl) (by kernel_rfl) (fun _ _ _ _ h => h) rfl (.tmp 20) rfl (.int .u32 (b : Int)) rfl hH ?_
      simp only [Act.put, List.setIfInBounds_toArray, List.set_cons_zero, List.set_cons_succ, Nat.zero_add, decide_true, beq_self_eq_true]
      refine takeH_assign (o := ⟨some 6, _, _, _, _, _⟩) (i := 14) rfl (by kernel_rfl) (by kernel_rfl) (by kernel_rfl) (fun _ _ _ _ h => h) rfl (.tmp 22) rfl (.int .i64 p) rfl hH ?_
      simp only [Act.put, List.setIfInBounds_toArray, List.set_cons_zero, List.set_cons_succ, Nat.zero_add, decide_true, beq_self_eq_true]
      refine takeH_assign (o := ⟨some 7, _, _, _, _, _⟩) (i := 15) rfl (by kernel_rfl) (by kernel_rfl) (by kernel_rfl) (fun _ _ _ _ h => h) rfl (.tmp 24) rfl (.int .i64 m) rfl hH ?_
      simp only [Act.put, List.setIfInBounds_toArray, List.set_cons_zero, List.set_cons_succ, Nat.zero_add, decide_true, beq_self_eq_true]
      refine wpAnyH_done (by kernel_rfl) ?_ _
      clear hH hg
      have hW3 := Lib.hid (below_call hW1.out hW1.out.size hB3)
      have q3 := Lib.hid (q1.out.keep hB3)
      clear hB3
      have k3lt := Lib.hid k3.lt
      go_wp2_with (first
        | (go_at_call 10; refine (hmd.out _).mono ?_; rintro e w4 ⟨rfl, hB4⟩)
        | refine wpList_allocA rfl 30 rfl (bv (zeros 12)) (by kernel_rfl) ?_)
      intro w5 n5 hK5 hz5
      replace k3 := (k3.keep hB4).keeps hK5 (by simp)
      have q5 := (q3.out.keep hB4).keeps hK5 (by simp)
      have hW5 := (below_call hW3.out hW3.out.size hB4).trans (hK5.below (below_call hW3.out hW3.out.size hB4).size (by simp))
      have hg8 := Lib.hid (show g3 < w4.heap.size from Nat.lt_of_lt_of_le k3lt.out hB4.size)
      have hgq := Lib.hid (show W.heap.size < w4.heap.size from Nat.lt_of_lt_of_le q3.out.lt hB4.size)
      clear hK5 hB4 hz5 hW3 q3
      generalize w4.heap.size = g8 at *
      go_wp2_with (first
        | refine wpList_storeW rfl 30 (.tmp 8) (.tmp 33) rfl 12 arrN g8 rfl (bv N) rfl 30 _ n5 hnl.out (by simp) (ones_bv _) ?_)
      intro w5' n6 hK6
      replace k3 := k3.keeps hK6 (by simp; have := hg8.out; omega)
      replace q5 := q5.keeps hK6 (by simp; have := hgq.out; omega)
      replace hW5 := hW5.trans (hK6.below hW5.size (by simp; have := hgq.out; omega))
      clear hK6 n5 k3lt
      replace q5 := Lib.hid q5
      replace hW5 := Lib.hid hW5
      go_wp2_with (first
        | refine wpList_loadW rfl 28 (.tmp 3) rfl 32 arrK _ rfl 28 _ k3 hkl.out ?_
        | refine wpList_loadW rfl 30 (.tmp 8) rfl 12 arrN _ rfl 30 _ n6 hnl.out ?_
        | (go_at_call 11; refine (hx.out _).mono ?_; rintro e w6 ⟨v1, rfl, s6, hB6⟩)
        | (go_not_at_region 8; go_in))
      have q6 := Lib.hid (q5.out.keep hB6)
      replace n6 := Lib.hid (n6.keep hB6)
      replace s6 := Lib.hid s6
      replace hB6 := Lib.hid (below_call hW5.out hW5.out.size hB6)
      clear k3 q5 hW5
      refine wp_region_held_drew (S := fun w' => Below w6.heap.size w6 w') (by kernel_rfl) ((Below.refl _ _).drew) (fun hH => ?_)
      refine takeH_field (o := ⟨some 44, _, _, _, _, _⟩) (i := 1) rfl (by kernel_rfl) (by kernel_rfl) (by kernel_rfl) (fun _ _ _ _ h => h) rfl 26 (.tmp 1) 0 rfl _ 0 rfl (fun w => fldA0 _ w) hH ?_
      simp only [Act.put, List.setIfInBounds_toArray, List.set_cons_zero, List.set_cons_succ, Nat.zero_add, decide_true, beq_self_eq_true]
      refine takeH_load (o := ⟨some 45, _, _, _, _, _⟩) (i := 2) rfl (by kernel_rfl) (by kernel_rfl) (by kernel_rfl) (fun _ _ _ _ h => h) rfl 22 (.tmp 44) rfl 32 arr32' _ _ rfl (bv k) hkl.out (fun w h => (hAs.out _ _ _ (q6.out.keep h)).1) hH ?_
      simp only [Act.put, List.setIfInBounds_toArray, List.set_cons_zero, List.set_cons_succ, Nat.zero_add, decide_true, beq_self_eq_true]
      refine takeH_move (o := ⟨some 46, _, _, _, _, _⟩) (i := 3) rfl (by kernel_rfl) (by kernel_rfl) (by kernel_rfl) (fun _ _ _ _ h => h) rfl (.tmp 4) rfl (.int .u64 (a : Int)) rfl hH ?_
      simp only [Act.put, List.setIfInBounds_toArray, List.set_cons_zero, List.set_cons_succ, Nat.zero_add, decide_true, beq_self_eq_true]
      refine takeH_move (o := ⟨some 47, _, _, _, _, _⟩) (i := 4) rfl (by kernel_rfl) (by kernel_rfl) (by kernel_rfl) (fun _ _ _ _ h => h) rfl (.tmp 5) rfl (.int .u32 (b : Int)) rfl hH ?_
      simp only [Act.put, List.setIfInBounds_toArray, List.set_cons_zero, List.set_cons_succ, Nat.zero_add, decide_true, beq_self_eq_true]
      refine takeH_move (o := ⟨some 49, _, _, _, _, _⟩) (i := 6) rfl (by kernel_rfl) (by kernel_rfl) (by kernel_rfl) (fun _ _ _ _ h => h) rfl (.tmp 6) rfl (.int .i64 p) rfl hH ?_
      simp only [Act.put, List.setIfInBounds_toArray, List.set_cons_zero, List.set_cons_succ, Nat.zero_add, decide_true, beq_self_eq_true]
      refine takeH_move (o := ⟨some 50, _, _, _, _, _⟩) (i := 7) rfl (by kernel_rfl) (by kernel_rfl) (by kernel_rfl) (fun _ _ _ _ h => h) rfl (.tmp 7) rfl (.int .i64 m) rfl hH ?_
      simp only [Act.put, List.setIfInBounds_toArray, List.set_cons_zero, List.set_cons_succ, Nat.zero_add, decide_true, beq_self_eq_true]
      refine wpAnyH_ready (rs := [0]) (by kernel_rfl) (by simp) ?_
      refine AllReadyH.cons rfl (fun K1 hK1 => ?_) AllReadyH.nil
      rw [if_pos (by rfl)]
      go_wp2_with fail
      refine (htb.out _).mono ?_
      rintro e w7 ⟨rfl, hBa⟩
      have hB7 : Below w6.heap.size w6 w7 := below_call hH hH.size hBa
      refine hK1.out _ _ hB7 (fun hH => ?_)
      clear hK1 K1 hBa
      refine wpAnyH_ready (rs := [5]) (by kernel_rfl) (by simp) ?_
      refine AllReadyH.cons rfl (fun K1 hK1 => ?_) AllReadyH.nil
      rw [if_pos (by rfl)]
      go_wp2_with fail
      refine (hrm.out _).mono ?_
      rintro e w8 ⟨rfl, hBa⟩
      have hB8 : Below w6.heap.size w6 w8 := below_call hB7 hB7.size hBa
      refine hK1.out _ _ hB8 (fun hH => ?_)
      clear hK1 K1 hBa
      refine wpAnyH_ready (rs := [8]) (by kernel_rfl) (by simp) ?_
      refine AllReadyH.cons rfl (fun K1 hK1 => ?_) AllReadyH.nil
      rw [if_pos (by rfl)]
      go_wp2_with fail
      refine (hy.out _).mono ?_
      rintro e w9 ⟨v2, rfl, s2, hBa⟩
      have hB9 : Below w6.heap.size w6 w9 := below_call hB8 hB8.size hBa
      replace s2 := Lib.hid s2
      refine hK1.out _ _ hB9 (fun hH => ?_)
      clear hK1 K1 hBa
      refine takeH_move (o := ⟨some 42, _, _, _, _, _⟩) (i := 9) rfl (by kernel_rfl) (by kernel_rfl) (by kernel_rfl) (fun _ _ _ _ h => h) rfl (.tmp 51) rfl (.tuple #[v2, .int .i64 cd]) rfl hH ?_
      simp only [Act.put, List.setIfInBounds_toArray, List.set_cons_zero, List.set_cons_succ, Nat.zero_add, decide_true, beq_self_eq_true]
      refine takeH_S (o := ⟨some 52, _, _, _, _, _⟩) (i := 10) rfl (by kernel_rfl) (by kernel_rfl) (by kernel_rfl) (fun _ _ _ _ h => h) rfl v2 (fun w _ => by go_simp) hH ?_
      simp only [Act.put, List.setIfInBounds_toArray, List.set_cons_zero, List.set_cons_succ, Nat.zero_add, decide_true, beq_self_eq_true]
      refine takeH_S (o := ⟨some 53, _, _, _, _, _⟩) (i := 11) rfl (by kernel_rfl) (by kernel_rfl) (by kernel_rfl) (fun _ _ _ _ h => h) rfl (.int .i64 cd) (fun w _ => by go_simp) hH ?_
      simp only [Act.put, List.setIfInBounds_toArray, List.set_cons_zero, List.set_cons_succ, Nat.zero_add, decide_true, beq_self_eq_true]
      refine takeH_assign (o := ⟨some 11, _, _, _, _, _⟩) (i := 12) rfl (by kernel_rfl) (by kernel_rfl) (by kernel_rfl) (fun _ _ _ _ h => h) rfl (.tmp 52) rfl v2 rfl hH ?_
      simp only [Act.put, List.setIfInBounds_toArray, List.set_cons_zero, List.set_cons_succ, Nat.zero_add, decide_true, beq_self_eq_true]
      refine takeH_assign (o := ⟨some 12, _, _, _, _, _⟩) (i := 13) rfl (by kernel_rfl) (by kernel_rfl) (by kernel_rfl) (fun _ _ _ _ h => h) rfl (.tmp 53) rfl (.int .i64 cd) rfl hH ?_
      simp only [Act.put, List.setIfInBounds_toArray, List.set_cons_zero, List.set_cons_succ, Nat.zero_add, decide_true, beq_self_eq_true]
      refine wpAnyH_done (by kernel_rfl) ?_ _
      clear hH
      replace n6 := Lib.hid (n6.out.keep hB9)
      replace s6 := Lib.hid (s6.out.keep hB9)
      replace hB6 := Lib.hid (below_call hB6.out hB6.out.size hB9)
      clear hB7 hB8 hB9 q6
      go_wp2_with (first | (go_not_at_region 9; go_in))
      refine wp_region_held_drew (S := fun w' => Below w9.heap.size w9 w') (by kernel_rfl) ((Below.refl _ _).drew) (fun hH => ?_)
      refine takeH_load (o := ⟨some 54, _, _, _, _, _⟩) (i := 0) rfl (by kernel_rfl) (by kernel_rfl) (by kernel_rfl) (fun _ _ _ _ h => h) rfl 30 (.tmp 8) rfl 12 arrN _ _ rfl (bv N) hnl.out (fun w h => hSS (n6.out.keep h) hnl.out) hH ?_
      simp only [Act.put, List.setIfInBounds_toArray, List.set_cons_zero, List.set_cons_succ, Nat.zero_add, decide_true, beq_self_eq_true]
      refine takeH_move (o := ⟨some 55, _, _, _, _, _⟩) (i := 1) rfl (by kernel_rfl) (by kernel_rfl) (by kernel_rfl) (fun _ _ _ _ h => h) rfl (.tmp 4) rfl (.int .u64 (a : Int)) rfl hH ?_
      simp only [Act.put, List.setIfInBounds_toArray, List.set_cons_zero, List.set_cons_succ, Nat.zero_add, decide_true, beq_self_eq_true]
      refine takeH_move (o := ⟨some 56, _, _, _, _, _⟩) (i := 2) rfl (by kernel_rfl) (by kernel_rfl) (by kernel_rfl) (fun _ _ _ _ h => h) rfl (.tmp 5) rfl (.int .u32 (b : Int)) rfl hH ?_
      simp only [Act.put, List.setIfInBounds_toArray, List.set_cons_zero, List.set_cons_succ, Nat.zero_add, decide_true, beq_self_eq_true]
      refine wpAnyH_ready (rs := [3]) (by kernel_rfl) (by simp) ?_
      refine AllReadyH.cons rfl (fun K1 hK1 => ?_) AllReadyH.nil
      rw [if_pos (by rfl)]
      go_wp2_with fail
      refine (hrm.out _).mono ?_
      rintro e w10 ⟨rfl, hBa⟩
      have hB10 : Below w9.heap.size w9 w10 := below_call hH hH.size hBa
      refine hK1.out _ _ hB10 (fun hH => ?_)
      clear hK1 K1 hBa
      refine takeH_eqlT (o := ⟨some 58, _, _, _, _, _⟩) (i := 4) rfl (by kernel_rfl) (by kernel_rfl) (by kernel_rfl) (fun _ _ _ _ h => h) rfl 29 (.tmp 54) (.tmp 57) 29 rfl 12 arrB12 N N rfl rfl hNl.out rfl hH ?_
      simp only [Act.put, List.setIfInBounds_toArray, List.set_cons_zero, List.set_cons_succ, Nat.zero_add, decide_true, beq_self_eq_true]
      refine takeH_move (o := ⟨some 59, _, _, _, _, _⟩) (i := 5) rfl (by kernel_rfl) (by kernel_rfl) (by kernel_rfl) (fun _ _ _ _ h => h) rfl (.tmp 58) rfl (.bool true) rfl hH ?_
      simp only [Act.put, List.setIfInBounds_toArray, List.set_cons_zero, List.set_cons_succ, Nat.zero_add, decide_true, beq_self_eq_true]
      refine takeH_move (o := ⟨some 60, _, _, _, _, _⟩) (i := 6) rfl (by kernel_rfl) (by kernel_rfl) (by kernel_rfl) (fun _ _ _ _ h => h) rfl (.tmp 9) rfl v1 rfl hH ?_
      simp only [Act.put, List.setIfInBounds_toArray, List.set_cons_zero, List.set_cons_succ, Nat.zero_add, decide_true, beq_self_eq_true]
      refine takeH_move (o := ⟨some 61, _, _, _, _, _⟩) (i := 7) rfl (by kernel_rfl) (by kernel_rfl) (by kernel_rfl) (fun _ _ _ _ h => h) rfl (.tmp 11) rfl v2 rfl hH ?_
      simp only [Act.put, List.setIfInBounds_toArray, List.set_cons_zero, List.set_cons_succ, Nat.zero_add, decide_true, beq_self_eq_true]
      have hss := Lib.hid (hsm.out v1 v2 w10 (s6.out.keep hB10) (s2.out.keep hB10))
      refine wpAnyH_ready (rs := [8]) (by kernel_rfl) (by simp) ?_
      refine AllReadyH.cons rfl (fun K1 hK1 => ?_) AllReadyH.nil
      rw [if_pos (by rfl)]
      go_wp2_with fail
      refine hss.out.mono ?_
      rintro e w11 ⟨rfl, rfl⟩
      refine hK1.out _ _ hB10 (fun hH => ?_)
      clear hK1 K1
      refine takeH_pick (o := ⟨some 63, _, _, _, _, _⟩) (i := 9) rfl (by kernel_rfl) (by kernel_rfl) (by kernel_rfl) (fun _ _ _ _ h => h) rfl (.tmp 59) (.tmp 62) (.const (.bool false)) rfl true rfl _ rfl hH ?_
      simp only [Act.put, List.setIfInBounds_toArray, List.set_cons_zero, List.set_cons_succ, Nat.zero_add, decide_true, beq_self_eq_true]
      refine takeH_move (o := ⟨some 64, _, _, _, _, _⟩) (i := 10) rfl (by kernel_rfl) (by kernel_rfl) (by kernel_rfl) (fun _ _ _ _ h => h) rfl (.tmp 63) rfl (.bool true) rfl hH ?_
      simp only [Act.put, List.setIfInBounds_toArray, List.set_cons_zero, List.set_cons_succ, Nat.zero_add, decide_true, beq_self_eq_true]
      refine takeH_move (o := ⟨some 65, _, _, _, _, _⟩) (i := 11) rfl (by kernel_rfl) (by kernel_rfl) (by kernel_rfl) (fun _ _ _ _ h => h) rfl (.tmp 10) rfl (.int .i64 cd) rfl hH ?_
      simp only [Act.put, List.setIfInBounds_toArray, List.set_cons_zero, List.set_cons_succ, Nat.zero_add, decide_true, beq_self_eq_true]
      refine takeH_move (o := ⟨some 66, _, _, _, _, _⟩) (i := 12) rfl (by kernel_rfl) (by kernel_rfl) (by kernel_rfl) (fun _ _ _ _ h => h) rfl (.tmp 12) rfl (.int .i64 cd) rfl hH ?_
      simp only [Act.put, List.setIfInBounds_toArray, List.set_cons_zero, List.set_cons_succ, Nat.zero_add, decide_true, beq_self_eq_true]
      refine takeH_eqInt (o := ⟨some 67, _, _, _, _, _⟩) (i := 13) rfl (by kernel_rfl) (by kernel_rfl) (by kernel_rfl) (fun _ _ _ _ h => h) rfl 33 33 .i64 (.tmp 65) (.tmp 66) rfl Try.underlying33 cd cd rfl rfl rfl hH ?_
      simp only [Act.put, List.setIfInBounds_toArray, List.set_cons_zero, List.set_cons_succ, Nat.zero_add, decide_true, beq_self_eq_true]
      refine takeH_pick (o := ⟨some 68, _, _, _, _, _⟩) (i := 14) rfl (by kernel_rfl) (by kernel_rfl) (by kernel_rfl) (fun _ _ _ _ h => h) rfl (.tmp 64) (.tmp 67) (.const (.bool false)) rfl true rfl _ rfl hH ?_
      simp only [Act.put, List.setIfInBounds_toArray, List.set_cons_zero, List.set_cons_succ, Nat.zero_add, decide_true, beq_self_eq_true]
      refine takeH_assign (o := ⟨some 2, _, _, _, _, _⟩) (i := 15) rfl (by kernel_rfl) (by kernel_rfl) (by kernel_rfl) (fun _ _ _ _ h => h) rfl (.tmp 68) rfl (.bool true) rfl hH ?_
      simp only [Act.put, List.setIfInBounds_toArray, List.set_cons_zero, List.set_cons_succ, Nat.zero_add, decide_true, beq_self_eq_true]
      refine wpAnyH_done (by kernel_rfl) ?_ _
      have hBf := Lib.hid (below_call hB6.out hB6.out.size hB10)
      go_wp2
      go_ret
      exact ⟨rfl, hBf.out⟩
end w_CtrStreams
end Go.Proofs.Ytokphnfhajljmaa
