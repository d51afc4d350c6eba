/- Several texts in one (written by mergetop.py): CtrE Rf5M Rf5S Rf5C. -/
import Derived.Test.YtlifpmglaoppoaaQ12P2
import Derived.Test.YtlifpmglaoppoaaQ12P7
import Derived.Test.YtlifpmglaoppoaaNonP
import Derived.Test.YtlifpmglaoppoaaQ12P3
import Derived.Test.YtlifpmglaoppoaaRgx
import Derived.Deep.Cut
import Derived.Test.YtlifpmglaoppoaaQ12P5
set_option linter.unusedVariables false
set_option linter.unusedSimpArgs false

/- Contracts of package ctr: where it is refused. -/
namespace Go.Proofs.Ytlifpmglaoppoaa
open Go.RowKit
open Go.Proofs.PlainAes

/-- Nothing, and that the arguments may not be. -/
def RetE (w : World) (e : Ending) (w' : World) : Prop := e = .returned (.tuple #[.slice none 0 0, .int .i64 2]) ∧ Below w.heap.size w w'
set_option maxRecDepth 100000 in
set_option maxHeartbeats 1000000 in
theorem stream_err (k n : List Nat) (p m : Int) (w : World) (hp0 : -9223372036854775808 ≤ p) (hp1 : p ≤ 9223372036854775807) (hm0 : -9223372036854775808 ≤ m) (hm1 : m ≤ 9223372036854775807) (hbad : p < 0 ∨ 65536 < p ∨ m < 0 ∨ 65536 < m) :
    Calls Try.prog 23 #[.agg (bv k).toArray, .agg (bv n).toArray, .int .i64 p, .int .i64 m] w (RetE w) := by
  have hB := Lib.hid (show Below w.heap.size w ((w.alloc (.cells (bv k).toArray 25)).alloc (.cells (bv n).toArray 65)) from ((Below.refl _ _).alloc (Nat.le_refl _) _).alloc (by simp) _)
  have hR : Hid (∀ w', Below w.heap.size w w' → RetE w (.returned (.tuple #[.slice none 0 0, .int .i64 2])) w') := fun w' h => ⟨rfl, h⟩
  generalize RetE w = RX at *
  replace hbad := Lib.hid hbad
  by_cases h1 : p < 0
  · go_enter Try.func23, Try.ntmps23
    go_wp2
    go_wp2_with fail
    exact hR.out _ hB.out
  · by_cases h2 : 65536 < p
    · go_enter Try.func23, Try.ntmps23
      go_wp2
      go_wp2_with fail
      exact hR.out _ hB.out
    · by_cases h3 : m < 0
      · go_enter Try.func23, Try.ntmps23
        go_wp2
        go_wp2_with fail
        exact hR.out _ hB.out
      · have h4 : 65536 < m := by have := hbad.out; omega
        go_enter Try.func23, Try.ntmps23
        go_wp2
        go_wp2_with fail
        exact hR.out _ hB.out

set_option maxRecDepth 100000 in
set_option maxHeartbeats 1000000 in
theorem crypt_err (k n : List Nat) (A : Option Addr) (len cap : Nat) (w : World) (hk : k.length = 32) (hn : n.length = 12) (hl : 65536 < (len : Int)) (hl2 : (len : Int) ≤ 9223372036854775807) :
    Calls Try.prog 30 #[.agg (bv k).toArray, .agg (bv n).toArray, .slice A len cap] w (RetE w) := by
  have hst := Lib.hid (fun w => stream_err k n 0 len w (by omega) (by omega) (by omega) hl2 (.inr (.inr (.inr hl))))
  have hkl := Lib.hid (show (bv k).length = 32 by simp [hk])
  have hnl := Lib.hid (show (bv n).length = 12 by simp [hn])
  have k0 := (Blk.new_at (w := w) (t := 25) (cs := (bv k).toArray) rfl rfl).alloc (.cells (bv n).toArray 65)
  have n0 := Blk.new_at (w := w.alloc (.cells (bv k).toArray 25)) (n := w.heap.size + 1) (t := 65) (cs := (bv n).toArray) (by simp) rfl
  have hB0 := Lib.hid (show Below w.heap.size w ((w.alloc (.cells (bv k).toArray 25)).alloc (.cells (bv n).toArray 65)) from ((Below.refl _ _).alloc (Nat.le_refl _) _).alloc (by simp) _)
  have hR : Hid (∀ w', Below w.heap.size w w' → RetE w (.returned (.tuple #[.slice none 0 0, .int .i64 2])) w') := fun w' h => ⟨rfl, h⟩
  simp only [List.size_toArray] at k0 n0
  clear hk hn hl
  generalize RetE w = RX at *
  go_enter Try.func30, Try.ntmps30
  go_wp2_with (first
    | refine wpList_loadW rfl 25 (.tmp 3) rfl 32 arrK _ rfl 25 _ k0 hkl.out ?_
    | refine wpList_loadW rfl 65 (.tmp 4) rfl 12 arrN _ rfl 65 _ n0 hnl.out ?_
    | (go_at_call 23; refine (hst.out _).mono ?_; rintro e w2 ⟨rfl, hB2⟩))
  go_wp2_with fail
  exact hR.out _ (below_call hB0.out hB0.out.size hB2)
end Go.Proofs.Ytlifpmglaoppoaa

/- Contract of banyanref05: Made. -/
namespace Go.Proofs.PlainSeal
open Go.Proofs.PlainAes
open Go.Proofs.PlainSha
theorem nonceL_put (b a : Nat) : putB b 8 ++ putB a 4 = nonceL b a := by
  show [b / 72057594037927936 % 256, b / 281474976710656 % 256, b / 1099511627776 % 256, b / 4294967296 % 256, b / 16777216 % 256, b / 65536 % 256, b / 256 % 256, b / 1 % 256,
      a / 16777216 % 256, a / 65536 % 256, a / 256 % 256, a / 1 % 256] =
    [b / 4294967296 / 16777216 % 256, b / 4294967296 / 65536 % 256, b / 4294967296 / 256 % 256, b / 4294967296 % 256,
      b % 4294967296 / 16777216 % 256, b % 4294967296 / 65536 % 256, b % 4294967296 / 256 % 256, b % 4294967296 % 256,
      a / 16777216 % 256, a / 65536 % 256, a / 256 % 256, a % 256]
  simp only [List.cons.injEq, and_true]
  repeat' apply And.intro
  all_goals first | trivial | omega
end Go.Proofs.PlainSeal
namespace Go.Proofs.Ytlifpmglaoppoaa
open Go.RowKit
open Go.Proofs.PlainAes
open Go.Proofs.PlainSha
open Go.Proofs.PlainSeal

theorem wp_append_sl2 {P : Program} {w : World} {o : Oper} {a : Act} {K : Act → World → Prop} {Q : Exit → Act → World → Prop} (s x : Operand) (t : TypeId)
    (ho : o.op = .call { callee := .builtin .append, args := #[s, x], argTypes := #[t, t] })
    (base : Nat) (e : TypeId) (i : TypeInfo) (z : Value) (bytes : Nat) (ht : P.underlying t = some (.slice e)) (hi : P.info? e = some i) (hz : i.zero = some z)
    (hsize : i.size = 1) (hby : i.bytes = bytes) (hzs : z.cells.size = 1)
    (v : Value) (n : Nat) (xs : List Value) (hs : a.eval s = v) (hown : w.ownsRow base e 1 v n xs) (u : Value) (ys : List Value) (hx : a.eval x = u) (hu : Sl w u ys) (h1 : ∀ y ∈ ys, y.oneCell' = true)
    (h63 : n + ys.length ≤ maxLen) (hbytes : (n + ys.length) * bytes ≤ 140737488355328) (hbase : base ≤ w.heap.size)
    (h : ∀ v' w', w'.ownsRow base e 1 v' (n + ys.length) (xs ++ ys) → w.grownBy w' v.ownBlock → Moved w.heap.size v.ownBlock v'.ownBlock → K (a.put o.dst v') w') : Oper.wp P o a w K Q := by
  obtain ⟨v', w', hr, h2, h3, h4⟩ := run_append_sl2 (P := P) w base t o.type e i z bytes ht hi hz hsize hby hzs v n xs hown u ys hu h1 h63 hbytes hbase
  unfold Oper.wp
  simp [execOp, ho, resolve, invoke, builtin, hs, hx, hr, Result.andThen]
  exact h v' w' h2 h3 h4
theorem arrN12 : ArrTy Try.prog 64 12 := ⟨_, Try.underlying64, rfl, by kernel_rfl⟩
set_option maxRecDepth 100000 in
set_option maxHeartbeats 2000000 in
theorem rmade_any (b a : Nat) (w : World) (hb : (b : Int) ≤ 18446744073709551615) (ha : (a : Int) ≤ 4294967295) :
    Calls Try.prog 32 #[.int .u64 (b : Int), .int .u32 (a : Int)] w (RetA (nonceL b a) w) := by
  obtain ⟨i0, hi, hz0, hz1, hz2⟩ := info_parts (P := Try.prog) (e := 5) (z := .int .u8 0) (size := 1) (bytes := 1) (by kernel_rfl)
  have h8 := Lib.hid (fun w => rbytes_row b 8 w (by omega) (by omega) (by simp; omega))
  have h4 := Lib.hid (fun w => rbytes_row a 4 w (by omega) (by omega) (by simp; omega))
  have hcat := Lib.hid (nonceL_put b a)
  have hl8 := Lib.hid (putB_length b 8)
  have hl4 := Lib.hid (putB_length a 4)
  have hnl := Lib.hid (show (bv (nonceL b a)).length = 12 by rw [bv_length]; exact nonceL_length b a)
  have hR : Hid (∀ w', Below w.heap.size w w' → RetA (nonceL b a) w (.returned (.agg (bv (nonceL b a)).toArray)) w') := fun w' h => ⟨rfl, h⟩
  have hcv : IntKind.u64.wrap (a : Int) = (a : Int) := by rw [IntKind.wrap_u64]; omega
  clear hb
  generalize RetA (nonceL b a) w = RX at *
  generalize nonceL b a = O at *
  generalize putB b 8 = P8 at *
  generalize putB a 4 = P4 at *
  go_enter Try.func32, Try.ntmps32
  go_wp2_with (refine wpList_allocA rfl 64 rfl (bv (zeros 12)) (by kernel_rfl) ?_)
  intro w1 n4 hK1 hz1'
  have hB := (Below.refl w.heap.size w).trans (hK1.below (Nat.le_refl _) (by simp))
  clear hK1 hz1'
  have ga := Lib.hid n4.lt
  go_wp2_with (refine wpList_allocA rfl 64 rfl (bv (zeros 12)) (by kernel_rfl) ?_)
  intro w2 n5 hK2 hz2'
  replace n4 := n4.keeps hK2 (by simp)
  replace hB := hB.trans (hK2.below hB.size (by simp))
  clear hK2 hz2'
  generalize w1.heap.size = g5 at *
  generalize hg4 : w.heap.size = g4 at n4 ga
  replace hg4 := Lib.hid hg4
  have gw := Lib.hid hB.size
  go_upto_region 2 with fail
  refine wp_region_held_drew (S := fun w' => Below w.heap.size w w') (by kernel_rfl) hB.drew (fun hH => ?_)
  refine takeH_S (o := ⟨some 6, _, _, _, _, _⟩) (i := 0) rfl (by kernel_rfl) (by kernel_rfl) (by kernel_rfl) (fun _ _ _ _ h => h) rfl (.slice (some ⟨g5, 0, none⟩) 12 12) (fun w _ => by go_simp) hH ?_
  simp only [Act.put, List.setIfInBounds_toArray, List.set_cons_zero, List.set_cons_succ, Nat.zero_add, decide_true, beq_self_eq_true]
  refine takeH_move (o := ⟨some 7, _, _, _, _, _⟩) (i := 1) rfl (by kernel_rfl) (by kernel_rfl) (by kernel_rfl) (fun _ _ _ _ h => h) rfl (.tmp 0) rfl (.int .u64 (b : Int)) rfl hH ?_
  simp only [Act.put, List.setIfInBounds_toArray, List.set_cons_zero, List.set_cons_succ, Nat.zero_add, decide_true, beq_self_eq_true]
  refine takeH_move (o := ⟨some 9, _, _, _, _, _⟩) (i := 3) rfl (by kernel_rfl) (by kernel_rfl) (by kernel_rfl) (fun _ _ _ _ h => h) rfl (.tmp 1) rfl (.int .u32 (a : Int)) rfl hH ?_
  simp only [Act.put, List.setIfInBounds_toArray, List.set_cons_zero, List.set_cons_succ, Nat.zero_add, decide_true, beq_self_eq_true]
  refine takeH_S (o := ⟨some 10, _, _, _, _, _⟩) (i := 4) rfl (by kernel_rfl) (by kernel_rfl) (by kernel_rfl) (fun _ _ _ _ h => h) rfl (.int .u64 (a : Int)) (fun w _ => by go_simp) hH ?_
  simp only [Act.put, List.setIfInBounds_toArray, List.set_cons_zero, List.set_cons_succ, Nat.zero_add, decide_true, beq_self_eq_true]
  refine wpAnyH_ready (rs := [2]) (by kernel_rfl) (by simp) ?_
  refine AllReadyH.cons rfl (fun K1 hK1 => ?_) AllReadyH.nil
  rw [if_pos (by rfl)]
  go_wp2_with fail
  refine (h8.out _).mono ?_
  rintro e wa ⟨v, rfl, g8, rfl, b8, gg8, hBa⟩
  have hH1 : Below w2.heap.size w2 wa := below_call ((Below.refl w2.heap.size w2).drew) ((Below.refl w2.heap.size w2).drew).size hBa
  refine hK1.out _ _ (hB.trans (hH1.mono gw.out)) (fun hH => ?_)
  clear hK1 K1 hBa
  refine wpAnyH_ready (rs := [5]) (by kernel_rfl) (by simp) ?_
  refine AllReadyH.cons rfl (fun K1 hK1 => ?_) AllReadyH.nil
  rw [if_pos (by rfl)]
  go_wp2_with fail
  refine (h4.out _).mono ?_
  rintro e wb ⟨v, rfl, g9, rfl, b9, gg9, hBb⟩
  replace b8 := b8.keep hBb
  have hH2 : Below w2.heap.size w2 wb := below_call hH1 hH1.size hBb
  refine hK1.out _ _ (hB.trans (hH2.mono gw.out)) (fun hH => ?_)
  clear hK1 K1 hBb
  have o8 := Blk.own (B := w2.heap.size) b8 (by exact gg8) (by rw [hl8.out]; unfold maxLen; omega)
  have s9 : Sl wb (.slice (some ⟨g9, 0, none⟩) P4.length P4.length) (bv P4) := by
    have := Sl.of_blk (n := P4.length) (c := P4.length) b9 (Nat.le_refl _) (by simp) (by rw [hl4.out]; unfold maxLen; omega)
    rwa [List.take_of_length_le (by simp)] at this
  refine wpAnyH_ready (rs := [6]) (by kernel_rfl) (by simp) ?_
  refine AllReadyH.cons rfl (fun K1 hK1 => ?_) AllReadyH.nil
  rw [if_pos (by rfl)]
  refine wp_append_sl2 (.tmp 8) (.tmp 11) 22 rfl w2.heap.size 5 i0 (.int .u8 0) 1 Try.underlying22 hi hz0 hz1 hz2 rfl _ _ _ rfl o8 _ (bv P4) rfl s9 (bv_oneCell P4) ?_ ?_ hH2.size ?_
  · rw [hl8.out, bv_length, hl4.out]; unfold maxLen; omega
  · rw [hl8.out, bv_length, hl4.out]; omega
  intro v' wc own gr mv
  have hH3 : Below w2.heap.size w2 wc := own_below hH2 gr o8 hH2.size
  rw [show bv P8 ++ bv P4 = bv O from by rw [← hcat.out]; simp [bv]] at own
  have sl := Sl.of_own own
  refine hK1.out _ _ (hB.trans (hH3.mono gw.out)) (fun hH => ?_)
  clear hK1 K1 gr mv own s9 o8 b8 b9
  simp only [Act.put, List.getElem_toArray, List.getElem_cons_succ, List.getElem_cons_zero, List.setIfInBounds_toArray, List.set_cons_zero, List.set_cons_succ, Nat.zero_add]
  refine wpAnyH_ready (rs := [7]) (by kernel_rfl) (by simp) ?_
  refine AllReadyH.cons rfl (fun K1 hK1 => ?_) AllReadyH.nil
  rw [if_pos (by rfl)]
  have n5' := n5.keep hH3
  refine wp_copySl (.tmp 6) (.tmp 12) 22 22 rfl 5 Try.underlying22 (by kernel_rfl) g5 0 12 12 rfl v' (bv O) rfl sl 64 _ n5' ?_ (ones_bv _) ?_
  · rw [hnl.out]; simp
  intro wd nd hKd
  have hBd : Below w.heap.size w wd := (hB.trans (hH3.mono gw.out)).trans (hKd.below (hB.trans (hH3.mono gw.out)).size (by intro b hb; simp only [List.mem_singleton] at hb; subst hb; have := ga.out; have := hg4.out; omega))
  have n4' := (n4.keep hH3).keeps hKd (by simp; have := ga.out; omega)
  rw [show (bv O).take 12 = bv O from List.take_of_length_le (by rw [hnl.out]; exact Nat.le_refl _), putL_all (by rw [hnl.out]; simp)] at nd
  refine hK1.out _ _ hBd (fun hH => ?_)
  clear hK1 K1 hKd n5 n5' n4 sl
  refine wpAnyH_done (by kernel_rfl) ?_ _
  go_wp2_with (first
    | refine wpList_loadW rfl 64 (.tmp 5) rfl 12 arrN12 _ rfl 64 _ nd hnl.out ?_
    | refine wpList_storeW rfl 64 (.tmp 4) (.tmp 14) rfl 12 arrN12 _ rfl (bv O) rfl 64 _ n4' hnl.out (by simp) (ones_bv _) ?_)
  intro wf hf hKf
  go_wp2
  exact bodyPost_ret (v := .agg (bv O).toArray) (res_cell Try.results32 _ _ _ 64 _ arrN12 hnl.out rfl hf) rfl (hR.out _ (hBd.trans (hKf.below hBd.size (by intro b hb; simp only [List.mem_singleton] at hb; subst hb; exact Nat.le_of_eq hg4.out))))
end Go.Proofs.Ytlifpmglaoppoaa

/- Contract of banyanref05: Stream. -/
namespace Go.Proofs.Ytlifpmglaoppoaa
open Go.RowKit
open Go.Proofs.PlainAes
open Go.Proofs.PlainSha

theorem be4_put (x : Nat) : putB x 4 = be4 x := by
  show [x / 16777216 % 256, x / 65536 % 256, x / 256 % 256, x / 1 % 256] = [x / 16777216 % 256, x / 65536 % 256, x / 256 % 256, x % 256]
  rw [Nat.div_one]
/-- Something that reads as these bytes, and no error. -/
def RetSl (l : List Nat) (w : World) (e : Ending) (w' : World) : Prop := ∃ v, e = .returned (.tuple #[v, .int .i64 0]) ∧ Sl w' v (bv l) ∧ Below w.heap.size w w'

set_option maxRecDepth 100000 in
set_option maxHeartbeats 1000000 in
theorem rstream_err (t k n : List Nat) (p m : Int) (w : World) (hp0 : -9223372036854775808 ≤ p) (hp1 : p ≤ 9223372036854775807) (hm0 : -9223372036854775808 ≤ m) (hm1 : m ≤ 9223372036854775807) (hbad : p < 0 ∨ 65536 < p ∨ m < 0 ∨ 65536 < m) :
    Calls Try.prog 50 #[.agg (bv t).toArray, .agg (bv k).toArray, .agg (bv n).toArray, .int .i64 p, .int .i64 m] w (RetE w) := by
  have hB := Lib.hid (show Below w.heap.size w (((w.alloc (.cells (bv t).toArray 38)).alloc (.cells (bv k).toArray 24)).alloc (.cells (bv n).toArray 64)) from (((Below.refl _ _).alloc (Nat.le_refl _) _).alloc (by simp) _).alloc (by simp; omega) _)
  have hR : Hid (∀ w', Below w.heap.size w w' → RetE w (.returned (.tuple #[.slice none 0 0, .int .i64 2])) w') := fun w' h => ⟨rfl, h⟩
  generalize RetE w = RX at *
  replace hbad := Lib.hid hbad
  by_cases h1 : p < 0
  · go_enter Try.func50, Try.ntmps50
    go_wp2
    exact hR.out _ hB.out
  · by_cases h2 : 65536 < p
    · go_enter Try.func50, Try.ntmps50
      go_wp2
      exact hR.out _ hB.out
    · by_cases h3 : m < 0
      · go_enter Try.func50, Try.ntmps50
        go_wp2
        exact hR.out _ hB.out
      · have h4 : 65536 < m := by have := hbad.out; omega
        go_enter Try.func50, Try.ntmps50
        go_wp2
        exact hR.out _ hB.out

/-- What lies there while a stream is made. -/
structure Sq (w : World) (k n : List Nat) (wr : World) : Prop where
  t : Blk wr w.heap.size 38 (bv (tbl box))
  k : Blk wr (w.heap.size + 1) 24 (bv k)
  n : Blk wr (w.heap.size + 1 + 1) 64 (bv n)
  below : Below w.heap.size w wr
theorem Sq.below' {w wr wr' : World} {k n : List Nat} {B : Nat} (h : Sq w k n wr) (hB : Below B wr wr') (h3 : w.heap.size + 1 + 1 < B) : Sq w k n wr' :=
  ⟨h.t.below hB (by omega), h.k.below hB (by omega), h.n.below hB h3, h.below.trans (hB.mono (by omega))⟩
set_option maxRecDepth 100000 in
set_option maxHeartbeats 4000000 in
theorem rstream_any (k n : List Nat) (p m : Nat) (w : World) (hk : k.length = 32) (bk : Byt k) (hn : n.length = 12) (bn : Byt n) (hp : (p : Int) ≤ 65536) (hm : (m : Int) ≤ 65536) :
    Calls Try.prog 50 #[.agg (bv (tbl box)).toArray, .agg (bv k).toArray, .agg (bv n).toArray, .int .i64 (p : Int), .int .i64 (m : Int)] w (RetSl (strm k n p m) w) := by
  obtain ⟨i0, hi, hz0, hz1, hz2⟩ := info_parts (P := Try.prog) (e := 5) (z := .int .u8 0) (size := 1) (bytes := 1) (by kernel_rfl)
  have hsb : Hid (∀ (i : Nat) (w : World), Calls Try.prog 66 #[.agg (bv (tbl box)).toArray, .agg (bv k).toArray, .agg (bv (nblk n i)).toArray] w (RetA (sblk k n i) w)) :=
    fun i w => rseal_any k (nblk n i) w hk bk (nblk_length hn i) (nblk_byt bn i)
  have hby := Lib.hid (fun (i : Nat) (hi : (i : Int) ≤ 65536) w => rbytes_row i 4 w (by omega) (by omega) (by omega))
  have hstep := Lib.hid (fun q j => strm_block hk hn q j)
  have hpart := Lib.hid (fun j h => strm_part k n p m j h)
  have hkl := Lib.hid (show (bv k).length = 32 by simp [hk])
  have hnl := Lib.hid (show (bv n).length = 12 by simp [hn])
  have hsl := Lib.hid (fun i => show (bv (sblk k n i)).length = 16 by simp [sblk_length hk hn])
  have hbl := Lib.hid (fun i => show (bv (nblk n i)).length = 16 by simp [nblk_length hn])
  have hlo : Hid (putL (bv (zeros 16)) 0 (bv n) = bv (n ++ zeros 4)) := put_lo n hn
  have hhi : Hid (∀ i, putL (bv (n ++ zeros 4)) 12 (bv (be4 i)) = bv (nblk n i)) := fun i => by
    show _ = _
    rw [putL_bv]
    congr 1
    exact put_hi n hn i
  have hlen4 : Hid ((bv (n ++ zeros 4)).length = 16) := by show _ = _; simp [hn]
  have h00 : Hid (m = 0 → strm k n p m = []) := fun h => by subst h; rfl
  have hLl : Hid (∀ a b, (strm k n a b).length = b) := fun a b => strm_length k n a b
  have q1 : Int.tmod (p : Int) 16 = ((p % 16 : Nat) : Int) := by rw [Int.tmod_eq_emod_of_nonneg (by omega)]; omega
  have q2 : Int.tdiv (p : Int) 16 = ((p / 16 : Nat) : Int) := by rw [Int.tdiv_eq_ediv_of_nonneg (by omega)]; omega
  have q3 : (p : Int) / 16 = ((p / 16 : Nat) : Int) := by omega
  have q4 : (p : Int) % 16 = ((p % 16 : Nat) : Int) := by omega
  have hsk : ((p % 16 : Nat) : Int) ≤ 15 := by omega
  have hq : ((p / 16 : Nat) : Int) ≤ 4096 := by omega
  have hpq := Lib.hid (show p = 16 * (p / 16) + p % 16 by omega)
  have hR : Hid (∀ v w', Sl w' v (bv (strm k n p m)) → Below w.heap.size w w' → RetSl (strm k n p m) w (.returned (.tuple #[v, .int .i64 0])) w') := fun v w' h1 h2 => ⟨v, rfl, h1, h2⟩
  generalize RetSl (strm k n p m) w = RX at *
  clear hk bk hn bn
  generalize hS : p % 16 = sk at *
  generalize hQ : p / 16 = q at *
  clear hS hQ
  have h0 : Sq w k n (((w.alloc (.cells (bv (tbl box)).toArray 38)).alloc (.cells (bv k).toArray 24)).alloc (.cells (bv n).toArray 64)) :=
    ⟨((Blk.new_at rfl rfl).alloc _).alloc _, (Blk.new_at (by simp) rfl).alloc _, Blk.new_at (by simp) rfl, (((Below.refl _ _).alloc (Nat.le_refl _) _).alloc (by simp) _).alloc (by simp; omega) _⟩
  replace h0 := Lib.hid h0
  have hz3 : Hid ((((w.alloc (.cells (bv (tbl box)).toArray 38)).alloc (.cells (bv k).toArray 24)).alloc (.cells (bv n).toArray 64)).heap.size = w.heap.size + 1 + 1 + 1) := by show _ = _; simp
  go_enter Try.func50, Try.ntmps50
  go_wp2
  try simp only [q2, q3]
  go_loopw [12, 13] (fun s i wr => ∃ j : Nat, i = .int .i64 ((q : Int) + (j : Int)) ∧ (16 * j : Int) ≤ (sk : Int) + m + 15 ∧
    wr.ownsRow (w.heap.size + 1 + 1 + 1) 5 1 s (16 * j) (bv (strm k n (16 * q) (16 * j))) ∧ w.heap.size + 1 + 1 + 1 ≤ wr.heap.size ∧ Sq w k n wr) (fun _ i _ => 100000 - (intOf i).toNat)
  case atStart => exact ⟨0, by simp, by omega, World.ownsRow_nil _ _ _ _, by rw [hz3.out]; exact Nat.le_refl _, h0.out⟩
  case round =>
    clear h0 hz3
    obtain ⟨j, rfl, hj, own, hsz, hE⟩ := hrel
    have hpI := hpq.out
    by_cases hlt : (16 * j : Int) < (sk : Int) + m
    · have e2 : (p : Int) + (m : Int) = 16 * (q : Int) + ((sk : Int) + (m : Int)) := by omega
      have hst := Lib.hid (hstep.out q j)
      have hsl := Lib.hid (hsl.out (q + j))
      have hbl := Lib.hid (hbl.out (q + j))
      have hsb := Lib.hid (fun w => hsb.out (q + j) w)
      have hby := Lib.hid (fun w => hby.out (q + j) (by omega) w)
      have hhi := Lib.hid (hhi.out (q + j))
      rw [be4_put] at hby
      have hb4 := Lib.hid (be4_length (q + j))
      have hLl1 := Lib.hid (hLl.out (16 * q) (16 * j))
      generalize strm k n (16 * q) (16 * j) = L at *
      generalize sblk k n (q + j) = S at *
      generalize nblk n (q + j) = NB at *
      generalize be4 (q + j) = B4 at *
      have e1 : ((q + j : Nat) : Int) = (q : Int) + (j : Int) := by omega
      rw [e1] at hby
      have own := Lib.hid own
      clear e1 hpI
      go_wp2_with (refine wpList_allocA rfl 71 rfl (bv (zeros 16)) (by kernel_rfl) ?_)
      intro w3 h3 hK3 hz3
      have hB3 : Below wr.heap.size wr w3 := hK3.below (Nat.le_refl _) (by simp)
      have hgb := Lib.hid (show w.heap.size + 1 + 1 < wr.heap.size from hE.n.lt)
      have hsz' := Lib.hid hsz
      generalize hgw : wr.heap.size = gb at *
      replace hgw := Lib.hid hgw
      have hle := Lib.hid (Nat.le_of_eq hgw.out.symm)
      have hn3 := (hE.below' hB3 hgb.out).n
      replace hE := Lib.hid hE
      clear hK3
      go_wp2
      go_still_tail 2, (by kernel_rfl)
      change wpList _ _ _ _ _ w3.drew
      go_wp2_with (refine wpList_copyA rfl (.tmp 39) (.tmp 40) 22 22 rfl 5 Try.underlying22 (by kernel_rfl) gb _ _ _ rfl ⟨w.heap.size + 1 + 1, _, none⟩ _ _ rfl 71 _ h3.drew (bv n) ?_ ?_ ?_ (ones_bv _) ?_)
      · rw [hnl.out]; rfl
      · intro j v hj
        rw [hn3.drew.cellAdd, Nat.zero_add]
        exact hj
      · rw [hnl.out]; simp
      intro w4 h4 hK4
      rw [hlo.out] at h4
      have hB4 : Below gb wr w4 := hB3.drew.trans (hK4.below (Nat.le_trans hle.out hB3.drew.size) (by simp))
      clear hK4 h3 hn3
      have hz4 : gb < w4.heap.size := h4.lt
      have hcv : IntKind.u64.wrap ((q : Int) + (j : Int)) = (q : Int) + (j : Int) := by rw [IntKind.wrap_u64]; omega
      go_upto_region 9 with fail
      refine wp_region_held_drew (S := fun w' => Below gb wr w') (by kernel_rfl) hB4.drew (fun hH => ?_)
      refine takeH_S (o := ⟨some 42, _, _, _, _, _⟩) (i := 0) rfl (by kernel_rfl) (by kernel_rfl) (by kernel_rfl) (fun _ _ _ _ h => h) rfl (.slice (some ⟨gb, 12, none⟩) 4 4) (fun w _ => by go_simp) hH ?_
      simp only [Act.put, List.setIfInBounds_toArray, List.set_cons_zero, List.set_cons_succ, Nat.zero_add, decide_true, beq_self_eq_true]
      refine takeH_move (o := ⟨some 43, _, _, _, _, _⟩) (i := 1) rfl (by kernel_rfl) (by kernel_rfl) (by kernel_rfl) (fun _ _ _ _ h => h) rfl (.tmp 13) rfl (.int .i64 ((q : Int) + (j : Int))) rfl hH ?_
      simp only [Act.put, List.setIfInBounds_toArray, List.set_cons_zero, List.set_cons_succ, Nat.zero_add, decide_true, beq_self_eq_true]
      refine takeH_S (o := ⟨some 44, _, _, _, _, _⟩) (i := 2) rfl (by kernel_rfl) (by kernel_rfl) (by kernel_rfl) (fun _ _ _ _ h => h) rfl (.int .u64 ((q : Int) + (j : Int))) (fun w _ => by go_simp) hH ?_
      simp only [Act.put, List.setIfInBounds_toArray, List.set_cons_zero, List.set_cons_succ, Nat.zero_add, decide_true, beq_self_eq_true]
      clear hcv
      refine wpAnyH_ready (rs := [3]) (by kernel_rfl) (by simp) ?_
      refine AllReadyH.cons rfl (fun K1 hK1 => ?_) AllReadyH.nil
      rw [if_pos (by rfl)]
      go_wp2_with fail
      refine (hby.out _).mono ?_
      rintro e wa ⟨v, rfl, g9, rfl, b9, gg9, hBa⟩
      have hBA : Below gb wr wa := below_call hH (Nat.le_trans hle.out hH.size) hBa
      replace h4 := h4.drew.keep hBa
      refine hK1.out _ _ hBA (fun hH => ?_)
      clear hK1 K1 hBa
      have s9 : Sl wa (.slice (some ⟨g9, 0, none⟩) B4.length B4.length) (bv B4) := by
        have := Sl.of_blk (n := B4.length) (c := B4.length) b9 (Nat.le_refl _) (by simp) (by rw [hb4.out]; unfold maxLen; omega)
        rwa [List.take_of_length_le (by simp)] at this
      refine wpAnyH_ready (rs := [4]) (by kernel_rfl) (by simp) ?_
      refine AllReadyH.cons rfl (fun K1 hK1 => ?_) AllReadyH.nil
      rw [if_pos (by rfl)]
      refine wp_copySl (.tmp 42) (.tmp 45) 22 22 rfl 5 Try.underlying22 (by kernel_rfl) gb 12 4 4 rfl _ (bv B4) rfl s9 71 _ h4 ?_ (ones_bv _) ?_
      · rw [hlen4.out, bv_length, hb4.out]; decide
      intro w5 h5 hK5
      rw [show (bv B4).take 4 = bv B4 from List.take_of_length_le (by rw [bv_length, hb4.out]; exact Nat.le_refl _), hhi.out] at h5
      have hB5 : Below gb wr w5 := hBA.trans (hK5.below (Nat.le_trans hle.out hBA.size) (by simp))
      refine hK1.out _ _ hB5 (fun hH => ?_)
      clear hK1 K1 hK5 h4 s9 b9 hBA hz4
      simp only [Act.put, List.getElem_toArray, List.getElem_cons_succ, List.getElem_cons_zero, List.setIfInBounds_toArray, List.set_cons_zero, List.set_cons_succ, Nat.zero_add]
      refine wpAnyH_done (by kernel_rfl) ?_ _
      have hE5 := hE.out.below' hB5 hgb.out
      have st := hE5.t
      have sk' := hE5.k
      clear hE5
      go_wp2_with (first
        | refine wpList_loadW rfl 38 (.tmp 5) rfl 256 arrT256 _ rfl 38 _ st (tbl_len _) ?_
        | refine wpList_loadW rfl 24 (.tmp 6) rfl 32 arrK32 _ rfl 24 _ sk' hkl.out ?_
        | refine wpList_loadW rfl 71 (.tmp 14) rfl 16 arrR16 _ rfl 71 _ h5 hbl.out ?_
        | (go_at_call 66; refine (hsb.out _).mono ?_; rintro e w6 ⟨rfl, hB6⟩)
        | refine wpList_storeW rfl 71 (.tmp 14) (.tmp 50) rfl 16 arrR16 gb rfl (bv S) rfl 71 _ (h5.keep hB6) hsl.out hbl.out (ones_bv _) ?_)
      intro w7 h7 hK7
      have hB7 : Below gb wr w7 := (below_call hB5 (Nat.le_trans hle.out hB5.size) hB6).trans (hK7.below (Nat.le_trans hle.out (below_call hB5 (Nat.le_trans hle.out hB5.size) hB6).size) (by simp))
      have own7 := own_keep own.out (by rw [hgw.out]; exact hB7)
      have sl7 : Sl w7 (.slice (some ⟨gb, 0, none⟩) 16 16) (bv S) := by
        have := Sl.of_blk (n := 16) (c := 16) h7 (Nat.le_refl _) (by rw [hsl.out]; exact Nat.le_refl _) (by unfold maxLen; omega)
        rwa [List.take_of_length_le (by rw [hsl.out]; exact Nat.le_refl _)] at this
      clear hK7 hB6 h5 st sk' hB5
      have hz7 : w.heap.size + 1 + 1 + 1 ≤ w7.heap.size := by have := hB7.size; have := hsz'.out; have := hgw.out; omega
      have hE7 := Lib.hid (hE.out.below' hB7 hgb.out)
      go_wp2_with (at_builtin; refine wpList_append_sl rfl (.tmp 51) (.tmp 52) 22 rfl (w.heap.size + 1 + 1 + 1) 5 i0 (.int .u8 0) 1 Try.underlying22 hi hz0 hz1 hz2 rfl _ _ _ rfl own7 _ (bv S) rfl sl7 (bv_oneCell S) ?_ ?_ hz7 ?_)
      · rw [hsl.out]; unfold maxLen; omega
      · rw [hsl.out]; omega
      intro v' w8 own8 gr8
      have hB8 := own_below (Below.refl (w.heap.size + 1 + 1 + 1) w7) gr8 own7 hz7
      rw [show S.length = 16 from by have := hsl.out; rwa [bv_length] at this, show bv L ++ bv S = bv (strm k n (16 * q) (16 * (j + 1))) from by rw [← hst.out]; simp [bv], show 16 * j + 16 = 16 * (j + 1) from by omega] at own8
      have hE8 := hE7.out.below' hB8 (by omega)
      have hz8 : w.heap.size + 1 + 1 + 1 ≤ w8.heap.size := Nat.le_trans hz7 hB8.size
      replace own8 := Lib.hid own8
      clear gr8 own7 sl7 hB8 hB7 h7
      go_wp2
      go_roundw
      case rel => exact ⟨j + 1, by go_num, by omega, own8.out, hz8, hE8⟩
      case measure => simp [intOf]; omega
    · have e2 : (p : Int) + (m : Int) = 16 * (q : Int) + ((sk : Int) + (m : Int)) := by omega
      have hpt := hpart.out j (by omega)
      by_cases hm0 : (m : Int) = 0
      · have hnil := h00.out (by omega)
        rw [hnil] at hR
        have hB := hE.below
        clear hE own hpt hpI hpq
        go_wp2
        exact hR.out _ _ (Sl.nil_ _) hB
      · obtain ⟨g, c, rfl, hc1, hc2⟩ := own_form own (by omega)
        have sl := own_part own sk m (by omega) hc2 hc1
        rw [show ((bv (strm k n (16 * q) (16 * j))).drop sk).take m = bv (strm k n p m) from by rw [← hpt]; simp [bv]] at sl
        generalize strm k n p m = T at *
        have sl := Lib.hid sl
        have hB := Lib.hid hE.below
        have hJ : (sk : Int) + m ≤ ((16 * j : Nat) : Int) := by omega
        have hJ2 : ((16 * j : Nat) : Int) ≤ (c : Int) := by omega
        clear hE hpt own hpI hc1 hc2 hpq
        go_wp2
        exact hR.out _ _ sl.out hB.out
end Go.Proofs.Ytlifpmglaoppoaa

/- Contract of banyanref05: Crypt. -/
namespace Go.Proofs.Ytlifpmglaoppoaa
open Go.RowKit
open Go.Proofs.PlainAes

set_option maxRecDepth 100000 in
set_option maxHeartbeats 1000000 in
theorem rcrypt_err (k n : List Nat) (A : Option Addr) (len cap : Nat) (w : World) (hk : k.length = 32) (hn : n.length = 12) (hl : 65536 < (len : Int)) (hl2 : (len : Int) ≤ 9223372036854775807) :
    Calls Try.prog 31 #[.agg (bv (tbl box)).toArray, .agg (bv k).toArray, .agg (bv n).toArray, .slice A len cap] w (RetE w) := by
  have hst := Lib.hid (fun w => rstream_err (tbl box) k n 0 len w (by omega) (by omega) (by omega) hl2 (.inr (.inr (.inr hl))))
  have hkl := Lib.hid (show (bv k).length = 32 by simp [hk])
  have hnl := Lib.hid (show (bv n).length = 12 by simp [hn])
  have t0 := ((Blk.new_at (w := w) (t := 38) (cs := (bv (tbl box)).toArray) rfl rfl).alloc (.cells (bv k).toArray 24)).alloc (.cells (bv n).toArray 64)
  have k0 := (Blk.new_at (w := w.alloc (.cells (bv (tbl box)).toArray 38)) (n := w.heap.size + 1) (t := 24) (cs := (bv k).toArray) (by simp) rfl).alloc (.cells (bv n).toArray 64)
  have n0 := Blk.new_at (w := (w.alloc (.cells (bv (tbl box)).toArray 38)).alloc (.cells (bv k).toArray 24)) (n := w.heap.size + 1 + 1) (t := 64) (cs := (bv n).toArray) (by simp) rfl
  have hB0 := Lib.hid (show Below w.heap.size w (((w.alloc (.cells (bv (tbl box)).toArray 38)).alloc (.cells (bv k).toArray 24)).alloc (.cells (bv n).toArray 64)) from (((Below.refl _ _).alloc (Nat.le_refl _) _).alloc (by simp) _).alloc (by simp; omega) _)
  have hR : Hid (∀ w', Below w.heap.size w w' → RetE w (.returned (.tuple #[.slice none 0 0, .int .i64 2])) w') := fun w' h => ⟨rfl, h⟩
  simp only [List.size_toArray] at k0 n0 t0
  clear hk hn hl
  generalize RetE w = RX at *
  go_enter Try.func31, Try.ntmps31
  go_wp2_with (first
    | refine wpList_loadW rfl 38 (.tmp 4) rfl 256 arrT256 _ rfl 38 _ t0 (tbl_len _) ?_
    | refine wpList_loadW rfl 24 (.tmp 5) rfl 32 arrK32 _ rfl 24 _ k0 hkl.out ?_
    | refine wpList_loadW rfl 64 (.tmp 6) rfl 12 arrN12 _ rfl 64 _ n0 hnl.out ?_
    | (go_at_call 50; refine (hst.out _).mono ?_; rintro e w2 ⟨rfl, hB2⟩))
  exact hR.out _ (below_call hB0.out hB0.out.size hB2)

set_option maxRecDepth 100000 in
set_option maxHeartbeats 2000000 in
theorem rcrypt_core (k n l : List Nat) (A : Option Addr) (len cap : Nat) (w : World) (hlen : len = l.length) (hk : k.length = 32) (bk : Byt k) (hn : n.length = 12) (bn : Byt n) (bl : Byt l) (hl : (l.length : Int) ≤ 65536) (hs : Sl w (.slice A len cap) (bv l)) :
    Calls Try.prog 31 #[.agg (bv (tbl box)).toArray, .agg (bv k).toArray, .agg (bv n).toArray, .slice A len cap] w (RetOK (crypt k n l) w) := by
  obtain ⟨i0, hi, hz0, hz1, hz2⟩ := info_parts (P := Try.prog) (e := 5) (z := .int .u8 0) (size := 1) (bytes := 1) (by kernel_rfl)
  have hst := Lib.hid (fun w => rstream_any k n 0 l.length w hk bk hn bn (by omega) hl)
  have hkl := Lib.hid (show (bv k).length = 32 by simp [hk])
  have hnl := Lib.hid (show (bv n).length = 12 by simp [hn])
  have Bs := Lib.hid (show Byt (strm k n 0 l.length) from strm_lt bk bn _ _)
  have Hs := Lib.hid (show (strm k n 0 l.length).length = l.length from strm_length _ _ _ _)
  have hC : crypt k n l = xorl (strm k n 0 l.length) l := rfl
  rw [hC]
  clear hk bk hn bn hC
  generalize strm k n 0 l.length = S at *
  have Hx := Lib.hid (show (xorl S l).length = l.length by rw [xorl_length Hs.out, Hs.out])
  have hcomm : Hid (∀ a b : Nat, a ^^^ b = b ^^^ a) := fun a b => Nat.xor_comm a b
  have Bl := Lib.hid bl
  have hR : Hid (∀ v w', w'.ownsRow w.heap.size 5 1 v len (bv (xorl S l)) → Below w.heap.size w w' → RetOK (xorl S l) w (.returned (.tuple #[v, .int .i64 0])) w') := fun v w' h1 h2 => ⟨v, rfl, by rw [Hx.out, ← hlen]; exact h1, h2⟩
  generalize RetOK (xorl S l) w = RX at *
  clear bl
  generalize hm : l.length = m at *
  subst hlen
  replace hm := Lib.hid hm
  replace hs := Lib.hid hs
  have t0 := ((Blk.new_at (w := w) (t := 38) (cs := (bv (tbl box)).toArray) rfl rfl).alloc (.cells (bv k).toArray 24)).alloc (.cells (bv n).toArray 64)
  have k0 := (Blk.new_at (w := w.alloc (.cells (bv (tbl box)).toArray 38)) (n := w.heap.size + 1) (t := 24) (cs := (bv k).toArray) (by simp) rfl).alloc (.cells (bv n).toArray 64)
  have n0 := Blk.new_at (w := (w.alloc (.cells (bv (tbl box)).toArray 38)).alloc (.cells (bv k).toArray 24)) (n := w.heap.size + 1 + 1) (t := 64) (cs := (bv n).toArray) (by simp) rfl
  have hB0 := Lib.hid (show Below w.heap.size w (((w.alloc (.cells (bv (tbl box)).toArray 38)).alloc (.cells (bv k).toArray 24)).alloc (.cells (bv n).toArray 64)) from (((Below.refl _ _).alloc (Nat.le_refl _) _).alloc (by simp) _).alloc (by simp; omega) _)
  simp only [List.size_toArray] at k0 n0 t0
  go_enter Try.func31, Try.ntmps31
  go_wp2_with (first
    | refine wpList_loadW rfl 38 (.tmp 4) rfl 256 arrT256 _ rfl 38 _ t0 (tbl_len _) ?_
    | refine wpList_loadW rfl 24 (.tmp 5) rfl 32 arrK32 _ rfl 24 _ k0 hkl.out ?_
    | refine wpList_loadW rfl 64 (.tmp 6) rfl 12 arrN12 _ rfl 64 _ n0 hnl.out ?_
    | (go_at_call 50; refine (hst.out _).mono ?_; rintro e w2 ⟨v, rfl, sl, hB2⟩; obtain ⟨A2, c2, hv, hv2, hv3, -⟩ := id sl; rw [show (bv S).length = len from by rw [bv_length, Hs.out]] at hv hv2; subst hv; replace sl := Lib.hid sl; replace hB2 := below_call hB0.out hB0.out.size hB2; have own0 : (w2.alloc (.cells #[] 5)).ownsRow w2.heap.size 5 1 (.slice (some ⟨w2.heap.size, 0, none⟩) 0 0) 0 [] := World.ownsRow_made w2 #[] 0 (Nat.le_refl _) (Nat.zero_le _) rfl; have bel0 : Below w2.heap.size w2 (w2.alloc (.cells #[] 5)) := (Below.refl _ _).alloc (Nat.le_refl _) _; have sl0 := hs.out.keep ((hB2.trans (bel0.mono hB2.size)).mono (Nat.le_refl _)))
    | (at_builtin; refine wpList_append_sl rfl (.tmp 26) (.tmp 27) 22 rfl w2.heap.size 5 i0 (.int .u8 0) 1 Try.underlying22 hi hz0 hz1 hz2 rfl _ 0 [] rfl own0 _ (bv l) rfl sl0 (bv_oneCell l) ?_ ?_ ?_ ?_))
  · rw [bv_length, hm.out]; unfold maxLen; omega
  · rw [bv_length, hm.out]; omega
  · simp
  intro v' w3 own1 gr1
  have bel1 := own_below bel0 gr1 own0 (by simp)
  clear gr1 own0 sl0 bel0 t0 k0 n0
  have own1 : w3.ownsRow w2.heap.size 5 1 v' len (bv l) := by have := own1; simp only [bv_length, hm.out, Nat.zero_add, List.nil_append] at this; exact this
  obtain ⟨A3, c3, hv4, hv5, -, -⟩ := Sl.of_own own1
  rw [show (bv l).length = len from by rw [bv_length, hm.out]] at hv4 hv5
  subst hv4
  have hw2 := Lib.hid hB2.size
  have hz3 := Lib.hid bel1.size
  replace hB2 := Lib.hid hB2
  replace own1 := Lib.hid own1
  replace bel1 := Lib.hid bel1
  clear hB0
  go_wp2
  go_loopw [31] (fun i wr => ∃ j : Nat, (j : Int) ≤ len ∧ i = .int .i64 (j : Int) ∧ wr.ownsRow w2.heap.size 5 1 (.slice A3 len c3) len (bv (upd (xorl S l) l j)) ∧ Below w2.heap.size w2 wr) (fun i _ => len - (intOf i).toNat)
  case atStart => exact ⟨0, by omega, rfl, by rw [upd_zero]; exact own1.out, bel1.out⟩
  case round =>
    obtain ⟨j, hj, rfl, own, hB⟩ := hrel
    by_cases hlt : (j : Int) < len
    · obtain ⟨g, c', e, -, -⟩ := own_form own (by omega)
      cases e
      have c1 := own.cellAt j (by omega)
      have f1 := own.frozenAt j
      obtain ⟨x, hx⟩ := get_lt (l := S) (k := j) (by have := Hs.out; omega)
      obtain ⟨y, hy⟩ := get_lt (l := l) (k := j) (by have := hm.out; omega)
      rw [bv_get, upd_get (by have := hm.out; have := Hx.out; omega) (Nat.le_refl _) (by have := hm.out; omega), hy] at c1
      simp only [Option.map_some] at c1
      obtain ⟨A', cc, e', -, -, hce⟩ := sl.out.keep hB
      obtain ⟨g2, o2, e2, hcell⟩ := hce (by rw [bv_length, Hs.out]; omega)
      have eA : A2 = some ⟨g2, o2, none⟩ := by rw [← e2]; injection e'
      subst eA
      clear e' e2
      have c2 := hcell j _ (bv_some hx)
      obtain ⟨hxy, hl2⟩ := x8 (Bl.out.get hy) (Bs.out.get hx)
      rw [hcomm.out y x] at hxy
      have hst := (own.stored j (.int .u8 ((x ^^^ y : Nat) : Int)))
      rw [bv_set, upd_set (by have := hm.out; have := Hx.out; omega) (by have := hm.out; omega) (xorl_get hx hy)] at hst
      have hst := Lib.hid hst
      have own := Lib.hid own
      clear hx hy hcell hce hl2
      go_wp2
      go_still_tail 10, (by kernel_rfl)
      change wpList _ _ _ _ _ wr.drew
      go_wp2
      go_roundw
      case rel =>
        refine ⟨j + 1, by omega, by go_num, hst.out.1, ?_⟩
        exact hB.drew.setCell (by simp; exact (own.out.lt g rfl).1) _
      case measure => simp [intOf]; omega
    · obtain rfl : j = len := by omega
      rw [upd_all Hx.out hm.out] at own
      replace own := Lib.hid (ownsRow_mono own hw2.out)
      have hBf := Lib.hid (hB2.out.trans (hB.mono hw2.out))
      go_wp2
      exact hR.out _ _ own.out hBf.out
end Go.Proofs.Ytlifpmglaoppoaa
