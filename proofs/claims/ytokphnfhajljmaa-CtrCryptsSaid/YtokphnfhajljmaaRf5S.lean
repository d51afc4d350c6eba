/- Contract of banyanref05: Stream. -/
import Derived.Test.YtokphnfhajljmaaRf5M
import Derived.Test.YtokphnfhajljmaaRefL
import Derived.Test.YtokphnfhajljmaaCtrE
set_option linter.unusedVariables false
set_option linter.unusedSimpArgs false
namespace Go.Proofs.Ytokphnfhajljmaa
open Go.RowKit
open Go.Proofs.PlainAes
open Go.Proofs.PlainSha

theorem be4_put (x : Nat) : putB x 4 = be4 x := by
  show [x / 16777216 % 256, x / 65536 % 256, x / 256 % 256, x / 1 % 256] = [x / 16777216 % 256, x / 65536 % 256, x / 256 % 256, x % 256]
  rw [Nat.div_one]
/-- Something that reads as these bytes, and no error. -/
def RetSl (l : List Nat) (w : World) (e : Ending) (w' : World) : Prop := ∃ v, e = .returned (.tuple #[v, .int .i64 0]) ∧ Sl w' v (bv l) ∧ Below w.heap.size w w'

set_option maxRecDepth 100000 in
set_option maxHeartbeats 1000000 in
theorem rstream_err (t k n : List Nat) (p m : Int) (w : World) (hp0 : -9223372036854775808 ≤ p) (hp1 : p ≤ 9223372036854775807) (hm0 : -9223372036854775808 ≤ m) (hm1 : m ≤ 9223372036854775807) (hbad : p < 0 ∨ 65536 < p ∨ m < 0 ∨ 65536 < m) :
    Calls Try.prog 12 #[.agg (bv t).toArray, .agg (bv k).toArray, .agg (bv n).toArray, .int .i64 p, .int .i64 m] w (RetE w) := by
  have hB := Lib.hid (show Below w.heap.size w (((w.alloc (.cells (bv t).toArray 37)).alloc (.cells (bv k).toArray 22)).alloc (.cells (bv n).toArray 29)) from (((Below.refl _ _).alloc (Nat.le_refl _) _).alloc (by simp) _).alloc (by simp; omega) _)
  have hR : Hid (∀ w', Below w.heap.size w w' → RetE w (.returned (.tuple #[.slice none 0 0, .int .i64 2])) w') := fun w' h => ⟨rfl, h⟩
  generalize RetE w = RX at *
  replace hbad := Lib.hid hbad
  by_cases h1 : p < 0
  · go_enter Try.func12, Try.ntmps12
    go_wp2
    exact hR.out _ hB.out
  · by_cases h2 : 65536 < p
    · go_enter Try.func12, Try.ntmps12
      go_wp2
      exact hR.out _ hB.out
    · by_cases h3 : m < 0
      · go_enter Try.func12, Try.ntmps12
        go_wp2
        exact hR.out _ hB.out
      · have h4 : 65536 < m := by have := hbad.out; omega
        go_enter Try.func12, Try.ntmps12
        go_wp2
        exact hR.out _ hB.out

/-- What lies there while a stream is made. -/
structure Sq (w : World) (k n : List Nat) (wr : World) : Prop where
  t : Blk wr w.heap.size 37 (bv (tbl box))
  k : Blk wr (w.heap.size + 1) 22 (bv k)
  n : Blk wr (w.heap.size + 1 + 1) 29 (bv n)
  below : Below w.heap.size w wr
theorem Sq.below' {w wr wr' : World} {k n : List Nat} {B : Nat} (h : Sq w k n wr) (hB : Below B wr wr') (h3 : w.heap.size + 1 + 1 < B) : Sq w k n wr' :=
  ⟨h.t.below hB (by omega), h.k.below hB (by omega), h.n.below hB h3, h.below.trans (hB.mono (by omega))⟩
set_option maxRecDepth 100000 in
set_option maxHeartbeats 4000000 in
theorem rstream_any (k n : List Nat) (p m : Nat) (w : World) (hk : k.length = 32) (bk : Byt k) (hn : n.length = 12) (bn : Byt n) (hp : (p : Int) ≤ 65536) (hm : (m : Int) ≤ 65536) :
    Calls Try.prog 12 #[.agg (bv (tbl box)).toArray, .agg (bv k).toArray, .agg (bv n).toArray, .int .i64 (p : Int), .int .i64 (m : Int)] w (RetSl (strm k n p m) w) := by
  obtain ⟨i0, hi, hz0, hz1, hz2⟩ := info_parts (P := Try.prog) (e := 5) (z := .int .u8 0) (size := 1) (bytes := 1) (by kernel_rfl)
  have hsb : Hid (∀ (i : Nat) (w : World), Calls Try.prog 25 #[.agg (bv (tbl box)).toArray, .agg (bv k).toArray, .agg (bv (nblk n i)).toArray] w (RetA (sblk k n i) w)) :=
    fun i w => rseal_any k (nblk n i) w hk bk (nblk_length hn i) (nblk_byt bn i)
  have hby := Lib.hid (fun (i : Nat) (hi : (i : Int) ≤ 65536) w => rbytes_row i 4 w (by omega) (by omega) (by omega))
  have hstep := Lib.hid (fun q j => strm_block hk hn q j)
  have hpart := Lib.hid (fun j h => strm_part k n p m j h)
  have hkl := Lib.hid (show (bv k).length = 32 by simp [hk])
  have hnl := Lib.hid (show (bv n).length = 12 by simp [hn])
  have hsl := Lib.hid (fun i => show (bv (sblk k n i)).length = 16 by simp [sblk_length hk hn])
  have hbl := Lib.hid (fun i => show (bv (nblk n i)).length = 16 by simp [nblk_length hn])
  have hlo : Hid (putL (bv (zeros 16)) 0 (bv n) = bv (n ++ zeros 4)) := put_lo n hn
  have hhi : Hid (∀ i, putL (bv (n ++ zeros 4)) 12 (bv (be4 i)) = bv (nblk n i)) := fun i => by
    show _ = _
    rw [putL_bv]
    congr 1
    exact put_hi n hn i
  have hlen4 : Hid ((bv (n ++ zeros 4)).length = 16) := by show _ = _; simp [hn]
  have h00 : Hid (m = 0 → strm k n p m = []) := fun h => by subst h; rfl
  have hLl : Hid (∀ a b, (strm k n a b).length = b) := fun a b => strm_length k n a b
  have q1 : Int.tmod (p : Int) 16 = ((p % 16 : Nat) : Int) := by rw [Int.tmod_eq_emod_of_nonneg (by omega)]; omega
  have q2 : Int.tdiv (p : Int) 16 = ((p / 16 : Nat) : Int) := by rw [Int.tdiv_eq_ediv_of_nonneg (by omega)]; omega
  have q3 : (p : Int) / 16 = ((p / 16 : Nat) : Int) := by omega
  have q4 : (p : Int) % 16 = ((p % 16 : Nat) : Int) := by omega
  have hsk : ((p % 16 : Nat) : Int) ≤ 15 := by omega
  have hq : ((p / 16 : Nat) : Int) ≤ 4096 := by omega
  have hpq := Lib.hid (show p = 16 * (p / 16) + p % 16 by omega)
  have hR : Hid (∀ v w', Sl w' v (bv (strm k n p m)) → Below w.heap.size w w' → RetSl (strm k n p m) w (.returned (.tuple #[v, .int .i64 0])) w') := fun v w' h1 h2 => ⟨v, rfl, h1, h2⟩
  generalize RetSl (strm k n p m) w = RX at *
  clear hk bk hn bn
  generalize hS : p % 16 = sk at *
  generalize hQ : p / 16 = q at *
  clear hS hQ
  have h0 : Sq w k n (((w.alloc (.cells (bv (tbl box)).toArray 37)).alloc (.cells (bv k).toArray 22)).alloc (.cells (bv n).toArray 29)) :=
    ⟨((Blk.new_at rfl rfl).alloc _).alloc _, (Blk.new_at (by simp) rfl).alloc _, Blk.new_at (by simp) rfl, (((Below.refl _ _).alloc (Nat.le_refl _) _).alloc (by simp) _).alloc (by simp; omega) _⟩
  replace h0 := Lib.hid h0
  have hz3 : Hid ((((w.alloc (.cells (bv (tbl box)).toArray 37)).alloc (.cells (bv k).toArray 22)).alloc (.cells (bv n).toArray 29)).heap.size = w.heap.size + 1 + 1 + 1) := by show _ = _; simp
  go_enter Try.func12, Try.ntmps12
  go_wp2
  try simp only [q2, q3]
  go_loopw [12, 13] (fun s i wr => ∃ j : Nat, i = .int .i64 ((q : Int) + (j : Int)) ∧ (16 * j : Int) ≤ (sk : Int) + m + 15 ∧
    wr.ownsRow (w.heap.size + 1 + 1 + 1) 5 1 s (16 * j) (bv (strm k n (16 * q) (16 * j))) ∧ w.heap.size + 1 + 1 + 1 ≤ wr.heap.size ∧ Sq w k n wr) (fun _ i _ => 100000 - (intOf i).toNat)
  case atStart => exact ⟨0, by simp, by omega, World.ownsRow_nil _ _ _ _, by rw [hz3.out]; exact Nat.le_refl _, h0.out⟩
  case round =>
    clear h0 hz3
    obtain ⟨j, rfl, hj, own, hsz, hE⟩ := hrel
    have hpI := hpq.out
    by_cases hlt : (16 * j : Int) < (sk : Int) + m
    · have e2 : (p : Int) + (m : Int) = 16 * (q : Int) + ((sk : Int) + (m : Int)) := by omega
      have hst := Lib.hid (hstep.out q j)
      have hsl := Lib.hid (hsl.out (q + j))
      have hbl := Lib.hid (hbl.out (q + j))
      have hsb := Lib.hid (fun w => hsb.out (q + j) w)
      have hby := Lib.hid (fun w => hby.out (q + j) (by omega) w)
      have hhi := Lib.hid (hhi.out (q + j))
      rw [be4_put] at hby
      have hb4 := Lib.hid (be4_length (q + j))
      have hLl1 := Lib.hid (hLl.out (16 * q) (16 * j))
      generalize strm k n (16 * q) (16 * j) = L at *
      generalize sblk k n (q + j) = S at *
      generalize nblk n (q + j) = NB at *
      generalize be4 (q + j) = B4 at *
      have e1 : ((q + j : Nat) : Int) = (q : Int) + (j : Int) := by omega
      rw [e1] at hby
      have own := Lib.hid own
      clear e1 hpI
      go_wp2_with (refine wpList_allocA rfl 54 rfl (bv (zeros 16)) (by kernel_rfl) ?_)
      intro w3 h3 hK3 hz3
      have hB3 : Below wr.heap.size wr w3 := hK3.below (Nat.le_refl _) (by simp)
      have hgb := Lib.hid (show w.heap.size + 1 + 1 < wr.heap.size from hE.n.lt)
      have hsz' := Lib.hid hsz
      generalize hgw : wr.heap.size = gb at *
      replace hgw := Lib.hid hgw
      have hle := Lib.hid (Nat.le_of_eq hgw.out.symm)
      have hn3 := (hE.below' hB3 hgb.out).n
      replace hE := Lib.hid hE
      clear hK3
      go_wp2
      go_still_tail 2, (by kernel_rfl)
      change wpList _ _ _ _ _ w3.drew
      go_wp2_with (refine wpList_copyA rfl (.tmp 39) (.tmp 40) 32 32 rfl 5 Try.underlying32 (by kernel_rfl) gb _ _ _ rfl ⟨w.heap.size + 1 + 1, _, none⟩ _ _ rfl 54 _ h3.drew (bv n) ?_ ?_ ?_ (ones_bv _) ?_)
      · rw [hnl.out]; rfl
      · intro j v hj
        rw [hn3.drew.cellAdd, Nat.zero_add]
        exact hj
      · rw [hnl.out]; simp
      intro w4 h4 hK4
      rw [hlo.out] at h4
      have hB4 : Below gb wr w4 := hB3.drew.trans (hK4.below (Nat.le_trans hle.out hB3.drew.size) (by simp))
      clear hK4 h3 hn3
      have hz4 : gb < w4.heap.size := h4.lt
      have hcv : IntKind.u64.wrap ((q : Int) + (j : Int)) = (q : Int) + (j : Int) := by rw [IntKind.wrap_u64]; omega
      go_upto_region 9 with fail
      refine wp_region_held_drew (S := fun w' => Below gb wr w') (by kernel_rfl) hB4.drew (fun hH => ?_)
      refine takeH_S (o := ⟨some 42, _, _, _, _, _⟩) (i := 0) rfl (by kernel_rfl) (by kernel_rfl) (by kernel_rfl) (fun _ _ _ _ h => h) rfl (.slice (some ⟨gb, 12, none⟩) 4 4) (fun w _ => by go_simp) hH ?_
      simp only [Act.put, List.setIfInBounds_toArray, List.set_cons_zero, List.set_cons_succ, Nat.zero_add, decide_true, beq_self_eq_true]
      refine takeH_move (o := ⟨some 43, _, _, _, _, _⟩) (i := 1) rfl (by kernel_rfl) (by kernel_rfl) (by kernel_rfl) (fun _ _ _ _ h => h) rfl (.tmp 13) rfl (.int .i64 ((q : Int) + (j : Int))) rfl hH ?_
      simp only [Act.put, List.setIfInBounds_toArray, List.set_cons_zero, List.set_cons_succ, Nat.zero_add, decide_true, beq_self_eq_true]
      refine takeH_S (o := ⟨some 44, _, _, _, _, _⟩) (i := 2) rfl (by kernel_rfl) (by kernel_rfl) (by kernel_rfl) (fun _ _ _ _ h => h) rfl (.int .u64 ((q : Int) + (j : Int))) (fun w _ => by go_simp) hH ?_
      simp only [Act.put, List.setIfInBounds_toArray, List.set_cons_zero, List.set_cons_succ, Nat.zero_add, decide_true, beq_self_eq_true]
      clear hcv
      refine wpAnyH_ready (rs := [3]) (by kernel_rfl) (by simp) ?_
      refine AllReadyH.cons rfl (fun K1 hK1 => ?_) AllReadyH.nil
      rw [if_pos (by rfl)]
      go_wp2_with fail
      refine (hby.out _).mono ?_
      rintro e wa ⟨v, rfl, g9, rfl, b9, gg9, hBa⟩
      have hBA : Below gb wr wa := below_call hH (Nat.le_trans hle.out hH.size) hBa
      replace h4 := h4.drew.keep hBa
      refine hK1.out _ _ hBA (fun hH => ?_)
      clear hK1 K1 hBa
      have s9 : Sl wa (.slice (some ⟨g9, 0, none⟩) B4.length B4.length) (bv B4) := by
        have := Sl.of_blk (n := B4.length) (c := B4.length) b9 (Nat.le_refl _) (by simp) (by rw [hb4.out]; unfold maxLen; omega)
        rwa [List.take_of_length_le (by simp)] at this
      refine wpAnyH_ready (rs := [4]) (by kernel_rfl) (by simp) ?_
      refine AllReadyH.cons rfl (fun K1 hK1 => ?_) AllReadyH.nil
      rw [if_pos (by rfl)]
      refine wp_copySl (.tmp 42) (.tmp 45) 32 32 rfl 5 Try.underlying32 (by kernel_rfl) gb 12 4 4 rfl _ (bv B4) rfl s9 54 _ h4 ?_ (ones_bv _) ?_
      · rw [hlen4.out, bv_length, hb4.out]; decide
      intro w5 h5 hK5
      rw [show (bv B4).take 4 = bv B4 from List.take_of_length_le (by rw [bv_length, hb4.out]; exact Nat.le_refl _), hhi.out] at h5
      have hB5 : Below gb wr w5 := hBA.trans (hK5.below (Nat.le_trans hle.out hBA.size) (by simp))
      refine hK1.out _ _ hB5 (fun hH => ?_)
      clear hK1 K1 hK5 h4 s9 b9 hBA hz4
      simp only [Act.put, List.getElem_toArray, List.getElem_cons_succ, List.getElem_cons_zero, List.setIfInBounds_toArray, List.set_cons_zero, List.set_cons_succ, Nat.zero_add]
      refine wpAnyH_done (by kernel_rfl) ?_ _
      have hE5 := hE.out.below' hB5 hgb.out
      have st := hE5.t
      have sk' := hE5.k
      clear hE5
      go_wp2_with (first
        | refine wpList_loadW rfl 37 (.tmp 5) rfl 256 arrT256 _ rfl 37 _ st (tbl_len _) ?_
        | refine wpList_loadW rfl 22 (.tmp 6) rfl 32 arrK32 _ rfl 22 _ sk' hkl.out ?_
        | refine wpList_loadW rfl 54 (.tmp 14) rfl 16 arrR16 _ rfl 54 _ h5 hbl.out ?_
        | (go_at_call 25; refine (hsb.out _).mono ?_; rintro e w6 ⟨rfl, hB6⟩)
        | refine wpList_storeW rfl 54 (.tmp 14) (.tmp 50) rfl 16 arrR16 gb rfl (bv S) rfl 54 _ (h5.keep hB6) hsl.out hbl.out (ones_bv _) ?_)
      intro w7 h7 hK7
      have hB7 : Below gb wr w7 := (below_call hB5 (Nat.le_trans hle.out hB5.size) hB6).trans (hK7.below (Nat.le_trans hle.out (below_call hB5 (Nat.le_trans hle.out hB5.size) hB6).size) (by simp))
      have own7 := own_keep own.out (by rw [hgw.out]; exact hB7)
      have sl7 : Sl w7 (.slice (some ⟨gb, 0, none⟩) 16 16) (bv S) := by
        have := Sl.of_blk (n := 16) (c := 16) h7 (Nat.le_refl _) (by rw [hsl.out]; exact Nat.le_refl _) (by unfold maxLen; omega)
        rwa [List.take_of_length_le (by rw [hsl.out]; exact Nat.le_refl _)] at this
      clear hK7 hB6 h5 st sk' hB5
      have hz7 : w.heap.size + 1 + 1 + 1 ≤ w7.heap.size := by have := hB7.size; have := hsz'.out; have := hgw.out; omega
      have hE7 := Lib.hid (hE.out.below' hB7 hgb.out)
      go_wp2_with (at_builtin; refine wpList_append_sl rfl (.tmp 51) (.tmp 52) 32 rfl (w.heap.size + 1 + 1 + 1) 5 i0 (.int .u8 0) 1 Try.underlying32 hi hz0 hz1 hz2 rfl _ _ _ rfl own7 _ (bv S) rfl sl7 (bv_oneCell S) ?_ ?_ hz7 ?_)
      · rw [hsl.out]; unfold maxLen; omega
      · rw [hsl.out]; omega
      intro v' w8 own8 gr8
      have hB8 := own_below (Below.refl (w.heap.size + 1 + 1 + 1) w7) gr8 own7 hz7
      rw [show S.length = 16 from by have := hsl.out; rwa [bv_length] at this, show bv L ++ bv S = bv (strm k n (16 * q) (16 * (j + 1))) from by rw [← hst.out]; simp [bv], show 16 * j + 16 = 16 * (j + 1) from by omega] at own8
      have hE8 := hE7.out.below' hB8 (by omega)
      have hz8 : w.heap.size + 1 + 1 + 1 ≤ w8.heap.size := Nat.le_trans hz7 hB8.size
      replace own8 := Lib.hid own8
      clear gr8 own7 sl7 hB8 hB7 h7
      go_wp2
      go_roundw
      case rel => exact ⟨j + 1, by go_num, by omega, own8.out, hz8, hE8⟩
      case measure => simp [intOf]; omega
    · have e2 : (p : Int) + (m : Int) = 16 * (q : Int) + ((sk : Int) + (m : Int)) := by omega
      have hpt := hpart.out j (by omega)
      by_cases hm0 : (m : Int) = 0
      · have hnil := h00.out (by omega)
        rw [hnil] at hR
        have hB := hE.below
        clear hE own hpt hpI hpq
        go_wp2
        exact hR.out _ _ (Sl.nil_ _) hB
      · obtain ⟨g, c, rfl, hc1, hc2⟩ := own_form own (by omega)
        have sl := own_part own sk m (by omega) hc2 hc1
        rw [show ((bv (strm k n (16 * q) (16 * j))).drop sk).take m = bv (strm k n p m) from by rw [← hpt]; simp [bv]] at sl
        generalize strm k n p m = T at *
        have sl := Lib.hid sl
        have hB := Lib.hid hE.below
        have hJ : (sk : Int) + m ≤ ((16 * j : Nat) : Int) := by omega
        have hJ2 : ((16 * j : Nat) : Int) ≤ (c : Int) := by omega
        clear hE hpt own hpI hc1 hc2 hpq
        go_wp2
        exact hR.out _ _ sl.out hB.out
end Go.Proofs.Ytokphnfhajljmaa
