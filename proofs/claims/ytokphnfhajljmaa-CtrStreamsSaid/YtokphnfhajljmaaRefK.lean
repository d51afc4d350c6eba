/- Contract of banyanref04: Rounds. -/
import Derived.Test.YtokphnfhajljmaaRefF
import Derived.Test.YtokphnfhajljmaaRefG
import Derived.Test.YtokphnfhajljmaaAesE
set_option linter.unusedVariables false
set_option linter.unusedSimpArgs false
namespace Go.Proofs.PlainAes
theorem kmid0 {t : Nat → Nat} {n : Nat} {x : List Nat} (h : n % 8 = 0) : kmid t n x = [t (gd x 1) ^^^ (2 ^ (n / 8 - 1) % 256), t (gd x 2), t (gd x 3), t (gd x 0)] := by
  unfold kmid kturn ksub krc
  rw [if_pos h, if_pos (by omega), if_pos h]
  rfl
theorem kmid4 {t : Nat → Nat} {n : Nat} {x : List Nat} (h : n % 8 = 4) : kmid t n x = [t (gd x 0), t (gd x 1), t (gd x 2), t (gd x 3)] := by
  unfold kmid kturn ksub krc
  rw [if_neg (by omega), if_pos (by omega), if_neg (by omega)]
  rfl
theorem kmidE {t : Nat → Nat} {n : Nat} {x : List Nat} (h : n % 4 ≠ 0) : kmid t n x = x := by
  unfold kmid kturn ksub krc
  rw [if_neg (by omega), if_neg (by omega), if_neg (by omega)]
/-- The power at hand ahead of word n. -/
def pwr (n : Nat) : Nat := 2 ^ ((n + 7) / 8 - 1) % 256
theorem pwr_all : (List.range 60).all (fun n => decide (pwr n < 256) && (if n % 8 = 0 ∧ 8 ≤ n then decide (mul (pwr n) 2 = pwr (n + 1)) && decide (pwr n = 2 ^ (n / 8 - 1) % 256) else decide (pwr (n + 1) = pwr n) || decide (n < 8))) = true := by decide +kernel
theorem pwr_lt {n : Nat} (h : n < 60) : pwr n < 256 := Nat.mod_lt _ (by decide)
theorem pwr_at {n : Nat} (h : n < 60) (h8 : 8 ≤ n) (hc : n % 8 = 0) : mul (pwr n) 2 = pwr (n + 1) ∧ pwr n = 2 ^ (n / 8 - 1) % 256 := by
  have := List.all_eq_true.1 pwr_all n (List.mem_range.2 h)
  rw [if_pos ⟨hc, h8⟩] at this
  simp only [Bool.and_eq_true, decide_eq_true_eq] at this
  exact ⟨this.2.1, this.2.2⟩
theorem pwr_else {n : Nat} (h : n < 60) (h8 : 8 ≤ n) (hc : n % 8 ≠ 0) : pwr (n + 1) = pwr n := by
  unfold pwr
  rw [show (n + 1 + 7) / 8 = (n + 7) / 8 from by omega]
end Go.Proofs.PlainAes
namespace Go.Proofs.Ytokphnfhajljmaa
open Go.RowKit
open Go.Proofs.PlainAes

theorem arrR15 : ArrTy Try.prog 78 240 := ⟨_, Try.underlying78, rfl, by kernel_rfl⟩

section
variable {P : Program} {ops : Array Oper} {rest : List Oper} {o : Oper} {a : Act} {w : World}
theorem wpStill_sliceA {QS : Act → Prop} (hgd : o.guard = none) (ty : TypeId) (x lo hi : Operand) (ho : o.op = .slice ty x (some lo) (some hi) none) (len el s : Nat) (hu : P.underlying ty = some (.array len el)) (hs : (P.info? el).map (·.size) = some s)
    (g off : Nat) (hx : a.eval x = .pointer (some ⟨g, off, none⟩)) (li hii : Int) (hlo : a.eval lo = .int .i64 li) (hhi : a.eval hi = .int .i64 hii) (l h : Nat) (e1 : li = l) (e2 : hii = h) (h1 : l ≤ h) (h2 : h ≤ len) (h3 : l < len)
    (hk : wpStill P ops w QS rest (a.put o.dst (.slice (some ⟨g, off + l * s, none⟩) (h - l) (len - l)))) : wpStill P ops w QS (o :: rest) a := by
  refine wpStill_step fun K hK => ?_
  have hw : Region.wanted o (yielded ops a.tmps) = true := by simp [Region.wanted, hgd]
  rw [if_pos hw]
  unfold Oper.still execOp
  simp only [ho, hx, hlo, hhi, Option.map_some, Option.map_none, Sem.run_bind, run_sliceA_lh hu hs g off l h li hii e1 e2 h1 h2 h3, Result.andThen_ok, Sem.run_pure]
  exact ⟨rfl, hK _ hk⟩
end
/-- What lies there while words are made. -/
structure Rx (w : World) (g0 g1 g2 g3 : Nat) (k K : List Nat) (m : Nat) (wr : World) : Prop where
  t : Blk wr g0 37 (bv (tbl box))
  k : Blk wr g1 22 (bv k)
  o : Blk wr g2 78 (bv (zeros 240))
  ws : Blk wr g3 86 (bv (upd K (zeros 240) m))
  below : Below w.heap.size w wr
  o0 : w.heap.size ≤ g0
  o1 : g0 < g1
  o2 : g1 < g2
  o3 : g2 < g3
section
variable {w wr wr' : World} {g0 g1 g2 g3 g : Nat} {k K : List Nat} {m n : Nat}
theorem Rx.call (h : Rx w g0 g1 g2 g3 k K m wr) (hB : Below wr.heap.size wr wr') : Rx w g0 g1 g2 g3 k K m wr' :=
  ⟨h.t.keep hB, h.k.keep hB, h.o.keep hB, h.ws.keep hB, below_call h.below h.below.size hB, h.o0, h.o1, h.o2, h.o3⟩
theorem Rx.keeps0 (h : Rx w g0 g1 g2 g3 k K m wr) (hB : Keeps [] wr wr') : Rx w g0 g1 g2 g3 k K m wr' := h.call (hB.below (Nat.le_refl _) (by simp))
theorem Rx.keeps (h : Rx w g0 g1 g2 g3 k K m wr) (hk : Keeps [g] wr wr') (hg : g3 < g) : Rx w g0 g1 g2 g3 k K m wr' := by
  have h0 := h.o0
  have h1 := h.o1
  have h2 := h.o2
  have h3 := h.o3
  exact ⟨h.t.keeps hk (by simp; omega), h.k.keeps hk (by simp; omega), h.o.keeps hk (by simp; omega), h.ws.keeps hk (by simp; omega), h.below.trans (hk.below h.below.size (by simp; omega)), h0, h1, h2, h3⟩
theorem Rx.drew (h : Rx w g0 g1 g2 g3 k K m wr) : Rx w g0 g1 g2 g3 k K m wr.drew := ⟨h.t, h.k, h.o, h.ws, h.below.drew, h.o0, h.o1, h.o2, h.o3⟩
theorem Rx.put (h : Rx w g0 g1 g2 g3 k K m wr) (hk : Keeps [g3] wr wr') (hw : Blk wr' g3 86 (bv (upd K (zeros 240) n))) : Rx w g0 g1 g2 g3 k K n wr' := by
  have h0 := h.o0
  have h1 := h.o1
  have h2 := h.o2
  have h3 := h.o3
  exact ⟨h.t.keeps hk (by simp; omega), h.k.keeps hk (by simp; omega), h.o.keeps hk (by simp; omega), hw, h.below.trans (hk.below h.below.size (by simp; omega)), h0, h1, h2, h3⟩
theorem Rx.set (h : Rx w g0 g1 g2 g3 k K m wr) (hK : K.length = 240) (hm : m < 240) : Rx w g0 g1 g2 g3 k K (m + 1) (wr.setCell ⟨g3, m, none⟩ (.int .u8 ((gd K m : Nat) : Int))) := by
  refine h.put ((Keeps.refl _ _).setCell (by simp) _) ?_
  rw [← upd_set (by simp [hK]) (by simpa using hm) (gd_get (by omega)), ← bv_set]
  exact h.ws.set_ m _
end

set_option maxRecDepth 100000 in
set_option maxHeartbeats 4000000 in
theorem rrounds_any (k : List Nat) (w : World) (hk : k.length = 32) (bk : Byt k) :
    Calls Try.prog 34 #[.agg (bv (tbl box)).toArray, .agg (bv k).toArray] w (RetA (keys box k) w) := by
  have hti := Lib.hid (fun (x : Nat) (hx : (x : Int) ≤ 255) w => rtimes_any x 2 w hx (by decide))
  have HK := Lib.hid (keyRow hk bk)
  have Hk := Lib.hid hk
  have hKl0 : Hid ((bv (keys box k)).length = 240) := by show _ = _; simp [keys_length box hk]
  have hRet : Hid (∀ w', Below w.heap.size w w' → RetA (keys box k) w (.returned (.agg (bv (keys box k)).toArray)) w') := fun w' h => ⟨rfl, h⟩
  clear hk bk
  generalize RetA (keys box k) w = RX at *
  generalize keys box k = K at *
  go_enter Try.func34, Try.ntmps34
  go_wp2_with (first | refine wpList_allocA rfl 78 rfl (bv (zeros 240)) (by kernel_rfl) ?_)
  intro w1 h2 hK1 hz1
  have h0 := ((Blk.new_at (w := w) (t := 37) (cs := (bv (tbl box)).toArray) rfl rfl).alloc (.cells (bv k).toArray 22)).keeps hK1 (by simp)
  have h1 := (Blk.new_at (w := w.alloc (.cells (bv (tbl box)).toArray 37)) (t := 22) (cs := (bv k).toArray) rfl rfl).keeps hK1 (by simp)
  simp only [List.size_toArray, World.size_alloc] at h0 h1 h2
  have hB : Below w.heap.size w w1 := (((Below.refl _ _).alloc (Nat.le_refl _) _).alloc (by simp) _).trans (hK1.below (by simp; omega) (by simp))
  clear hK1 hz1
  have ga := Lib.hid h2.lt
  go_wp2_with (first | refine wpList_allocA rfl 86 rfl (bv (zeros 240)) (by kernel_rfl) ?_)
  intro w2 h3 hK2 hz2
  replace h0 := h0.keeps hK2 (by simp)
  replace h1 := h1.keeps hK2 (by simp)
  replace h2 := h2.keeps hK2 (by simp)
  replace hB := hB.trans (hK2.below hB.size (by simp))
  have hE : Rx w w.heap.size (w.heap.size + 1) (w.heap.size + 1 + 1) w1.heap.size k K 0 w2 := ⟨h0, h1, h2, by simpa [upd_zero] using h3, hB, Nat.le_refl _, by omega, by omega, ga.out⟩
  clear h0 h1 h2 h3 hB hK2 hz2 ga
  generalize w1.heap.size = g3 at *
  generalize w.heap.size + 1 + 1 = g2 at *
  generalize w.heap.size + 1 = g1 at *
  generalize hg0 : w.heap.size = g0 at hE
  replace hg0 := Lib.hid hg0
  go_wp2
  go_loopw [6] (fun i wr => ∃ n : Nat, (n : Int) ≤ 8 ∧ i = .int .i64 (n : Int) ∧ Rx w g0 g1 g2 g3 k K (4 * n) wr) (fun i _ => 8 - (intOf i).toNat)
  case atStart => exact ⟨0, by omega, rfl, hE⟩
  case round =>
    clear hE
    obtain ⟨n, hn, rfl, hE⟩ := hrel
    by_cases hlt : (n : Int) < 8
    · have hlo := Lib.hid (HK.out.lo n (by omega))
      have EK : Hid (((bv k).drop (4 * n)).take 4 = bv (seg K (4 * n) 4)) := by show _ = _; rw [hlo.out, bv_seg]; rfl
      have h1 := hE.drew.k
      have h3 := hE.drew.ws
      have a1 : IntKind.i64.wrap (4 * (n : Int)) = 4 * (n : Int) := IntWalk.i64_in _ (by omega)
      have a2 : IntKind.i64.wrap (4 * (n : Int) + 4) = 4 * (n : Int) + 4 := IntWalk.i64_in _ (by omega)
      have a3 : (n : Int) < 60 := by omega
      have sl := Lib.hid (seg_length (l := K) (o := 4 * n) (n := 4) (by have := HK.out.len; omega))
      go_wp2
      go_still_tail 9, (by kernel_rfl)
      refine wpStill_sliceA rfl 22 (.tmp 3) (.tmp 21) (.tmp 24) rfl 32 5 1 Try.underlying22 (by kernel_rfl) g1 0 rfl _ _ rfl rfl (4 * n) (4 * n + 4) (by omega) (by omega) (by omega) (by omega) (by omega) ?_
      refine wpStill_nil ?_
      change wpList _ _ _ _ _ wr.drew
      clear a1 a2 a3
      go_wp2_with (refine wpList_copyA rfl (.tmp 19) (.tmp 25) 32 32 rfl 5 Try.underlying32 (by kernel_rfl) g3 _ _ _ rfl ⟨g1, _, none⟩ _ _ rfl 86 _ h3 (bv (seg K (4 * n) 4)) ?_ ?_ ?_ (ones_bv _) ?_)
      · rw [bv_length, sl.out, Nat.add_sub_cancel_left]; rfl
      · intro j v hj
        rw [h1.cellAdd, Nat.zero_add]
        rw [← EK.out, List.getElem?_take] at hj
        split at hj
        · rw [List.getElem?_drop] at hj; simpa using hj
        · cases hj
      · rw [bv_length, sl.out, bv_length, upd_length (by simp [HK.out.len]) (by simp; omega)]; simp; omega
      intro w5 h5 hK5
      have hE' : Rx w g0 g1 g2 g3 k K (4 * (n + 1)) w5 := by
        refine hE.drew.put hK5 ?_
        rw [putL_bv, sl.out, show n * 4 = 4 * n from by omega] at h5
        have := upd_put (new := K) (old := zeros 240) (k := 4 * n) (n := 4) (by simp [HK.out.len]) (by simp; omega)
        rw [show 4 * (n + 1) = 4 * n + 4 from by omega, ← this]
        exact h5
      clear h1 h3 h5 hE hK5
      go_wp2
      go_roundw
      case rel => exact ⟨n + 1, by omega, by go_num, hE'⟩
      case measure => simp [intOf]; omega
    · obtain rfl : n = 8 := by omega
      go_wp2
      go_loopw [7, 8] (fun p i wr => ∃ n : Nat, (8 : Int) ≤ n ∧ (n : Int) ≤ 60 ∧ p = .int .u8 ((pwr n : Nat) : Int) ∧ i = .int .i64 (n : Int) ∧ Rx w g0 g1 g2 g3 k K (4 * n) wr) (fun _ i _ => 60 - (intOf i).toNat)
      case atStart => exact ⟨8, by omega, by omega, rfl, rfl, hE⟩
      case round =>
        clear hE
        obtain ⟨n, h8, hn, rfl, rfl, hE⟩ := hrel
        by_cases hlt : (n : Int) < 60
        · have hhi := Lib.hid (HK.out.hi n (by omega) (by omega))
          have sl := seg_length (l := K) (o := 4 * n - 4) (n := 4) (by have := HK.out.len; omega)
          have sb := seg_lt HK.out.byt (4 * n - 4) 4
          have EL : Hid (((bv (upd K (zeros 240) (4 * n))).drop (4 * n - 4)).take 4 = bv (seg K (4 * n - 4) 4)) := by
            show _ = _
            rw [bv_seg]
            congr 1
            unfold upd
            rw [List.drop_append_of_le_length (by have := HK.out.len; simp; omega), List.take_append_of_le_length (by have := HK.out.len; simp; omega), List.drop_take, List.take_take]
            unfold seg
            congr 1
            omega
          generalize seg K (4 * n - 4) 4 = x at *
          have SL := Lib.hid sl
          have SB := Lib.hid sb
          have h2 := hE.ws
          have hul : Hid ((bv (upd K (zeros 240) (4 * n))).length = 240) := by show _ = _; rw [bv_length, upd_length (by simp [HK.out.len]) (by simp; omega)]; simp
          clear sl sb
          have h1n : (1 : Int) ≤ n := by omega
          rcases (by omega : n % 8 = 0 ∨ n % 8 = 4 ∨ n % 4 ≠ 0) with hc | hc | hc
          · have t8 : (((n : Nat) : Int) % 8 == 0) = true := by simp; omega
            have t4 : (((n : Nat) : Int) % 8 == 4) = false := by simp; omega
            have hpw := Lib.hid (pwr_at (n := n) (by omega) (by omega) hc)
            have HM := Lib.hid (kmid0 (t := box) (x := x) hc)
            have hpl : (pwr n : Int) ≤ 255 := by have := pwr_lt (n := n) (by omega); omega
            rw [← hpw.out.2] at HM
            have hti1 := Lib.hid (fun w => hti.out (pwr n) hpl w)
            rw [hpw.out.1] at hti1
            clear hpw
            generalize hP : pwr n = P at *
            replace hP := Lib.hid hP
            generalize hP1 : pwr (n + 1) = P1 at *
            replace hP1 := Lib.hid hP1
            have HC := Lib.hid hc
            clear hc
            go_wp2_with (first
              | refine wpList_loadA rfl 82 (.tmp 33) rfl 4 arr4 _ _ rfl 86 _ h2 (by rw [hul.out]; simp; omega) (bv x) (by rw [← EL.out, Nat.sub_mul, Nat.mul_comm n 4]) ?_
              | refine wpList_allocA rfl 82 rfl (bv (zeros 4)) (by kernel_rfl) ?_)
            intro w3 h3 hK3 hz3
            have hE3 := hE.keeps0 hK3
            have hgx := Lib.hid (show g3 < wr.heap.size from hE.ws.lt)
            clear hK3 hE h2 hul
            generalize wr.heap.size = gx at *
            go_wp2_with (first | refine wpList_storeW rfl 82 (.tmp 9) (.tmp 34) rfl 4 arr4 gx rfl (bv x) rfl 82 _ h3 ?_ ?_ (ones_bv _) ?_)
            · simp [SL.out]
            · simp
            intro w4 h4 hK4
            have hE4 := hE3.keeps hK4 hgx.out
            clear hE3 h3 hK4
            have c0 := h4.drew.byte (i := 0) (by rw [SL.out]; decide)
            have c1 := h4.drew.byte (i := 1) (by rw [SL.out]; decide)
            have c2 := h4.drew.byte (i := 2) (by rw [SL.out]; decide)
            have c3 := h4.drew.byte (i := 3) (by rw [SL.out]; decide)
            have hX0 := gd_lt SB.out 0
            have d0 := hE4.drew.t.byte (i := gd x 0) (by simp [tbl, hX0])
            rw [tbl, gd_mk _ hX0] at d0
            have hY0 := box_lt hX0
            have hX1 := gd_lt SB.out 1
            have d1 := hE4.drew.t.byte (i := gd x 1) (by simp [tbl, hX1])
            rw [tbl, gd_mk _ hX1] at d1
            have hY1 := box_lt hX1
            have hX2 := gd_lt SB.out 2
            have d2 := hE4.drew.t.byte (i := gd x 2) (by simp [tbl, hX2])
            rw [tbl, gd_mk _ hX2] at d2
            have hY2 := box_lt hX2
            have hX3 := gd_lt SB.out 3
            have d3 := hE4.drew.t.byte (i := gd x 3) (by simp [tbl, hX3])
            rw [tbl, gd_mk _ hX3] at d3
            have hY3 := box_lt hX3
            obtain ⟨z1, z2⟩ := x8 hY1 (show P < 256 by omega)
            clear z2
            generalize gd x 0 = X0 at *
            generalize box X0 = Y0 at *
            have hXI0 : (X0 : Int) < 256 := by omega
            generalize gd x 1 = X1 at *
            generalize box X1 = Y1 at *
            have hXI1 : (X1 : Int) < 256 := by omega
            generalize gd x 2 = X2 at *
            generalize box X2 = Y2 at *
            have hXI2 : (X2 : Int) < 256 := by omega
            generalize gd x 3 = X3 at *
            generalize box X3 = Y3 at *
            have hXI3 : (X3 : Int) < 256 := by omega
            generalize hV : Y1 ^^^ P = V at *
            replace hV := Lib.hid hV
            clear hY0 hY1 hY2 hY3
            go_wp2
            go_still_tail 19, (by kernel_rfl)
            change wpList _ _ _ _ _ w4.drew
            clear c0 c1 c2 c3 d0 d1 d2 d3
            go_wp2_with (first | refine wpList_storeW rfl 82 (.tmp 9) (.tmp 56) rfl 4 arr4 gx rfl (bv [V, Y2, Y3, Y0]) rfl 82 _ h4.drew ?_ ?_ (ones_bv _) ?_)
            · simp
            · simp [SL.out]
            intro w5 h5 hK5
            have hE5 := hE4.drew.keeps hK5 hgx.out
            clear hE4 h4 hK5
            rw [← HM.out] at h5
            go_wp2_with fail
            refine (hti1.out _).mono ?_
            rintro en w6 ⟨rfl, hB6⟩
            have hE6 := hE5.call hB6
            have h6 := h5.keep hB6
            clear hE5 h5 hB6
            obtain ⟨u, HU⟩ : ∃ u, Hid (u = kmid box n x) := ⟨_, rfl⟩
            rw [← HU.out] at h6
            have ul := Lib.hid (show u.length = 4 by rw [HU.out]; exact krc_length (ksub_length (kturn_length SL.out)))
            have ub := Lib.hid (show Byt u by rw [HU.out]; exact krc_lt (ksub_lt (fun x h => box_lt h) (kturn_lt SB.out)))
            go_wp2
            go_loopw [79] (fun i wr => ∃ j : Nat, (j : Int) ≤ 4 ∧ i = .int .i64 (j : Int) ∧ Blk wr gx 82 (bv u) ∧ Rx w g0 g1 g2 g3 k K (4 * n + j) wr) (fun i _ => 4 - (intOf i).toNat)
            case atStart => exact ⟨0, by omega, rfl, h6, hE6⟩
            case round =>
              clear h6 hE6
              obtain ⟨j, hj, rfl, h6, hE6⟩ := hrel
              by_cases hj4 : (j : Int) < 4
              · have hKl := HK.out.len
                have c0 := hE6.ws.cell ((n - 8) * 4 + j)
                rw [bv_get, upd_get_new (by simp [hKl]) (by omega) (by simp; omega), gd_get (by omega)] at c0
                simp only [Option.map_some] at c0
                have c1 := h6.byte (i := j) (by have := ul.out; omega)
                have c2 := hE6.ws.cell (n * 4 + j)
                rw [bv_get, upd_get (by simp [hKl]) (by omega) (by simp; omega), zeros_get (by omega)] at c2
                simp only [Option.map_some] at c2
                have f2 := hE6.ws.frozen (n * 4 + j)
                have hk := hhi.out j (by omega)
                rw [← HU.out, show 4 * (n - 8) + j = (n - 8) * 4 + j from by omega] at hk
                obtain ⟨q1, q2⟩ := x8 (gd_lt HK.out.byt ((n - 8) * 4 + j)) (gd_lt ub.out j)
                rw [← hk] at q1
                have hE7 := Rx.set hE6.drew hKl (m := 4 * n + j) (by omega)
                rw [show 4 * n + j = n * 4 + j from by omega] at hE7
                rw [show 4 * n + j = n * 4 + j from by omega] at q1
                generalize gd K (n * 4 + j) = Y at *
                generalize gd K ((n - 8) * 4 + j) = X at *
                generalize gd u j = V at *
                have hE7 := Lib.hid hE7
                clear hk q2 hKl
                have b1 : IntKind.i64.wrap ((n : Int) - 8) = (n : Int) - 8 := IntWalk.i64_in _ (by omega)
                have b2 : (0 : Int) ≤ (n : Int) - 8 := by omega
                have b3 : (n : Int) - 8 < 60 := by omega
                have b4 : ((n : Int) - 8).toNat = n - 8 := by omega
                go_wp2
                go_still_tail 14, (by kernel_rfl)
                change wpList _ _ _ _ _ wr.drew
                clear b1 b2 b3 b4
                go_wp2
                go_roundw
                case rel => exact ⟨j + 1, by omega, by go_num, (h6.drew).far (by simp; have := hgx.out; omega) _, by rw [show 4 * n + (j + 1) = n * 4 + j + 1 from by omega]; exact hE7.out⟩
                case measure => simp [intOf]; omega
              · obtain rfl : j = 4 := by omega
                go_wp2
                go_roundw
                case rel => exact ⟨n + 1, by omega, by omega, by rw [hP1.out], by go_num, hE6⟩
                case measure => simp [intOf]; omega
          · have t8 : (((n : Nat) : Int) % 8 == 0) = false := by simp; omega
            have t4 : (((n : Nat) : Int) % 8 == 4) = true := by simp; omega
            have hpe := Lib.hid (pwr_else (n := n) (by omega) (by omega) (by omega))
            have HM := Lib.hid (kmid4 (t := box) (x := x) hc)
            generalize hP : pwr n = P at *
            replace hP := Lib.hid hP
            have HC := Lib.hid hc
            clear hc
            go_wp2_with (first
              | refine wpList_loadA rfl 82 (.tmp 33) rfl 4 arr4 _ _ rfl 86 _ h2 (by rw [hul.out]; simp; omega) (bv x) (by rw [← EL.out, Nat.sub_mul, Nat.mul_comm n 4]) ?_
              | refine wpList_allocA rfl 82 rfl (bv (zeros 4)) (by kernel_rfl) ?_)
            intro w3 h3 hK3 hz3
            have hE3 := hE.keeps0 hK3
            have hgx := Lib.hid (show g3 < wr.heap.size from hE.ws.lt)
            clear hK3 hE h2 hul
            generalize wr.heap.size = gx at *
            go_wp2_with (first | refine wpList_storeW rfl 82 (.tmp 9) (.tmp 34) rfl 4 arr4 gx rfl (bv x) rfl 82 _ h3 ?_ ?_ (ones_bv _) ?_)
            · simp [SL.out]
            · simp
            intro w4 h4 hK4
            have hE4 := hE3.keeps hK4 hgx.out
            clear hE3 h3 hK4
            have c0 := h4.drew.byte (i := 0) (by rw [SL.out]; decide)
            have c1 := h4.drew.byte (i := 1) (by rw [SL.out]; decide)
            have c2 := h4.drew.byte (i := 2) (by rw [SL.out]; decide)
            have c3 := h4.drew.byte (i := 3) (by rw [SL.out]; decide)
            have hX0 := gd_lt SB.out 0
            have d0 := hE4.drew.t.byte (i := gd x 0) (by simp [tbl, hX0])
            rw [tbl, gd_mk _ hX0] at d0
            have hY0 := box_lt hX0
            have hX1 := gd_lt SB.out 1
            have d1 := hE4.drew.t.byte (i := gd x 1) (by simp [tbl, hX1])
            rw [tbl, gd_mk _ hX1] at d1
            have hY1 := box_lt hX1
            have hX2 := gd_lt SB.out 2
            have d2 := hE4.drew.t.byte (i := gd x 2) (by simp [tbl, hX2])
            rw [tbl, gd_mk _ hX2] at d2
            have hY2 := box_lt hX2
            have hX3 := gd_lt SB.out 3
            have d3 := hE4.drew.t.byte (i := gd x 3) (by simp [tbl, hX3])
            rw [tbl, gd_mk _ hX3] at d3
            have hY3 := box_lt hX3
            generalize gd x 0 = X0 at *
            generalize box X0 = Y0 at *
            have hXI0 : (X0 : Int) < 256 := by omega
            generalize gd x 1 = X1 at *
            generalize box X1 = Y1 at *
            have hXI1 : (X1 : Int) < 256 := by omega
            generalize gd x 2 = X2 at *
            generalize box X2 = Y2 at *
            have hXI2 : (X2 : Int) < 256 := by omega
            generalize gd x 3 = X3 at *
            generalize box X3 = Y3 at *
            have hXI3 : (X3 : Int) < 256 := by omega
            clear hY0 hY1 hY2 hY3
            go_wp2
            go_still_tail 17, (by kernel_rfl)
            change wpList _ _ _ _ _ w4.drew
            clear c0 c1 c2 c3 d0 d1 d2 d3
            go_wp2_with (first | refine wpList_storeW rfl 82 (.tmp 9) (.tmp 78) rfl 4 arr4 gx rfl (bv [Y0, Y1, Y2, Y3]) rfl 82 _ h4.drew ?_ ?_ (ones_bv _) ?_)
            · simp
            · simp [SL.out]
            intro w5 h5 hK5
            have hE6 := hE4.drew.keeps hK5 hgx.out
            clear hE4 h4 hK5
            rw [← HM.out] at h5
            have h6 := h5
            clear h5
            obtain ⟨u, HU⟩ : ∃ u, Hid (u = kmid box n x) := ⟨_, rfl⟩
            rw [← HU.out] at h6
            have ul := Lib.hid (show u.length = 4 by rw [HU.out]; exact krc_length (ksub_length (kturn_length SL.out)))
            have ub := Lib.hid (show Byt u by rw [HU.out]; exact krc_lt (ksub_lt (fun x h => box_lt h) (kturn_lt SB.out)))
            go_wp2
            go_loopw [79] (fun i wr => ∃ j : Nat, (j : Int) ≤ 4 ∧ i = .int .i64 (j : Int) ∧ Blk wr gx 82 (bv u) ∧ Rx w g0 g1 g2 g3 k K (4 * n + j) wr) (fun i _ => 4 - (intOf i).toNat)
            case atStart => exact ⟨0, by omega, rfl, h6, hE6⟩
            case round =>
              clear h6 hE6
              obtain ⟨j, hj, rfl, h6, hE6⟩ := hrel
              by_cases hj4 : (j : Int) < 4
              · have hKl := HK.out.len
                have c0 := hE6.ws.cell ((n - 8) * 4 + j)
                rw [bv_get, upd_get_new (by simp [hKl]) (by omega) (by simp; omega), gd_get (by omega)] at c0
                simp only [Option.map_some] at c0
                have c1 := h6.byte (i := j) (by have := ul.out; omega)
                have c2 := hE6.ws.cell (n * 4 + j)
                rw [bv_get, upd_get (by simp [hKl]) (by omega) (by simp; omega), zeros_get (by omega)] at c2
                simp only [Option.map_some] at c2
                have f2 := hE6.ws.frozen (n * 4 + j)
                have hk := hhi.out j (by omega)
                rw [← HU.out, show 4 * (n - 8) + j = (n - 8) * 4 + j from by omega] at hk
                obtain ⟨q1, q2⟩ := x8 (gd_lt HK.out.byt ((n - 8) * 4 + j)) (gd_lt ub.out j)
                rw [← hk] at q1
                have hE7 := Rx.set hE6.drew hKl (m := 4 * n + j) (by omega)
                rw [show 4 * n + j = n * 4 + j from by omega] at hE7
                rw [show 4 * n + j = n * 4 + j from by omega] at q1
                generalize gd K (n * 4 + j) = Y at *
                generalize gd K ((n - 8) * 4 + j) = X at *
                generalize gd u j = V at *
                have hE7 := Lib.hid hE7
                clear hk q2 hKl
                have b1 : IntKind.i64.wrap ((n : Int) - 8) = (n : Int) - 8 := IntWalk.i64_in _ (by omega)
                have b2 : (0 : Int) ≤ (n : Int) - 8 := by omega
                have b3 : (n : Int) - 8 < 60 := by omega
                have b4 : ((n : Int) - 8).toNat = n - 8 := by omega
                go_wp2
                go_still_tail 14, (by kernel_rfl)
                change wpList _ _ _ _ _ wr.drew
                clear b1 b2 b3 b4
                go_wp2
                go_roundw
                case rel => exact ⟨j + 1, by omega, by go_num, (h6.drew).far (by simp; have := hgx.out; omega) _, by rw [show 4 * n + (j + 1) = n * 4 + j + 1 from by omega]; exact hE7.out⟩
                case measure => simp [intOf]; omega
              · obtain rfl : j = 4 := by omega
                go_wp2
                go_roundw
                case rel => exact ⟨n + 1, by omega, by omega, by rw [hpe.out], by go_num, hE6⟩
                case measure => simp [intOf]; omega
          · have t8 : (((n : Nat) : Int) % 8 == 0) = false := by simp; omega
            have t4 : (((n : Nat) : Int) % 8 == 4) = false := by simp; omega
            have hpe := Lib.hid (pwr_else (n := n) (by omega) (by omega) (by omega))
            have HM := Lib.hid (kmidE (t := box) (x := x) hc)
            generalize hP : pwr n = P at *
            replace hP := Lib.hid hP
            have HC := Lib.hid hc
            clear hc
            go_wp2_with (first
              | refine wpList_loadA rfl 82 (.tmp 33) rfl 4 arr4 _ _ rfl 86 _ h2 (by rw [hul.out]; simp; omega) (bv x) (by rw [← EL.out, Nat.sub_mul, Nat.mul_comm n 4]) ?_
              | refine wpList_allocA rfl 82 rfl (bv (zeros 4)) (by kernel_rfl) ?_)
            intro w3 h3 hK3 hz3
            have hE3 := hE.keeps0 hK3
            have hgx := Lib.hid (show g3 < wr.heap.size from hE.ws.lt)
            clear hK3 hE h2 hul
            generalize wr.heap.size = gx at *
            go_wp2_with (first | refine wpList_storeW rfl 82 (.tmp 9) (.tmp 34) rfl 4 arr4 gx rfl (bv x) rfl 82 _ h3 ?_ ?_ (ones_bv _) ?_)
            · simp [SL.out]
            · simp
            intro w4 h4 hK4
            have hE4 := hE3.keeps hK4 hgx.out
            clear hE3 h3 hK4
            have hE6 := hE4
            have h6 := h4
            clear hE4 h4
            obtain ⟨u, HU⟩ : ∃ u, Hid (u = kmid box n x) := ⟨_, rfl⟩
            rw [show x = u from by rw [HU.out, HM.out]] at h6
            have ul := Lib.hid (show u.length = 4 by rw [HU.out]; exact krc_length (ksub_length (kturn_length SL.out)))
            have ub := Lib.hid (show Byt u by rw [HU.out]; exact krc_lt (ksub_lt (fun x h => box_lt h) (kturn_lt SB.out)))
            go_wp2
            go_loopw [79] (fun i wr => ∃ j : Nat, (j : Int) ≤ 4 ∧ i = .int .i64 (j : Int) ∧ Blk wr gx 82 (bv u) ∧ Rx w g0 g1 g2 g3 k K (4 * n + j) wr) (fun i _ => 4 - (intOf i).toNat)
            case atStart => exact ⟨0, by omega, rfl, h6, hE6⟩
            case round =>
              clear h6 hE6
              obtain ⟨j, hj, rfl, h6, hE6⟩ := hrel
              by_cases hj4 : (j : Int) < 4
              · have hKl := HK.out.len
                have c0 := hE6.ws.cell ((n - 8) * 4 + j)
                rw [bv_get, upd_get_new (by simp [hKl]) (by omega) (by simp; omega), gd_get (by omega)] at c0
                simp only [Option.map_some] at c0
                have c1 := h6.byte (i := j) (by have := ul.out; omega)
                have c2 := hE6.ws.cell (n * 4 + j)
                rw [bv_get, upd_get (by simp [hKl]) (by omega) (by simp; omega), zeros_get (by omega)] at c2
                simp only [Option.map_some] at c2
                have f2 := hE6.ws.frozen (n * 4 + j)
                have hk := hhi.out j (by omega)
                rw [← HU.out, show 4 * (n - 8) + j = (n - 8) * 4 + j from by omega] at hk
                obtain ⟨q1, q2⟩ := x8 (gd_lt HK.out.byt ((n - 8) * 4 + j)) (gd_lt ub.out j)
                rw [← hk] at q1
                have hE7 := Rx.set hE6.drew hKl (m := 4 * n + j) (by omega)
                rw [show 4 * n + j = n * 4 + j from by omega] at hE7
                rw [show 4 * n + j = n * 4 + j from by omega] at q1
                generalize gd K (n * 4 + j) = Y at *
                generalize gd K ((n - 8) * 4 + j) = X at *
                generalize gd u j = V at *
                have hE7 := Lib.hid hE7
                clear hk q2 hKl
                have b1 : IntKind.i64.wrap ((n : Int) - 8) = (n : Int) - 8 := IntWalk.i64_in _ (by omega)
                have b2 : (0 : Int) ≤ (n : Int) - 8 := by omega
                have b3 : (n : Int) - 8 < 60 := by omega
                have b4 : ((n : Int) - 8).toNat = n - 8 := by omega
                go_wp2
                go_still_tail 14, (by kernel_rfl)
                change wpList _ _ _ _ _ wr.drew
                clear b1 b2 b3 b4
                go_wp2
                go_roundw
                case rel => exact ⟨j + 1, by omega, by go_num, (h6.drew).far (by simp; have := hgx.out; omega) _, by rw [show 4 * n + (j + 1) = n * 4 + j + 1 from by omega]; exact hE7.out⟩
                case measure => simp [intOf]; omega
              · obtain rfl : j = 4 := by omega
                go_wp2
                go_roundw
                case rel => exact ⟨n + 1, by omega, by omega, by rw [hpe.out], by go_num, hE6⟩
                case measure => simp [intOf]; omega
        · obtain rfl : n = 60 := by omega
          have hKl := HK.out.len
          have h1 := hE.o
          have h2 := hE.ws
          have hB := hE.below
          have hul : (bv K).length = 240 := by simp [hKl]
          rw [show 4 * 60 = 240 from rfl, upd_all hKl (by simp)] at h2
          have hg23 := Lib.hid hE.o3
          have hg02 := Lib.hid (show w.heap.size ≤ g2 by have := hE.o0; have := hE.o1; have := hE.o2; omega)
          clear hE
          have HKl := Lib.hid hKl
          clear hKl
          go_wp2_with (first | refine wpList_allocA rfl 78 rfl (bv (zeros 240)) (by kernel_rfl) ?_)
          intro w3 h3 hK3 hz3
          have hg34 := Lib.hid (show g3 < wr.heap.size from h2.lt)
          replace h1 := h1.keeps hK3 (by simp)
          replace h2 := h2.keeps hK3 (by simp)
          replace hB := hB.trans (hK3.below hB.size (by simp))
          clear hK3 hz3 hul
          generalize wr.heap.size = g4 at *
          go_wp2
          go_loopw [97] (fun i wr => ∃ i' : Nat, (i' : Int) ≤ 60 ∧ i = .int .i64 (i' : Int) ∧ Blk wr g2 78 (bv (zeros 240)) ∧ Blk wr g3 86 (bv K) ∧ Blk wr g4 78 (bv (upd K (zeros 240) (4 * i'))) ∧ Below w.heap.size w wr) (fun i _ => 60 - (intOf i).toNat)
          case atStart => exact ⟨0, by omega, rfl, h1, h2, by simpa [upd_zero] using h3, hB⟩
          case round =>
            clear h1 h2 h3 hB
            obtain ⟨i, hi, rfl, h1, h2, h3, hB⟩ := hrel
            by_cases hlt : (i : Int) < 60
            · have EL : Hid (((bv K).drop (4 * i)).take 4 = bv (seg K (4 * i) 4)) := by show _ = _; rw [bv_seg]; rfl
              have SL := Lib.hid (seg_length (l := K) (o := 4 * i) (n := 4) (by have := HKl.out; omega))
              obtain ⟨q, hq⟩ : ∃ q, q = i / 4 := ⟨_, rfl⟩
              obtain ⟨r, hr⟩ : ∃ r, r = i % 4 := ⟨_, rfl⟩
              have HQ : Hid (i = 4 * q + r ∧ r < 4 ∧ q < 15) := by show _ ∧ _ ∧ _; omega
              have a1 : IntKind.i64.wrap ((i : Int) / 4) = (q : Int) := by rw [IntWalk.i64_in _ (by omega)]; omega
              have a2 : (i : Int).tmod 4 = (r : Int) := by rw [Int.tmod_eq_emod_of_nonneg (by omega)]; omega
              have a3 : (q : Int) < 15 := by omega
              have a4 : (r : Int) < 4 := by omega
              have a5 : IntKind.i64.wrap (4 * (r : Int)) = 4 * (r : Int) := IntWalk.i64_in _ (by omega)
              clear hq hr
              go_wp2
              go_still_tail 10, (by kernel_rfl)
              refine wpStill_sliceA_l rfl 54 (.tmp 102) (.tmp 105) rfl 16 5 1 Try.underlying54 (by kernel_rfl) _ _ rfl _ rfl (4 * r) (by omega) (by have := HQ.out; omega) ?_
              repeat still_step
              refine wpStill_nil ?_
              change wpList _ _ _ _ _ wr.drew
              clear a1 a2 a3 a4 a5
              replace h1 := h1.drew
              replace h2 := h2.drew
              replace h3 := h3.drew
              have hul : Hid ((bv (upd K (zeros 240) (4 * i))).length = 240) := by show _ = _; rw [bv_length, upd_length (by simp [HKl.out]) (by simp; omega)]; simp
              go_wp2_with (refine wpList_copyA rfl (.tmp 106) (.tmp 109) 32 32 rfl 5 Try.underlying32 (by kernel_rfl) g4 _ _ _ rfl ⟨g3, _, none⟩ _ _ rfl 78 _ h3 (bv (seg K (4 * i) 4)) ?_ ?_ ?_ (ones_bv _) ?_)
              · rw [bv_length, SL.out]; exact (Nat.min_eq_left (by have := HQ.out; omega)).symm
              · intro j v hj
                rw [h2.cellAdd]
                rw [← EL.out, List.getElem?_take] at hj
                split at hj
                · rw [List.getElem?_drop] at hj; rw [Nat.mul_comm i 4]; simpa using hj
                · cases hj
              · rw [hul.out, bv_length, SL.out]; have := HQ.out; omega
              intro w5 h5 hK5
              have h5' : Blk w5 g4 78 (bv (upd K (zeros 240) (4 * (i + 1)))) := by
                rw [putL_bv, SL.out, show q * 16 + 4 * r = 4 * i from by have := HQ.out; omega] at h5
                have := upd_put (new := K) (old := zeros 240) (k := 4 * i) (n := 4) (by simp [HKl.out]) (by simp; omega)
                rw [show 4 * (i + 1) = 4 * i + 4 from by omega, ← this]
                exact h5
              have h1' := h1.keeps hK5 (by simp; have := hg23.out; have := hg34.out; omega)
              have h2' := h2.keeps hK5 (by simp; have := hg34.out; omega)
              have hB' := hB.drew.trans (hK5.below hB.drew.size (by simp; have := hg02.out; have := hg23.out; have := hg34.out; omega))
              clear h1 h2 h3 h5 hK5 hB hul
              go_wp2
              go_roundw
              case rel => exact ⟨i + 1, by omega, by go_num, h1', h2', h5', hB'⟩
              case measure => simp [intOf]; omega
            · obtain rfl : i = 60 := by omega
              rw [show 4 * 60 = 240 from rfl, upd_all HKl.out (by simp)] at h3
              have hul : Hid ((bv K).length = 240) := by show _ = _; simp [HKl.out]
              go_wp2_with (first
                | refine wpList_loadW rfl 78 (.tmp 11) rfl 240 arrR15 _ rfl 78 _ h3 hul.out ?_
                | refine wpList_storeW rfl 78 (.tmp 4) (.tmp 112) rfl 240 arrR15 _ rfl (bv K) rfl 78 _ h1 hul.out (by simp) (ones_bv _) ?_)
              intro w' h4 hK
              go_wp2
              exact bodyPost_ret (v := .agg (bv K).toArray) (res_cell Try.results34 _ _ _ 78 _ arrR15 hul.out rfl h4) rfl (hRet.out _ (hB.trans (hK.below hB.size (by intro b hb; simp only [List.mem_singleton] at hb; subst hb; exact hg02.out))))
end Go.Proofs.Ytokphnfhajljmaa
