/- The walk of ShaTwice. -/
import Derived.Test.YtenpehhmomhooaaShL
import Derived.Test.YtenpehhmomhooaaRgx
set_option linter.unusedVariables false
set_option linter.unusedSimpArgs false
namespace Go.Proofs.Ytenpehhmomhooaa.w_ShaTwice
open Go.RowKit
open Go.Proofs.PlainAes
open Go.Proofs.PlainSha

set_option maxRecDepth 100000 in
set_option maxHeartbeats 4000000 in
theorem core (A1 A2 : Option Addr) (n1 n2 c1 c2 : Nat) (a b : List Nat) (w : World) (hs1 : Sl w (.slice A1 n1 c1) (bv a)) (hs2 : Sl w (.slice A2 n2 c2) (bv b)) (ba : Byt a) (bb : Byt b) (hn1 : n1 = a.length) (hn2 : n2 = b.length) (hm1 : (n1 : Int) ≤ 140737488355328) (hm2 : (n2 : Int) ≤ 140737488355328) :
    Calls Try.prog 9 #[.slice A1 n1 c1, .slice A2 n2 c2] w fun e w' => e = .returned (.bool true) ∧ Below w.heap.size w w' := by
  have hal := Lib.hid (fun w => alive_any w)
  by_cases hbig : (3000 : Int) < (n1 : Int) + (n2 : Int)
  · clear hs1 hs2
    go_enter Try.func9, Try.ntmps9
    go_wp2_with fail
    refine (hal.out _).mono ?_
    rintro e w1 ⟨rfl, hB1⟩
    go_wp2
    go_ret
    exact ⟨rfl, hB1⟩
  · have hnew := Lib.hid (fun w => new_any w)
    have hwr := Lib.hid (fun l b B g v r w h hs bl bb hlen hsep => write_any l b B g v r w h hs bl bb hlen hsep)
    have hsm := Lib.hid (fun l B g r w h bl hlen => sum_any l B g r w h bl hlen)
    have hsum := Lib.hid (fun b v w hs bb hlen => shasum_any b v w hs bb hlen)
    have hs1 := Lib.hid hs1
    have hs2 := Lib.hid hs2
    replace hn1 := Lib.hid hn1
    replace hn2 := Lib.hid hn2
    go_enter Try.func9, Try.ntmps9
    go_wp2_with fail
    refine (hal.out _).mono ?_
    rintro e w1 ⟨rfl, hB1⟩
    go_wp2_with fail
    refine (hnew.out _).mono ?_
    rintro e w2 ⟨g, rfl, hg, hB2⟩
    go_wp2_with fail
    refine (hnew.out _).mono ?_
    rintro e w3 ⟨h, rfl, hh, hB3⟩
    have hgB := hg.lt
    have hhB := hh.lt
    have hg3 := hg.keep hB3
    have hz1 : w.heap.size ≤ w1.heap.size := hB1.size
    have hz2 : w1.heap.size ≤ w2.heap.size := hB2.size
    have hB4 : Below w.heap.size w w3 := below_call (below_call hB1 hB1.size hB2) (by omega) hB3
    clear hB1 hB2 hB3 hg
    generalize w1.heap.size = z1 at *
    generalize w2.heap.size = z2 at *
    have hz3 := hh.lt.2
    go_wp2
    go_loopw [26] (fun i wr => ∃ (k : Nat) (r : Option Nat), k ≤ n1 ∧ i = .int .i64 (k : Int) ∧ Hsh wr z1 g r (a.take k) ∧ Hid (r ≠ some h) ∧ Hsh wr z2 h none [] ∧ Below w.heap.size w wr) (fun i _ => n1 - (intOf i).toNat)
    case atStart => exact ⟨0, none, Nat.zero_le _, rfl, hg3, by show _ ≠ _; simp, hh, hB4⟩
    case round =>
      clear hg3 hh hB4 hz3
      obtain ⟨k, r, hk, rfl, hg, hrh, hh, hB⟩ := hrel
      by_cases hlt : (k : Int) < (n1 : Int)
      · have hka : k < a.length := by have := hn1.out; omega
        obtain ⟨ga, oa, rfl, hpt⟩ := (hs1.out.keep hB).part k 1 (by decide) (by omega) (by rw [bv_length, hn1.out])
        have hga := hs1.out.lt (by rw [bv_length]; omega) rfl
        rw [bv_seg] at hpt
        have hcI := hs1.out.cap
        have hc1 := hcI.1
        clear hcI
        have hw1 := Lib.hid (hwr.out (a.take k) (seg a k 1) z1 g _ r wr hg hpt (fun x hx => ba x (List.mem_of_mem_take hx)) (seg_lt ba _ _) (by simp [seg]; omega) (fun _ a' n' c' e => by
          injection e with e _ _
          injection e with e
          subst e
          simp only at hga
          exact ⟨by show ga ≠ g; omega, fun e => by have h2 : z1 ≤ ga := (hg.row _ e).1; omega⟩))
        rw [take_seg1 a k hka] at hw1
        have hgs := hg.lt
        have hhs := hh.lt
        have hrow := Lib.hid hg.row
        clear hpt hg hga
        go_wp2_with fail
        refine hw1.out.mono ?_
        rintro e w4 ⟨rfl, r', hg4, hK4, hm4⟩
        have hh4 := hh.other hK4 (by omega) hrh.out (by simp) (by simp)
        have hB4 := hB.trans (hK4.belowH hB.size (by omega) (fun k hk => by have := (hrow.out k hk).1; omega))
        have hr4 := Lib.hid (hm4.ne hhs.2 hrh.out)
        clear hK4 hm4 hh hB
        go_wp2
        go_roundw
        case rel => exact ⟨k + 1, r', by omega, by go_num, hg4, hr4, hh4, hB4⟩
        case measure => simp [intOf]; omega
      · obtain rfl : k = n1 := by omega
        rw [List.take_of_length_le (by have := hn1.out; omega)] at hg
        have hz4 := hh.lt.2
        have hsx := Lib.hid (hsm.out a z1 g r wr hg ba (by have := hn1.out; omega))
        go_wp2_with fail
        refine hsx.out.mono ?_
        rintro e w4 ⟨rfl, hB4⟩
        have hg4 := hg.keep hB4
        have hh4 := hh.keep hB4
        have hB4' := below_call hB hB.size hB4
        clear hg hh hB hB4 hsx
        go_wp2_with (refine wpList_allocA rfl 24 rfl (bv (zeros 32)) (by kernel_rfl) ?_)
        intro w5 hx5 hK5 hz5
        have hg5 := hg4.keeps hK5 (by simp) (by simp)
        have hh5 := hh4.keeps hK5 (by simp) (by simp)
        have hB5 := hB4'.trans (hK5.below hB4'.size (by simp))
        have hgx : h < w4.heap.size := hh4.lt.2
        have hgx2 : g < w4.heap.size := hg4.lt.2
        have hrx := Lib.hid (show r ≠ some w4.heap.size from fun e => by have := (hg4.row _ e).2; omega)
        clear hK5 hg4 hh4 hB4' hz5
        generalize w4.heap.size = gx at *
        --CUT
        go_wp2_with (refine wpList_storeW rfl 24 (.tmp 8) (.tmp 40) rfl 32 arrH gx rfl (bv (shaL a)) rfl 24 _ hx5 (bvsh a) (by simp) (ones_bv _) ?_)
        intro w6 hx6 hK6
        have hg6 := hg5.keeps hK6 (by simp; omega) (fun k hk => by simp; intro e; exact hrx.out (by rw [hk, e]))
        have hh6 := hh5.keeps hK6 (by simp; omega) (by simp)
        have hB6 := hB5.trans (hK6.below hB5.size (by simp; omega))
        have hgx6 := hx6.lt
        clear hK6 hx5 hg5 hh5 hB5
        have hw6 := Lib.hid (hwr.out a b z1 g _ r w6 hg6 (hs2.out.keep hB6) ba bb (by have := hn1.out; have := hn2.out; omega) (fun hp a' n' c' e => by
          have h1 := hs2.out.lt (by simpa using hp) e
          exact ⟨by omega, fun e => by have h2 : z1 ≤ a'.block := (hg6.row _ e).1; omega⟩))
        have hrow6 := Lib.hid hg6.row
        have hhs6 := hh6.lt
        go_wp2_with fail
        refine hw6.out.mono ?_
        rintro e w7 ⟨rfl, r7, hg7, hK7, hm7⟩
        have hh7 := hh6.other hK7 (by omega) hrh.out (by simp) (by simp)
        have hx7 := hx6.other hK7 (by omega) hrx.out
        have hB7 := hB6.trans (hK7.belowH hB6.size (by omega) (fun k hk => by have := (hrow6.out k hk).1; omega))
        have hr7h := Lib.hid (hm7.ne hhs6.2 hrh.out)
        have hr7x := Lib.hid (hm7.ne hgx6 hrx.out)
        clear hK7 hm7 hh6 hx6 hB6 hg6 hw6 hrow6 hrx hrh hhs6 hgx6
        obtain ⟨i0, hi, hz0, hz1', hz2'⟩ := info_parts (P := Try.prog) (e := 5) (z := .int .u8 0) (size := 1) (bytes := 1) (by kernel_rfl)
        have own0 : (w7.alloc (.cells #[] 5)).ownsRow w7.heap.size 5 1 (.slice (some ⟨w7.heap.size, 0, none⟩) 0 0) 0 [] := World.ownsRow_made w7 #[] 0 (Nat.le_refl _) (Nat.zero_le _) rfl
        have bel0 : Below w7.heap.size w7 (w7.alloc (.cells #[] 5)) := (Below.refl _ _).alloc (Nat.le_refl _) _
        have sl1 := (hs1.out.keep hB7).keep bel0
        have hz7 : w.heap.size ≤ w7.heap.size := hB7.size
        go_wp2_with (at_builtin; refine wpList_append_sl2 rfl (.tmp 46) (.tmp 47) 22 rfl w7.heap.size 5 i0 (.int .u8 0) 1 Try.underlying22 hi hz0 hz1' hz2' rfl _ 0 [] rfl own0 _ (bv a) rfl sl1 (bv_oneCell a) ?_ ?_ ?_ ?_)
        · have := hn1.out; simp [maxLen]; omega
        · have := hn1.out; simp; omega
        · simp
        intro v8 w8 own8 gr8 mv8
        have bel8 := own_below bel0 gr8 own0 (by simp)
        have sl2 := hs2.out.keep (below_call hB7 hB7.size bel8)
        clear gr8 mv8 own0 bel0 sl1
        go_wp2_with (at_builtin; refine wpList_append_sl2 rfl (.tmp 48) (.tmp 49) 22 rfl w7.heap.size 5 i0 (.int .u8 0) 1 Try.underlying22 hi hz0 hz1' hz2' rfl _ a.length (bv a) rfl own8 _ (bv b) rfl sl2 (bv_oneCell b) ?_ ?_ ?_ ?_)
        · have := hn1.out; have := hn2.out; simp [maxLen]; omega
        · have := hn1.out; have := hn2.out; simp; omega
        · exact bel8.size
        intro v9 w9 own9 gr9 mv9
        have bel9 := own_below bel8 gr9 own8 bel8.size
        rw [← bv_app] at own9
        have sl9 := Sl.of_own own9
        have hh9 := hh7.keep bel9
        have hg9 := hg7.keep bel9
        have hx9 := hx7.keep bel9
        have hB9 := below_call hB7 hB7.size bel9
        have hh7l := hh7.lt.2
        have hh9l := hh9.lt.2
        have hg9l := hg9.lt.2
        have hx9l := hx9.lt
        have hw9 := Lib.hid (hwr.out [] (a ++ b) z2 h v9 none w9 hh9 sl9 (by intro x hx; simp at hx) (fun x hx => (List.mem_append.1 hx).elim (ba x) (bb x)) (by have := hn1.out; have := hn2.out; simp; omega) (fun hp a' n' c' e => by
          have h1 := (own9.lt a'.block (by rw [e]; rfl)).1
          exact ⟨by omega, by simp⟩))
        clear gr9 mv9 own8 own9 sl9 sl2 bel8 bel9 hh7 hg7 hx7 hB7 hi hz0 hz1' hz2'
        go_wp2_with fail
        refine hw9.out.mono ?_
        rintro e w10 ⟨rfl, rh, hh10, hK10, hm10⟩
        rw [List.nil_append] at hh10
        have hg10 := hg9.other hK10 (by omega) (by simp) hr7h.out (by simp)
        have hx10 := hx9.other hK10 (by omega) (by simp)
        have hB10 := hB9.trans (hK10.belowH hB9.size (by omega) (by simp))
        have bab : Byt (a ++ b) := fun x hx => (List.mem_append.1 hx).elim (ba x) (bb x)
        have hlab : ((a ++ b).length : Int) ≤ 3000 := by have := hn1.out; have := hn2.out; simp; omega
        have hgrow := Lib.hid hg10.row
        have hhrow := Lib.hid hh10.row
        clear hK10 hm10 hh9 hg9 hx9 hB9 hw9
        have hsy := Lib.hid (hsm.out (a ++ b) z1 g r7 w10 hg10 bab (by omega))
        go_wp2_with fail
        refine hsy.out.mono ?_
        rintro e w11 ⟨rfl, hB11⟩
        have hg11 := hg10.keep hB11
        have hh11 := hh10.keep hB11
        have hx11 := hx10.keep hB11
        have hB11' := below_call hB10 hB10.size hB11
        have hsz11 : w10.heap.size ≤ w11.heap.size := hB11.size
        clear hg10 hh10 hx10 hB10 hB11 hsy
        go_wp2_with (refine wpList_allocA rfl 24 rfl (bv (zeros 32)) (by kernel_rfl) ?_)
        intro w12 hy12 hK12 hz12
        have hg12 := hg11.keeps hK12 (by simp) (by simp)
        have hh12 := hh11.keeps hK12 (by simp) (by simp)
        have hx12 := hx11.keeps hK12 (by simp)
        have hB12 := hB11'.trans (hK12.below hB11'.size (by simp))
        have q1 := hg11.lt.2
        have q2 := hh11.lt.2
        have q3 := hx11.lt
        clear hK12 hg11 hh11 hx11 hB11' hz12
        generalize w11.heap.size = gy at *
        have hry := Lib.hid (show r7 ≠ some gy ∧ rh ≠ some gy from ⟨fun e => by have := (hgrow.out _ e).2; omega, fun e => by have := (hhrow.out _ e).2; omega⟩)
        go_wp2_with (refine wpList_storeW rfl 24 (.tmp 10) (.tmp 55) rfl 32 arrH gy rfl (bv (shaL (a ++ b))) rfl 24 _ hy12 (bvsh _) (by simp) (ones_bv _) ?_)
        intro w13 hy13 hK13
        have hg13 := hg12.keeps hK13 (by simp; omega) (fun k hk => by simp; intro e; exact hry.out.1 (by rw [hk, e]))
        have hh13 := hh12.keeps hK13 (by simp; omega) (fun k hk => by simp; intro e; exact hry.out.2 (by rw [hk, e]))
        have hx13 := hx12.keeps hK13 (by simp; omega)
        have hB13 := hB12.trans (hK13.below hB12.size (by simp; omega))
        clear hK13 hy12 hg12 hh12 hx12 hB12
        have hsz := Lib.hid (hsm.out (a ++ b) z2 h rh w13 hh13 bab (by omega))
        have hgrow := Lib.hid hg13.row
        have hhrow := Lib.hid hh13.row
        go_wp2_with fail
        refine hsz.out.mono ?_
        rintro e w14 ⟨rfl, hB14⟩
        have hg14 := hg13.keep hB14
        have hh14 := hh13.keep hB14
        have hx14 := hx13.keep hB14
        have hy14 := hy13.keep hB14
        have hB14' := below_call hB13 hB13.size hB14
        have hsz14 : w13.heap.size ≤ w14.heap.size := hB14.size
        clear hg13 hh13 hx13 hy13 hB13 hB14 hsz
        go_wp2_with (refine wpList_allocA rfl 24 rfl (bv (zeros 32)) (by kernel_rfl) ?_)
        intro w15 hz15 hK15 hzz
        have hg15 := hg14.keeps hK15 (by simp) (by simp)
        have hh15 := hh14.keeps hK15 (by simp) (by simp)
        have hx15 := hx14.keeps hK15 (by simp)
        have hy15 := hy14.keeps hK15 (by simp)
        have hB15 := hB14'.trans (hK15.below hB14'.size (by simp))
        have q1 := hg14.lt.2
        have q2 := hh14.lt.2
        have q3 := hx14.lt
        have q4 := hy14.lt
        clear hK15 hg14 hh14 hx14 hy14 hB14' hzz
        generalize w14.heap.size = gz at *
        have hrz := Lib.hid (show r7 ≠ some gz ∧ rh ≠ some gz from ⟨fun e => by have := (hgrow.out _ e).2; omega, fun e => by have := (hhrow.out _ e).2; omega⟩)
        go_wp2_with (refine wpList_storeW rfl 24 (.tmp 12) (.tmp 60) rfl 32 arrH gz rfl (bv (shaL (a ++ b))) rfl 24 _ hz15 (bvsh _) (by simp) (ones_bv _) ?_)
        intro w16 hz16 hK16
        have hg16 := hg15.keeps hK16 (by simp; omega) (fun k hk => by simp; intro e; exact hrz.out.1 (by rw [hk, e]))
        have hh16 := hh15.keeps hK16 (by simp; omega) (fun k hk => by simp; intro e; exact hrz.out.2 (by rw [hk, e]))
        have hx16 := hx15.keeps hK16 (by simp; omega)
        have hy16 := hy15.keeps hK16 (by simp; omega)
        have hB16 := hB15.trans (hK16.below hB15.size (by simp; omega))
        clear hK16 hz15 hg15 hh15 hx15 hy15 hB15 hgrow hhrow hry hrz
        have hsA := Lib.hid (hs1.out.keep hB16)
        have hW := Lib.hid (show IntKind.i64.wrap ((k : Int) + (n2 : Int)) = (k : Int) + (n2 : Int) from IntWalk.i64_in _ (by have := hn1.out; have := hn2.out; omega))
        have hL1 := Lib.hid (show ((a ++ b).length : Int) = (k : Int) + (n2 : Int) by rw [hn1.out, hn2.out]; simp)
        go_wp2
        refine wp_region_held_drew (S := fun w' => Below w16.heap.size w16 w') (by kernel_rfl) ((Below.refl _ _).drew) (fun hH => ?_)
        refine takeH_move (o := ⟨some 62, _, _, _, _, _⟩) (i := 0) rfl (by kernel_rfl) (by kernel_rfl) (by kernel_rfl) (fun _ _ _ _ h => h) rfl (.tmp 9) rfl (.int .i64 0) rfl hH ?_
        simp only [Act.put, List.setIfInBounds_toArray, List.set_cons_zero, List.set_cons_succ, Nat.zero_add, decide_true, beq_self_eq_true]
        refine takeH_eqInt (o := ⟨some 63, _, _, _, _, _⟩) (i := 1) rfl (by kernel_rfl) (by kernel_rfl) (by kernel_rfl) (fun _ _ _ _ h => h) rfl 32 32 .i64 (.tmp 62) (.const (.int .i64 0)) rfl Try.underlying32 _ _ rfl rfl (rfl) hH ?_
        simp only [Act.put, List.setIfInBounds_toArray, List.set_cons_zero, List.set_cons_succ, Nat.zero_add, decide_true, beq_self_eq_true]
        refine takeH_move (o := ⟨some 64, _, _, _, _, _⟩) (i := 2) rfl (by kernel_rfl) (by kernel_rfl) (by kernel_rfl) (fun _ _ _ _ h => h) rfl (.tmp 63) rfl (.bool true) rfl hH ?_
        simp only [Act.put, List.setIfInBounds_toArray, List.set_cons_zero, List.set_cons_succ, Nat.zero_add, decide_true, beq_self_eq_true]
        refine takeH_move (o := ⟨some 65, _, _, _, _, _⟩) (i := 3) rfl (by kernel_rfl) (by kernel_rfl) (by kernel_rfl) (fun _ _ _ _ h => h) rfl (.tmp 11) rfl (.int .i64 0) rfl hH ?_
        simp only [Act.put, List.setIfInBounds_toArray, List.set_cons_zero, List.set_cons_succ, Nat.zero_add, decide_true, beq_self_eq_true]
        refine takeH_eqInt (o := ⟨some 66, _, _, _, _, _⟩) (i := 4) rfl (by kernel_rfl) (by kernel_rfl) (by kernel_rfl) (fun _ _ _ _ h => h) rfl 32 32 .i64 (.tmp 65) (.const (.int .i64 0)) rfl Try.underlying32 _ _ rfl rfl (rfl) hH ?_
        simp only [Act.put, List.setIfInBounds_toArray, List.set_cons_zero, List.set_cons_succ, Nat.zero_add, decide_true, beq_self_eq_true]
        refine takeH_pick (o := ⟨some 67, _, _, _, _, _⟩) (i := 5) rfl (by kernel_rfl) (by kernel_rfl) (by kernel_rfl) (fun _ _ _ _ h => h) rfl (.tmp 64) (.tmp 66) (.const (.bool false)) rfl true rfl (.bool true) rfl hH ?_
        simp only [Act.put, List.setIfInBounds_toArray, List.set_cons_zero, List.set_cons_succ, Nat.zero_add, decide_true, beq_self_eq_true]
        refine takeH_move (o := ⟨some 68, _, _, _, _, _⟩) (i := 6) rfl (by kernel_rfl) (by kernel_rfl) (by kernel_rfl) (fun _ _ _ _ h => h) rfl (.tmp 67) rfl (.bool true) rfl hH ?_
        simp only [Act.put, List.setIfInBounds_toArray, List.set_cons_zero, List.set_cons_succ, Nat.zero_add, decide_true, beq_self_eq_true]
        refine takeH_move (o := ⟨some 69, _, _, _, _, _⟩) (i := 7) rfl (by kernel_rfl) (by kernel_rfl) (by kernel_rfl) (fun _ _ _ _ h => h) rfl (.tmp 13) rfl (.int .i64 0) rfl hH ?_
        simp only [Act.put, List.setIfInBounds_toArray, List.set_cons_zero, List.set_cons_succ, Nat.zero_add, decide_true, beq_self_eq_true]
        refine takeH_eqInt (o := ⟨some 70, _, _, _, _, _⟩) (i := 8) rfl (by kernel_rfl) (by kernel_rfl) (by kernel_rfl) (fun _ _ _ _ h => h) rfl 32 32 .i64 (.tmp 69) (.const (.int .i64 0)) rfl Try.underlying32 _ _ rfl rfl (rfl) hH ?_
        simp only [Act.put, List.setIfInBounds_toArray, List.set_cons_zero, List.set_cons_succ, Nat.zero_add, decide_true, beq_self_eq_true]
        refine takeH_pick (o := ⟨some 71, _, _, _, _, _⟩) (i := 9) rfl (by kernel_rfl) (by kernel_rfl) (by kernel_rfl) (fun _ _ _ _ h => h) rfl (.tmp 68) (.tmp 70) (.const (.bool false)) rfl true rfl (.bool true) rfl hH ?_
        simp only [Act.put, List.setIfInBounds_toArray, List.set_cons_zero, List.set_cons_succ, Nat.zero_add, decide_true, beq_self_eq_true]
        refine takeH_move (o := ⟨some 72, _, _, _, _, _⟩) (i := 10) rfl (by kernel_rfl) (by kernel_rfl) (by kernel_rfl) (fun _ _ _ _ h => h) rfl (.tmp 71) rfl (.bool true) rfl hH ?_
        simp only [Act.put, List.setIfInBounds_toArray, List.set_cons_zero, List.set_cons_succ, Nat.zero_add, decide_true, beq_self_eq_true]
        refine takeH_load (o := ⟨some 73, _, _, _, _, _⟩) (i := 11) rfl (by kernel_rfl) (by kernel_rfl) (by kernel_rfl) (fun _ _ _ _ h => h) rfl 24 (.tmp 8) rfl 32 arrH gx 0 rfl (bv (shaL a)) (bvsh _) (fun w h => hSS (hx16.keep h) (bvsh _)) hH ?_
        simp only [Act.put, List.setIfInBounds_toArray, List.set_cons_zero, List.set_cons_succ, Nat.zero_add, decide_true, beq_self_eq_true]
        refine takeH_move (o := ⟨some 74, _, _, _, _, _⟩) (i := 12) rfl (by kernel_rfl) (by kernel_rfl) (by kernel_rfl) (fun _ _ _ _ h => h) rfl (.tmp 0) rfl (.slice A1 k c1) rfl hH ?_
        simp only [Act.put, List.setIfInBounds_toArray, List.set_cons_zero, List.set_cons_succ, Nat.zero_add, decide_true, beq_self_eq_true]
        refine wpAnyH_ready (rs := [13]) (by kernel_rfl) (by simp) ?_
        refine AllReadyH.cons rfl (fun K1 hK1 => ?_) AllReadyH.nil
        rw [if_pos (by rfl)]
        go_wp2_with fail
        refine (hsum.out a _ _ (hsA.out.keep hH) ba (by have := hn1.out; omega)).mono ?_
        rintro e wa ⟨rfl, hBa⟩
        refine hK1.out _ _ (below_call hH hH.size hBa) (fun hH => ?_)
        clear hK1 K1
        refine takeH_eqlT (o := ⟨some 76, _, _, _, _, _⟩) (i := 14) rfl (by kernel_rfl) (by kernel_rfl) (by kernel_rfl) (fun _ _ _ _ h => h) rfl 24 (.tmp 73) (.tmp 75) 24 rfl 32 bytH _ _ rfl rfl (shlen _) rfl hH ?_
        simp only [Act.put, List.setIfInBounds_toArray, List.set_cons_zero, List.set_cons_succ, Nat.zero_add, decide_true, beq_self_eq_true]
        refine takeH_pick (o := ⟨some 77, _, _, _, _, _⟩) (i := 15) rfl (by kernel_rfl) (by kernel_rfl) (by kernel_rfl) (fun _ _ _ _ h => h) rfl (.tmp 72) (.tmp 76) (.const (.bool false)) rfl true rfl (.bool true) rfl hH ?_
        simp only [Act.put, List.setIfInBounds_toArray, List.set_cons_zero, List.set_cons_succ, Nat.zero_add, decide_true, beq_self_eq_true]
        refine takeH_move (o := ⟨some 78, _, _, _, _, _⟩) (i := 16) rfl (by kernel_rfl) (by kernel_rfl) (by kernel_rfl) (fun _ _ _ _ h => h) rfl (.tmp 77) rfl (.bool true) rfl hH ?_
        simp only [Act.put, List.setIfInBounds_toArray, List.set_cons_zero, List.set_cons_succ, Nat.zero_add, decide_true, beq_self_eq_true]
        refine takeH_load (o := ⟨some 79, _, _, _, _, _⟩) (i := 17) rfl (by kernel_rfl) (by kernel_rfl) (by kernel_rfl) (fun _ _ _ _ h => h) rfl 24 (.tmp 10) rfl 32 arrH gy 0 rfl (bv (shaL (a ++ b))) (bvsh _) (fun w h => hSS (hy16.keep h) (bvsh _)) hH ?_
        simp only [Act.put, List.setIfInBounds_toArray, List.set_cons_zero, List.set_cons_succ, Nat.zero_add, decide_true, beq_self_eq_true]
        refine takeH_load (o := ⟨some 80, _, _, _, _, _⟩) (i := 18) rfl (by kernel_rfl) (by kernel_rfl) (by kernel_rfl) (fun _ _ _ _ h => h) rfl 24 (.tmp 12) rfl 32 arrH gz 0 rfl (bv (shaL (a ++ b))) (bvsh _) (fun w h => hSS (hz16.keep h) (bvsh _)) hH ?_
        simp only [Act.put, List.setIfInBounds_toArray, List.set_cons_zero, List.set_cons_succ, Nat.zero_add, decide_true, beq_self_eq_true]
        refine takeH_eqlT (o := ⟨some 81, _, _, _, _, _⟩) (i := 19) rfl (by kernel_rfl) (by kernel_rfl) (by kernel_rfl) (fun _ _ _ _ h => h) rfl 24 (.tmp 79) (.tmp 80) 24 rfl 32 bytH _ _ rfl rfl (shlen _) rfl hH ?_
        simp only [Act.put, List.setIfInBounds_toArray, List.set_cons_zero, List.set_cons_succ, Nat.zero_add, decide_true, beq_self_eq_true]
        refine takeH_pick (o := ⟨some 82, _, _, _, _, _⟩) (i := 20) rfl (by kernel_rfl) (by kernel_rfl) (by kernel_rfl) (fun _ _ _ _ h => h) rfl (.tmp 78) (.tmp 81) (.const (.bool false)) rfl true rfl (.bool true) rfl hH ?_
        simp only [Act.put, List.setIfInBounds_toArray, List.set_cons_zero, List.set_cons_succ, Nat.zero_add, decide_true, beq_self_eq_true]
        refine takeH_move (o := ⟨some 83, _, _, _, _, _⟩) (i := 21) rfl (by kernel_rfl) (by kernel_rfl) (by kernel_rfl) (fun _ _ _ _ h => h) rfl (.tmp 82) rfl (.bool true) rfl hH ?_
        simp only [Act.put, List.setIfInBounds_toArray, List.set_cons_zero, List.set_cons_succ, Nat.zero_add, decide_true, beq_self_eq_true]
        refine takeH_move (o := ⟨some 84, _, _, _, _, _⟩) (i := 22) rfl (by kernel_rfl) (by kernel_rfl) (by kernel_rfl) (fun _ _ _ _ h => h) rfl (.tmp 5) rfl (.pointer (some ⟨g, 0, none⟩)) rfl hH ?_
        simp only [Act.put, List.setIfInBounds_toArray, List.set_cons_zero, List.set_cons_succ, Nat.zero_add, decide_true, beq_self_eq_true]
        refine takeH_move (o := ⟨some 86, _, _, _, _, _⟩) (i := 24) rfl (by kernel_rfl) (by kernel_rfl) (by kernel_rfl) (fun _ _ _ _ h => h) rfl (.tmp 6) rfl (.pointer (some ⟨h, 0, none⟩)) rfl hH ?_
        simp only [Act.put, List.setIfInBounds_toArray, List.set_cons_zero, List.set_cons_succ, Nat.zero_add, decide_true, beq_self_eq_true]
        refine wpAnyH_ready (rs := [23]) (by kernel_rfl) (by simp) ?_
        refine AllReadyH.cons rfl (fun K1 hK1 => ?_) AllReadyH.nil
        rw [if_pos (by rfl)]
        go_wp2_with fail
        refine (len_any (a ++ b) z1 g r7 _ (hg16.keep hH)).mono ?_
        rintro e wa ⟨rfl, rfl⟩
        refine hK1.out _ _ hH (fun hH => ?_)
        clear hK1 K1
        refine wpAnyH_ready (rs := [25]) (by kernel_rfl) (by simp) ?_
        refine AllReadyH.cons rfl (fun K1 hK1 => ?_) AllReadyH.nil
        rw [if_pos (by rfl)]
        go_wp2_with fail
        refine (len_any (a ++ b) z2 h rh _ (hh16.keep hH)).mono ?_
        rintro e wa ⟨rfl, rfl⟩
        refine hK1.out _ _ hH (fun hH => ?_)
        clear hK1 K1
        refine takeH_eqInt (o := ⟨some 88, _, _, _, _, _⟩) (i := 26) rfl (by kernel_rfl) (by kernel_rfl) (by kernel_rfl) (fun _ _ _ _ h => h) rfl 3 3 .i64 (.tmp 85) (.tmp 87) rfl Try.underlying3 _ _ rfl rfl ((by simp)) hH ?_
        simp only [Act.put, List.setIfInBounds_toArray, List.set_cons_zero, List.set_cons_succ, Nat.zero_add, decide_true, beq_self_eq_true]
        refine takeH_pick (o := ⟨some 89, _, _, _, _, _⟩) (i := 27) rfl (by kernel_rfl) (by kernel_rfl) (by kernel_rfl) (fun _ _ _ _ h => h) rfl (.tmp 83) (.tmp 88) (.const (.bool false)) rfl true rfl (.bool true) rfl hH ?_
        simp only [Act.put, List.setIfInBounds_toArray, List.set_cons_zero, List.set_cons_succ, Nat.zero_add, decide_true, beq_self_eq_true]
        refine takeH_move (o := ⟨some 90, _, _, _, _, _⟩) (i := 28) rfl (by kernel_rfl) (by kernel_rfl) (by kernel_rfl) (fun _ _ _ _ h => h) rfl (.tmp 89) rfl (.bool true) rfl hH ?_
        simp only [Act.put, List.setIfInBounds_toArray, List.set_cons_zero, List.set_cons_succ, Nat.zero_add, decide_true, beq_self_eq_true]
        refine takeH_move (o := ⟨some 91, _, _, _, _, _⟩) (i := 29) rfl (by kernel_rfl) (by kernel_rfl) (by kernel_rfl) (fun _ _ _ _ h => h) rfl (.tmp 5) rfl (.pointer (some ⟨g, 0, none⟩)) rfl hH ?_
        simp only [Act.put, List.setIfInBounds_toArray, List.set_cons_zero, List.set_cons_succ, Nat.zero_add, decide_true, beq_self_eq_true]
        refine takeH_move (o := ⟨some 93, _, _, _, _, _⟩) (i := 31) rfl (by kernel_rfl) (by kernel_rfl) (by kernel_rfl) (fun _ _ _ _ h => h) rfl (.tmp 0) rfl (.slice A1 k c1) rfl hH ?_
        simp only [Act.put, List.setIfInBounds_toArray, List.set_cons_zero, List.set_cons_succ, Nat.zero_add, decide_true, beq_self_eq_true]
        refine takeH_len (o := ⟨some 94, _, _, _, _, _⟩) (i := 32) rfl (by kernel_rfl) (by kernel_rfl) (by kernel_rfl) (fun _ _ _ _ h => h) rfl 22 5 (.tmp 93) rfl Try.underlying22 _ _ _ rfl hH ?_
        simp only [Act.put, List.setIfInBounds_toArray, List.set_cons_zero, List.set_cons_succ, Nat.zero_add, decide_true, beq_self_eq_true]
        refine takeH_move (o := ⟨some 95, _, _, _, _, _⟩) (i := 33) rfl (by kernel_rfl) (by kernel_rfl) (by kernel_rfl) (fun _ _ _ _ h => h) rfl (.tmp 1) rfl (.slice A2 n2 c2) rfl hH ?_
        simp only [Act.put, List.setIfInBounds_toArray, List.set_cons_zero, List.set_cons_succ, Nat.zero_add, decide_true, beq_self_eq_true]
        refine takeH_len (o := ⟨some 96, _, _, _, _, _⟩) (i := 34) rfl (by kernel_rfl) (by kernel_rfl) (by kernel_rfl) (fun _ _ _ _ h => h) rfl 22 5 (.tmp 95) rfl Try.underlying22 _ _ _ rfl hH ?_
        simp only [Act.put, List.setIfInBounds_toArray, List.set_cons_zero, List.set_cons_succ, Nat.zero_add, decide_true, beq_self_eq_true]
        refine takeH_S (o := ⟨some 97, _, _, _, _, _⟩) (i := 35) rfl (by kernel_rfl) (by kernel_rfl) (by kernel_rfl) (fun _ _ _ _ h => h) rfl (.int .i64 ((k : Int) + (n2 : Int))) (fun w _ => by go_simp; exact hW.out) hH ?_
        simp only [Act.put, List.setIfInBounds_toArray, List.set_cons_zero, List.set_cons_succ, Nat.zero_add, decide_true, beq_self_eq_true]
        refine wpAnyH_ready (rs := [30]) (by kernel_rfl) (by simp) ?_
        refine AllReadyH.cons rfl (fun K1 hK1 => ?_) AllReadyH.nil
        rw [if_pos (by rfl)]
        go_wp2_with fail
        refine (len_any (a ++ b) z1 g r7 _ (hg16.keep hH)).mono ?_
        rintro e wa ⟨rfl, rfl⟩
        refine hK1.out _ _ hH (fun hH => ?_)
        clear hK1 K1
        refine takeH_eqInt (o := ⟨some 98, _, _, _, _, _⟩) (i := 36) rfl (by kernel_rfl) (by kernel_rfl) (by kernel_rfl) (fun _ _ _ _ h => h) rfl 3 3 .i64 (.tmp 92) (.tmp 97) rfl Try.underlying3 _ _ rfl rfl ((by first | exact hL1.out | (have := hL1.out; simp at this ⊢; omega))) hH ?_
        simp only [Act.put, List.setIfInBounds_toArray, List.set_cons_zero, List.set_cons_succ, Nat.zero_add, decide_true, beq_self_eq_true]
        refine takeH_pick (o := ⟨some 99, _, _, _, _, _⟩) (i := 37) rfl (by kernel_rfl) (by kernel_rfl) (by kernel_rfl) (fun _ _ _ _ h => h) rfl (.tmp 90) (.tmp 98) (.const (.bool false)) rfl true rfl (.bool true) rfl hH ?_
        simp only [Act.put, List.setIfInBounds_toArray, List.set_cons_zero, List.set_cons_succ, Nat.zero_add, decide_true, beq_self_eq_true]
        refine takeH_assign (o := ⟨some 4, _, _, _, _, _⟩) (i := 38) rfl (by kernel_rfl) (by kernel_rfl) (by kernel_rfl) (fun _ _ _ _ h => h) rfl (.tmp 99) rfl (.bool true) rfl hH ?_
        simp only [Act.put, List.setIfInBounds_toArray, List.set_cons_zero, List.set_cons_succ, Nat.zero_add, decide_true, beq_self_eq_true]
        refine wpAnyH_done (by kernel_rfl) ?_ _
        go_wp2_with fail
        go_ret
        exact ⟨rfl, below_call hB16 hB16.size hH⟩

theorem walk (v0 : Value) (l0 : List Nat) (b0 : Byt l0) (m0 : l0.length ≤ 140737488351232) (v1 : Value) (l1 : List Nat) (b1 : Byt l1) (m1 : l1.length ≤ 140737488351232) (W : World) (s0 : Sl W v0 (bv l0)) (s1 : Sl W v1 (bv l1)) :
    Calls Try.prog 9 #[v0, v1] W fun e w' => e = .returned (.bool true) ∧ Below W.heap.size W w' := by
  obtain ⟨A1, c1, h1, -⟩ := id s0
  obtain ⟨A2, c2, h2, -⟩ := id s1
  subst h1 h2
  exact core A1 A2 _ _ c1 c2 l0 l1 W s0 s1 b0 b1 (by simp) (by simp) (by simp; omega) (by simp; omega)
end Go.Proofs.Ytenpehhmomhooaa.w_ShaTwice
