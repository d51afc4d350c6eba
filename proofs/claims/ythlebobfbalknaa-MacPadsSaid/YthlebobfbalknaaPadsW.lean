/- The walk of MacPads. -/
import Derived.Test.YthlebobfbalknaaMacD
import Derived.Test.YthlebobfbalknaaApZ
import Derived.Test.YthlebobfbalknaaRgx
import Derived.Test.YthlebobfbalknaaSlC
set_option linter.unusedVariables false
set_option linter.unusedSimpArgs false
namespace Go.Proofs.Ythlebobfbalknaa.w_MacPads
open Go.RowKit
open Go.Proofs.PlainAes
open Go.Proofs.PlainSha
open Go.Proofs.PlainMac

theorem pad_byt0 {l : List Nat} (bl : Byt l) (z : Nat) : Byt (l ++ List.replicate z 0) := fun x hx => by
  rcases List.mem_append.1 hx with h | h
  · exact bl x h
  · rw [List.eq_of_mem_replicate h]; decide
theorem mac_hash (v v2 : Value) (l m : List Nat) (w : World) (h : Sl w v (bv (shaL l))) (h2 : Sl w v2 (bv m)) (bm : Byt m) (hlm : (m.length : Int) ≤ 549755813888) (hh : 64 < l.length) : Calls Try.prog 9 #[v, v2] w (RetH (macL l m) w) := by
  have e := macL_hash m hh (shaL_len l)
  rw [← e]
  exact mac_any v v2 (shaL l) m w h h2 (shaL_byt l) bm (by rw [shaL_len]; decide) hlm
theorem mac_pad (v v2 : Value) (l m : List Nat) (z : Nat) (w : World) (h : Sl w v (bv (l ++ List.replicate z 0))) (h2 : Sl w v2 (bv m)) (bl : Byt l) (bm : Byt m) (hlm : (m.length : Int) ≤ 549755813888) (hz : l.length + z ≤ 64) : Calls Try.prog 9 #[v, v2] w (RetH (macL l m) w) := by
  have e := macL_pad m hz
  rw [← e]
  exact mac_any v v2 _ m w h h2 (pad_byt0 bl z) bm (by rw [List.length_append, List.length_replicate]; omega) hlm
theorem fits_pad (v v2 : Value) (l m : List Nat) (z : Nat) (w : World) (h : Sl w v (bv (l ++ List.replicate z 0))) (h2 : Sl w v2 (bv m)) (bl : Byt l) (bm : Byt m) (hlm : (m.length : Int) ≤ 549755813888) (hz : l.length + z ≤ 64) : Calls Try.prog 11 #[v, v2, .agg (bv (macL l m)).toArray] w fun e w' => e = .returned (.bool true) ∧ Below w.heap.size w w' := by
  have e := macL_pad m hz
  have h := fits_any v v2 (l ++ List.replicate z 0) m (macL l m) w h h2 (pad_byt0 bl z) bm (by rw [List.length_append, List.length_replicate]; omega) hlm (macL_len _ _) (macL_byt _ _)
  have e2 : decide (macL (l ++ List.replicate z 0) m = macL l m) = true := decide_eq_true e
  rw [e2] at h
  exact h
set_option maxRecDepth 100000 in
set_option maxHeartbeats 1000000 in
theorem core (A A2 : Option Addr) (n c n2 c2 b : Nat) (l m : List Nat) (W : World) (hs1 : Sl W (.slice A n c) (bv l)) (hs2 : Sl W (.slice A2 n2 c2) (bv m)) (bl : Byt l) (bm : Byt m) (hn1 : n = l.length) (hn2 : n2 = m.length) (hb : (b : Int) ≤ 255) :
    Calls Try.prog 3 #[.slice A n c, .slice A2 n2 c2, .int .u8 (b : Int)] W fun e w' => e = .returned (.bool true) ∧ Below W.heap.size W w' := by
  have hal := Lib.hid (fun w => alive_any w)
  by_cases h1 : (500 : Int) < (n : Int)
  · go_enter Try.func3, Try.ntmps3
    go_wp2_with fail
    refine (hal.out _).mono ?_
    rintro e w1 ⟨rfl, hB1⟩
    go_wp2
    go_ret
    exact ⟨rfl, hB1⟩
  by_cases h2 : (2000 : Int) < (n2 : Int)
  · go_enter Try.func3, Try.ntmps3
    go_wp2_with fail
    refine (hal.out _).mono ?_
    rintro e w1 ⟨rfl, hB1⟩
    go_wp2
    go_ret
    exact ⟨rfl, hB1⟩
  have hlm : (m.length : Int) ≤ 549755813888 := by omega
  have hlk : (l.length : Int) ≤ 549755813888 := by omega
  have hmac := Lib.hid (fun w (h : Sl w (.slice A n c) (bv l)) (h2 : Sl w (.slice A2 n2 c2) (bv m)) => mac_any _ _ l m w h h2 bl bm hlk hlm)
  have hsum := Lib.hid (fun w (h : Sl w (.slice A n c) (bv l)) => shasum_any l _ w h bl hlk)
  have hXl := Lib.hid (show (bv (macL l m)).length = 32 by rw [bv_length, macL_len])
  have hXl1 := Lib.hid (macL_len l m)
  have hOl := Lib.hid (show (bv (shaL l)).length = 32 by rw [bv_length, shaL_len])
  have hmac2 := Lib.hid (fun (hh : 64 < l.length) v w (h : Sl w v (bv (shaL l))) (h2 : Sl w (.slice A2 n2 c2) (bv m)) => mac_hash v _ l m w h h2 bm hlm hh)
  have hmac3 := Lib.hid (fun z (hz : l.length + z ≤ 64) v w (h : Sl w v (bv (l ++ List.replicate z 0))) (h2 : Sl w (.slice A2 n2 c2) (bv m)) => mac_pad v _ l m z w h h2 bl bm hlm hz)
  have hfit := Lib.hid (fun z (hz : l.length + z ≤ 64) v w (h : Sl w v (bv (l ++ List.replicate z 0))) (h2 : Sl w (.slice A2 n2 c2) (bv m)) => fits_pad v _ l m z w h h2 bl bm hlm hz)
  replace hs1 := Lib.hid hs1
  replace hs2 := Lib.hid hs2
  replace hn1 := Lib.hid hn1
  replace hn2 := Lib.hid hn2
  clear bl bm hlk hlm
  generalize macL l m = X at *
  go_enter Try.func3, Try.ntmps3
  go_wp2_with fail
  refine (hal.out _).mono ?_
  rintro e w1 ⟨rfl, hB1⟩
  have hm1 := Lib.hid (hmac.out w1 (hs1.out.keep hB1) (hs2.out.keep hB1))
  go_wp2_with fail
  refine hm1.out.mono ?_
  rintro e w2 ⟨rfl, hB2⟩
  have hB2' := below_call hB1 hB1.size hB2
  clear hB1 hB2 hm1 hmac hal
  go_wp2_with (refine wpList_allocA rfl 25 rfl (bv (zeros 32)) (by kernel_rfl) ?_)
  intro w3 h3 hK3 hz3
  have hB3 := hB2'.trans (hK3.below hB2'.size (by simp))
  have hg7 : W.heap.size ≤ w2.heap.size := hB2'.size
  clear hK3 hB2' hz3
  generalize w2.heap.size = g7 at *
  go_wp2_with (refine wpList_storeW rfl 25 (.tmp 7) (.tmp 22) rfl 32 arrH g7 rfl (bv X) rfl 25 _ h3 hXl.out (by simp) (ones_bv _) ?_)
  intro wr h7 hK4
  have hB := hB3.trans (hK4.below hB3.size (by simp; omega))
  clear hK4 h3 hB3
  by_cases h64 : (64 : Int) < (n : Int)
  · have hsm := Lib.hid (hsum.out wr (hs1.out.keep hB))
    replace hmac2 := Lib.hid (hmac2.out (by have := hn1.out; omega))
    generalize shaL l = O at *
    clear hmac3 hfit hsum hs1
    go_wp2_with fail
    refine hsm.out.mono ?_
    rintro e w5 ⟨rfl, hB5⟩
    have hB5' := below_call hB hB.size hB5
    have h75 := h7.keep hB5
    clear hB h7 hB5 hsm
    go_wp2_with (refine wpList_allocA rfl 25 rfl (bv (zeros 32)) (by kernel_rfl) ?_)
    intro w6 h8 hK6 hz6
    have h76 := h75.keeps hK6 (by simp)
    have hB6 := hB5'.trans (hK6.below hB5'.size (by simp))
    have hg8 := h75.lt
    have hg8W := hB5'.size
    clear hK6 h75 hB5' hz6
    generalize w5.heap.size = g8 at *
    go_wp2_with (refine wpList_storeW rfl 25 (.tmp 8) (.tmp 27) rfl 32 arrH g8 rfl (bv O) rfl 25 _ h8 hOl.out (by simp) (ones_bv _) ?_)
    intro w7 h88 hK7
    have h78 := h76.keeps hK7 (by simp; omega)
    have hB8 := hB6.trans (hK7.below hB6.size (by simp; omega))
    have sl8 : Hid (Sl w7 (.slice (some ⟨g8, 0, none⟩) 32 32) (bv O)) := by
      have h := Sl.of_blk h88 (show 32 ≤ 32 from Nat.le_refl _) (Nat.le_of_eq hOl.out.symm) (by unfold maxLen; omega)
      rw [List.take_of_length_le (Nat.le_of_eq hOl.out)] at h
      exact h
    replace hmac2 := Lib.hid (hmac2.out (.slice (some ⟨g8, 0, none⟩) 32 32))
    clear hK7 h8 h76 hB6 h88
    go_wp2
    refine wp_region_held_drew (S := fun w' => Below w7.heap.size w7 w') (by kernel_rfl) ((Below.refl _ _).drew) (fun hH => ?_)
    refine takeH_S (o := ⟨some 28, _, _, _, _, _⟩) (i := 0) rfl (by kernel_rfl) (by kernel_rfl) (by kernel_rfl) (fun _ _ _ _ h => h) rfl (.slice (some ⟨g8, 0, none⟩) 32 32) (fun w _ => by go_simp) hH ?_
    simp only [Act.put, List.setIfInBounds_toArray, List.set_cons_zero, List.set_cons_succ, Nat.zero_add, decide_true, beq_self_eq_true]
    refine takeH_move (o := ⟨some 29, _, _, _, _, _⟩) (i := 1) rfl (by kernel_rfl) (by kernel_rfl) (by kernel_rfl) (fun _ _ _ _ h => h) rfl (.tmp 1) rfl (.slice A2 n2 c2) rfl hH ?_
    simp only [Act.put, List.setIfInBounds_toArray, List.set_cons_zero, List.set_cons_succ, Nat.zero_add, decide_true, beq_self_eq_true]
    refine takeH_load (o := ⟨some 31, _, _, _, _, _⟩) (i := 3) rfl (by kernel_rfl) (by kernel_rfl) (by kernel_rfl) (fun _ _ _ _ h => h) rfl 25 (.tmp 7) rfl 32 arrH g7 0 rfl (bv X) hXl.out (fun w h => hSS (h78.keep h) hXl.out) hH ?_
    simp only [Act.put, List.setIfInBounds_toArray, List.set_cons_zero, List.set_cons_succ, Nat.zero_add, decide_true, beq_self_eq_true]
    refine wpAnyH_ready (rs := [2]) (by kernel_rfl) (by simp) ?_
    refine AllReadyH.cons rfl (fun K1 hK1 => ?_) AllReadyH.nil
    rw [if_pos (by rfl)]
    go_wp2_with fail
    refine (hmac2.out _ (sl8.out.keep hH) (hs2.out.keep (below_call hB8 hB8.size hH))).mono ?_
    rintro e wa ⟨rfl, hBa⟩
    refine hK1.out _ _ (below_call hH hH.size hBa) (fun hH => ?_)
    clear hK1 K1
    refine takeH_eqlT (o := ⟨some 32, _, _, _, _, _⟩) (i := 4) rfl (by kernel_rfl) (by kernel_rfl) (by kernel_rfl) (fun _ _ _ _ h => h) rfl 25 (.tmp 30) (.tmp 31) 25 rfl 32 bytH _ _ rfl rfl hXl1.out rfl hH ?_
    simp only [Act.put, List.setIfInBounds_toArray, List.set_cons_zero, List.set_cons_succ, Nat.zero_add, decide_true, beq_self_eq_true]
    refine takeH_assign (o := ⟨some 6, _, _, _, _, _⟩) (i := 5) rfl (by kernel_rfl) (by kernel_rfl) (by kernel_rfl) (fun _ _ _ _ h => h) rfl (.tmp 32) rfl (.bool true) rfl hH ?_
    simp only [Act.put, List.setIfInBounds_toArray, List.set_cons_zero, List.set_cons_succ, Nat.zero_add, decide_true, beq_self_eq_true]
    refine wpAnyH_done (by kernel_rfl) ?_ _
    go_wp2_with fail
    go_ret
    exact ⟨rfl, below_call hB8 hB8.size hH⟩
  · clear hmac2 hsum hOl
    obtain ⟨z, hz⟩ : ∃ z, z = b % (65 - n) := ⟨_, rfl⟩
    have hzn : z ≤ 64 - n := by have := Nat.mod_lt b (show 0 < 65 - n by omega); omega
    have hcz : (65 - (n : Int)) = ((65 - n : Nat) : Int) := by omega
    have q1 := Lib.hid (show IntKind.i64.wrap (65 - (n : Int)) = 65 - (n : Int) from IntWalk.i64_in _ (by omega))
    have q2 := Lib.hid (show (b : Int) % (65 - (n : Int)) = (z : Int) by rw [hcz, hz]; rfl)
    have q3 := Lib.hid (show Int.tmod (b : Int) (65 - (n : Int)) = (z : Int) by rw [Int.tmod_eq_emod_of_nonneg (by omega)]; exact q2.out)
    have qb := Lib.hid (show IntKind.i64.wrap (b : Int) = (b : Int) from IntWalk.i64_in _ (by omega))
    have hne : ¬ (65 - (n : Int) = 0) := by omega
    have hzI : (z : Int) ≤ 64 := by omega
    have hl1 := hn1.out
    replace hmac3 := Lib.hid (hmac3.out z (by omega))
    replace hfit := Lib.hid (hfit.out z (by omega))
    clear hcz
    replace hz := Lib.hid hz
    replace hzn := Lib.hid hzn
    replace hl1 := Lib.hid hl1
    obtain ⟨i0, hi, hz0, hz1, hz2⟩ := info_parts (P := Try.prog) (e := 5) (z := .int .u8 0) (size := 1) (bytes := 1) (by kernel_rfl)
    go_wp2
    refine wp_region_held_drew (S := fun w' => Below wr.heap.size wr w') (by kernel_rfl) ((Below.refl _ _).drew) (fun hH => ?_)
    refine takeH_move (o := ⟨some 34, _, _, _, _, _⟩) (i := 1) rfl (by kernel_rfl) (by kernel_rfl) (by kernel_rfl) (fun _ _ _ _ h => h) rfl (.tmp 0) rfl (.slice A n c) rfl hH ?_
    simp only [Act.put, List.setIfInBounds_toArray, List.set_cons_zero, List.set_cons_succ, Nat.zero_add, decide_true, beq_self_eq_true]
    refine takeH_move (o := ⟨some 36, _, _, _, _, _⟩) (i := 3) rfl (by kernel_rfl) (by kernel_rfl) (by kernel_rfl) (fun _ _ _ _ h => h) rfl (.tmp 2) rfl (.int .u8 (b : Int)) rfl hH ?_
    simp only [Act.put, List.setIfInBounds_toArray, List.set_cons_zero, List.set_cons_succ, Nat.zero_add, decide_true, beq_self_eq_true]
    refine takeH_S (o := ⟨some 37, _, _, _, _, _⟩) (i := 4) rfl (by kernel_rfl) (by kernel_rfl) (by kernel_rfl) (fun _ _ _ _ h => h) rfl (.int .i64 (b : Int)) (fun w _ => by go_simp; exact qb.out) hH ?_
    simp only [Act.put, List.setIfInBounds_toArray, List.set_cons_zero, List.set_cons_succ, Nat.zero_add, decide_true, beq_self_eq_true]
    refine takeH_move (o := ⟨some 38, _, _, _, _, _⟩) (i := 5) rfl (by kernel_rfl) (by kernel_rfl) (by kernel_rfl) (fun _ _ _ _ h => h) rfl (.tmp 0) rfl (.slice A n c) rfl hH ?_
    simp only [Act.put, List.setIfInBounds_toArray, List.set_cons_zero, List.set_cons_succ, Nat.zero_add, decide_true, beq_self_eq_true]
    refine takeH_len (o := ⟨some 39, _, _, _, _, _⟩) (i := 6) rfl (by kernel_rfl) (by kernel_rfl) (by kernel_rfl) (fun _ _ _ _ h => h) rfl 22 5 (.tmp 38) rfl Try.underlying22 _ _ _ rfl hH ?_
    simp only [Act.put, List.setIfInBounds_toArray, List.set_cons_zero, List.set_cons_succ, Nat.zero_add, decide_true, beq_self_eq_true]
    refine takeH_S (o := ⟨some 40, _, _, _, _, _⟩) (i := 7) rfl (by kernel_rfl) (by kernel_rfl) (by kernel_rfl) (fun _ _ _ _ h => h) rfl (.int .i64 (65 - (n : Int))) (fun w _ => by go_simp; exact q1.out) hH ?_
    simp only [Act.put, List.setIfInBounds_toArray, List.set_cons_zero, List.set_cons_succ, Nat.zero_add, decide_true, beq_self_eq_true]
    refine takeH_S (o := ⟨some 41, _, _, _, _, _⟩) (i := 8) rfl (by kernel_rfl) (by kernel_rfl) (by kernel_rfl) (fun _ _ _ _ h => h) rfl (.int .i64 (z : Int)) (fun w _ => by go_simp; first | exact q2.out | exact q3.out | simp [q2.out, q3.out]) hH ?_
    simp only [Act.put, List.setIfInBounds_toArray, List.set_cons_zero, List.set_cons_succ, Nat.zero_add, decide_true, beq_self_eq_true]
    refine wpAnyH_ready (rs := [0]) (by kernel_rfl) (by simp) ?_
    refine AllReadyH.cons rfl (fun K1 hK1 => ?_) AllReadyH.nil
    rw [if_pos (by rfl)]
    go_wp2_with fail
    have own0 : (wr.drew.alloc (.cells #[] 5)).ownsRow wr.heap.size 5 1 (.slice (some ⟨wr.heap.size, 0, none⟩) 0 0) 0 [] := World.ownsRow_made wr.drew #[] 0 (Nat.le_refl _) (Nat.zero_le _) rfl
    have bel0 : Below wr.heap.size wr (wr.drew.alloc (.cells #[] 5)) := (Below.refl _ wr).drew.alloc (Nat.le_refl _) _
    refine hK1.out _ _ bel0 (fun hH => ?_)
    clear hK1 K1
    refine wpAnyH_ready (rs := [2]) (by kernel_rfl) (by simp) ?_
    refine AllReadyH.cons rfl (fun K1 hK1 => ?_) AllReadyH.nil
    rw [if_pos (by rfl)]
    have slk := hs1.out.keep (below_call hB hB.size bel0)
    obtain ⟨v1, wb, hr1, own1, gr1⟩ := run_append_sl (P := Try.prog) (wr.drew.alloc (.cells #[] 5)) wr.heap.size 22 22 5 i0 (.int .u8 0) 1 Try.underlying22 hi hz0 hz1 hz2 rfl _ 0 [] own0 _ (bv l) slk (bv_oneCell l) (by have := hn1.out; rw [bv_length]; simp [maxLen]; omega) (by have := hn1.out; rw [bv_length]; omega) (by simp)
    refine Lib.wp_append_run _ (.tmp 33) (.tmp 34) 22 22 rfl _ _ rfl rfl v1 wb hr1 ?_
    have bel1 := own_below bel0 gr1 own0 (by simp)
    rw [Nat.zero_add, List.nil_append, bv_length] at own1
    go_simp
    refine hK1.out _ _ bel1 (fun hH => ?_)
    clear hK1 K1 gr1 own0 bel0 slk hr1
    refine wpAnyH_ready (rs := [9]) (by kernel_rfl) (by simp) ?_
    refine AllReadyH.cons rfl (fun K1 hK1 => ?_) AllReadyH.nil
    rw [if_pos (by rfl)]
    obtain ⟨v2, wc, hr2, own2, gr2⟩ := run_append_zeros (P := Try.prog) wb wr.heap.size 22 3 22 5 i0 .i64 .i64 Try.underlying22 Try.underlying3 hi hz0 hz1 hz2 v1 l.length (bv l) own1 z (by have := hn1.out; simp [maxLen]; omega) (by have := hn1.out; omega) bel1.size
    refine Lib.wp_append_run _ (.tmp 35) (.tmp 41) 22 3 rfl _ _ rfl rfl v2 wc hr2 ?_
    have bel2 := own_below bel1 gr2 own1 bel1.size
    rw [show bv l ++ List.replicate z (Value.int .u8 0) = bv (l ++ List.replicate z 0) from by simp [bv]] at own2
    go_simp
    refine hK1.out _ _ bel2 (fun hH => ?_)
    clear hK1 K1 gr2 own1 bel1 hr2
    refine takeH_assign (o := ⟨some 9, _, _, _, _, _⟩) (i := 10) rfl (by kernel_rfl) (by kernel_rfl) (by kernel_rfl) (fun _ _ _ _ h => h) rfl (.tmp 42) rfl v2 rfl hH ?_
    simp only [Act.put, List.setIfInBounds_toArray, List.set_cons_zero, List.set_cons_succ, Nat.zero_add, decide_true, beq_self_eq_true]
    refine wpAnyH_done (by kernel_rfl) ?_ _
    have sl2 := Lib.hid (Sl.of_own own2)
    have hB2 := below_call hB hB.size bel2
    have h72 := h7.keep bel2
    clear own2 bel2 hB h7 hH hs1 hz0 hz1 hz2 hi q1 q2 q3 hne
    go_wp2
    refine wp_region_held_drew (S := fun w' => Below wc.heap.size wc w') (by kernel_rfl) ((Below.refl _ _).drew) (fun hH => ?_)
    refine takeH_move (o := ⟨some 43, _, _, _, _, _⟩) (i := 0) rfl (by kernel_rfl) (by kernel_rfl) (by kernel_rfl) (fun _ _ _ _ h => h) rfl (.tmp 9) rfl v2 rfl hH ?_
    simp only [Act.put, List.setIfInBounds_toArray, List.set_cons_zero, List.set_cons_succ, Nat.zero_add, decide_true, beq_self_eq_true]
    refine takeH_move (o := ⟨some 44, _, _, _, _, _⟩) (i := 1) rfl (by kernel_rfl) (by kernel_rfl) (by kernel_rfl) (fun _ _ _ _ h => h) rfl (.tmp 1) rfl (.slice A2 n2 c2) rfl hH ?_
    simp only [Act.put, List.setIfInBounds_toArray, List.set_cons_zero, List.set_cons_succ, Nat.zero_add, decide_true, beq_self_eq_true]
    refine takeH_load (o := ⟨some 46, _, _, _, _, _⟩) (i := 3) rfl (by kernel_rfl) (by kernel_rfl) (by kernel_rfl) (fun _ _ _ _ h => h) rfl 25 (.tmp 7) rfl 32 arrH g7 0 rfl (bv X) hXl.out (fun w h => hSS (h72.keep h) hXl.out) hH ?_
    simp only [Act.put, List.setIfInBounds_toArray, List.set_cons_zero, List.set_cons_succ, Nat.zero_add, decide_true, beq_self_eq_true]
    refine wpAnyH_ready (rs := [2]) (by kernel_rfl) (by simp) ?_
    refine AllReadyH.cons rfl (fun K1 hK1 => ?_) AllReadyH.nil
    rw [if_pos (by rfl)]
    go_wp2_with fail
    refine (hmac3.out _ _ (sl2.out.keep hH) (hs2.out.keep (below_call hB2 hB2.size hH))).mono ?_
    rintro e wa ⟨rfl, hBa⟩
    refine hK1.out _ _ (below_call hH hH.size hBa) (fun hH => ?_)
    clear hK1 K1
    refine takeH_eqlT (o := ⟨some 47, _, _, _, _, _⟩) (i := 4) rfl (by kernel_rfl) (by kernel_rfl) (by kernel_rfl) (fun _ _ _ _ h => h) rfl 25 (.tmp 45) (.tmp 46) 25 rfl 32 bytH _ _ rfl rfl hXl1.out rfl hH ?_
    simp only [Act.put, List.setIfInBounds_toArray, List.set_cons_zero, List.set_cons_succ, Nat.zero_add, decide_true, beq_self_eq_true]
    refine takeH_move (o := ⟨some 48, _, _, _, _, _⟩) (i := 5) rfl (by kernel_rfl) (by kernel_rfl) (by kernel_rfl) (fun _ _ _ _ h => h) rfl (.tmp 47) rfl (.bool true) rfl hH ?_
    simp only [Act.put, List.setIfInBounds_toArray, List.set_cons_zero, List.set_cons_succ, Nat.zero_add, decide_true, beq_self_eq_true]
    refine takeH_move (o := ⟨some 49, _, _, _, _, _⟩) (i := 6) rfl (by kernel_rfl) (by kernel_rfl) (by kernel_rfl) (fun _ _ _ _ h => h) rfl (.tmp 9) rfl v2 rfl hH ?_
    simp only [Act.put, List.setIfInBounds_toArray, List.set_cons_zero, List.set_cons_succ, Nat.zero_add, decide_true, beq_self_eq_true]
    refine takeH_move (o := ⟨some 50, _, _, _, _, _⟩) (i := 7) rfl (by kernel_rfl) (by kernel_rfl) (by kernel_rfl) (fun _ _ _ _ h => h) rfl (.tmp 1) rfl (.slice A2 n2 c2) rfl hH ?_
    simp only [Act.put, List.setIfInBounds_toArray, List.set_cons_zero, List.set_cons_succ, Nat.zero_add, decide_true, beq_self_eq_true]
    refine takeH_load (o := ⟨some 51, _, _, _, _, _⟩) (i := 8) rfl (by kernel_rfl) (by kernel_rfl) (by kernel_rfl) (fun _ _ _ _ h => h) rfl 25 (.tmp 7) rfl 32 arrH g7 0 rfl (bv X) hXl.out (fun w h => hSS (h72.keep h) hXl.out) hH ?_
    simp only [Act.put, List.setIfInBounds_toArray, List.set_cons_zero, List.set_cons_succ, Nat.zero_add, decide_true, beq_self_eq_true]
    refine wpAnyH_ready (rs := [9]) (by kernel_rfl) (by simp) ?_
    refine AllReadyH.cons rfl (fun K1 hK1 => ?_) AllReadyH.nil
    rw [if_pos (by rfl)]
    go_wp2_with fail
    refine (hfit.out _ _ (sl2.out.keep hH) (hs2.out.keep (below_call hB2 hB2.size hH))).mono ?_
    rintro e wa ⟨rfl, hBa⟩
    refine hK1.out _ _ (below_call hH hH.size hBa) (fun hH => ?_)
    clear hK1 K1
    refine takeH_pick (o := ⟨some 53, _, _, _, _, _⟩) (i := 10) rfl (by kernel_rfl) (by kernel_rfl) (by kernel_rfl) (fun _ _ _ _ h => h) rfl (.tmp 48) (.tmp 52) (.const (.bool false)) rfl true rfl (.bool true) rfl hH ?_
    simp only [Act.put, List.setIfInBounds_toArray, List.set_cons_zero, List.set_cons_succ, Nat.zero_add, decide_true, beq_self_eq_true]
    refine takeH_assign (o := ⟨some 6, _, _, _, _, _⟩) (i := 11) rfl (by kernel_rfl) (by kernel_rfl) (by kernel_rfl) (fun _ _ _ _ h => h) rfl (.tmp 53) rfl (.bool true) rfl hH ?_
    simp only [Act.put, List.setIfInBounds_toArray, List.set_cons_zero, List.set_cons_succ, Nat.zero_add, decide_true, beq_self_eq_true]
    refine wpAnyH_done (by kernel_rfl) ?_ _
    go_wp2_with fail
    go_ret
    exact ⟨rfl, below_call hB2 hB2.size hH⟩
theorem walk (v0 : Value) (l0 : List Nat) (b0 : Byt l0) (m0 : l0.length ≤ 140737488351232) (v1 : Value) (l1 : List Nat) (b1 : Byt l1) (m1 : l1.length ≤ 140737488351232) (a : Int) (ha0 : 0 ≤ a) (ha : a ≤ 255) (W : World) (s0 : Sl W v0 (bv l0)) (s1 : Sl W v1 (bv l1)) :
    Calls Try.prog 3 #[v0, v1, .int .u8 a] W fun e w' => e = .returned (.bool true) ∧ Below W.heap.size W w' := by
  obtain ⟨A1, c1, h1, -⟩ := id s0
  obtain ⟨A2, c2, h2, -⟩ := id s1
  subst h1 h2
  obtain ⟨a, rfl⟩ := Int.eq_ofNat_of_zero_le ha0
  exact core A1 A2 _ c1 _ c2 a l0 l1 W s0 s1 b0 b1 (by simp) (by simp) ha
end Go.Proofs.Ythlebobfbalknaa.w_MacPads
