/- Contracts of banyanref03: With. -/
import Derived.Test.YtlifpmglaoppoaaRfM
import Derived.Test.YtlifpmglaoppoaaQ12P3
import Derived.Test.YtlifpmglaoppoaaRgx
import Derived.Lib.AppendZeros
import Derived.Deep.DeepCutAuto
set_option linter.unusedVariables false
set_option linter.unusedSimpArgs false
namespace Go.Proofs.Ytlifpmglaoppoaa
open Go.RowKit
open Go.Proofs.PlainAes
open Go.Proofs.PlainSha
open Go.Proofs.PlainMac

theorem own_of_blk {w : World} {g base n : Nat} {e : TypeId} {xs : List Value} (hb : Blk w g e xs) (hg : base ≤ g) (hl : xs.length = n) (hn : n ≤ maxLen) : w.ownsRow base e 1 (.slice (some ⟨g, 0, none⟩) n n) n xs :=
  ⟨by omega, .inr ⟨g, n, xs.toArray, rfl, hg, hb, Nat.le_refl _, hn, by simp [hl], by simp [← hl]⟩⟩
set_option maxRecDepth 100000 in
set_option maxHeartbeats 4000000 in
theorem rwith_core (AH AK A A2 : Option Addr) (cH cK n c n2 c2 : Nat) (k m : List Nat) (w : World) (sH : Sl w (.slice AH 8 cH) (wv H0)) (sK : Sl w (.slice AK 64 cK) (wv K0)) (hs : Sl w (.slice A n c) (bv k)) (hm : Sl w (.slice A2 n2 c2) (bv m)) (bk : Byt k) (bm : Byt m) (hlk : (k.length : Int) ≤ 549755813888) (hlm : (m.length : Int) ≤ 274877906944) :
    Calls Try.prog 65 #[.agg #[.slice AH 8 cH, .slice AK 64 cK], .slice A n c, .slice A2 n2 c2] w (RetH (macL k m) w) := by
  obtain ⟨i0, hi, hz0, hz1, hz2⟩ := info_parts (P := Try.prog) (e := 5) (z := .int .u8 0) (size := 1) (bytes := 1) (by kernel_rfl)
  have hpd := Lib.hid (fun w (a : Sl w (.slice AH 8 cH) (wv H0)) (b : Sl w (.slice AK 64 cK) (wv K0)) (d : Sl w (.slice A n c) (bv k)) => rpadded_core AH AK A cH cK n c k w a b d bk hlk)
  have hPl := padK_len k
  have hPb := padK_byt bk
  have htu := Lib.hid (fun gk x w (h : Sl w (.slice (some ⟨gk, 0, none⟩) 64 64) (bv (padK k))) hx => rturned_any (some ⟨gk, 0, none⟩) 64 x (padK k) w h hPl hPb hx)
  have hb1 : Byt (xk (padK k) 54 ++ m) := fun x hx => (List.mem_append.1 hx).elim (xk_byt hPb (by decide) x) (bm x)
  have hb2 : Byt (xk (padK k) 92 ++ shaL (xk (padK k) 54 ++ m)) := fun x hx => (List.mem_append.1 hx).elim (xk_byt hPb (by decide) x) (shaL_byt _ x)
  have hw1 := Lib.hid (fun v w (a : Sl w (.slice AH 8 cH) (wv H0)) (b : Sl w (.slice AK 64 cK) (wv K0)) d => with_any _ _ v (xk (padK k) 54 ++ m) w a b d hb1 (by rw [List.length_append, xk_len, hPl]; omega))
  have hw2 := Lib.hid (fun v w (a : Sl w (.slice AH 8 cH) (wv H0)) (b : Sl w (.slice AK 64 cK) (wv K0)) d => with_any _ _ v (xk (padK k) 92 ++ shaL (xk (padK k) 54 ++ m)) w a b d hb2 (by rw [List.length_append, xk_len, hPl, shaL_len]; decide))
  have hOe : Hid (macL k m = shaL (xk (padK k) 92 ++ shaL (xk (padK k) 54 ++ m))) := rfl
  rw [← hOe.out] at hw2
  have hX1 := Lib.hid (show (bv (xk (padK k) 54)).length = 64 by rw [bv_length, xk_len, hPl])
  have hX2 := Lib.hid (show (bv (xk (padK k) 92)).length = 64 by rw [bv_length, xk_len, hPl])
  have hHl := Lib.hid (show (bv (shaL (xk (padK k) 54 ++ m))).length = 32 by rw [bv_length, shaL_len])
  have hOl := Lib.hid (show (bv (macL k m)).length = 32 by rw [bv_length, macL_len])
  have hP64 := Lib.hid (show (bv (padK k)).length = 64 by rw [bv_length, hPl])
  clear hb1 hb2 hPb hPl hOe bk bm hlk
  generalize macL k m = O at *
  generalize shaL (xk (padK k) 54 ++ m) = H1 at *
  generalize padK k = P at *
  have hk0 := Blk.new w 103 #[.slice AH 8 cH, .slice AK 64 cK]
  have hB0 := (Below.refl w.heap.size w).alloc (Nat.le_refl _) (.cells #[.slice AH 8 cH, .slice AK 64 cK] 103)
  replace hs := Lib.hid hs
  replace hm := Lib.hid hm
  replace sH := Lib.hid sH
  replace sK := Lib.hid sK
  go_enter Try.func65, Try.ntmps65
  go_wp2_with (refine wpList_allocA rfl 26 rfl (bv (zeros 32)) (by kernel_rfl) ?_)
  intro w1 ho1 hK1 hz1'
  have hc0 := hk0.keeps hK1 (by simp)
  have hB1 := hB0.trans (hK1.below (by simp) (by simp))
  replace ho1 : Blk w1 (w.heap.size + 1) 26 (bv (zeros 32)) := by simpa using ho1
  have hpd1 := Lib.hid (hpd.out w1 (sH.out.keep hB1) (sK.out.keep hB1) (hs.out.keep hB1))
  clear hK1 hz1' hk0 hB0 hpd
  go_wp2_with (refine wpList_loadW rfl 103 (.tmp 3) rfl 2 arrC w.heap.size rfl 103 _ hc0 rfl ?_)
  refine hpd1.out.mono ?_
  rintro e wr ⟨gk, rfl, hbk, hB2⟩
  have hc1 := hc0.keep hB2
  have ho2 := ho1.keep hB2
  have hB := below_call hB1 hB1.size hB2
  have sH2 := Lib.hid (sH.out.keep hB)
  have sK2 := Lib.hid (sK.out.keep hB)
  have slm := Lib.hid (hm.out.keep hB)
  have slk : Hid (Sl wr (.slice (some ⟨gk, 0, none⟩) 64 64) (bv P)) := by
    have h := Sl.of_blk hbk (show 64 ≤ 64 from Nat.le_refl _) (Nat.le_of_eq hP64.out.symm) (by unfold maxLen; omega)
    rw [List.take_of_length_le (Nat.le_of_eq hP64.out)] at h
    exact h
  replace htu := Lib.hid (htu.out gk)
  clear hpd1 hc0 ho1 hB1 hB2 hbk sH sK hm hs
  have sH := sH2
  have sK := sK2
  go_upto_region 2 with fail
  go_cut [8] (fun s8 wx => ∃ g8 : Nat, s8 = .pointer (some ⟨g8, 0, none⟩) ∧ Blk wx g8 26 (bv H1) ∧ Below wr.heap.size wr wx)
  case first =>
    refine wp_region_held_drew (S := fun w' => Below wr.heap.size wr w') (by kernel_rfl) ((Below.refl _ _).drew) (fun hH => ?_)
    refine takeH_load (o := ⟨some 12, _, _, _, _, _⟩) (i := 0) rfl (by kernel_rfl) (by kernel_rfl) (by kernel_rfl) (fun _ _ _ _ h => h) rfl 103 (.tmp 3) rfl 2 arrC w.heap.size 0 rfl [.slice AH 8 cH, .slice AK 64 cK] rfl (fun w h => hSS (hc1.keep h) rfl) hH ?_
    simp only [Act.put, List.setIfInBounds_toArray, List.set_cons_zero, List.set_cons_succ, Nat.zero_add, decide_true, beq_self_eq_true]
    refine takeH_move (o := ⟨some 13, _, _, _, _, _⟩) (i := 1) rfl (by kernel_rfl) (by kernel_rfl) (by kernel_rfl) (fun _ _ _ _ h => h) rfl (.tmp 7) rfl (.slice (some ⟨gk, 0, none⟩) 64 64) rfl hH ?_
    simp only [Act.put, List.setIfInBounds_toArray, List.set_cons_zero, List.set_cons_succ, Nat.zero_add, decide_true, beq_self_eq_true]
    refine takeH_move (o := ⟨some 15, _, _, _, _, _⟩) (i := 3) rfl (by kernel_rfl) (by kernel_rfl) (by kernel_rfl) (fun _ _ _ _ h => h) rfl (.tmp 2) rfl (.slice A2 n2 c2) rfl hH ?_
    simp only [Act.put, List.setIfInBounds_toArray, List.set_cons_zero, List.set_cons_succ, Nat.zero_add, decide_true, beq_self_eq_true]
    refine wpAnyH_ready (rs := [2, 6]) (by kernel_rfl) (by simp) ?_
    refine AllReadyH.cons rfl (fun K1 hK1 => ?_) (AllReadyH.cons rfl (fun K1 hK1 => ?_) AllReadyH.nil)
    · rw [if_pos (by rfl)]
      go_wp2_with fail
      refine (htu.out 54 _ (slk.out.keep hH) (by decide)).mono ?_
      rintro e wa1 ⟨gt2, rfl, hgt, hbt, hBa⟩
      have own3 : wa1.ownsRow wr.heap.size 5 1 (.slice (some ⟨gt2, 0, none⟩) 64 64) 64 (bv (xk P 54)) := own_of_blk hbt (Nat.le_trans hH.size hgt) hX1.out (by decide)
      refine hK1.out _ _ (below_call hH hH.size hBa) (fun hH => ?_)
      clear hK1 K1 hBa hbt
      refine wpAnyH_ready (rs := [4, 6]) (by kernel_rfl) (by simp) ?_
      refine AllReadyH.cons rfl (fun K1 hK1 => ?_) (AllReadyH.cons rfl (fun K1 hK1 => ?_) AllReadyH.nil)
      · rw [if_pos (by rfl)]
        obtain ⟨v5, wb6, hr, own7, gr9⟩ := run_append_sl (P := Try.prog) wa1 wr.heap.size 22 22 5 i0 (.int .u8 0) 1 Try.underlying22 hi hz0 hz1 hz2 rfl _ 64 (bv (xk P 54)) own3 _ (bv m) (slm.out.keep hH) (bv_oneCell m) (by rw [bv_length]; simp [maxLen]; omega) (by rw [bv_length]; omega) hH.size
        refine Lib.wp_append_run _ (.tmp 14) (.tmp 15) 22 22 rfl _ _ rfl rfl v5 wb6 hr ?_
        have hH' := own_below hH gr9 own3 hH.size
        rw [← bv_app] at own7
        have own7s := Lib.hid (Sl.of_own own7)
        go_simp
        refine hK1.out _ _ hH' (fun hH => ?_)
        clear hK1 K1 hr gr9 own7 hH'
        refine wpAnyH_ready (rs := [5, 6]) (by kernel_rfl) (by simp) ?_
        refine AllReadyH.cons rfl (fun K1 hK1 => ?_) (AllReadyH.cons rfl (fun K1 hK1 => ?_) AllReadyH.nil)
        · rw [if_pos (by rfl)]
          go_wp2_with fail
          refine (hw1.out _ _ (sH.out.keep hH) (sK.out.keep hH) own7s.out).mono ?_
          rintro e wc10 ⟨rfl, hBa⟩
          refine hK1.out _ _ (below_call hH hH.size hBa) (fun hH => ?_)
          clear hK1 K1 hBa
          refine wpAnyH_ready (rs := [6]) (by kernel_rfl) (by simp) ?_
          refine AllReadyH.cons rfl (fun K1 hK1 => ?_) AllReadyH.nil
          · go_simp
            have hb13 : Blk (wc10.alloc (.cells (bv (zeros 32)).toArray 26)) wc10.heap.size 26 (bv (zeros 32)) := Blk.new_at rfl rfl
            have hGE : Hid (wr.heap.size ≤ wc10.heap.size) := hH.size
            refine hK1.out _ _ (hH.alloc hH.size _) (fun hH => ?_)
            clear hK1 K1
            refine wpAnyH_ready (rs := [7]) (by kernel_rfl) (by simp) ?_
            refine AllReadyH.cons rfl (fun K1 hK1 => ?_) AllReadyH.nil
            · rw [if_pos (by rfl)]
              refine wp_storeA 26 (.tmp 8) (.tmp 17) rfl 32 arrH _ _ rfl (bv H1) rfl 26 _ hb13 hHl.out (by simp) (ones_bv _) ?_
              intro wd14 hb15 hKb
              rw [putL_all (by rw [hHl.out]; simp)] at hb15
              refine hK1.out _ _ (hH.trans (hKb.below hH.size (by intro b hb; simp only [List.mem_singleton] at hb; subst hb; exact hGE.out))) (fun hH => ?_)
              clear hK1 K1 hKb
              refine wpAnyH_done (by kernel_rfl) ?_ _
              go_wp2_with fail
              go_meet
              exact ⟨_, rfl, hb15, hH⟩
        · go_simp
          have own16 := Lib.hid (own7s.out.keep ((Below.refl _ wb6).alloc (Nat.le_refl _) (.cells (bv (zeros 32)).toArray 26)))
          have hb17 : Blk (wb6.alloc (.cells (bv (zeros 32)).toArray 26)) wb6.heap.size 26 (bv (zeros 32)) := Blk.new_at rfl rfl
          have hGE : Hid (wr.heap.size ≤ wb6.heap.size) := hH.size
          refine hK1.out _ _ (hH.alloc hH.size _) (fun hH => ?_)
          clear hK1 K1
          refine wpAnyH_ready (rs := [5]) (by kernel_rfl) (by simp) ?_
          refine AllReadyH.cons rfl (fun K1 hK1 => ?_) AllReadyH.nil
          · rw [if_pos (by rfl)]
            go_wp2_with fail
            refine (hw1.out _ _ (sH.out.keep hH) (sK.out.keep hH) own16.out).mono ?_
            rintro e wc18 ⟨rfl, hBa⟩
            have hb19 := hb17.keep hBa
            refine hK1.out _ _ (below_call hH hH.size hBa) (fun hH => ?_)
            clear hK1 K1 hBa
            refine wpAnyH_ready (rs := [7]) (by kernel_rfl) (by simp) ?_
            refine AllReadyH.cons rfl (fun K1 hK1 => ?_) AllReadyH.nil
            · rw [if_pos (by rfl)]
              refine wp_storeA 26 (.tmp 8) (.tmp 17) rfl 32 arrH _ _ rfl (bv H1) rfl 26 _ hb19 hHl.out (by simp) (ones_bv _) ?_
              intro wd20 hb21 hKb
              rw [putL_all (by rw [hHl.out]; simp)] at hb21
              refine hK1.out _ _ (hH.trans (hKb.below hH.size (by intro b hb; simp only [List.mem_singleton] at hb; subst hb; exact hGE.out))) (fun hH => ?_)
              clear hK1 K1 hKb
              refine wpAnyH_done (by kernel_rfl) ?_ _
              go_wp2_with fail
              go_meet
              exact ⟨_, rfl, hb21, hH⟩
      · go_simp
        have own22 := own3.alloc (.cells (bv (zeros 32)).toArray 26)
        have hb23 : Blk (wa1.alloc (.cells (bv (zeros 32)).toArray 26)) wa1.heap.size 26 (bv (zeros 32)) := Blk.new_at rfl rfl
        have hGE : Hid (wr.heap.size ≤ wa1.heap.size) := hH.size
        have hb23n : Hid (wa1.heap.size ≠ gt2) := fun e => by have h9 : gt2 < wa1.heap.size := (own3.lt _ rfl).2; omega
        refine hK1.out _ _ (hH.alloc hH.size _) (fun hH => ?_)
        clear hK1 K1
        refine wpAnyH_ready (rs := [4]) (by kernel_rfl) (by simp) ?_
        refine AllReadyH.cons rfl (fun K1 hK1 => ?_) AllReadyH.nil
        · rw [if_pos (by rfl)]
          obtain ⟨v24, wb25, hr, own26, gr28⟩ := run_append_sl (P := Try.prog) (wa1.alloc (.cells (bv (zeros 32)).toArray 26)) wr.heap.size 22 22 5 i0 (.int .u8 0) 1 Try.underlying22 hi hz0 hz1 hz2 rfl _ 64 (bv (xk P 54)) own22 _ (bv m) (slm.out.keep hH) (bv_oneCell m) (by rw [bv_length]; simp [maxLen]; omega) (by rw [bv_length]; omega) hH.size
          refine Lib.wp_append_run _ (.tmp 14) (.tmp 15) 22 22 rfl _ _ rfl rfl v24 wb25 hr ?_
          have hH' := own_below hH gr28 own22 hH.size
          rw [← bv_app] at own26
          have own26s := Lib.hid (Sl.of_own own26)
          have hb27 := hb23.keeps (Keeps.grown gr28) (by simp only [Value.ownBlock, Option.mem_toList, Option.some.injEq]; exact fun e => hb23n.out e.symm)
          go_simp
          refine hK1.out _ _ hH' (fun hH => ?_)
          clear hK1 K1 hr gr28 own26 hH'
          refine wpAnyH_ready (rs := [5]) (by kernel_rfl) (by simp) ?_
          refine AllReadyH.cons rfl (fun K1 hK1 => ?_) AllReadyH.nil
          · rw [if_pos (by rfl)]
            go_wp2_with fail
            refine (hw1.out _ _ (sH.out.keep hH) (sK.out.keep hH) own26s.out).mono ?_
            rintro e wc29 ⟨rfl, hBa⟩
            have hb30 := hb27.keep hBa
            refine hK1.out _ _ (below_call hH hH.size hBa) (fun hH => ?_)
            clear hK1 K1 hBa
            refine wpAnyH_ready (rs := [7]) (by kernel_rfl) (by simp) ?_
            refine AllReadyH.cons rfl (fun K1 hK1 => ?_) AllReadyH.nil
            · rw [if_pos (by rfl)]
              refine wp_storeA 26 (.tmp 8) (.tmp 17) rfl 32 arrH _ _ rfl (bv H1) rfl 26 _ hb30 hHl.out (by simp) (ones_bv _) ?_
              intro wd31 hb32 hKb
              rw [putL_all (by rw [hHl.out]; simp)] at hb32
              refine hK1.out _ _ (hH.trans (hKb.below hH.size (by intro b hb; simp only [List.mem_singleton] at hb; subst hb; exact hGE.out))) (fun hH => ?_)
              clear hK1 K1 hKb
              refine wpAnyH_done (by kernel_rfl) ?_ _
              go_wp2_with fail
              go_meet
              exact ⟨_, rfl, hb32, hH⟩
    · go_simp
      have hb34 : Blk (wr.drew.alloc (.cells (bv (zeros 32)).toArray 26)) wr.drew.heap.size 26 (bv (zeros 32)) := Blk.new_at rfl rfl
      have hGE : Hid (wr.heap.size ≤ wr.drew.heap.size) := hH.size
      refine hK1.out _ _ (hH.alloc hH.size _) (fun hH => ?_)
      clear hK1 K1
      refine wpAnyH_ready (rs := [2]) (by kernel_rfl) (by simp) ?_
      refine AllReadyH.cons rfl (fun K1 hK1 => ?_) AllReadyH.nil
      · rw [if_pos (by rfl)]
        go_wp2_with fail
        refine (htu.out 54 _ (slk.out.keep hH) (by decide)).mono ?_
        rintro e wa35 ⟨gt36, rfl, hgt, hbt, hBa⟩
        have own37 : wa35.ownsRow wr.heap.size 5 1 (.slice (some ⟨gt36, 0, none⟩) 64 64) 64 (bv (xk P 54)) := own_of_blk hbt (Nat.le_trans hH.size hgt) hX1.out (by decide)
        have hb38 := hb34.keep hBa
        have hb38n : Hid (wr.drew.heap.size ≠ gt36) := Nat.ne_of_lt (Nat.lt_of_lt_of_le hb34.lt hgt)
        refine hK1.out _ _ (below_call hH hH.size hBa) (fun hH => ?_)
        clear hK1 K1 hBa hbt
        refine wpAnyH_ready (rs := [4]) (by kernel_rfl) (by simp) ?_
        refine AllReadyH.cons rfl (fun K1 hK1 => ?_) AllReadyH.nil
        · rw [if_pos (by rfl)]
          obtain ⟨v39, wb40, hr, own41, gr43⟩ := run_append_sl (P := Try.prog) wa35 wr.heap.size 22 22 5 i0 (.int .u8 0) 1 Try.underlying22 hi hz0 hz1 hz2 rfl _ 64 (bv (xk P 54)) own37 _ (bv m) (slm.out.keep hH) (bv_oneCell m) (by rw [bv_length]; simp [maxLen]; omega) (by rw [bv_length]; omega) hH.size
          refine Lib.wp_append_run _ (.tmp 14) (.tmp 15) 22 22 rfl _ _ rfl rfl v39 wb40 hr ?_
          have hH' := own_below hH gr43 own37 hH.size
          rw [← bv_app] at own41
          have own41s := Lib.hid (Sl.of_own own41)
          have hb42 := hb38.keeps (Keeps.grown gr43) (by simp only [Value.ownBlock, Option.mem_toList, Option.some.injEq]; exact fun e => hb38n.out e.symm)
          go_simp
          refine hK1.out _ _ hH' (fun hH => ?_)
          clear hK1 K1 hr gr43 own41 hH'
          refine wpAnyH_ready (rs := [5]) (by kernel_rfl) (by simp) ?_
          refine AllReadyH.cons rfl (fun K1 hK1 => ?_) AllReadyH.nil
          · rw [if_pos (by rfl)]
            go_wp2_with fail
            refine (hw1.out _ _ (sH.out.keep hH) (sK.out.keep hH) own41s.out).mono ?_
            rintro e wc44 ⟨rfl, hBa⟩
            have hb45 := hb42.keep hBa
            refine hK1.out _ _ (below_call hH hH.size hBa) (fun hH => ?_)
            clear hK1 K1 hBa
            refine wpAnyH_ready (rs := [7]) (by kernel_rfl) (by simp) ?_
            refine AllReadyH.cons rfl (fun K1 hK1 => ?_) AllReadyH.nil
            · rw [if_pos (by rfl)]
              refine wp_storeA 26 (.tmp 8) (.tmp 17) rfl 32 arrH _ _ rfl (bv H1) rfl 26 _ hb45 hHl.out (by simp) (ones_bv _) ?_
              intro wd46 hb47 hKb
              rw [putL_all (by rw [hHl.out]; simp)] at hb47
              refine hK1.out _ _ (hH.trans (hKb.below hH.size (by intro b hb; simp only [List.mem_singleton] at hb; subst hb; exact hGE.out))) (fun hH => ?_)
              clear hK1 K1 hKb
              refine wpAnyH_done (by kernel_rfl) ?_ _
              go_wp2_with fail
              go_meet
              exact ⟨_, rfl, hb47, hH⟩
  case rest =>
    obtain ⟨g8, rfl, hb8, hBx⟩ := hcut
    have hB3 := below_call hB hB.size hBx
    have hc1 := hc1.keep hBx
    have ho3 := ho2.keep hBx
    have sH3 := Lib.hid (sH.out.keep hBx)
    have sK3 := Lib.hid (sK.out.keep hBx)
    have slk3 := Lib.hid (slk.out.keep hBx)
    have sl8 := Lib.hid (hash_sl hb8 hHl.out)
    have hwc : w.heap.size + 1 ≤ wc.heap.size := Nat.le_of_lt ho3.lt
    have hwc0 : w.heap.size ≤ wc.heap.size := hB3.size
    have hZ : Below wc.heap.size wc wc.drew := (Below.refl _ _).drew
    clear hB hBx hb8 ho2 sH sK slk sH2 sK2 slm hw1
    go_wp2
    refine wp_region_held_drew (S := fun w' => Below (w.heap.size + 1) wc w') (by kernel_rfl) (hZ.mono hwc) (fun hH => ?_)
    refine takeH_load (o := ⟨some 18, _, _, _, _, _⟩) (i := 0) rfl (by kernel_rfl) (by kernel_rfl) (by kernel_rfl) (fun _ _ _ _ h => h) rfl 103 (.tmp 3) rfl 2 arrC w.heap.size 0 rfl [.slice AH 8 cH, .slice AK 64 cK] rfl (fun w h => hSS (hc1.below h (Nat.lt_succ_self _)) rfl) hH ?_
    simp only [Act.put, List.setIfInBounds_toArray, List.set_cons_zero, List.set_cons_succ, Nat.zero_add, decide_true, beq_self_eq_true]
    refine takeH_move (o := ⟨some 19, _, _, _, _, _⟩) (i := 1) rfl (by kernel_rfl) (by kernel_rfl) (by kernel_rfl) (fun _ _ _ _ h => h) rfl (.tmp 7) rfl (.slice (some ⟨gk, 0, none⟩) 64 64) rfl hH ?_
    simp only [Act.put, List.setIfInBounds_toArray, List.set_cons_zero, List.set_cons_succ, Nat.zero_add, decide_true, beq_self_eq_true]
    refine takeH_S (o := ⟨some 21, _, _, _, _, _⟩) (i := 3) rfl (by kernel_rfl) (by kernel_rfl) (by kernel_rfl) (fun _ _ _ _ h => h) rfl (.slice (some ⟨g8, 0, none⟩) 32 32) (fun w _ => by go_simp) hH ?_
    simp only [Act.put, List.setIfInBounds_toArray, List.set_cons_zero, List.set_cons_succ, Nat.zero_add, decide_true, beq_self_eq_true]
    refine wpAnyH_ready (rs := [2]) (by kernel_rfl) (by simp) ?_
    refine AllReadyH.cons rfl (fun K1 hK1 => ?_) AllReadyH.nil
    rw [if_pos (by rfl)]
    go_wp2_with fail
    refine (htu.out 92 _ (slk3.out.keep hZ) (by decide)).mono ?_
    rintro e wa ⟨gt, rfl, hgt, hbt, hBa⟩
    have own1 : wa.ownsRow wc.heap.size 5 1 (.slice (some ⟨gt, 0, none⟩) 64 64) 64 (bv (xk P 92)) := own_of_blk hbt (Nat.le_trans hZ.size hgt) hX2.out (by decide)
    have hZ1 := below_call hZ hZ.size hBa
    refine hK1.out _ _ (hZ1.mono hwc) (fun hH => ?_)
    clear hK1 K1 hBa hbt hZ
    refine wpAnyH_ready (rs := [4]) (by kernel_rfl) (by simp) ?_
    refine AllReadyH.cons rfl (fun K1 hK1 => ?_) AllReadyH.nil
    rw [if_pos (by rfl)]
    obtain ⟨v2, wb, hr, own2, gr2⟩ := run_append_sl (P := Try.prog) wa wc.heap.size 22 22 5 i0 (.int .u8 0) 1 Try.underlying22 hi hz0 hz1 hz2 rfl _ 64 (bv (xk P 92)) own1 _ (bv H1) (sl8.out.keep hZ1) (bv_oneCell H1) (by rw [hHl.out]; simp [maxLen]) (by rw [hHl.out]; decide) hZ1.size
    refine Lib.wp_append_run _ (.tmp 20) (.tmp 21) 22 22 rfl _ _ rfl rfl v2 wb hr ?_
    have hZ2 := own_below hZ1 gr2 own1 hZ1.size
    rw [← bv_app] at own2
    have sl2 := Lib.hid (Sl.of_own own2)
    go_simp
    refine hK1.out _ _ (hZ2.mono hwc) (fun hH => ?_)
    clear hK1 K1 hr gr2 own1 own2 hZ1
    refine wpAnyH_ready (rs := [5]) (by kernel_rfl) (by simp) ?_
    refine AllReadyH.cons rfl (fun K1 hK1 => ?_) AllReadyH.nil
    rw [if_pos (by rfl)]
    go_wp2_with fail
    refine (hw2.out _ _ (sH3.out.keep hZ2) (sK3.out.keep hZ2) sl2.out).mono ?_
    rintro e wd ⟨rfl, hBd⟩
    have hZ3 := below_call hZ2 hZ2.size hBd
    refine hK1.out _ _ (hZ3.mono hwc) (fun hH => ?_)
    clear hK1 K1 hBd hZ2 sl2
    have hres := ho3.keep hZ3
    have hZ4 := hZ3.mono hwc
    refine wpAnyH_ready (rs := [6]) (by kernel_rfl) (by simp) ?_
    refine AllReadyH.cons rfl (fun K1 hK1 => ?_) AllReadyH.nil
    rw [if_pos (by rfl)]
    refine wp_storeA 26 (.tmp 6) (.tmp 23) rfl 32 arrH _ _ rfl (bv O) rfl 26 _ hres hOl.out (by simp) (ones_bv _) ?_
    intro we hbe hKe
    rw [putL_all (by rw [hOl.out]; simp)] at hbe
    have hZ5 := hZ4.trans (hKe.below (Nat.le_trans hwc hZ4.size) (by simp))
    have hB5 := hB3.trans ((hZ3.mono hwc0).trans (hKe.below (Nat.le_trans hwc0 hZ3.size) (by simp)))
    refine hK1.out _ _ hZ5 (fun hH => ?_)
    clear hK1 K1
    refine wpAnyH_done (by kernel_rfl) ?_ _
    go_wp2
    exact bodyPost_ret (v := .agg (bv O).toArray) (res_cell Try.results65 _ _ _ 26 _ arrH hOl.out rfl hbe) rfl ⟨rfl, hB5⟩
end Go.Proofs.Ytlifpmglaoppoaa
