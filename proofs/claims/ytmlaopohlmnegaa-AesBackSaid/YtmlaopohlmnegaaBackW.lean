/- The law AesBack: the walk. -/
import Derived.Test.YtmlaopohlmnegaaBoxW
import Derived.Test.YtmlaopohlmnegaaBackP
import Derived.Test.YtmlaopohlmnegaaOpenB
set_option linter.unusedVariables false
set_option linter.unusedSimpArgs false
namespace Go.Proofs.Ytmlaopohlmnegaa
open Go.RowKit
open Go.Proofs.PlainAes
theorem arr32' : ArrTy Try.prog 26 32 := ⟨_, Try.underlying26, rfl, by kernel_rfl⟩
theorem arr16' : ArrTy Try.prog 27 16 := ⟨_, Try.underlying27, rfl, by kernel_rfl⟩
theorem arrB16 : ByteArr Try.prog 27 16 := ⟨⟨_, Try.underlying27, Try.underlying5, by kernel_rfl⟩, by kernel_rfl⟩
/-- The arguments lie there. -/
structure Bx (w : World) (k a b : List Nat) (wr : World) : Prop where
  fk : Blk wr w.heap.size 26 (bv k)
  fa : Blk wr (w.heap.size + 1) 27 (bv a)
  fb : Blk wr (w.heap.size + 1 + 1) 27 (bv b)
  below : Below w.heap.size w wr
  kl : k.length = 32
  al : a.length = 16
  bl : b.length = 16
section
variable {w wr wr' : World} {k a b : List Nat} {g : Nat}
theorem Bx.call (h : Bx w k a b wr) (hB : Below wr.heap.size wr wr') : Bx w k a b wr' := ⟨h.fk.keep hB, h.fa.keep hB, h.fb.keep hB, below_call h.below h.below.size hB, h.kl, h.al, h.bl⟩
theorem Bx.keeps0 (h : Bx w k a b wr) (hB : Keeps [] wr wr') : Bx w k a b wr' := h.call (hB.below (Nat.le_refl _) (by simp))
theorem Bx.keeps (h : Bx w k a b wr) (hk : Keeps [g] wr wr') (hg : w.heap.size + 1 + 1 < g) : Bx w k a b wr' :=
  ⟨h.fk.keeps hk (by simp; omega), h.fa.keeps hk (by simp; omega), h.fb.keeps hk (by simp; omega), h.below.trans (hk.below h.below.size (by simp; omega)), h.kl, h.al, h.bl⟩
theorem Bx.drew (h : Bx w k a b wr) : Bx w k a b wr.drew := ⟨h.fk, h.fa, h.fb, h.below.drew, h.kl, h.al, h.bl⟩
theorem Bx.S (h : Bx w k a b wr) : wr.rangeAt w.heap.size 0 (bv k) ∧ wr.rangeAt (w.heap.size + 1) 0 (bv a) ∧ wr.rangeAt (w.heap.size + 1 + 1) 0 (bv b) := by
  have h1 := h.fk.range 0 32
  have h2 := h.fa.range 0 16
  have h3 := h.fb.range 0 16
  have e1 := h.kl
  have e2 := h.al
  have e3 := h.bl
  rw [List.drop_zero, List.take_of_length_le (by simp; omega)] at h1 h2 h3
  exact ⟨h1, h2, h3⟩
end
theorem rng16 {w : World} {g t : Nat} {l : List Nat} (h : Blk w g t (bv l)) (hl : l.length = 16) : w.rangeAt g 0 (bv l) := by
  have := h.range 0 16
  rwa [List.drop_zero, List.take_of_length_le (by simp; omega)] at this
namespace w_AesBack
set_option maxRecDepth 100000 in
set_option maxHeartbeats 4000000 in
theorem walk (k : List Nat) (hk : k.length = 32) (bk : Byt k) (a : List Nat) (ha : a.length = 16) (ba : Byt a) (b : List Nat) (hb : b.length = 16) (bb : Byt b) (w : World) :
    Calls Try.prog 4 #[.agg (bv k).toArray, .agg (bv a).toArray, .agg (bv b).toArray] w fun e w' => e = .returned (.bool true) ∧ Below w.heap.size w w' := by
  have hal := Lib.hid (fun w => alive_any w)
  have Kl := keys_length box hk
  have Kb := bk.keys
  have hsX := Lib.hid (fun w => seal_any k a w hk bk ha ba)
  have hsY := Lib.hid (fun w => seal_any k b w hk bk hb bb)
  have Xl := sealB_length (t := box) Kl ha
  have Xb : Byt _ := sealB_lt (t := box) (fun x h => box_lt h) Kb ba
  have Yl := sealB_length (t := box) Kl hb
  have hoX := Lib.hid (fun w => open_any k _ w hk bk Xl Xb)
  have Zl := openB_length (u := unbox) Kl ha
  have Zb : Byt _ := openB_lt (u := unbox) (fun x h => unbox_lt h) Kb ba
  have hoA := Lib.hid (fun w => open_any k a w hk bk ha ba)
  have hsZ := Lib.hid (fun w => seal_any k _ w hk bk Zl Zb)
  have e1 := open_seal (t := box) (u := unbox) unbox_box Kl Kb (fun x h => box_lt h) ha ba
  have e2 := open_seal (t := box) (u := unbox) unbox_box Kl Kb (fun x h => box_lt h) hb bb
  have e3 := seal_open (t := box) (u := unbox) box_unbox Kl Kb (fun x h => unbox_lt h) ha ba
  rw [e1] at hoX
  rw [e3] at hsZ
  have hxy : decide (sealB box (keys box k) a = sealB box (keys box k) b) = decide (a = b) := by
    by_cases h : a = b
    · subst h; simp
    · have : sealB box (keys box k) a ≠ sealB box (keys box k) b := fun e => h (by rw [← e1, ← e2, e])
      simp [h, this]
  clear e1 e2 e3 Kl Kb
  generalize sealB box (keys box k) a = X at *
  generalize sealB box (keys box k) b = Y at *
  generalize openB unbox (keys box k) a = Z at *
  have hXY := Lib.hid hxy
  have hXl := Lib.hid (show (bv X).length = 16 by simp [Xl])
  have hYl := Lib.hid (show (bv Y).length = 16 by simp [Yl])
  have HX := Lib.hid Xl
  have HY := Lib.hid Yl
  have Hk := Lib.hid hk
  have Ha := Lib.hid ha
  have Hb := Lib.hid hb
  clear hxy Xl Yl Zl Zb Xb hk ha hb bk ba bb
  go_enter Try.func4, Try.ntmps4
  have hE : Bx w k a b (((w.alloc (.cells (bv k).toArray 26)).alloc (.cells (bv a).toArray 27)).alloc (.cells (bv b).toArray 27)) :=
    ⟨((Blk.new_at rfl rfl).alloc _).alloc _, (Blk.new_at (by simp) rfl).alloc _, Blk.new_at (by simp) rfl, (((Below.refl _ _).alloc (Nat.le_refl _) _).alloc (by simp) _).alloc (by simp; omega) _, Hk.out, Ha.out, Hb.out⟩
  have hE := Lib.hid hE
  go_wp2_with (first
    | (go_at_call 10; refine (hal.out _).mono ?_; rintro e wz ⟨rfl, hB1⟩))
  have hE0 := Lib.hid (hE.out.call hB1)
  clear hE hB1
  go_upto_region 3 with fail
  go_cut [7, 8] (fun s7 s8 wx => ∃ g7 g8 : Nat, s7 = .pointer (some ⟨g7, 0, none⟩) ∧ s8 = .pointer (some ⟨g8, 0, none⟩) ∧ w.heap.size + 1 + 1 < g7 ∧ w.heap.size + 1 + 1 < g8 ∧ g7 ≠ g8 ∧ Blk wx g7 28 (bv X) ∧ Blk wx g8 28 (bv Y) ∧ Bx w k a b wx)
  case first =>
    refine wp_region_held_drew (S := fun w' => w'.rangeAt w.heap.size 0 (bv k) ∧ w'.rangeAt (w.heap.size + 1) 0 (bv a) ∧ w'.rangeAt (w.heap.size + 1 + 1) 0 (bv b)) (by kernel_rfl) (Bx.S hE0.out.drew) (fun hH => ?_)
    refine takeH_load (o := ⟨some 11, _, _, _, _, _⟩) (i := 0) rfl (by kernel_rfl) (by kernel_rfl) (by kernel_rfl) (fun _ _ _ _ h => h) rfl 26 (.tmp 3) rfl 32 arr32' _ _ rfl (bv k) (by simp [Hk.out]) (fun w h => h.1) hH ?_
    simp only [Act.put, List.setIfInBounds_toArray, List.set_cons_zero, List.set_cons_succ, Nat.zero_add, decide_true]
    refine takeH_load (o := ⟨some 12, _, _, _, _, _⟩) (i := 1) rfl (by kernel_rfl) (by kernel_rfl) (by kernel_rfl) (fun _ _ _ _ h => h) rfl 27 (.tmp 4) rfl 16 arr16' _ _ rfl (bv a) (by simp [Ha.out]) (fun w h => h.2.1) hH ?_
    simp only [Act.put, List.setIfInBounds_toArray, List.set_cons_zero, List.set_cons_succ, Nat.zero_add, decide_true]
    refine takeH_load (o := ⟨some 14, _, _, _, _, _⟩) (i := 3) rfl (by kernel_rfl) (by kernel_rfl) (by kernel_rfl) (fun _ _ _ _ h => h) rfl 26 (.tmp 3) rfl 32 arr32' _ _ rfl (bv k) (by simp [Hk.out]) (fun w h => h.1) hH ?_
    simp only [Act.put, List.setIfInBounds_toArray, List.set_cons_zero, List.set_cons_succ, Nat.zero_add, decide_true]
    refine takeH_load (o := ⟨some 15, _, _, _, _, _⟩) (i := 4) rfl (by kernel_rfl) (by kernel_rfl) (by kernel_rfl) (fun _ _ _ _ h => h) rfl 27 (.tmp 5) rfl 16 arr16' _ _ rfl (bv b) (by simp [Hb.out]) (fun w h => h.2.2) hH ?_
    simp only [Act.put, List.setIfInBounds_toArray, List.set_cons_zero, List.set_cons_succ, Nat.zero_add, decide_true]
    refine wpAnyH_ready (rs := [2, 6, 7]) (by kernel_rfl) (by simp) ?_
    refine AllReadyH.cons rfl (fun K1 hK1 => ?_) (AllReadyH.cons rfl (fun K1 hK1 => ?_) (AllReadyH.cons rfl (fun K1 hK1 => ?_) AllReadyH.nil))
    · go_simp
      refine (hsX.out _).mono ?_
      rintro e w1 ⟨rfl, hB2⟩
      have hE3 := Lib.hid (hE0.out.drew.call hB2)
      refine hK1.out _ _ (Bx.S hE3.out) (fun hH => ?_)
      clear hK1 K1 hB2
      refine wpAnyH_ready (rs := [5, 6, 7]) (by kernel_rfl) (by simp) ?_
      refine AllReadyH.cons rfl (fun K1 hK1 => ?_) (AllReadyH.cons rfl (fun K1 hK1 => ?_) (AllReadyH.cons rfl (fun K1 hK1 => ?_) AllReadyH.nil))
      · go_simp
        refine (hsY.out _).mono ?_
        rintro e w4 ⟨rfl, hB5⟩
        have hE6 := Lib.hid (hE3.out.call hB5)
        refine hK1.out _ _ (Bx.S hE6.out) (fun hH => ?_)
        clear hK1 K1 hB5
        refine wpAnyH_ready (rs := [6, 7]) (by kernel_rfl) (by simp) ?_
        refine AllReadyH.cons rfl (fun K1 hK1 => ?_) (AllReadyH.cons rfl (fun K1 hK1 => ?_) AllReadyH.nil)
        · go_simp
          have g6_7gt := Lib.hid (show w.heap.size + 1 + 1 < w4.heap.size from by have := hE6.out.fb.lt; first | exact this | simpa using this)
          have hx8 := Lib.hid (Blk.new_at (w := w4) (n := w4.heap.size) (t := 28) (cs := (bv (zeros 16)).toArray) (L := bv (zeros 16)) (by simp) rfl)
          have hE7 := Lib.hid (hE6.out.keeps0 ((Keeps.refl [] w4).alloc (.cells (bv (zeros 16)).toArray 28)))
          refine hK1.out _ _ (Bx.S hE7.out) (fun hH => ?_)
          clear hK1 K1
          refine wpAnyH_ready (rs := [7]) (by kernel_rfl) (by simp) ?_
          refine AllReadyH.cons rfl (fun K1 hK1 => ?_) AllReadyH.nil
          · go_simp
            have g7_9gt := Lib.hid (show w.heap.size + 1 + 1 < w4.heap.size + 1 from by have := hE7.out.fb.lt; first | exact this | simpa using this)
            have hx10 := Lib.hid (Blk.new_at (w := (w4.alloc (.cells (bv (zeros 16)).toArray 28))) (n := w4.heap.size + 1) (t := 28) (cs := (bv (zeros 16)).toArray) (L := bv (zeros 16)) (by simp) rfl)
            have hne : Hid (w4.heap.size ≠ w4.heap.size + 1) := by show _ ≠ _; have := hx8.out.lt; first | omega | (simp at this; omega)
            have hx11 := Lib.hid (hx8.out.alloc (.cells (bv (zeros 16)).toArray 28))
            have hE9 := Lib.hid (hE7.out.keeps0 ((Keeps.refl [] (w4.alloc (.cells (bv (zeros 16)).toArray 28))).alloc (.cells (bv (zeros 16)).toArray 28)))
            refine hK1.out _ _ (Bx.S hE9.out) (fun hH => ?_)
            clear hK1 K1
            refine wpAnyH_ready (rs := [8]) (by kernel_rfl) (by simp) ?_
            refine AllReadyH.cons rfl (fun K1 hK1 => ?_) AllReadyH.nil
            rw [if_pos (by rfl)]
            refine wp_storeA 28 (.tmp 7) (.tmp 13) rfl 16 arrB _ _ rfl (bv X) rfl 28 _ hx11.out hXl.out (by simp) (ones_bv _) ?_
            intro w12 hy16 hK14
            rw [putL_all (by rw [hXl.out]; simp)] at hy16
            have hE18 := Lib.hid (hE9.out.keeps hK14 g6_7gt.out)
            have hy17 := Lib.hid (hx10.out.keeps hK14 (by have := hne.out; first | (simp; done) | (simp; omega)))
            refine hK1.out _ _ (Bx.S hE18.out) (fun hH => ?_)
            clear hK1 K1 hK14
            refine wpAnyH_ready (rs := [9]) (by kernel_rfl) (by simp) ?_
            refine AllReadyH.cons rfl (fun K1 hK1 => ?_) AllReadyH.nil
            rw [if_pos (by rfl)]
            refine wp_storeA 28 (.tmp 8) (.tmp 16) rfl 16 arrB _ _ rfl (bv Y) rfl 28 _ hy17.out hYl.out (by simp) (ones_bv _) ?_
            intro w13 hY hK15
            rw [putL_all (by rw [hYl.out]; simp)] at hY
            have hE19 := Lib.hid (hE18.out.keeps hK15 g7_9gt.out)
            have hX := hy16.keeps hK15 (by have := hne.out; first | (simp; done) | (simp; omega))
            refine hK1.out _ _ (Bx.S hE19.out) (fun hH => ?_)
            clear hK1 K1 hK15
            simp only [Act.put, List.setIfInBounds_toArray, List.set_cons_zero, List.set_cons_succ]
            refine wpAnyH_done (by kernel_rfl) ?_ _
            go_wp2_with fail
            go_meet
            exact ⟨_, _, rfl, rfl, g6_7gt.out, g7_9gt.out, hne.out, hX, hY, hE19.out⟩
        · go_simp
          have g7_20gt := Lib.hid (show w.heap.size + 1 + 1 < w4.heap.size from by have := hE6.out.fb.lt; first | exact this | simpa using this)
          have hx21 := Lib.hid (Blk.new_at (w := w4) (n := w4.heap.size) (t := 28) (cs := (bv (zeros 16)).toArray) (L := bv (zeros 16)) (by simp) rfl)
          have hE20 := Lib.hid (hE6.out.keeps0 ((Keeps.refl [] w4).alloc (.cells (bv (zeros 16)).toArray 28)))
          refine hK1.out _ _ (Bx.S hE20.out) (fun hH => ?_)
          clear hK1 K1
          refine wpAnyH_ready (rs := [6]) (by kernel_rfl) (by simp) ?_
          refine AllReadyH.cons rfl (fun K1 hK1 => ?_) AllReadyH.nil
          · go_simp
            have g6_22gt := Lib.hid (show w.heap.size + 1 + 1 < w4.heap.size + 1 from by have := hE20.out.fb.lt; first | exact this | simpa using this)
            have hx23 := Lib.hid (Blk.new_at (w := (w4.alloc (.cells (bv (zeros 16)).toArray 28))) (n := w4.heap.size + 1) (t := 28) (cs := (bv (zeros 16)).toArray) (L := bv (zeros 16)) (by simp) rfl)
            have hne : Hid (w4.heap.size + 1 ≠ w4.heap.size) := by show _ ≠ _; have := hx21.out.lt; first | omega | (simp at this; omega)
            have hx24 := Lib.hid (hx21.out.alloc (.cells (bv (zeros 16)).toArray 28))
            have hE22 := Lib.hid (hE20.out.keeps0 ((Keeps.refl [] (w4.alloc (.cells (bv (zeros 16)).toArray 28))).alloc (.cells (bv (zeros 16)).toArray 28)))
            refine hK1.out _ _ (Bx.S hE22.out) (fun hH => ?_)
            clear hK1 K1
            refine wpAnyH_ready (rs := [8]) (by kernel_rfl) (by simp) ?_
            refine AllReadyH.cons rfl (fun K1 hK1 => ?_) AllReadyH.nil
            rw [if_pos (by rfl)]
            refine wp_storeA 28 (.tmp 7) (.tmp 13) rfl 16 arrB _ _ rfl (bv X) rfl 28 _ hx23.out hXl.out (by simp) (ones_bv _) ?_
            intro w25 hy29 hK27
            rw [putL_all (by rw [hXl.out]; simp)] at hy29
            have hE31 := Lib.hid (hE22.out.keeps hK27 g6_22gt.out)
            have hy30 := Lib.hid (hx24.out.keeps hK27 (by have := hne.out; first | (simp; done) | (simp; omega)))
            refine hK1.out _ _ (Bx.S hE31.out) (fun hH => ?_)
            clear hK1 K1 hK27
            refine wpAnyH_ready (rs := [9]) (by kernel_rfl) (by simp) ?_
            refine AllReadyH.cons rfl (fun K1 hK1 => ?_) AllReadyH.nil
            rw [if_pos (by rfl)]
            refine wp_storeA 28 (.tmp 8) (.tmp 16) rfl 16 arrB _ _ rfl (bv Y) rfl 28 _ hy30.out hYl.out (by simp) (ones_bv _) ?_
            intro w26 hY hK28
            rw [putL_all (by rw [hYl.out]; simp)] at hY
            have hE32 := Lib.hid (hE31.out.keeps hK28 g7_20gt.out)
            have hX := hy29.keeps hK28 (by have := hne.out; first | (simp; done) | (simp; omega))
            refine hK1.out _ _ (Bx.S hE32.out) (fun hH => ?_)
            clear hK1 K1 hK28
            simp only [Act.put, List.setIfInBounds_toArray, List.set_cons_zero, List.set_cons_succ]
            refine wpAnyH_done (by kernel_rfl) ?_ _
            go_wp2_with fail
            go_meet
            exact ⟨_, _, rfl, rfl, g6_22gt.out, g7_20gt.out, hne.out, hX, hY, hE32.out⟩
      · go_simp
        have g6_33gt := Lib.hid (show w.heap.size + 1 + 1 < w1.heap.size from by have := hE3.out.fb.lt; first | exact this | simpa using this)
        have hx34 := Lib.hid (Blk.new_at (w := w1) (n := w1.heap.size) (t := 28) (cs := (bv (zeros 16)).toArray) (L := bv (zeros 16)) (by simp) rfl)
        have hE33 := Lib.hid (hE3.out.keeps0 ((Keeps.refl [] w1).alloc (.cells (bv (zeros 16)).toArray 28)))
        refine hK1.out _ _ (Bx.S hE33.out) (fun hH => ?_)
        clear hK1 K1
        refine wpAnyH_ready (rs := [5, 7]) (by kernel_rfl) (by simp) ?_
        refine AllReadyH.cons rfl (fun K1 hK1 => ?_) (AllReadyH.cons rfl (fun K1 hK1 => ?_) AllReadyH.nil)
        · go_simp
          refine (hsY.out _).mono ?_
          rintro e w35 ⟨rfl, hB36⟩
          have hE37 := Lib.hid (hE33.out.call hB36)
          have hx38 := Lib.hid (hx34.out.keep hB36)
          refine hK1.out _ _ (Bx.S hE37.out) (fun hH => ?_)
          clear hK1 K1 hB36
          refine wpAnyH_ready (rs := [7]) (by kernel_rfl) (by simp) ?_
          refine AllReadyH.cons rfl (fun K1 hK1 => ?_) AllReadyH.nil
          · go_simp
            have g7_39gt := Lib.hid (show w.heap.size + 1 + 1 < w35.heap.size from by have := hE37.out.fb.lt; first | exact this | simpa using this)
            have hx40 := Lib.hid (Blk.new_at (w := w35) (n := w35.heap.size) (t := 28) (cs := (bv (zeros 16)).toArray) (L := bv (zeros 16)) (by simp) rfl)
            have hne : Hid (w1.heap.size ≠ w35.heap.size) := by show _ ≠ _; have := hx38.out.lt; first | omega | (simp at this; omega)
            have hx41 := Lib.hid (hx38.out.alloc (.cells (bv (zeros 16)).toArray 28))
            have hE39 := Lib.hid (hE37.out.keeps0 ((Keeps.refl [] w35).alloc (.cells (bv (zeros 16)).toArray 28)))
            refine hK1.out _ _ (Bx.S hE39.out) (fun hH => ?_)
            clear hK1 K1
            refine wpAnyH_ready (rs := [8]) (by kernel_rfl) (by simp) ?_
            refine AllReadyH.cons rfl (fun K1 hK1 => ?_) AllReadyH.nil
            rw [if_pos (by rfl)]
            refine wp_storeA 28 (.tmp 7) (.tmp 13) rfl 16 arrB _ _ rfl (bv X) rfl 28 _ hx41.out hXl.out (by simp) (ones_bv _) ?_
            intro w42 hy46 hK44
            rw [putL_all (by rw [hXl.out]; simp)] at hy46
            have hE48 := Lib.hid (hE39.out.keeps hK44 g6_33gt.out)
            have hy47 := Lib.hid (hx40.out.keeps hK44 (by have := hne.out; first | (simp; done) | (simp; omega)))
            refine hK1.out _ _ (Bx.S hE48.out) (fun hH => ?_)
            clear hK1 K1 hK44
            refine wpAnyH_ready (rs := [9]) (by kernel_rfl) (by simp) ?_
            refine AllReadyH.cons rfl (fun K1 hK1 => ?_) AllReadyH.nil
            rw [if_pos (by rfl)]
            refine wp_storeA 28 (.tmp 8) (.tmp 16) rfl 16 arrB _ _ rfl (bv Y) rfl 28 _ hy47.out hYl.out (by simp) (ones_bv _) ?_
            intro w43 hY hK45
            rw [putL_all (by rw [hYl.out]; simp)] at hY
            have hE49 := Lib.hid (hE48.out.keeps hK45 g7_39gt.out)
            have hX := hy46.keeps hK45 (by have := hne.out; first | (simp; done) | (simp; omega))
            refine hK1.out _ _ (Bx.S hE49.out) (fun hH => ?_)
            clear hK1 K1 hK45
            simp only [Act.put, List.setIfInBounds_toArray, List.set_cons_zero, List.set_cons_succ]
            refine wpAnyH_done (by kernel_rfl) ?_ _
            go_wp2_with fail
            go_meet
            exact ⟨_, _, rfl, rfl, g6_33gt.out, g7_39gt.out, hne.out, hX, hY, hE49.out⟩
        · go_simp
          have g7_50gt := Lib.hid (show w.heap.size + 1 + 1 < w1.heap.size + 1 from by have := hE33.out.fb.lt; first | exact this | simpa using this)
          have hx51 := Lib.hid (Blk.new_at (w := (w1.alloc (.cells (bv (zeros 16)).toArray 28))) (n := w1.heap.size + 1) (t := 28) (cs := (bv (zeros 16)).toArray) (L := bv (zeros 16)) (by simp) rfl)
          have hne : Hid (w1.heap.size ≠ w1.heap.size + 1) := by show _ ≠ _; have := hx34.out.lt; first | omega | (simp at this; omega)
          have hx52 := Lib.hid (hx34.out.alloc (.cells (bv (zeros 16)).toArray 28))
          have hE50 := Lib.hid (hE33.out.keeps0 ((Keeps.refl [] (w1.alloc (.cells (bv (zeros 16)).toArray 28))).alloc (.cells (bv (zeros 16)).toArray 28)))
          refine hK1.out _ _ (Bx.S hE50.out) (fun hH => ?_)
          clear hK1 K1
          refine wpAnyH_ready (rs := [5]) (by kernel_rfl) (by simp) ?_
          refine AllReadyH.cons rfl (fun K1 hK1 => ?_) AllReadyH.nil
          · go_simp
            refine (hsY.out _).mono ?_
            rintro e w53 ⟨rfl, hB54⟩
            have hE55 := Lib.hid (hE50.out.call hB54)
            have hx56 := Lib.hid (hx52.out.keep hB54)
            have hx57 := Lib.hid (hx51.out.keep hB54)
            refine hK1.out _ _ (Bx.S hE55.out) (fun hH => ?_)
            clear hK1 K1 hB54
            refine wpAnyH_ready (rs := [8]) (by kernel_rfl) (by simp) ?_
            refine AllReadyH.cons rfl (fun K1 hK1 => ?_) AllReadyH.nil
            rw [if_pos (by rfl)]
            refine wp_storeA 28 (.tmp 7) (.tmp 13) rfl 16 arrB _ _ rfl (bv X) rfl 28 _ hx56.out hXl.out (by simp) (ones_bv _) ?_
            intro w58 hy62 hK60
            rw [putL_all (by rw [hXl.out]; simp)] at hy62
            have hE64 := Lib.hid (hE55.out.keeps hK60 g6_33gt.out)
            have hy63 := Lib.hid (hx57.out.keeps hK60 (by have := hne.out; first | (simp; done) | (simp; omega)))
            refine hK1.out _ _ (Bx.S hE64.out) (fun hH => ?_)
            clear hK1 K1 hK60
            refine wpAnyH_ready (rs := [9]) (by kernel_rfl) (by simp) ?_
            refine AllReadyH.cons rfl (fun K1 hK1 => ?_) AllReadyH.nil
            rw [if_pos (by rfl)]
            refine wp_storeA 28 (.tmp 8) (.tmp 16) rfl 16 arrB _ _ rfl (bv Y) rfl 28 _ hy63.out hYl.out (by simp) (ones_bv _) ?_
            intro w59 hY hK61
            rw [putL_all (by rw [hYl.out]; simp)] at hY
            have hE65 := Lib.hid (hE64.out.keeps hK61 g7_50gt.out)
            have hX := hy62.keeps hK61 (by have := hne.out; first | (simp; done) | (simp; omega))
            refine hK1.out _ _ (Bx.S hE65.out) (fun hH => ?_)
            clear hK1 K1 hK61
            simp only [Act.put, List.setIfInBounds_toArray, List.set_cons_zero, List.set_cons_succ]
            refine wpAnyH_done (by kernel_rfl) ?_ _
            go_wp2_with fail
            go_meet
            exact ⟨_, _, rfl, rfl, g6_33gt.out, g7_50gt.out, hne.out, hX, hY, hE65.out⟩
      · go_simp
        have g7_66gt := Lib.hid (show w.heap.size + 1 + 1 < w1.heap.size from by have := hE3.out.fb.lt; first | exact this | simpa using this)
        have hx67 := Lib.hid (Blk.new_at (w := w1) (n := w1.heap.size) (t := 28) (cs := (bv (zeros 16)).toArray) (L := bv (zeros 16)) (by simp) rfl)
        have hE66 := Lib.hid (hE3.out.keeps0 ((Keeps.refl [] w1).alloc (.cells (bv (zeros 16)).toArray 28)))
        refine hK1.out _ _ (Bx.S hE66.out) (fun hH => ?_)
        clear hK1 K1
        refine wpAnyH_ready (rs := [5, 6]) (by kernel_rfl) (by simp) ?_
        refine AllReadyH.cons rfl (fun K1 hK1 => ?_) (AllReadyH.cons rfl (fun K1 hK1 => ?_) AllReadyH.nil)
        · go_simp
          refine (hsY.out _).mono ?_
          rintro e w68 ⟨rfl, hB69⟩
          have hE70 := Lib.hid (hE66.out.call hB69)
          have hx71 := Lib.hid (hx67.out.keep hB69)
          refine hK1.out _ _ (Bx.S hE70.out) (fun hH => ?_)
          clear hK1 K1 hB69
          refine wpAnyH_ready (rs := [6]) (by kernel_rfl) (by simp) ?_
          refine AllReadyH.cons rfl (fun K1 hK1 => ?_) AllReadyH.nil
          · go_simp
            have g6_72gt := Lib.hid (show w.heap.size + 1 + 1 < w68.heap.size from by have := hE70.out.fb.lt; first | exact this | simpa using this)
            have hx73 := Lib.hid (Blk.new_at (w := w68) (n := w68.heap.size) (t := 28) (cs := (bv (zeros 16)).toArray) (L := bv (zeros 16)) (by simp) rfl)
            have hne : Hid (w68.heap.size ≠ w1.heap.size) := by show _ ≠ _; have := hx71.out.lt; first | omega | (simp at this; omega)
            have hx74 := Lib.hid (hx71.out.alloc (.cells (bv (zeros 16)).toArray 28))
            have hE72 := Lib.hid (hE70.out.keeps0 ((Keeps.refl [] w68).alloc (.cells (bv (zeros 16)).toArray 28)))
            refine hK1.out _ _ (Bx.S hE72.out) (fun hH => ?_)
            clear hK1 K1
            refine wpAnyH_ready (rs := [8]) (by kernel_rfl) (by simp) ?_
            refine AllReadyH.cons rfl (fun K1 hK1 => ?_) AllReadyH.nil
            rw [if_pos (by rfl)]
            refine wp_storeA 28 (.tmp 7) (.tmp 13) rfl 16 arrB _ _ rfl (bv X) rfl 28 _ hx73.out hXl.out (by simp) (ones_bv _) ?_
            intro w75 hy79 hK77
            rw [putL_all (by rw [hXl.out]; simp)] at hy79
            have hE81 := Lib.hid (hE72.out.keeps hK77 g6_72gt.out)
            have hy80 := Lib.hid (hx74.out.keeps hK77 (by have := hne.out; first | (simp; done) | (simp; omega)))
            refine hK1.out _ _ (Bx.S hE81.out) (fun hH => ?_)
            clear hK1 K1 hK77
            refine wpAnyH_ready (rs := [9]) (by kernel_rfl) (by simp) ?_
            refine AllReadyH.cons rfl (fun K1 hK1 => ?_) AllReadyH.nil
            rw [if_pos (by rfl)]
            refine wp_storeA 28 (.tmp 8) (.tmp 16) rfl 16 arrB _ _ rfl (bv Y) rfl 28 _ hy80.out hYl.out (by simp) (ones_bv _) ?_
            intro w76 hY hK78
            rw [putL_all (by rw [hYl.out]; simp)] at hY
            have hE82 := Lib.hid (hE81.out.keeps hK78 g7_66gt.out)
            have hX := hy79.keeps hK78 (by have := hne.out; first | (simp; done) | (simp; omega))
            refine hK1.out _ _ (Bx.S hE82.out) (fun hH => ?_)
            clear hK1 K1 hK78
            simp only [Act.put, List.setIfInBounds_toArray, List.set_cons_zero, List.set_cons_succ]
            refine wpAnyH_done (by kernel_rfl) ?_ _
            go_wp2_with fail
            go_meet
            exact ⟨_, _, rfl, rfl, g6_72gt.out, g7_66gt.out, hne.out, hX, hY, hE82.out⟩
        · go_simp
          have g6_83gt := Lib.hid (show w.heap.size + 1 + 1 < w1.heap.size + 1 from by have := hE66.out.fb.lt; first | exact this | simpa using this)
          have hx84 := Lib.hid (Blk.new_at (w := (w1.alloc (.cells (bv (zeros 16)).toArray 28))) (n := w1.heap.size + 1) (t := 28) (cs := (bv (zeros 16)).toArray) (L := bv (zeros 16)) (by simp) rfl)
          have hne : Hid (w1.heap.size + 1 ≠ w1.heap.size) := by show _ ≠ _; have := hx67.out.lt; first | omega | (simp at this; omega)
          have hx85 := Lib.hid (hx67.out.alloc (.cells (bv (zeros 16)).toArray 28))
          have hE83 := Lib.hid (hE66.out.keeps0 ((Keeps.refl [] (w1.alloc (.cells (bv (zeros 16)).toArray 28))).alloc (.cells (bv (zeros 16)).toArray 28)))
          refine hK1.out _ _ (Bx.S hE83.out) (fun hH => ?_)
          clear hK1 K1
          refine wpAnyH_ready (rs := [5]) (by kernel_rfl) (by simp) ?_
          refine AllReadyH.cons rfl (fun K1 hK1 => ?_) AllReadyH.nil
          · go_simp
            refine (hsY.out _).mono ?_
            rintro e w86 ⟨rfl, hB87⟩
            have hE88 := Lib.hid (hE83.out.call hB87)
            have hx89 := Lib.hid (hx85.out.keep hB87)
            have hx90 := Lib.hid (hx84.out.keep hB87)
            refine hK1.out _ _ (Bx.S hE88.out) (fun hH => ?_)
            clear hK1 K1 hB87
            refine wpAnyH_ready (rs := [8]) (by kernel_rfl) (by simp) ?_
            refine AllReadyH.cons rfl (fun K1 hK1 => ?_) AllReadyH.nil
            rw [if_pos (by rfl)]
            refine wp_storeA 28 (.tmp 7) (.tmp 13) rfl 16 arrB _ _ rfl (bv X) rfl 28 _ hx90.out hXl.out (by simp) (ones_bv _) ?_
            intro w91 hy95 hK93
            rw [putL_all (by rw [hXl.out]; simp)] at hy95
            have hE97 := Lib.hid (hE88.out.keeps hK93 g6_83gt.out)
            have hy96 := Lib.hid (hx89.out.keeps hK93 (by have := hne.out; first | (simp; done) | (simp; omega)))
            refine hK1.out _ _ (Bx.S hE97.out) (fun hH => ?_)
            clear hK1 K1 hK93
            refine wpAnyH_ready (rs := [9]) (by kernel_rfl) (by simp) ?_
            refine AllReadyH.cons rfl (fun K1 hK1 => ?_) AllReadyH.nil
            rw [if_pos (by rfl)]
            refine wp_storeA 28 (.tmp 8) (.tmp 16) rfl 16 arrB _ _ rfl (bv Y) rfl 28 _ hy96.out hYl.out (by simp) (ones_bv _) ?_
            intro w92 hY hK94
            rw [putL_all (by rw [hYl.out]; simp)] at hY
            have hE98 := Lib.hid (hE97.out.keeps hK94 g7_66gt.out)
            have hX := hy95.keeps hK94 (by have := hne.out; first | (simp; done) | (simp; omega))
            refine hK1.out _ _ (Bx.S hE98.out) (fun hH => ?_)
            clear hK1 K1 hK94
            simp only [Act.put, List.setIfInBounds_toArray, List.set_cons_zero, List.set_cons_succ]
            refine wpAnyH_done (by kernel_rfl) ?_ _
            go_wp2_with fail
            go_meet
            exact ⟨_, _, rfl, rfl, g6_83gt.out, g7_66gt.out, hne.out, hX, hY, hE98.out⟩
    · go_simp
      have g6_99gt := Lib.hid (show w.heap.size + 1 + 1 < wz.heap.size from by have := hE0.out.fb.lt; first | exact this | simpa using this)
      have hx100 := Lib.hid (Blk.new_at (w := wz) (n := wz.heap.size) (t := 28) (cs := (bv (zeros 16)).toArray) (L := bv (zeros 16)) (by simp) rfl)
      have hE99 := Lib.hid (hE0.out.keeps0 ((Keeps.refl [] wz).alloc (.cells (bv (zeros 16)).toArray 28)))
      refine hK1.out _ _ (Bx.S hE99.out.drew) (fun hH => ?_)
      clear hK1 K1
      refine wpAnyH_ready (rs := [2, 7]) (by kernel_rfl) (by simp) ?_
      refine AllReadyH.cons rfl (fun K1 hK1 => ?_) (AllReadyH.cons rfl (fun K1 hK1 => ?_) AllReadyH.nil)
      · go_simp
        refine (hsX.out _).mono ?_
        rintro e w101 ⟨rfl, hB102⟩
        have hE103 := Lib.hid (hE99.out.drew.call hB102)
        have hx104 := Lib.hid (hx100.out.drew.keep hB102)
        refine hK1.out _ _ (Bx.S hE103.out) (fun hH => ?_)
        clear hK1 K1 hB102
        refine wpAnyH_ready (rs := [5, 7]) (by kernel_rfl) (by simp) ?_
        refine AllReadyH.cons rfl (fun K1 hK1 => ?_) (AllReadyH.cons rfl (fun K1 hK1 => ?_) AllReadyH.nil)
        · go_simp
          refine (hsY.out _).mono ?_
          rintro e w105 ⟨rfl, hB106⟩
          have hE107 := Lib.hid (hE103.out.call hB106)
          have hx108 := Lib.hid (hx104.out.keep hB106)
          refine hK1.out _ _ (Bx.S hE107.out) (fun hH => ?_)
          clear hK1 K1 hB106
          refine wpAnyH_ready (rs := [7]) (by kernel_rfl) (by simp) ?_
          refine AllReadyH.cons rfl (fun K1 hK1 => ?_) AllReadyH.nil
          · go_simp
            have g7_109gt := Lib.hid (show w.heap.size + 1 + 1 < w105.heap.size from by have := hE107.out.fb.lt; first | exact this | simpa using this)
            have hx110 := Lib.hid (Blk.new_at (w := w105) (n := w105.heap.size) (t := 28) (cs := (bv (zeros 16)).toArray) (L := bv (zeros 16)) (by simp) rfl)
            have hne : Hid (wz.heap.size ≠ w105.heap.size) := by show _ ≠ _; have := hx108.out.lt; first | omega | (simp at this; omega)
            have hx111 := Lib.hid (hx108.out.alloc (.cells (bv (zeros 16)).toArray 28))
            have hE109 := Lib.hid (hE107.out.keeps0 ((Keeps.refl [] w105).alloc (.cells (bv (zeros 16)).toArray 28)))
            refine hK1.out _ _ (Bx.S hE109.out) (fun hH => ?_)
            clear hK1 K1
            refine wpAnyH_ready (rs := [8]) (by kernel_rfl) (by simp) ?_
            refine AllReadyH.cons rfl (fun K1 hK1 => ?_) AllReadyH.nil
            rw [if_pos (by rfl)]
            refine wp_storeA 28 (.tmp 7) (.tmp 13) rfl 16 arrB _ _ rfl (bv X) rfl 28 _ hx111.out hXl.out (by simp) (ones_bv _) ?_
            intro w112 hy116 hK114
            rw [putL_all (by rw [hXl.out]; simp)] at hy116
            have hE118 := Lib.hid (hE109.out.keeps hK114 g6_99gt.out)
            have hy117 := Lib.hid (hx110.out.keeps hK114 (by have := hne.out; first | (simp; done) | (simp; omega)))
            refine hK1.out _ _ (Bx.S hE118.out) (fun hH => ?_)
            clear hK1 K1 hK114
            refine wpAnyH_ready (rs := [9]) (by kernel_rfl) (by simp) ?_
            refine AllReadyH.cons rfl (fun K1 hK1 => ?_) AllReadyH.nil
            rw [if_pos (by rfl)]
            refine wp_storeA 28 (.tmp 8) (.tmp 16) rfl 16 arrB _ _ rfl (bv Y) rfl 28 _ hy117.out hYl.out (by simp) (ones_bv _) ?_
            intro w113 hY hK115
            rw [putL_all (by rw [hYl.out]; simp)] at hY
            have hE119 := Lib.hid (hE118.out.keeps hK115 g7_109gt.out)
            have hX := hy116.keeps hK115 (by have := hne.out; first | (simp; done) | (simp; omega))
            refine hK1.out _ _ (Bx.S hE119.out) (fun hH => ?_)
            clear hK1 K1 hK115
            simp only [Act.put, List.setIfInBounds_toArray, List.set_cons_zero, List.set_cons_succ]
            refine wpAnyH_done (by kernel_rfl) ?_ _
            go_wp2_with fail
            go_meet
            exact ⟨_, _, rfl, rfl, g6_99gt.out, g7_109gt.out, hne.out, hX, hY, hE119.out⟩
        · go_simp
          have g7_120gt := Lib.hid (show w.heap.size + 1 + 1 < w101.heap.size from by have := hE103.out.fb.lt; first | exact this | simpa using this)
          have hx121 := Lib.hid (Blk.new_at (w := w101) (n := w101.heap.size) (t := 28) (cs := (bv (zeros 16)).toArray) (L := bv (zeros 16)) (by simp) rfl)
          have hne : Hid (wz.heap.size ≠ w101.heap.size) := by show _ ≠ _; have := hx104.out.lt; first | omega | (simp at this; omega)
          have hx122 := Lib.hid (hx104.out.alloc (.cells (bv (zeros 16)).toArray 28))
          have hE120 := Lib.hid (hE103.out.keeps0 ((Keeps.refl [] w101).alloc (.cells (bv (zeros 16)).toArray 28)))
          refine hK1.out _ _ (Bx.S hE120.out) (fun hH => ?_)
          clear hK1 K1
          refine wpAnyH_ready (rs := [5]) (by kernel_rfl) (by simp) ?_
          refine AllReadyH.cons rfl (fun K1 hK1 => ?_) AllReadyH.nil
          · go_simp
            refine (hsY.out _).mono ?_
            rintro e w123 ⟨rfl, hB124⟩
            have hE125 := Lib.hid (hE120.out.call hB124)
            have hx126 := Lib.hid (hx122.out.keep hB124)
            have hx127 := Lib.hid (hx121.out.keep hB124)
            refine hK1.out _ _ (Bx.S hE125.out) (fun hH => ?_)
            clear hK1 K1 hB124
            refine wpAnyH_ready (rs := [8]) (by kernel_rfl) (by simp) ?_
            refine AllReadyH.cons rfl (fun K1 hK1 => ?_) AllReadyH.nil
            rw [if_pos (by rfl)]
            refine wp_storeA 28 (.tmp 7) (.tmp 13) rfl 16 arrB _ _ rfl (bv X) rfl 28 _ hx126.out hXl.out (by simp) (ones_bv _) ?_
            intro w128 hy132 hK130
            rw [putL_all (by rw [hXl.out]; simp)] at hy132
            have hE134 := Lib.hid (hE125.out.keeps hK130 g6_99gt.out)
            have hy133 := Lib.hid (hx127.out.keeps hK130 (by have := hne.out; first | (simp; done) | (simp; omega)))
            refine hK1.out _ _ (Bx.S hE134.out) (fun hH => ?_)
            clear hK1 K1 hK130
            refine wpAnyH_ready (rs := [9]) (by kernel_rfl) (by simp) ?_
            refine AllReadyH.cons rfl (fun K1 hK1 => ?_) AllReadyH.nil
            rw [if_pos (by rfl)]
            refine wp_storeA 28 (.tmp 8) (.tmp 16) rfl 16 arrB _ _ rfl (bv Y) rfl 28 _ hy133.out hYl.out (by simp) (ones_bv _) ?_
            intro w129 hY hK131
            rw [putL_all (by rw [hYl.out]; simp)] at hY
            have hE135 := Lib.hid (hE134.out.keeps hK131 g7_120gt.out)
            have hX := hy132.keeps hK131 (by have := hne.out; first | (simp; done) | (simp; omega))
            refine hK1.out _ _ (Bx.S hE135.out) (fun hH => ?_)
            clear hK1 K1 hK131
            simp only [Act.put, List.setIfInBounds_toArray, List.set_cons_zero, List.set_cons_succ]
            refine wpAnyH_done (by kernel_rfl) ?_ _
            go_wp2_with fail
            go_meet
            exact ⟨_, _, rfl, rfl, g6_99gt.out, g7_120gt.out, hne.out, hX, hY, hE135.out⟩
      · go_simp
        have g7_136gt := Lib.hid (show w.heap.size + 1 + 1 < wz.heap.size + 1 from by have := hE99.out.fb.lt; first | exact this | simpa using this)
        have hx137 := Lib.hid (Blk.new_at (w := (wz.alloc (.cells (bv (zeros 16)).toArray 28))) (n := wz.heap.size + 1) (t := 28) (cs := (bv (zeros 16)).toArray) (L := bv (zeros 16)) (by simp) rfl)
        have hne : Hid (wz.heap.size ≠ wz.heap.size + 1) := by show _ ≠ _; have := hx100.out.lt; first | omega | (simp at this; omega)
        have hx138 := Lib.hid (hx100.out.alloc (.cells (bv (zeros 16)).toArray 28))
        have hE136 := Lib.hid (hE99.out.keeps0 ((Keeps.refl [] (wz.alloc (.cells (bv (zeros 16)).toArray 28))).alloc (.cells (bv (zeros 16)).toArray 28)))
        refine hK1.out _ _ (Bx.S hE136.out.drew) (fun hH => ?_)
        clear hK1 K1
        refine wpAnyH_ready (rs := [2]) (by kernel_rfl) (by simp) ?_
        refine AllReadyH.cons rfl (fun K1 hK1 => ?_) AllReadyH.nil
        · go_simp
          refine (hsX.out _).mono ?_
          rintro e w139 ⟨rfl, hB140⟩
          have hE141 := Lib.hid (hE136.out.drew.call hB140)
          have hx142 := Lib.hid (hx138.out.drew.keep hB140)
          have hx143 := Lib.hid (hx137.out.drew.keep hB140)
          refine hK1.out _ _ (Bx.S hE141.out) (fun hH => ?_)
          clear hK1 K1 hB140
          refine wpAnyH_ready (rs := [5]) (by kernel_rfl) (by simp) ?_
          refine AllReadyH.cons rfl (fun K1 hK1 => ?_) AllReadyH.nil
          · go_simp
            refine (hsY.out _).mono ?_
            rintro e w144 ⟨rfl, hB145⟩
            have hE146 := Lib.hid (hE141.out.call hB145)
            have hx147 := Lib.hid (hx142.out.keep hB145)
            have hx148 := Lib.hid (hx143.out.keep hB145)
            refine hK1.out _ _ (Bx.S hE146.out) (fun hH => ?_)
            clear hK1 K1 hB145
            refine wpAnyH_ready (rs := [8]) (by kernel_rfl) (by simp) ?_
            refine AllReadyH.cons rfl (fun K1 hK1 => ?_) AllReadyH.nil
            rw [if_pos (by rfl)]
            refine wp_storeA 28 (.tmp 7) (.tmp 13) rfl 16 arrB _ _ rfl (bv X) rfl 28 _ hx147.out hXl.out (by simp) (ones_bv _) ?_
            intro w149 hy153 hK151
            rw [putL_all (by rw [hXl.out]; simp)] at hy153
            have hE155 := Lib.hid (hE146.out.keeps hK151 g6_99gt.out)
            have hy154 := Lib.hid (hx148.out.keeps hK151 (by have := hne.out; first | (simp; done) | (simp; omega)))
            refine hK1.out _ _ (Bx.S hE155.out) (fun hH => ?_)
            clear hK1 K1 hK151
            refine wpAnyH_ready (rs := [9]) (by kernel_rfl) (by simp) ?_
            refine AllReadyH.cons rfl (fun K1 hK1 => ?_) AllReadyH.nil
            rw [if_pos (by rfl)]
            refine wp_storeA 28 (.tmp 8) (.tmp 16) rfl 16 arrB _ _ rfl (bv Y) rfl 28 _ hy154.out hYl.out (by simp) (ones_bv _) ?_
            intro w150 hY hK152
            rw [putL_all (by rw [hYl.out]; simp)] at hY
            have hE156 := Lib.hid (hE155.out.keeps hK152 g7_136gt.out)
            have hX := hy153.keeps hK152 (by have := hne.out; first | (simp; done) | (simp; omega))
            refine hK1.out _ _ (Bx.S hE156.out) (fun hH => ?_)
            clear hK1 K1 hK152
            simp only [Act.put, List.setIfInBounds_toArray, List.set_cons_zero, List.set_cons_succ]
            refine wpAnyH_done (by kernel_rfl) ?_ _
            go_wp2_with fail
            go_meet
            exact ⟨_, _, rfl, rfl, g6_99gt.out, g7_136gt.out, hne.out, hX, hY, hE156.out⟩
    · go_simp
      have g7_157gt := Lib.hid (show w.heap.size + 1 + 1 < wz.heap.size from by have := hE0.out.fb.lt; first | exact this | simpa using this)
      have hx158 := Lib.hid (Blk.new_at (w := wz) (n := wz.heap.size) (t := 28) (cs := (bv (zeros 16)).toArray) (L := bv (zeros 16)) (by simp) rfl)
      have hE157 := Lib.hid (hE0.out.keeps0 ((Keeps.refl [] wz).alloc (.cells (bv (zeros 16)).toArray 28)))
      refine hK1.out _ _ (Bx.S hE157.out.drew) (fun hH => ?_)
      clear hK1 K1
      refine wpAnyH_ready (rs := [2, 6]) (by kernel_rfl) (by simp) ?_
      refine AllReadyH.cons rfl (fun K1 hK1 => ?_) (AllReadyH.cons rfl (fun K1 hK1 => ?_) AllReadyH.nil)
      · go_simp
        refine (hsX.out _).mono ?_
        rintro e w159 ⟨rfl, hB160⟩
        have hE161 := Lib.hid (hE157.out.drew.call hB160)
        have hx162 := Lib.hid (hx158.out.drew.keep hB160)
        refine hK1.out _ _ (Bx.S hE161.out) (fun hH => ?_)
        clear hK1 K1 hB160
        refine wpAnyH_ready (rs := [5, 6]) (by kernel_rfl) (by simp) ?_
        refine AllReadyH.cons rfl (fun K1 hK1 => ?_) (AllReadyH.cons rfl (fun K1 hK1 => ?_) AllReadyH.nil)
        · go_simp
          refine (hsY.out _).mono ?_
          rintro e w163 ⟨rfl, hB164⟩
          have hE165 := Lib.hid (hE161.out.call hB164)
          have hx166 := Lib.hid (hx162.out.keep hB164)
          refine hK1.out _ _ (Bx.S hE165.out) (fun hH => ?_)
          clear hK1 K1 hB164
          refine wpAnyH_ready (rs := [6]) (by kernel_rfl) (by simp) ?_
          refine AllReadyH.cons rfl (fun K1 hK1 => ?_) AllReadyH.nil
          · go_simp
            have g6_167gt := Lib.hid (show w.heap.size + 1 + 1 < w163.heap.size from by have := hE165.out.fb.lt; first | exact this | simpa using this)
            have hx168 := Lib.hid (Blk.new_at (w := w163) (n := w163.heap.size) (t := 28) (cs := (bv (zeros 16)).toArray) (L := bv (zeros 16)) (by simp) rfl)
            have hne : Hid (w163.heap.size ≠ wz.heap.size) := by show _ ≠ _; have := hx166.out.lt; first | omega | (simp at this; omega)
            have hx169 := Lib.hid (hx166.out.alloc (.cells (bv (zeros 16)).toArray 28))
            have hE167 := Lib.hid (hE165.out.keeps0 ((Keeps.refl [] w163).alloc (.cells (bv (zeros 16)).toArray 28)))
            refine hK1.out _ _ (Bx.S hE167.out) (fun hH => ?_)
            clear hK1 K1
            refine wpAnyH_ready (rs := [8]) (by kernel_rfl) (by simp) ?_
            refine AllReadyH.cons rfl (fun K1 hK1 => ?_) AllReadyH.nil
            rw [if_pos (by rfl)]
            refine wp_storeA 28 (.tmp 7) (.tmp 13) rfl 16 arrB _ _ rfl (bv X) rfl 28 _ hx168.out hXl.out (by simp) (ones_bv _) ?_
            intro w170 hy174 hK172
            rw [putL_all (by rw [hXl.out]; simp)] at hy174
            have hE176 := Lib.hid (hE167.out.keeps hK172 g6_167gt.out)
            have hy175 := Lib.hid (hx169.out.keeps hK172 (by have := hne.out; first | (simp; done) | (simp; omega)))
            refine hK1.out _ _ (Bx.S hE176.out) (fun hH => ?_)
            clear hK1 K1 hK172
            refine wpAnyH_ready (rs := [9]) (by kernel_rfl) (by simp) ?_
            refine AllReadyH.cons rfl (fun K1 hK1 => ?_) AllReadyH.nil
            rw [if_pos (by rfl)]
            refine wp_storeA 28 (.tmp 8) (.tmp 16) rfl 16 arrB _ _ rfl (bv Y) rfl 28 _ hy175.out hYl.out (by simp) (ones_bv _) ?_
            intro w171 hY hK173
            rw [putL_all (by rw [hYl.out]; simp)] at hY
            have hE177 := Lib.hid (hE176.out.keeps hK173 g7_157gt.out)
            have hX := hy174.keeps hK173 (by have := hne.out; first | (simp; done) | (simp; omega))
            refine hK1.out _ _ (Bx.S hE177.out) (fun hH => ?_)
            clear hK1 K1 hK173
            simp only [Act.put, List.setIfInBounds_toArray, List.set_cons_zero, List.set_cons_succ]
            refine wpAnyH_done (by kernel_rfl) ?_ _
            go_wp2_with fail
            go_meet
            exact ⟨_, _, rfl, rfl, g6_167gt.out, g7_157gt.out, hne.out, hX, hY, hE177.out⟩
        · go_simp
          have g6_178gt := Lib.hid (show w.heap.size + 1 + 1 < w159.heap.size from by have := hE161.out.fb.lt; first | exact this | simpa using this)
          have hx179 := Lib.hid (Blk.new_at (w := w159) (n := w159.heap.size) (t := 28) (cs := (bv (zeros 16)).toArray) (L := bv (zeros 16)) (by simp) rfl)
          have hne : Hid (w159.heap.size ≠ wz.heap.size) := by show _ ≠ _; have := hx162.out.lt; first | omega | (simp at this; omega)
          have hx180 := Lib.hid (hx162.out.alloc (.cells (bv (zeros 16)).toArray 28))
          have hE178 := Lib.hid (hE161.out.keeps0 ((Keeps.refl [] w159).alloc (.cells (bv (zeros 16)).toArray 28)))
          refine hK1.out _ _ (Bx.S hE178.out) (fun hH => ?_)
          clear hK1 K1
          refine wpAnyH_ready (rs := [5]) (by kernel_rfl) (by simp) ?_
          refine AllReadyH.cons rfl (fun K1 hK1 => ?_) AllReadyH.nil
          · go_simp
            refine (hsY.out _).mono ?_
            rintro e w181 ⟨rfl, hB182⟩
            have hE183 := Lib.hid (hE178.out.call hB182)
            have hx184 := Lib.hid (hx180.out.keep hB182)
            have hx185 := Lib.hid (hx179.out.keep hB182)
            refine hK1.out _ _ (Bx.S hE183.out) (fun hH => ?_)
            clear hK1 K1 hB182
            refine wpAnyH_ready (rs := [8]) (by kernel_rfl) (by simp) ?_
            refine AllReadyH.cons rfl (fun K1 hK1 => ?_) AllReadyH.nil
            rw [if_pos (by rfl)]
            refine wp_storeA 28 (.tmp 7) (.tmp 13) rfl 16 arrB _ _ rfl (bv X) rfl 28 _ hx185.out hXl.out (by simp) (ones_bv _) ?_
            intro w186 hy190 hK188
            rw [putL_all (by rw [hXl.out]; simp)] at hy190
            have hE192 := Lib.hid (hE183.out.keeps hK188 g6_178gt.out)
            have hy191 := Lib.hid (hx184.out.keeps hK188 (by have := hne.out; first | (simp; done) | (simp; omega)))
            refine hK1.out _ _ (Bx.S hE192.out) (fun hH => ?_)
            clear hK1 K1 hK188
            refine wpAnyH_ready (rs := [9]) (by kernel_rfl) (by simp) ?_
            refine AllReadyH.cons rfl (fun K1 hK1 => ?_) AllReadyH.nil
            rw [if_pos (by rfl)]
            refine wp_storeA 28 (.tmp 8) (.tmp 16) rfl 16 arrB _ _ rfl (bv Y) rfl 28 _ hy191.out hYl.out (by simp) (ones_bv _) ?_
            intro w187 hY hK189
            rw [putL_all (by rw [hYl.out]; simp)] at hY
            have hE193 := Lib.hid (hE192.out.keeps hK189 g7_157gt.out)
            have hX := hy190.keeps hK189 (by have := hne.out; first | (simp; done) | (simp; omega))
            refine hK1.out _ _ (Bx.S hE193.out) (fun hH => ?_)
            clear hK1 K1 hK189
            simp only [Act.put, List.setIfInBounds_toArray, List.set_cons_zero, List.set_cons_succ]
            refine wpAnyH_done (by kernel_rfl) ?_ _
            go_wp2_with fail
            go_meet
            exact ⟨_, _, rfl, rfl, g6_178gt.out, g7_157gt.out, hne.out, hX, hY, hE193.out⟩
      · go_simp
        have g6_194gt := Lib.hid (show w.heap.size + 1 + 1 < wz.heap.size + 1 from by have := hE157.out.fb.lt; first | exact this | simpa using this)
        have hx195 := Lib.hid (Blk.new_at (w := (wz.alloc (.cells (bv (zeros 16)).toArray 28))) (n := wz.heap.size + 1) (t := 28) (cs := (bv (zeros 16)).toArray) (L := bv (zeros 16)) (by simp) rfl)
        have hne : Hid (wz.heap.size + 1 ≠ wz.heap.size) := by show _ ≠ _; have := hx158.out.lt; first | omega | (simp at this; omega)
        have hx196 := Lib.hid (hx158.out.alloc (.cells (bv (zeros 16)).toArray 28))
        have hE194 := Lib.hid (hE157.out.keeps0 ((Keeps.refl [] (wz.alloc (.cells (bv (zeros 16)).toArray 28))).alloc (.cells (bv (zeros 16)).toArray 28)))
        refine hK1.out _ _ (Bx.S hE194.out.drew) (fun hH => ?_)
        clear hK1 K1
        refine wpAnyH_ready (rs := [2]) (by kernel_rfl) (by simp) ?_
        refine AllReadyH.cons rfl (fun K1 hK1 => ?_) AllReadyH.nil
        · go_simp
          refine (hsX.out _).mono ?_
          rintro e w197 ⟨rfl, hB198⟩
          have hE199 := Lib.hid (hE194.out.drew.call hB198)
          have hx200 := Lib.hid (hx196.out.drew.keep hB198)
          have hx201 := Lib.hid (hx195.out.drew.keep hB198)
          refine hK1.out _ _ (Bx.S hE199.out) (fun hH => ?_)
          clear hK1 K1 hB198
          refine wpAnyH_ready (rs := [5]) (by kernel_rfl) (by simp) ?_
          refine AllReadyH.cons rfl (fun K1 hK1 => ?_) AllReadyH.nil
          · go_simp
            refine (hsY.out _).mono ?_
            rintro e w202 ⟨rfl, hB203⟩
            have hE204 := Lib.hid (hE199.out.call hB203)
            have hx205 := Lib.hid (hx200.out.keep hB203)
            have hx206 := Lib.hid (hx201.out.keep hB203)
            refine hK1.out _ _ (Bx.S hE204.out) (fun hH => ?_)
            clear hK1 K1 hB203
            refine wpAnyH_ready (rs := [8]) (by kernel_rfl) (by simp) ?_
            refine AllReadyH.cons rfl (fun K1 hK1 => ?_) AllReadyH.nil
            rw [if_pos (by rfl)]
            refine wp_storeA 28 (.tmp 7) (.tmp 13) rfl 16 arrB _ _ rfl (bv X) rfl 28 _ hx206.out hXl.out (by simp) (ones_bv _) ?_
            intro w207 hy211 hK209
            rw [putL_all (by rw [hXl.out]; simp)] at hy211
            have hE213 := Lib.hid (hE204.out.keeps hK209 g6_194gt.out)
            have hy212 := Lib.hid (hx205.out.keeps hK209 (by have := hne.out; first | (simp; done) | (simp; omega)))
            refine hK1.out _ _ (Bx.S hE213.out) (fun hH => ?_)
            clear hK1 K1 hK209
            refine wpAnyH_ready (rs := [9]) (by kernel_rfl) (by simp) ?_
            refine AllReadyH.cons rfl (fun K1 hK1 => ?_) AllReadyH.nil
            rw [if_pos (by rfl)]
            refine wp_storeA 28 (.tmp 8) (.tmp 16) rfl 16 arrB _ _ rfl (bv Y) rfl 28 _ hy212.out hYl.out (by simp) (ones_bv _) ?_
            intro w208 hY hK210
            rw [putL_all (by rw [hYl.out]; simp)] at hY
            have hE214 := Lib.hid (hE213.out.keeps hK210 g7_157gt.out)
            have hX := hy211.keeps hK210 (by have := hne.out; first | (simp; done) | (simp; omega))
            refine hK1.out _ _ (Bx.S hE214.out) (fun hH => ?_)
            clear hK1 K1 hK210
            simp only [Act.put, List.setIfInBounds_toArray, List.set_cons_zero, List.set_cons_succ]
            refine wpAnyH_done (by kernel_rfl) ?_ _
            go_wp2_with fail
            go_meet
            exact ⟨_, _, rfl, rfl, g6_194gt.out, g7_157gt.out, hne.out, hX, hY, hE214.out⟩
  case rest =>
    obtain ⟨g7, g8, rfl, rfl, h7, h8, hne, hX, hY, hS⟩ := hcut
    have hS := Lib.hid hS
    have hX := Lib.hid hX
    have hY := Lib.hid hY
    go_wp2_with fail
    refine wp_region_held_drew (S := fun w' => w'.rangeAt w.heap.size 0 (bv k) ∧ w'.rangeAt (w.heap.size + 1) 0 (bv a) ∧ w'.rangeAt (w.heap.size + 1 + 1) 0 (bv b) ∧ w'.rangeAt g7 0 (bv X) ∧ w'.rangeAt g8 0 (bv Y)) (by kernel_rfl) ⟨(Bx.S hS.out.drew).1, (Bx.S hS.out.drew).2.1, (Bx.S hS.out.drew).2.2, rng16 hX.out.drew HX.out, rng16 hY.out.drew HY.out⟩ (fun hH => ?_)
    refine takeH_load (o := ⟨some 17, _, _, _, _, _⟩) (i := 0) rfl (by kernel_rfl) (by kernel_rfl) (by kernel_rfl) (fun _ _ _ _ h => h) rfl 26 (.tmp 3) rfl 32 arr32' _ _ rfl (bv k) (by simp [Hk.out]) (fun w h => h.1) hH ?_
    simp only [Act.put, List.setIfInBounds_toArray, List.set_cons_zero, List.set_cons_succ, Nat.zero_add, decide_true, beq_self_eq_true]
    refine takeH_load (o := ⟨some 18, _, _, _, _, _⟩) (i := 1) rfl (by kernel_rfl) (by kernel_rfl) (by kernel_rfl) (fun _ _ _ _ h => h) rfl 28 (.tmp 7) rfl 16 arrB _ _ rfl (bv X) hXl.out (fun w h => h.2.2.2.1) hH ?_
    simp only [Act.put, List.setIfInBounds_toArray, List.set_cons_zero, List.set_cons_succ, Nat.zero_add, decide_true, beq_self_eq_true]
    refine takeH_load (o := ⟨some 20, _, _, _, _, _⟩) (i := 3) rfl (by kernel_rfl) (by kernel_rfl) (by kernel_rfl) (fun _ _ _ _ h => h) rfl 27 (.tmp 4) rfl 16 arr16' _ _ rfl (bv a) (by simp [Ha.out]) (fun w h => h.2.1) hH ?_
    simp only [Act.put, List.setIfInBounds_toArray, List.set_cons_zero, List.set_cons_succ, Nat.zero_add, decide_true, beq_self_eq_true]
    refine wpAnyH_ready (rs := [2]) (by kernel_rfl) (by simp) ?_
    refine AllReadyH.cons rfl (fun K1 hK1 => ?_) AllReadyH.nil
    go_simp
    refine (hoX.out _).mono ?_
    rintro e w5 ⟨rfl, hB5⟩
    have hS5 := Lib.hid (hS.out.drew.call hB5)
    have hX5 := Lib.hid (hX.out.drew.keep hB5)
    have hY5 := Lib.hid (hY.out.drew.keep hB5)
    refine hK1.out _ _ ⟨(Bx.S hS5.out).1, (Bx.S hS5.out).2.1, (Bx.S hS5.out).2.2, rng16 hX5.out HX.out, rng16 hY5.out HY.out⟩ (fun hH => ?_)
    clear hK1 K1 hB5
    refine takeH_eqlB (o := ⟨some 21, _, _, _, _, _⟩) (i := 4) rfl (by kernel_rfl) (by kernel_rfl) (by kernel_rfl) (fun _ _ _ _ h => h) rfl 28 (.tmp 19) (.tmp 20) 28 rfl 16 arrBB (a) (a) rfl rfl Ha.out Ha.out hH ?_
    simp only [Act.put, List.setIfInBounds_toArray, List.set_cons_zero, List.set_cons_succ, Nat.zero_add, decide_true, beq_self_eq_true]
    refine takeH_move (o := ⟨some 22, _, _, _, _, _⟩) (i := 5) rfl (by kernel_rfl) (by kernel_rfl) (by kernel_rfl) (fun _ _ _ _ h => h) rfl (.tmp 21) rfl _ rfl hH ?_
    simp only [Act.put, List.setIfInBounds_toArray, List.set_cons_zero, List.set_cons_succ, Nat.zero_add, decide_true, beq_self_eq_true]
    refine takeH_load (o := ⟨some 23, _, _, _, _, _⟩) (i := 6) rfl (by kernel_rfl) (by kernel_rfl) (by kernel_rfl) (fun _ _ _ _ h => h) rfl 26 (.tmp 3) rfl 32 arr32' _ _ rfl (bv k) (by simp [Hk.out]) (fun w h => h.1) hH ?_
    simp only [Act.put, List.setIfInBounds_toArray, List.set_cons_zero, List.set_cons_succ, Nat.zero_add, decide_true, beq_self_eq_true]
    refine takeH_load (o := ⟨some 24, _, _, _, _, _⟩) (i := 7) rfl (by kernel_rfl) (by kernel_rfl) (by kernel_rfl) (fun _ _ _ _ h => h) rfl 26 (.tmp 3) rfl 32 arr32' _ _ rfl (bv k) (by simp [Hk.out]) (fun w h => h.1) hH ?_
    simp only [Act.put, List.setIfInBounds_toArray, List.set_cons_zero, List.set_cons_succ, Nat.zero_add, decide_true, beq_self_eq_true]
    refine takeH_load (o := ⟨some 25, _, _, _, _, _⟩) (i := 8) rfl (by kernel_rfl) (by kernel_rfl) (by kernel_rfl) (fun _ _ _ _ h => h) rfl 27 (.tmp 4) rfl 16 arr16' _ _ rfl (bv a) (by simp [Ha.out]) (fun w h => h.2.1) hH ?_
    simp only [Act.put, List.setIfInBounds_toArray, List.set_cons_zero, List.set_cons_succ, Nat.zero_add, decide_true, beq_self_eq_true]
    refine takeH_load (o := ⟨some 28, _, _, _, _, _⟩) (i := 11) rfl (by kernel_rfl) (by kernel_rfl) (by kernel_rfl) (fun _ _ _ _ h => h) rfl 27 (.tmp 4) rfl 16 arr16' _ _ rfl (bv a) (by simp [Ha.out]) (fun w h => h.2.1) hH ?_
    simp only [Act.put, List.setIfInBounds_toArray, List.set_cons_zero, List.set_cons_succ, Nat.zero_add, decide_true, beq_self_eq_true]
    refine wpAnyH_ready (rs := [9]) (by kernel_rfl) (by simp) ?_
    refine AllReadyH.cons rfl (fun K1 hK1 => ?_) AllReadyH.nil
    go_simp
    refine (hoA.out _).mono ?_
    rintro e w6 ⟨rfl, hB6⟩
    have hS6 := Lib.hid (hS5.out.call hB6)
    have hX6 := Lib.hid (hX5.out.keep hB6)
    have hY6 := Lib.hid (hY5.out.keep hB6)
    refine hK1.out _ _ ⟨(Bx.S hS6.out).1, (Bx.S hS6.out).2.1, (Bx.S hS6.out).2.2, rng16 hX6.out HX.out, rng16 hY6.out HY.out⟩ (fun hH => ?_)
    clear hK1 K1 hB6
    refine wpAnyH_ready (rs := [10]) (by kernel_rfl) (by simp) ?_
    refine AllReadyH.cons rfl (fun K1 hK1 => ?_) AllReadyH.nil
    go_simp
    refine (hsZ.out _).mono ?_
    rintro e w7 ⟨rfl, hB7⟩
    have hS7 := Lib.hid (hS6.out.call hB7)
    have hX7 := Lib.hid (hX6.out.keep hB7)
    have hY7 := Lib.hid (hY6.out.keep hB7)
    refine hK1.out _ _ ⟨(Bx.S hS7.out).1, (Bx.S hS7.out).2.1, (Bx.S hS7.out).2.2, rng16 hX7.out HX.out, rng16 hY7.out HY.out⟩ (fun hH => ?_)
    clear hK1 K1 hB7
    refine takeH_eqlB (o := ⟨some 29, _, _, _, _, _⟩) (i := 12) rfl (by kernel_rfl) (by kernel_rfl) (by kernel_rfl) (fun _ _ _ _ h => h) rfl 28 (.tmp 27) (.tmp 28) 28 rfl 16 arrBB (a) (a) rfl rfl Ha.out Ha.out hH ?_
    simp only [Act.put, List.setIfInBounds_toArray, List.set_cons_zero, List.set_cons_succ, Nat.zero_add, decide_true, beq_self_eq_true]
    refine takeH_pick (o := ⟨some 30, _, _, _, _, _⟩) (i := 13) rfl (by kernel_rfl) (by kernel_rfl) (by kernel_rfl) (fun _ _ _ _ h => h) rfl (.tmp 22) (.tmp 29) (.const (.bool false)) rfl true rfl _ rfl hH ?_
    simp only [Act.put, List.setIfInBounds_toArray, List.set_cons_zero, List.set_cons_succ, Nat.zero_add, decide_true, beq_self_eq_true]
    refine takeH_move (o := ⟨some 31, _, _, _, _, _⟩) (i := 14) rfl (by kernel_rfl) (by kernel_rfl) (by kernel_rfl) (fun _ _ _ _ h => h) rfl (.tmp 30) rfl _ rfl hH ?_
    simp only [Act.put, List.setIfInBounds_toArray, List.set_cons_zero, List.set_cons_succ, Nat.zero_add, decide_true, beq_self_eq_true]
    refine takeH_load (o := ⟨some 32, _, _, _, _, _⟩) (i := 15) rfl (by kernel_rfl) (by kernel_rfl) (by kernel_rfl) (fun _ _ _ _ h => h) rfl 28 (.tmp 7) rfl 16 arrB _ _ rfl (bv X) hXl.out (fun w h => h.2.2.2.1) hH ?_
    simp only [Act.put, List.setIfInBounds_toArray, List.set_cons_zero, List.set_cons_succ, Nat.zero_add, decide_true, beq_self_eq_true]
    refine takeH_load (o := ⟨some 33, _, _, _, _, _⟩) (i := 16) rfl (by kernel_rfl) (by kernel_rfl) (by kernel_rfl) (fun _ _ _ _ h => h) rfl 28 (.tmp 8) rfl 16 arrB _ _ rfl (bv Y) hYl.out (fun w h => h.2.2.2.2) hH ?_
    simp only [Act.put, List.setIfInBounds_toArray, List.set_cons_zero, List.set_cons_succ, Nat.zero_add, decide_true, beq_self_eq_true]
    refine takeH_eqlB (o := ⟨some 34, _, _, _, _, _⟩) (i := 17) rfl (by kernel_rfl) (by kernel_rfl) (by kernel_rfl) (fun _ _ _ _ h => h) rfl 28 (.tmp 32) (.tmp 33) 28 rfl 16 arrBB (X) (Y) rfl rfl HX.out HY.out hH ?_
    simp only [Act.put, List.setIfInBounds_toArray, List.set_cons_zero, List.set_cons_succ, Nat.zero_add, decide_true, beq_self_eq_true]
    rw [hXY.out]
    refine takeH_load (o := ⟨some 35, _, _, _, _, _⟩) (i := 18) rfl (by kernel_rfl) (by kernel_rfl) (by kernel_rfl) (fun _ _ _ _ h => h) rfl 27 (.tmp 4) rfl 16 arr16' _ _ rfl (bv a) (by simp [Ha.out]) (fun w h => h.2.1) hH ?_
    simp only [Act.put, List.setIfInBounds_toArray, List.set_cons_zero, List.set_cons_succ, Nat.zero_add, decide_true, beq_self_eq_true]
    refine takeH_load (o := ⟨some 36, _, _, _, _, _⟩) (i := 19) rfl (by kernel_rfl) (by kernel_rfl) (by kernel_rfl) (fun _ _ _ _ h => h) rfl 27 (.tmp 5) rfl 16 arr16' _ _ rfl (bv b) (by simp [Hb.out]) (fun w h => h.2.2.1) hH ?_
    simp only [Act.put, List.setIfInBounds_toArray, List.set_cons_zero, List.set_cons_succ, Nat.zero_add, decide_true, beq_self_eq_true]
    refine takeH_eqlB (o := ⟨some 37, _, _, _, _, _⟩) (i := 20) rfl (by kernel_rfl) (by kernel_rfl) (by kernel_rfl) (fun _ _ _ _ h => h) rfl 27 (.tmp 35) (.tmp 36) 27 rfl 16 arrB16 (a) (b) rfl rfl Ha.out Hb.out hH ?_
    simp only [Act.put, List.setIfInBounds_toArray, List.set_cons_zero, List.set_cons_succ, Nat.zero_add, decide_true, beq_self_eq_true]
    refine takeH_eqBool (o := ⟨some 38, _, _, _, _, _⟩) (i := 21) rfl (by kernel_rfl) (by kernel_rfl) (by kernel_rfl) (fun _ _ _ _ h => h) rfl 4 4 (.tmp 34) (.tmp 37) rfl Try.underlying4 (decide (a = b)) (decide (a = b)) rfl rfl hH ?_
    simp only [Act.put, List.setIfInBounds_toArray, List.set_cons_zero, List.set_cons_succ, Nat.zero_add, decide_true, beq_self_eq_true]
    refine takeH_pick (o := ⟨some 39, _, _, _, _, _⟩) (i := 22) rfl (by kernel_rfl) (by kernel_rfl) (by kernel_rfl) (fun _ _ _ _ h => h) rfl (.tmp 31) (.tmp 38) (.const (.bool false)) rfl true rfl _ rfl hH ?_
    simp only [Act.put, List.setIfInBounds_toArray, List.set_cons_zero, List.set_cons_succ, Nat.zero_add, decide_true, beq_self_eq_true]
    refine takeH_assign (o := ⟨some 6, _, _, _, _, _⟩) (i := 23) rfl (by kernel_rfl) (by kernel_rfl) (by kernel_rfl) (fun _ _ _ _ h => h) rfl (.tmp 39) rfl _ rfl hH ?_
    simp only [Act.put, List.setIfInBounds_toArray, List.set_cons_zero, List.set_cons_succ, Nat.zero_add, decide_true, beq_self_eq_true]
    refine wpAnyH_done (by kernel_rfl) ?_ _
    go_wp2
    go_ret
    exact ⟨rfl, hS7.out.below⟩
end w_AesBack
end Go.Proofs.Ytmlaopohlmnegaa
