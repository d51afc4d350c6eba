/- The walk of DevReads. -/
import Derived.Test.YtkpefffephbhnaaDevP
import Derived.Test.YtkpefffephbhnaaRegB
import Derived.Test.YtkpefffephbhnaaRgx
import Derived.Test.YtkpefffephbhnaaSlC
set_option linter.unusedVariables false
set_option linter.unusedSimpArgs false
namespace Go.Proofs.Ytkpefffephbhnaa.w_DevReads
open Go.RowKit Go.Maps
open Go.Proofs.PlainDev

/-- What is written to other sectors. -/
def oW (l : List Nat) (a : Nat) : Nat → List (Nat × List Nat)
  | 0 => []
  | k + 1 => if l.getD k 0 % 16 = a then oW l a k else oW l a k ++ [(l.getD k 0 % 16, secL k 1)]
def stR (l : List Nat) (a : Nat) (s7 sX : List Nat) (k : Nat) : Dst := { new0 16 with lies := lset (new0 16).lies a s7, waits := (a, sX) :: oW l a k }
theorem stR_zero (l : List Nat) (a : Nat) (s7 sX : List Nat) : stR l a s7 sX 0 = { new0 16 with lies := flushL (new0 16).lies ([] ++ [(a, s7)]), waits := [] ++ [(a, sX)] } := by
  rw [flushL_app]; rfl
theorem stR_same {l : List Nat} {a k : Nat} (h : l.getD k 0 % 16 = a) (s7 sX : List Nat) : stR l a s7 sX (k + 1) = stR l a s7 sX k := by
  unfold stR oW; rw [if_pos h]; cases k <;> rfl
theorem stR_succ {l : List Nat} {a k : Nat} (h : ¬ l.getD k 0 % 16 = a) (s7 sX : List Nat) : stR l a s7 sX (k + 1) = { stR l a s7 sX k with waits := (stR l a s7 sX k).waits ++ [(l.getD k 0 % 16, secL k 1)] } := by
  have e : oW l a (k + 1) = oW l a k ++ [(l.getD k 0 % 16, secL k 1)] := if_neg h
  unfold stR
  rw [e]
  rfl
theorem stR_read (l : List Nat) (a : Nat) (s7 sX : List Nat) : ∀ k, readL (stR l a s7 sX k) a = sX
  | 0 => by
    rw [stR_zero]
    exact (readL_app { new0 16 with lies := flushL (new0 16).lies ([] ++ [(a, s7)]) } a sX a).trans (if_pos rfl)
  | k + 1 => by
    by_cases h : l.getD k 0 % 16 = a
    · rw [stR_same h]; exact stR_read l a s7 sX k
    · rw [stR_succ h, readL_app, if_neg (fun e => h e.symm)]; exact stR_read l a s7 sX k
theorem stR_lies (l : List Nat) (a : Nat) (s7 sX : List Nat) (k : Nat) : liesL (stR l a s7 sX k) a = s7 := by
  show (lset _ a s7 a).getD _ = s7
  unfold lset; rw [if_pos rfl]; rfl
theorem crash_torn (f : Nat → Option (List Nat)) (p : Nat × List Nat) (ws : List (Nat × List Nat)) : ∀ k, crashN f (p :: ws) 0 0 (k + 1) = lset f p.1 (p.2.take 256 ++ ((f p.1).getD (List.replicate 512 0)).drop 256)
  | 0 => rfl
  | k + 1 => by
    rw [← crash_torn f p ws k]
    show (match (p :: ws)[k + 1]? with | none => _ | some q => _) = _
    cases (p :: ws)[k + 1]? with
    | none => rfl
    | some q =>
      show (if ((k + 1 : Nat) : Int) = 0 then _ else _) = _
      rw [if_neg (by omega), if_neg (by simp)]
theorem stR_crash (l : List Nat) (a : Nat) (s7 sX : List Nat) (k : Nat) : readL (crashS (stR l a s7 sX k) 0 0) a = sX.take 256 ++ s7.drop 256 := by
  rw [readL_none _ rfl]
  show ((crashN (lset (new0 16).lies a s7) ((a, sX) :: oW l a k) 0 0 ((oW l a k).length + 1)) a).getD _ = _
  rw [crash_torn]
  unfold lset
  rw [if_pos rfl, if_pos rfl]
  rfl
theorem bv_part_take {l m : List Nat} {k : Nat} (h : l.take k = m) : (bv l).take k = bv m := by rw [← h]; simp [bv]
theorem bv_part_drop {l m : List Nat} {k : Nat} (h : l.drop k = m) : (bv l).drop k = bv m := by rw [← h]; simp [bv]
theorem sl_h (g n c k : Nat) (hk : k ≤ n) (hc : n ≤ c) (w : World) : (Instr.sliceAt 22 (.slice (some ⟨g, 0, none⟩) n c) none (some (.int .i64 (k : Int))) none).run Try.prog w = .ok (.slice (some ⟨g, 0, none⟩) k c) w := by
  have hu : Try.prog.underlying 22 = some (.slice (Try.prog.elem 22)) := by kernel_rfl
  have hz : (sizeOf (Try.prog.elem 22)).run Try.prog w = .ok 1 w := by kernel_rfl
  rw [run_sliceAt_slice (h := hu), run_slice_h (ht := hu) (h0 := by omega) (h2 := by omega), hz]
  simp [Result.andThen, sliced, Addr.add]
theorem sl_l (g n c k : Nat) (hk : k ≤ n) (hc : k < c) (w : World) : (Instr.sliceAt 22 (.slice (some ⟨g, 0, none⟩) n c) (some (.int .i64 (k : Int))) none none).run Try.prog w = .ok (.slice (some ⟨g, k, none⟩) (n - k) (c - k)) w := by
  have hu : Try.prog.underlying 22 = some (.slice (Try.prog.elem 22)) := by kernel_rfl
  have hz : (sizeOf (Try.prog.elem 22)).run Try.prog w = .ok 1 w := by kernel_rfl
  rw [run_sliceAt_slice (h := hu), run_slice_l (ht := hu) (h0 := by omega) (h1 := by omega), hz]
  simp only [Result.andThen, sliced, Int.toNat_natCast]
  rw [if_neg (by omega)]
  simp [Addr.add]
  omega
theorem sl_drew {w : World} {v : Value} {xs : List Value} (h : Sl w v xs) : Sl w.drew v xs := h
set_option maxRecDepth 100000 in
set_option maxHeartbeats 1000000 in
theorem core (A : Option Addr) (n c t x : Nat) (l : List Nat) (bl : Byt l) (hn : n = l.length) (hm : (n : Int) ≤ 140737488355328) (ht : (t : Int) ≤ 255) (hx0 : (x : Int) ≤ 255) (w : World) (hs : Sl w (.slice A n c) (bv l)) : Calls Try.prog 4 #[.slice A n c, .int .u8 (t : Int), .int .u8 (x : Int)] w fun e w' => e = .returned (.bool true) ∧ Below w.heap.size w w' := by
  have hal := Lib.hid (fun w => alive06 w)
  by_cases hbig : (60 : Int) < n
  · clear hs
    go_enter Try.func4, Try.ntmps4
    go_wp2_with fail
    refine (hal.out _).mono ?_
    rintro e w1 ⟨rfl, hB1⟩
    go_wp2
    go_ret
    exact ⟨rfl, hB1⟩
  have hnew := Lib.hid (fun w => new_x 16 w (by decide) (by decide))
  have hs7 := Lib.hid (fun w => sector_any 7 7 w (by decide) (by decide))
  have hsX := Lib.hid (fun w => sector_any x x w hx0 hx0)
  have h7 := Lib.hid (secL_sec (f := 7) (b := 7) (by decide) (by decide))
  have hX := Lib.hid (secL_sec (f := x) (b := x) (by omega) (by omega))
  replace hn := Lib.hid hn
  replace hs := Lib.hid hs
  have hbl := Lib.hid bl
  obtain ⟨a, ha, e16⟩ : ∃ a : Nat, Hid (a < 16) ∧ (t : Int) % 16 = (a : Int) := ⟨t % 16, Nat.mod_lt _ (by decide), by simp⟩
  generalize secL 7 7 = s7 at *
  generalize secL x x = sX at *
  go_enter Try.func4, Try.ntmps4
  go_wp2_with fail
  refine (hal.out w).mono ?_
  rintro e w0 ⟨rfl, B0⟩
  have hC := Lib.hid B0.size
  go_wp2_with fail
  refine (hnew.out w0).mono ?_
  rintro e w1 ⟨g, L1, rfl, H1, B1⟩
  have B1' := B0.trans (B1.mono B0.size)
  clear B0 B1
  generalize w0.heap.size = B at *
  go_wp2_with fail
  refine (hs7.out w1).mono ?_
  rintro e w2 ⟨k2, rfl, b2, g2, B2⟩
  have B2' := B1'.trans (B2.mono B1'.size)
  have hk2 := H1.fresh g2
  replace H1 := H1.keep B2
  have hw := Lib.hid (write_free H1 (free_new _) (by decide) a ha.out k2 _ s7 h7.out b2 hk2)
  clear B2 e16
  go_wp2_with fail
  refine hw.out.mono ?_
  rintro e w3 ⟨L3, rfl, H3, S3⟩
  have B3 := H1.go S3 B2' hC.out
  have hf := Lib.hid (flush_free H3 ⟨rfl, rfl⟩ (by decide))
  clear H1 B1' B2' b2 S3 hw hk2 g2
  go_wp2_with fail
  refine hf.out.mono ?_
  rintro e w4 ⟨L4, rfl, H4, S4⟩
  have B4 := H3.go S4 B3 hC.out
  clear H3 B3 hf S4
  go_wp2_with fail
  refine (hsX.out w4).mono ?_
  rintro e w5 ⟨k5, rfl, b5, g5, B5⟩
  have B5' := B4.trans (B5.mono B4.size)
  have hk5 := H4.fresh g5
  replace H4 := H4.keep B5
  have hw := Lib.hid (write_free H4 ⟨rfl, rfl⟩ (by decide) a ha.out k5 _ sX hX.out b5 hk5)
  clear B5 B4
  go_wp2_with fail
  refine hw.out.mono ?_
  rintro e w6 ⟨L6, rfl, H6, S6⟩
  have B6 := Lib.hid (H4.go S6 B5' hC.out)
  have H6' : Hid (Dx B w6 g L6 2 (stR l a s7 sX 0)) := by rw [stR_zero]; exact H6
  clear H4 H6 B5' b5 S6 hw hk5 g5
  go_wp2_with fail
  go_loopw [46] (fun i wr => ∃ (k : Nat) (L : List Nat), (k : Int) ≤ n ∧ i = .int .i64 (k : Int) ∧ Hid (Dx B wr g L (k + 2) (stR l a s7 sX k)) ∧ Hid (Below w.heap.size w wr)) (fun i _ => n - (intOf i).toNat)
  case atStart => exact ⟨0, L6, by omega, rfl, H6', B6⟩
  case round =>
    clear H6' B6
    obtain ⟨k, L, hk, rfl, H, hB⟩ := hrel
    by_cases hlt : (k : Int) < n
    · obtain ⟨y, hy⟩ : ∃ y, l[k]? = some y := ⟨_, List.getElem?_eq_getElem (by have := hn.out; omega)⟩
      obtain ⟨ga, oa, rfl, ca⟩ := (hs.out.keep hB.out).at_ (k := k) (u := .int .u8 (y : Int)) (by rw [bv_get, hy]; rfl)
      have hy8 : (y : Int) < 256 := by have := hbl.out y (List.mem_of_getElem? hy); omega
      have hgd : Hid (l.getD k 0 = y) := by show _ = _; rw [List.getD_eq_getElem?_getD, hy]; rfl
      clear hy
      by_cases hya : (y : Int) % 16 = (a : Int)
      · have hst := Lib.hid (stR_same (l := l) (a := a) (k := k) (by rw [hgd.out]; omega) s7 sX)
        have H2 : Hid (Dx B wr g L (k + 1 + 2) (stR l a s7 sX (k + 1))) := by rw [hst.out]; exact H.out.more (by omega)
        clear H hst
        go_wp2_with fail
        go_roundw
        case rel => exact ⟨k + 1, L, by omega, by go_num, H2, hB⟩
        case measure => simp [intOf]; omega
      · have hsec := Lib.hid (fun w => sector_any k 1 w (by omega) (by decide))
        have hst := Lib.hid (stR_succ (l := l) (a := a) (k := k) (by rw [hgd.out]; omega) s7 sX)
        have hss := Lib.hid (secL_sec (f := k) (b := 1) (by omega) (by decide))
        rw [hgd.out] at hst
        generalize secL k 1 = sk at *
        go_wp2_with fail
        refine (hsec.out wr).mono ?_
        rintro e w7 ⟨k7, rfl, b7, g7, B7⟩
        have B7' := hB.out.trans (B7.mono hB.out.size)
        have hk7 := H.out.fresh g7
        have H7 := H.out.keep B7
        have hw := Lib.hid (write_free H7 ⟨rfl, rfl⟩ (by omega) (y % 16) (show y % 16 < 16 from Nat.mod_lt _ (by decide)) k7 _ _ hss.out b7 hk7)
        rw [show ((y % 16 : Nat) : Int) = (y : Int) % 16 from by simp] at hw
        clear H hB B7 g7 ca
        go_wp2_with fail
        refine hw.out.mono ?_
        rintro e w8 ⟨L8, rfl, H8, S8⟩
        have B8 := Lib.hid (H7.go S8 B7' hC.out)
        rw [← hst.out] at H8
        replace H8 := Lib.hid H8
        clear H7 B7' hw S8 b7
        go_wp2_with fail
        go_roundw
        case rel => exact ⟨k + 1, L8, by omega, by go_num, H8, B8⟩
        case measure => simp [intOf]; omega
    · obtain rfl : k = n := by omega
      have hr := Lib.hid (read_x H.out (by omega) a (by have := ha.out; omega) ha.out rfl)
      rw [stR_read] at hr
      go_wp2_with fail
      refine hr.out.mono ?_
      rintro e w2 ⟨k2, rfl, b2, g2, B2⟩
      have H2 := H.out.keep B2
      have hk2 := H.out.fresh g2
      have B2' := hB.out.trans (B2.mono hB.out.size)
      have hp := Lib.hid (peek_x H2 a (by have := ha.out; omega) ha.out)
      rw [stR_lies] at hp
      clear hr H hB B2 g2
      go_wp2_with fail
      refine hp.out.mono fun e w3 hr => ?_
      obtain ⟨k3, c3, rfl, s3, B3⟩ := RetPk.out hr
      obtain ⟨v3, e3, own3, -⟩ := id hr
      injection e3 with e3
      injection e3 with e3
      have e3' := congrArg (fun x => x.toList[0]?) e3
      simp only [List.getElem?_cons_zero, Option.some.injEq] at e3'
      subst e3'
      have hl3 : k3 ∉ L := fun hm => by have h1 := (own3.lt k3 rfl).1; have h2 := (H2.lt k3 hm).2; omega
      have hc3 : 512 ≤ c3 := s3.cap.1
      have H3 := H2.keep B3
      have b3 := b2.keep B3
      have B3' := B2'.trans (B3.mono B2'.size)
      have hc := Lib.hid (crash_x H3 (by omega) 0 0 (by decide) (by decide) (by decide))
      clear hp hr H2 B2' B3 own3 b2 e3
      go_wp2_with fail
      refine hc.out.mono ?_
      rintro e w4 ⟨L4, rfl, H4, S4⟩
      have b4 := b3.keeps S4.keeps (by simpa using hk2)
      have s4 := s3.keeps S4.keeps (fun A n c e => by injection e with e1 e2 e3; injection e1 with e1; rw [← e1]; exact hl3)
      have B4 := H3.go S4 B3' hC.out
      have hr := Lib.hid (read_x H4 (by omega) a (by have := ha.out; omega) ha.out rfl)
      rw [stR_crash] at hr
      clear H3 B3' hc S4 b3 s3
      go_wp2_with fail
      refine hr.out.mono ?_
      rintro e w5 ⟨k5, rfl, b5, g5, B5⟩
      have B5' := B4.trans (B5.mono B4.size)
      have sX5 := Lib.hid ((sl512 (b4.keep B5) hX.out.1))
      have s75 := Lib.hid (s4.keep B5)
      have hT : (sX.take 256 ++ s7.drop 256).length = 512 := by rw [List.length_append, List.length_take, List.length_drop, hX.out.1, h7.out.1]; decide
      have sT5 := Lib.hid (sl512 b5 hT)
      have eT1 : (sX.take 256 ++ s7.drop 256).take 256 = sX.take 256 := List.take_left' (by rw [List.length_take, hX.out.1]; decide)
      have eT2 : (sX.take 256 ++ s7.drop 256).drop 256 = s7.drop 256 := List.drop_left' (by rw [List.length_take, hX.out.1]; decide)
      have bT1 := bv_part_take eT1
      have bT2 := bv_part_drop eT2
      have B5d := Lib.hid (below_drewN B5' 1)
      clear H4 B4 hr b4 s4 B5 b5 B5'
      have q1 := Lib.hid (sl_h k5 512 512 256 (by decide) (by decide))
      have q2 := Lib.hid (sl_h k2 512 512 256 (by decide) (by decide))
      have q3 := Lib.hid (sl_l k5 512 512 256 (by decide) (by decide))
      have q4 := Lib.hid (sl_l k3 512 c3 256 (by decide) (by omega))
      have sx2 : Hid (∀ W, Sl W (.slice (some ⟨k2, 0, none⟩) 512 512) (bv sX) → Sl W (.slice (some ⟨k2, 0, none⟩) 256 512) (bv (sX.take 256))) := fun W h => by
        have := h.head (i := 256) (by rw [bv_length]; exact hX.out.1) (by decide)
        rwa [show (bv sX).take 256 = bv (sX.take 256) from by simp [bv]] at this
      have sx5 : Hid (∀ W, Sl W (.slice (some ⟨k5, 0, none⟩) 512 512) (bv (sX.take 256 ++ s7.drop 256)) → Sl W (.slice (some ⟨k5, 0, none⟩) 256 512) (bv (sX.take 256)) ∧ Sl W (.slice (some ⟨k5, 256, none⟩) 256 256) (bv (s7.drop 256))) := fun W h => by
        have h1 := h.head (i := 256) (by rw [bv_length]; exact hT) (by decide)
        have h2 := Sl.tail (i := 256) (j := 256) h (by rw [bv_length]; exact hT)
        rw [bT1] at h1
        rw [bT2] at h2
        exact ⟨h1, h2⟩
      have sx3 : Hid (∀ W, Sl W (.slice (some ⟨k3, 0, none⟩) 512 c3) (bv s7) → Sl W (.slice (some ⟨k3, 256, none⟩) 256 (c3 - 256)) (bv (s7.drop 256))) := fun W h => by
        have h2 := Sl.tail (i := 256) (j := 256) h (by rw [bv_length]; exact h7.out.1)
        rwa [show (bv s7).drop 256 = bv (s7.drop 256) from by simp [bv]] at h2
      have y1 := Lib.hid (fun x hx => hX.out.2 x (List.mem_of_mem_take (i := 256) hx))
      have y2 := Lib.hid (fun x hx => h7.out.2 x (List.mem_of_mem_drop (i := 256) hx))
      generalize sX.take 256 ++ s7.drop 256 = T at *
      generalize sX.take 256 = X1 at *
      generalize s7.drop 256 = X2 at *
      clear eT1 eT2 bT1 bT2 hT
      go_upto_region 22 with fail
      refine wp_region_held_drew (S := fun w' => Below w5.drew.heap.size w5.drew w') (by kernel_rfl) (Below.refl _ _) (fun hH => ?_)
      refine takeH_move (o := ⟨some 85, _, _, _, _, _⟩) (i := 0) rfl (by kernel_rfl) (by kernel_rfl) (by kernel_rfl) (fun _ _ _ _ h => h) rfl (.tmp 13) rfl (.int .i64 0) rfl hH ?_
      simp only [Act.put, List.setIfInBounds_toArray, List.set_cons_zero, List.set_cons_succ, Nat.zero_add, decide_true, beq_self_eq_true]
      refine takeH_S (o := ⟨some 86, _, _, _, _, _⟩) (i := 1) rfl (by kernel_rfl) (by kernel_rfl) (by kernel_rfl) (fun _ _ _ _ h => h) rfl (.bool true) (fun w _ => by go_simp) hH ?_
      simp only [Act.put, List.setIfInBounds_toArray, List.set_cons_zero, List.set_cons_succ, Nat.zero_add, decide_true, beq_self_eq_true]
      refine takeH_move (o := ⟨some 87, _, _, _, _, _⟩) (i := 2) rfl (by kernel_rfl) (by kernel_rfl) (by kernel_rfl) (fun _ _ _ _ h => h) rfl (.tmp 86) rfl (.bool true) rfl hH ?_
      simp only [Act.put, List.setIfInBounds_toArray, List.set_cons_zero, List.set_cons_succ, Nat.zero_add, decide_true, beq_self_eq_true]
      refine takeH_move (o := ⟨some 88, _, _, _, _, _⟩) (i := 3) rfl (by kernel_rfl) (by kernel_rfl) (by kernel_rfl) (fun _ _ _ _ h => h) rfl (.tmp 15) rfl (.int .i64 0) rfl hH ?_
      simp only [Act.put, List.setIfInBounds_toArray, List.set_cons_zero, List.set_cons_succ, Nat.zero_add, decide_true, beq_self_eq_true]
      refine takeH_S (o := ⟨some 89, _, _, _, _, _⟩) (i := 4) rfl (by kernel_rfl) (by kernel_rfl) (by kernel_rfl) (fun _ _ _ _ h => h) rfl (.bool true) (fun w _ => by go_simp) hH ?_
      simp only [Act.put, List.setIfInBounds_toArray, List.set_cons_zero, List.set_cons_succ, Nat.zero_add, decide_true, beq_self_eq_true]
      refine takeH_pick (o := ⟨some 90, _, _, _, _, _⟩) (i := 5) rfl (by kernel_rfl) (by kernel_rfl) (by kernel_rfl) (fun _ _ _ _ h => h) rfl (.tmp 87) (.tmp 89) (.const (.bool false)) rfl true rfl (.bool true) rfl hH ?_
      simp only [Act.put, List.setIfInBounds_toArray, List.set_cons_zero, List.set_cons_succ, Nat.zero_add, decide_true, beq_self_eq_true]
      refine takeH_move (o := ⟨some 91, _, _, _, _, _⟩) (i := 6) rfl (by kernel_rfl) (by kernel_rfl) (by kernel_rfl) (fun _ _ _ _ h => h) rfl (.tmp 90) rfl (.bool true) rfl hH ?_
      simp only [Act.put, List.setIfInBounds_toArray, List.set_cons_zero, List.set_cons_succ, Nat.zero_add, decide_true, beq_self_eq_true]
      refine takeH_move (o := ⟨some 92, _, _, _, _, _⟩) (i := 7) rfl (by kernel_rfl) (by kernel_rfl) (by kernel_rfl) (fun _ _ _ _ h => h) rfl (.tmp 17) rfl (.int .i64 0) rfl hH ?_
      simp only [Act.put, List.setIfInBounds_toArray, List.set_cons_zero, List.set_cons_succ, Nat.zero_add, decide_true, beq_self_eq_true]
      refine takeH_S (o := ⟨some 93, _, _, _, _, _⟩) (i := 8) rfl (by kernel_rfl) (by kernel_rfl) (by kernel_rfl) (fun _ _ _ _ h => h) rfl (.bool true) (fun w _ => by go_simp) hH ?_
      simp only [Act.put, List.setIfInBounds_toArray, List.set_cons_zero, List.set_cons_succ, Nat.zero_add, decide_true, beq_self_eq_true]
      refine takeH_pick (o := ⟨some 94, _, _, _, _, _⟩) (i := 9) rfl (by kernel_rfl) (by kernel_rfl) (by kernel_rfl) (fun _ _ _ _ h => h) rfl (.tmp 91) (.tmp 93) (.const (.bool false)) rfl true rfl (.bool true) rfl hH ?_
      simp only [Act.put, List.setIfInBounds_toArray, List.set_cons_zero, List.set_cons_succ, Nat.zero_add, decide_true, beq_self_eq_true]
      refine takeH_move (o := ⟨some 95, _, _, _, _, _⟩) (i := 10) rfl (by kernel_rfl) (by kernel_rfl) (by kernel_rfl) (fun _ _ _ _ h => h) rfl (.tmp 94) rfl (.bool true) rfl hH ?_
      simp only [Act.put, List.setIfInBounds_toArray, List.set_cons_zero, List.set_cons_succ, Nat.zero_add, decide_true, beq_self_eq_true]
      refine takeH_move (o := ⟨some 96, _, _, _, _, _⟩) (i := 11) rfl (by kernel_rfl) (by kernel_rfl) (by kernel_rfl) (fun _ _ _ _ h => h) rfl (.tmp 12) rfl (.slice (some ⟨k2, 0, none⟩) 512 512) rfl hH ?_
      simp only [Act.put, List.setIfInBounds_toArray, List.set_cons_zero, List.set_cons_succ, Nat.zero_add, decide_true, beq_self_eq_true]
      refine takeH_move (o := ⟨some 97, _, _, _, _, _⟩) (i := 12) rfl (by kernel_rfl) (by kernel_rfl) (by kernel_rfl) (fun _ _ _ _ h => h) rfl (.tmp 2) rfl (.int .u8 (x : Int)) rfl hH ?_
      simp only [Act.put, List.setIfInBounds_toArray, List.set_cons_zero, List.set_cons_succ, Nat.zero_add, decide_true, beq_self_eq_true]
      refine takeH_move (o := ⟨some 98, _, _, _, _, _⟩) (i := 13) rfl (by kernel_rfl) (by kernel_rfl) (by kernel_rfl) (fun _ _ _ _ h => h) rfl (.tmp 2) rfl (.int .u8 (x : Int)) rfl hH ?_
      simp only [Act.put, List.setIfInBounds_toArray, List.set_cons_zero, List.set_cons_succ, Nat.zero_add, decide_true, beq_self_eq_true]
      refine wpAnyH_ready (rs := [14]) (by kernel_rfl) (by simp) ?_
      refine AllReadyH.cons rfl (fun K1 hK1 => ?_) AllReadyH.nil
      rw [if_pos (by rfl)]
      go_wp2_with fail
      refine (hsX.out _).mono ?_
      rintro e w6 ⟨k6, rfl, bk6, gk6, hBa⟩
      have hH' := below_call hH hH.size hBa
      refine hK1.out _ _ hH' (fun hH => ?_)
      clear hK1 K1 hBa hH'
      try simp only [Act.put, List.getElem_toArray, List.getElem_cons_succ, List.getElem_cons_zero, List.setIfInBounds_toArray, List.set_cons_zero, List.set_cons_succ, Nat.zero_add]
      have hsm := Lib.hid (same_any _ _ _ _ w6 ((sl_drew sX5.out).keep hH) (sl512 bk6 hX.out.1) hX.out.2 hX.out.2)
      rw [decide_eq_true rfl] at hsm
      refine wpAnyH_ready (rs := [15]) (by kernel_rfl) (by simp) ?_
      refine AllReadyH.cons rfl (fun K1 hK1 => ?_) AllReadyH.nil
      rw [if_pos (by rfl)]
      go_wp2_with fail
      refine (hsm.out).mono ?_
      rintro e wz ⟨rfl, rfl⟩
      refine hK1.out _ _ hH (fun hH => ?_)
      clear hK1 K1
      try simp only [Act.put, List.getElem_toArray, List.getElem_cons_succ, List.getElem_cons_zero, List.setIfInBounds_toArray, List.set_cons_zero, List.set_cons_succ, Nat.zero_add]
      clear hsm
      refine takeH_pick (o := ⟨some 101, _, _, _, _, _⟩) (i := 16) rfl (by kernel_rfl) (by kernel_rfl) (by kernel_rfl) (fun _ _ _ _ h => h) rfl (.tmp 95) (.tmp 100) (.const (.bool false)) rfl true rfl (.bool true) rfl hH ?_
      simp only [Act.put, List.setIfInBounds_toArray, List.set_cons_zero, List.set_cons_succ, Nat.zero_add, decide_true, beq_self_eq_true]
      refine takeH_move (o := ⟨some 102, _, _, _, _, _⟩) (i := 17) rfl (by kernel_rfl) (by kernel_rfl) (by kernel_rfl) (fun _ _ _ _ h => h) rfl (.tmp 101) rfl (.bool true) rfl hH ?_
      simp only [Act.put, List.setIfInBounds_toArray, List.set_cons_zero, List.set_cons_succ, Nat.zero_add, decide_true, beq_self_eq_true]
      refine takeH_move (o := ⟨some 103, _, _, _, _, _⟩) (i := 18) rfl (by kernel_rfl) (by kernel_rfl) (by kernel_rfl) (fun _ _ _ _ h => h) rfl (.tmp 14) rfl (.slice (some ⟨k3, 0, none⟩) 512 c3) rfl hH ?_
      simp only [Act.put, List.setIfInBounds_toArray, List.set_cons_zero, List.set_cons_succ, Nat.zero_add, decide_true, beq_self_eq_true]
      refine wpAnyH_ready (rs := [19]) (by kernel_rfl) (by simp) ?_
      refine AllReadyH.cons rfl (fun K1 hK1 => ?_) AllReadyH.nil
      rw [if_pos (by rfl)]
      go_wp2_with fail
      refine (hs7.out _).mono ?_
      rintro e w7 ⟨k7, rfl, bk7, gk7, hBa⟩
      have hH' := below_call hH hH.size hBa
      refine hK1.out _ _ hH' (fun hH => ?_)
      clear hK1 K1 hBa hH'
      try simp only [Act.put, List.getElem_toArray, List.getElem_cons_succ, List.getElem_cons_zero, List.setIfInBounds_toArray, List.set_cons_zero, List.set_cons_succ, Nat.zero_add]
      have hsm := Lib.hid (same_any _ _ _ _ w7 ((sl_drew s75.out).keep hH) (sl512 bk7 h7.out.1) h7.out.2 h7.out.2)
      rw [decide_eq_true rfl] at hsm
      refine wpAnyH_ready (rs := [20]) (by kernel_rfl) (by simp) ?_
      refine AllReadyH.cons rfl (fun K1 hK1 => ?_) AllReadyH.nil
      rw [if_pos (by rfl)]
      go_wp2_with fail
      refine (hsm.out).mono ?_
      rintro e wz ⟨rfl, rfl⟩
      refine hK1.out _ _ hH (fun hH => ?_)
      clear hK1 K1
      try simp only [Act.put, List.getElem_toArray, List.getElem_cons_succ, List.getElem_cons_zero, List.setIfInBounds_toArray, List.set_cons_zero, List.set_cons_succ, Nat.zero_add]
      clear hsm
      refine takeH_pick (o := ⟨some 106, _, _, _, _, _⟩) (i := 21) rfl (by kernel_rfl) (by kernel_rfl) (by kernel_rfl) (fun _ _ _ _ h => h) rfl (.tmp 102) (.tmp 105) (.const (.bool false)) rfl true rfl (.bool true) rfl hH ?_
      simp only [Act.put, List.setIfInBounds_toArray, List.set_cons_zero, List.set_cons_succ, Nat.zero_add, decide_true, beq_self_eq_true]
      refine takeH_move (o := ⟨some 107, _, _, _, _, _⟩) (i := 22) rfl (by kernel_rfl) (by kernel_rfl) (by kernel_rfl) (fun _ _ _ _ h => h) rfl (.tmp 106) rfl (.bool true) rfl hH ?_
      simp only [Act.put, List.setIfInBounds_toArray, List.set_cons_zero, List.set_cons_succ, Nat.zero_add, decide_true, beq_self_eq_true]
      refine takeH_move (o := ⟨some 108, _, _, _, _, _⟩) (i := 23) rfl (by kernel_rfl) (by kernel_rfl) (by kernel_rfl) (fun _ _ _ _ h => h) rfl (.tmp 16) rfl (.slice (some ⟨k5, 0, none⟩) 512 512) rfl hH ?_
      simp only [Act.put, List.setIfInBounds_toArray, List.set_cons_zero, List.set_cons_succ, Nat.zero_add, decide_true, beq_self_eq_true]
      refine takeH_S (o := ⟨some 109, _, _, _, _, _⟩) (i := 24) rfl (by kernel_rfl) (by kernel_rfl) (by kernel_rfl) (fun _ _ _ _ h => h) rfl (.slice (some ⟨k5, 0, none⟩) 256 512) (fun w _ => by have q := q1.out w; go_simp) hH ?_
      simp only [Act.put, List.setIfInBounds_toArray, List.set_cons_zero, List.set_cons_succ, Nat.zero_add, decide_true, beq_self_eq_true]
      refine takeH_move (o := ⟨some 110, _, _, _, _, _⟩) (i := 25) rfl (by kernel_rfl) (by kernel_rfl) (by kernel_rfl) (fun _ _ _ _ h => h) rfl (.tmp 12) rfl (.slice (some ⟨k2, 0, none⟩) 512 512) rfl hH ?_
      simp only [Act.put, List.setIfInBounds_toArray, List.set_cons_zero, List.set_cons_succ, Nat.zero_add, decide_true, beq_self_eq_true]
      refine takeH_S (o := ⟨some 111, _, _, _, _, _⟩) (i := 26) rfl (by kernel_rfl) (by kernel_rfl) (by kernel_rfl) (fun _ _ _ _ h => h) rfl (.slice (some ⟨k2, 0, none⟩) 256 512) (fun w _ => by have q := q2.out w; go_simp) hH ?_
      simp only [Act.put, List.setIfInBounds_toArray, List.set_cons_zero, List.set_cons_succ, Nat.zero_add, decide_true, beq_self_eq_true]
      have hsm := Lib.hid (same_any _ _ _ _ w7 (sx5.out _ ((sl_drew sT5.out).keep hH)).1 (sx2.out _ ((sl_drew sX5.out).keep hH)) y1.out y1.out)
      rw [decide_eq_true rfl] at hsm
      refine wpAnyH_ready (rs := [27]) (by kernel_rfl) (by simp) ?_
      refine AllReadyH.cons rfl (fun K1 hK1 => ?_) AllReadyH.nil
      rw [if_pos (by rfl)]
      go_wp2_with fail
      refine (hsm.out).mono ?_
      rintro e wz ⟨rfl, rfl⟩
      refine hK1.out _ _ hH (fun hH => ?_)
      clear hK1 K1
      try simp only [Act.put, List.getElem_toArray, List.getElem_cons_succ, List.getElem_cons_zero, List.setIfInBounds_toArray, List.set_cons_zero, List.set_cons_succ, Nat.zero_add]
      clear hsm
      refine takeH_pick (o := ⟨some 113, _, _, _, _, _⟩) (i := 28) rfl (by kernel_rfl) (by kernel_rfl) (by kernel_rfl) (fun _ _ _ _ h => h) rfl (.tmp 107) (.tmp 112) (.const (.bool false)) rfl true rfl (.bool true) rfl hH ?_
      simp only [Act.put, List.setIfInBounds_toArray, List.set_cons_zero, List.set_cons_succ, Nat.zero_add, decide_true, beq_self_eq_true]
      refine takeH_move (o := ⟨some 114, _, _, _, _, _⟩) (i := 29) rfl (by kernel_rfl) (by kernel_rfl) (by kernel_rfl) (fun _ _ _ _ h => h) rfl (.tmp 113) rfl (.bool true) rfl hH ?_
      simp only [Act.put, List.setIfInBounds_toArray, List.set_cons_zero, List.set_cons_succ, Nat.zero_add, decide_true, beq_self_eq_true]
      refine takeH_move (o := ⟨some 115, _, _, _, _, _⟩) (i := 30) rfl (by kernel_rfl) (by kernel_rfl) (by kernel_rfl) (fun _ _ _ _ h => h) rfl (.tmp 16) rfl (.slice (some ⟨k5, 0, none⟩) 512 512) rfl hH ?_
      simp only [Act.put, List.setIfInBounds_toArray, List.set_cons_zero, List.set_cons_succ, Nat.zero_add, decide_true, beq_self_eq_true]
      refine takeH_S (o := ⟨some 116, _, _, _, _, _⟩) (i := 31) rfl (by kernel_rfl) (by kernel_rfl) (by kernel_rfl) (fun _ _ _ _ h => h) rfl (.slice (some ⟨k5, 256, none⟩) 256 256) (fun w _ => by have q := q3.out w; go_simp) hH ?_
      simp only [Act.put, List.setIfInBounds_toArray, List.set_cons_zero, List.set_cons_succ, Nat.zero_add, decide_true, beq_self_eq_true]
      refine takeH_move (o := ⟨some 117, _, _, _, _, _⟩) (i := 32) rfl (by kernel_rfl) (by kernel_rfl) (by kernel_rfl) (fun _ _ _ _ h => h) rfl (.tmp 14) rfl (.slice (some ⟨k3, 0, none⟩) 512 c3) rfl hH ?_
      simp only [Act.put, List.setIfInBounds_toArray, List.set_cons_zero, List.set_cons_succ, Nat.zero_add, decide_true, beq_self_eq_true]
      refine takeH_S (o := ⟨some 118, _, _, _, _, _⟩) (i := 33) rfl (by kernel_rfl) (by kernel_rfl) (by kernel_rfl) (fun _ _ _ _ h => h) rfl (.slice (some ⟨k3, 256, none⟩) 256 (c3 - 256)) (fun w _ => by have q := q4.out w; go_simp; omega) hH ?_
      simp only [Act.put, List.setIfInBounds_toArray, List.set_cons_zero, List.set_cons_succ, Nat.zero_add, decide_true, beq_self_eq_true]
      have hsm := Lib.hid (same_any _ _ _ _ w7 (sx5.out _ ((sl_drew sT5.out).keep hH)).2 (sx3.out _ ((sl_drew s75.out).keep hH)) y2.out y2.out)
      rw [decide_eq_true rfl] at hsm
      refine wpAnyH_ready (rs := [34]) (by kernel_rfl) (by simp) ?_
      refine AllReadyH.cons rfl (fun K1 hK1 => ?_) AllReadyH.nil
      rw [if_pos (by rfl)]
      go_wp2_with fail
      refine (hsm.out).mono ?_
      rintro e wz ⟨rfl, rfl⟩
      refine hK1.out _ _ hH (fun hH => ?_)
      clear hK1 K1
      try simp only [Act.put, List.getElem_toArray, List.getElem_cons_succ, List.getElem_cons_zero, List.setIfInBounds_toArray, List.set_cons_zero, List.set_cons_succ, Nat.zero_add]
      clear hsm
      refine takeH_pick (o := ⟨some 120, _, _, _, _, _⟩) (i := 35) rfl (by kernel_rfl) (by kernel_rfl) (by kernel_rfl) (fun _ _ _ _ h => h) rfl (.tmp 114) (.tmp 119) (.const (.bool false)) rfl true rfl (.bool true) rfl hH ?_
      simp only [Act.put, List.setIfInBounds_toArray, List.set_cons_zero, List.set_cons_succ, Nat.zero_add, decide_true, beq_self_eq_true]
      refine takeH_assign (o := ⟨some 6, _, _, _, _, _⟩) (i := 36) rfl (by kernel_rfl) (by kernel_rfl) (by kernel_rfl) (fun _ _ _ _ h => h) rfl (.tmp 120) rfl (.bool true) rfl hH ?_
      simp only [Act.put, List.setIfInBounds_toArray, List.set_cons_zero, List.set_cons_succ, Nat.zero_add, decide_true, beq_self_eq_true]
      refine wpAnyH_done (by kernel_rfl) ?_ _
      go_wp2
      go_ret
      exact ⟨rfl, B5d.out.trans (hH.mono B5d.out.size)⟩

theorem walk (v : Value) (l : List Nat) (b : Byt l) (m : l.length ≤ 140737488351232) (t : Int) (t0 : 0 ≤ t) (t1 : t ≤ 255) (x : Int) (x0 : 0 ≤ x) (x1 : x ≤ 255) (W : World) (s : Sl W v (bv l)) : Calls Try.prog 4 #[v, .int .u8 t, .int .u8 x] W fun e w' => e = .returned (.bool true) ∧ Below W.heap.size W w' := by
  obtain ⟨A, c, rfl, h1, h2, h3⟩ := id s
  obtain ⟨n, rfl⟩ := Int.eq_ofNat_of_zero_le t0
  obtain ⟨y, rfl⟩ := Int.eq_ofNat_of_zero_le x0
  exact core A _ c n y l b (bv_length l) (by rw [bv_length]; omega) t1 x1 W s
end Go.Proofs.Ytkpefffephbhnaa.w_DevReads
