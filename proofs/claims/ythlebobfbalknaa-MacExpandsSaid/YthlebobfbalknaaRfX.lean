/- Contract of banyanref03: Expand. -/
import Derived.Test.YthlebobfbalknaaExpT1
import Derived.Test.YthlebobfbalknaaSlC
set_option linter.unusedVariables false
set_option linter.unusedSimpArgs false
namespace Go.Proofs.Ythlebobfbalknaa
open Go.RowKit
open Go.Proofs.PlainAes
open Go.Proofs.PlainSha
open Go.Proofs.PlainMac

theorem strCells_bv {l : List Nat} (hl : Byt l) : Lib.strCells (bstr l) = bv l := by
  unfold Lib.strCells bstr bv
  simp only [List.map_map, Array.toList_map]
  refine List.map_congr_left (fun x hx => ?_)
  have := hl x hx
  simp
  omega
set_option maxRecDepth 100000 in
set_option maxHeartbeats 8000000 in
theorem rexpand_core (A : Option Addr) (n c m : Nat) (k l : List Nat) (w : World) (hs : Sl w (.slice A n c) (bv k)) (bk : Byt k) (hlk : (k.length : Int) ≤ 549755813888) (bl : Byt l) (hll : (l.length : Int) ≤ 1000) (hm : (m : Int) ≤ 8160) :
    Calls Try.prog 16 #[.slice A n c, .string (bstr l), .int .i64 (m : Int)] w (RetX k l m w) := by
  obtain ⟨i0, hi, hz0, hz1, hz2⟩ := info_parts (P := Try.prog) (e := 5) (z := .int .u8 0) (size := 1) (bytes := 1) (by kernel_rfl)
  have hmd := Lib.hid (fun w => made_any w)
  have hwi := Lib.hid (fun msg vH vK v2 w a b (h : Sl w (.slice A n c) (bv k)) h2 bm hl => rwith_any vH vK _ v2 k msg w a b h h2 bk bm hlk hl)
  have hsz := bstr_size l
  obtain ⟨q, hq⟩ : ∃ q, q = (m + 31) / 32 := ⟨_, rfl⟩
  have Hq := Lib.hid hq
  have hstep : Hid (∀ j, expB k l (j + 1) = macL k (expB k l j ++ l ++ [(j + 1) % 256])) := fun j => rfl
  have hB0 : Hid (expB k l 0 = [] ∧ expL k l 0 = []) := ⟨rfl, rfl⟩
  have hL1 : Hid (∀ j, expL k l (j + 1) = expL k l j ++ expB k l (j + 1)) := fun j => rfl
  have hBb : Hid (∀ j, Byt (expB k l j)) := fun j => expB_byt j
  have hBl : Hid (∀ j, (expB k l j).length ≤ 32 ∧ (expB k l (j + 1)).length = 32) := fun j => ⟨by rw [expB_len]; split <;> omega, macL_len _ _⟩
  have hLl : Hid (∀ j, (expL k l j).length = 32 * j) := fun j => expL_len k l j
  have hscv := Lib.hid (strCells_bv bl)
  replace hs := Lib.hid hs
  have hlb := Lib.hid bl
  have hR : Hid (∀ w e w', (∃ v, e = .returned (.tuple #[v, .int .i64 0]) ∧ Sl w' v (bv ((expL k l q).take m)) ∧ Below w.heap.size w w') → RetX k l m w e w') := fun w e w' h => by rw [hq] at h; exact h
  clear bk bl hlk hq
  generalize RetX k l m = RX at *
  go_enter Try.func16, Try.ntmps16
  go_wp2_with fail
  refine (hmd.out _).mono ?_
  rintro e w1 ⟨vH, vK, rfl, sH0, sK0, hB1⟩
  obtain ⟨AH, cH, hvH, -⟩ := id sH0
  obtain ⟨AK, cK, hvK, -⟩ := id sK0
  have hones : Hid (Ones [vH, vK]) := by
    show Ones _
    intro v hv
    simp only [List.mem_cons, List.not_mem_nil, or_false] at hv
    rcases hv with rfl | rfl
    · rw [hvH]; rfl
    · rw [hvK]; rfl
  clear hvH hvK hmd
  go_wp2_with (refine wpList_allocA rfl 58 rfl [.slice none 0 0, .slice none 0 0] (by kernel_rfl) ?_)
  intro w2 h2 hK2 hz2'
  have hb2 := hK2.below (B := w1.heap.size) (Nat.le_refl _) (by simp)
  have hgc := hB1.size
  go_wp2_with (refine wpList_storeW rfl 58 (.tmp 8) (.tmp 19) rfl 2 arrC w1.heap.size rfl [vH, vK] rfl 58 _ h2 rfl rfl hones.out ?_)
  intro w3 h3 hK3
  have hb3 := hb2.trans (hK3.below hb2.size (by simp))
  have sH3 := Lib.hid (sH0.keep hb3)
  have sK3 := Lib.hid (sK0.keep hb3)
  have hB3 := below_call hB1 hB1.size hb3
  have hg3 := h3.lt
  clear hK2 hz2' h2 hb2 hK3 hb3 sH0 sK0 hB1 hones
  generalize w1.heap.size = gc at *
  go_wp2
  go_loopg [9, 10, 11] q (fun gk out last i wr => ∃ j, Hid (gk + j = q) ∧ i = .int .i64 ((j : Int) + 1) ∧ wr.ownsRow w3.heap.size 5 1 out (32 * j) (bv (expL k l j)) ∧ Sl wr last (bv (expB k l j)) ∧ (∀ a n c, last = .slice (some a) n c → out.ownBlock ≠ some a.block) ∧ Below w3.heap.size w3 wr)
  case atStart => exact ⟨0, rfl, rfl, by rw [hB0.out.2]; exact World.ownsRow_nil _ _ _ _, by rw [hB0.out.1]; exact Sl.nil_ _, by intro a n c e; simp [Value.ownBlock], Below.refl _ _⟩
  case round =>
    obtain ⟨j, hgk, rfl, own, hsl, hne, hB⟩ := hrel
    obtain ⟨Ao, co, rfl, hco, hcm, hao⟩ := own_shape own
    obtain ⟨Al, cl, rfl, -⟩ := id hsl
    obtain ⟨nl, hnl⟩ : ∃ nl, Hid (nl = (expB k l j).length) := ⟨_, rfl⟩
    rw [bv_length, ← hnl.out] at hsl hne ⊢
    replace own := Lib.hid own
    replace hsl := Lib.hid hsl
    replace hne := Lib.hid hne
    replace hao := Lib.hid hao
    by_cases hj : j < q
    · have ht : (32 * (j : Int)) < (m : Int) := by have := Hq.out; omega
      have hjI : (j : Int) ≤ 255 := by omega
      have hBW := below_call hB3 hB3.size hB
      have hcc := h3.below hB hg3
      have sH := Lib.hid (sH3.out.keep hB)
      have sK := Lib.hid (sK3.out.keep hB)
      have slk := Lib.hid (hs.out.keep hBW)
      have hb32 := (hBl.out j).1
      have hXl := Lib.hid (show (bv (expB k l (j + 1))).length = 32 by rw [bv_length]; exact (hBl.out j).2)
      have hw1 := Lib.hid (fun v2 w a b h h2 => hwi.out (expB k l j ++ l ++ [(j + 1) % 256]) vH vK v2 w a b h h2 (by
        intro x hx
        rcases List.mem_append.1 hx with hx | hx
        · exact (List.mem_append.1 hx).elim (hBb.out j x) (hlb.out x)
        · simp only [List.mem_cons, List.not_mem_nil, or_false] at hx; omega) (by simp; omega))
      rw [← hstep.out] at hw1
      have qb := Lib.hid (show IntKind.u8.wrap ((j : Int) + 1) = ((j : Int) + 1) % 256 from IntKind.wrap_u8 _)
      go_upto_region 8 with fail
      go_cut [12] (fun s12 wx => ∃ g8 : Nat, s12 = .pointer (some ⟨g8, 0, none⟩) ∧ Blk wx g8 25 (bv (expB k l (j + 1))) ∧ Below wr.heap.size wr wx)
      case first =>
        refine wp_region_held_drew (S := fun w' => Below wr.heap.size wr w') (by kernel_rfl) ((Below.refl _ _).drew) (fun hH => ?_)
        refine takeH_load (o := ⟨some 26, _, _, _, _, _⟩) (i := 0) rfl (by kernel_rfl) (by kernel_rfl) (by kernel_rfl) (fun _ _ _ _ h => h) rfl 58 (.tmp 8) rfl 2 arrC gc 0 rfl [vH, vK] rfl (fun w h => hSS (hcc.keep h) rfl) hH ?_
        simp only [Act.put, List.setIfInBounds_toArray, List.set_cons_zero, List.set_cons_succ, Nat.zero_add, decide_true, beq_self_eq_true]
        refine takeH_move (o := ⟨some 27, _, _, _, _, _⟩) (i := 1) rfl (by kernel_rfl) (by kernel_rfl) (by kernel_rfl) (fun _ _ _ _ h => h) rfl (.tmp 0) rfl (.slice A n c) rfl hH ?_
        simp only [Act.put, List.setIfInBounds_toArray, List.set_cons_zero, List.set_cons_succ, Nat.zero_add, decide_true, beq_self_eq_true]
        refine takeH_move (o := ⟨some 29, _, _, _, _, _⟩) (i := 3) rfl (by kernel_rfl) (by kernel_rfl) (by kernel_rfl) (fun _ _ _ _ h => h) rfl (.tmp 10) rfl (.slice Al nl cl) rfl hH ?_
        simp only [Act.put, List.setIfInBounds_toArray, List.set_cons_zero, List.set_cons_succ, Nat.zero_add, decide_true, beq_self_eq_true]
        refine takeH_move (o := ⟨some 31, _, _, _, _, _⟩) (i := 5) rfl (by kernel_rfl) (by kernel_rfl) (by kernel_rfl) (fun _ _ _ _ h => h) rfl (.tmp 1) rfl (.string (bstr l)) rfl hH ?_
        simp only [Act.put, List.setIfInBounds_toArray, List.set_cons_zero, List.set_cons_succ, Nat.zero_add, decide_true, beq_self_eq_true]
        refine takeH_move (o := ⟨some 33, _, _, _, _, _⟩) (i := 7) rfl (by kernel_rfl) (by kernel_rfl) (by kernel_rfl) (fun _ _ _ _ h => h) rfl (.tmp 11) rfl (.int .i64 ((j : Int) + 1)) rfl hH ?_
        simp only [Act.put, List.setIfInBounds_toArray, List.set_cons_zero, List.set_cons_succ, Nat.zero_add, decide_true, beq_self_eq_true]
        refine takeH_S (o := ⟨some 34, _, _, _, _, _⟩) (i := 8) rfl (by kernel_rfl) (by kernel_rfl) (by kernel_rfl) (fun _ _ _ _ h => h) rfl (.int .u8 (((j : Int) + 1) % 256)) (fun w _ => by go_simp; first | exact qb.out | rfl | simp [qb.out]) hH ?_
        simp only [Act.put, List.setIfInBounds_toArray, List.set_cons_zero, List.set_cons_succ, Nat.zero_add, decide_true, beq_self_eq_true]
        refine wpAnyH_ready (rs := [2, 9, 12]) (by kernel_rfl) (by simp) ?_
        refine AllReadyH.cons rfl (fun K1 hK1 => ?_) (AllReadyH.cons rfl (fun K1 hK1 => ?_) (AllReadyH.cons rfl (fun K1 hK1 => ?_) AllReadyH.nil))
        · go_simp
          have q0 : wr.heap.size = wr.heap.size := by rfl
          have q : wr.drew.heap.size = wr.heap.size := q0
          have own1 : (wr.alloc (.cells #[] 5)).drew.ownsRow wr.heap.size 5 1 (Value.slice (some ⟨wr.heap.size, 0, none⟩) 0 0) 0 [] := by rw [← q0]; exact World.ownsRow_made wr #[] 0 hH.size (Nat.zero_le _) rfl
          refine hK1.out _ _ (hH.alloc hH.size _) (fun hH => ?_)
          clear hK1 K1 q q0
          refine wpAnyH_ready (rs := [4, 9, 12]) (by kernel_rfl) (by simp) ?_
          refine AllReadyH.cons rfl (fun K1 hK1 => ?_) (AllReadyH.cons rfl (fun K1 hK1 => ?_) (AllReadyH.cons rfl (fun K1 hK1 => ?_) AllReadyH.nil))
          · rw [if_pos (by rfl)]
            obtain ⟨v2, w3, hr, own4, gr5, mv6⟩ := run_append_sl2 (P := Try.prog) (wr.alloc (.cells #[] 5)).drew wr.heap.size 22 22 5 i0 (.int .u8 0) 1 Try.underlying22 hi hz0 hz1 hz2 rfl (Value.slice (some ⟨wr.heap.size, 0, none⟩) 0 0) 0 [] own1 _ (bv (expB k l j)) (hsl.out.keep hH) (bv_oneCell _) (by rw [bv_length]; simp [maxLen]; omega) (by rw [bv_length]; omega) hH.size
            refine Lib.wp_append_run _ (.tmp 28) (.tmp 29) 22 22 rfl _ _ rfl rfl v2 w3 hr ?_
            simp only [Act.put, List.setIfInBounds_toArray, List.set_cons_zero, List.set_cons_succ, Nat.zero_add, decide_true, beq_self_eq_true]
            have hH2 := own_below hH gr5 own1 hH.size
            rw [Nat.zero_add, List.nil_append, bv_length] at own4
            refine hK1.out _ _ hH2 (fun hH => ?_)
            clear hK1 K1 hr gr5 mv6 hH2
            refine wpAnyH_ready (rs := [6, 9, 12]) (by kernel_rfl) (by simp) ?_
            refine AllReadyH.cons rfl (fun K1 hK1 => ?_) (AllReadyH.cons rfl (fun K1 hK1 => ?_) (AllReadyH.cons rfl (fun K1 hK1 => ?_) AllReadyH.nil))
            · rw [if_pos (by rfl)]
              obtain ⟨v7, w8, hr, own9, gr10, mv11⟩ := run_append_str2 (P := Try.prog) w3 wr.heap.size 22 9 22 5 i0 Try.underlying22 Try.underlying9 hi hz0 hz1 hz2 v2 _ _ own4 (bstr l) (by rw [hsz]; simp [maxLen]; omega) (by rw [hsz]; omega) hH.size
              refine Lib.wp_append_run _ (.tmp 30) (.tmp 31) 22 9 rfl _ _ rfl rfl v7 w8 hr ?_
              simp only [Act.put, List.setIfInBounds_toArray, List.set_cons_zero, List.set_cons_succ, Nat.zero_add, decide_true, beq_self_eq_true]
              have hH2 := own_below hH gr10 own4 hH.size
              rw [hscv.out, hsz, ← bv_app] at own9
              have own9 : w8.ownsRow wr.heap.size 5 1 v7 (expB k l j ++ l).length (bv (expB k l j ++ l)) := by rw [List.length_append]; exact own9
              refine hK1.out _ _ hH2 (fun hH => ?_)
              clear hK1 K1 hr gr10 mv11 hH2
              refine wpAnyH_ready (rs := [9, 12]) (by kernel_rfl) (by simp) ?_
              refine AllReadyH.cons rfl (fun K1 hK1 => ?_) (AllReadyH.cons rfl (fun K1 hK1 => ?_) AllReadyH.nil)
              · go_simp
                have q0 : w8.heap.size = w8.heap.size := by rfl
                have q : w8.heap.size = w8.heap.size := q0
                have hb12 : Blk (w8.alloc (.cells #[.int .u8 (((j : Int) + 1) % 256)] 5)) w8.heap.size 5 [.int .u8 (((j : Int) + 1) % 256)] := by rw [← q0]; exact Blk.new_at (w := w8) rfl rfl
                have own13 : (w8.alloc (.cells #[.int .u8 (((j : Int) + 1) % 256)] 5)).ownsRow wr.heap.size 5 1 v7 ((expB k l j ++ l).length) (bv (expB k l j ++ l)) := own9.alloc (.cells #[.int .u8 (((j : Int) + 1) % 256)] 5)
                have ne14 : Hid ((v7).ownBlock ≠ some w8.heap.size) := fun e => by have h9 : w8.heap.size < w8.heap.size := (own9.lt _ e).2; omega
                refine hK1.out _ _ (hH.alloc hH.size _) (fun hH => ?_)
                clear hK1 K1 q q0
                refine wpAnyH_ready (rs := [10, 12]) (by kernel_rfl) (by simp) ?_
                refine AllReadyH.cons rfl (fun K1 hK1 => ?_) (AllReadyH.cons rfl (fun K1 hK1 => ?_) AllReadyH.nil)
                · rw [if_pos (by rfl)]
                  have sd : Sl (w8.alloc (.cells #[.int .u8 (((j : Int) + 1) % 256)] 5)) (.slice (some ⟨w8.heap.size, 0, none⟩) 1 1) (bv [(j + 1) % 256]) := Sl.of_blk (n := 1) (c := 1) hb12 (Nat.le_refl _) (by simp) (by unfold maxLen; omega)
                  obtain ⟨v15, w16, hr, own17, gr18, mv19⟩ := run_append_sl2 (P := Try.prog) (w8.alloc (.cells #[.int .u8 (((j : Int) + 1) % 256)] 5)) wr.heap.size 22 22 5 i0 (.int .u8 0) 1 Try.underlying22 hi hz0 hz1 hz2 rfl v7 _ _ own13 _ (bv [(j + 1) % 256]) sd (bv_oneCell _) (by simp [maxLen]; omega) (by simp; omega) hH.size
                  refine Lib.wp_append_run _ (.tmp 32) (.tmp 35) 22 22 rfl _ _ rfl rfl v15 w16 hr ?_
                  simp only [Act.put, List.setIfInBounds_toArray, List.set_cons_zero, List.set_cons_succ, Nat.zero_add, decide_true, beq_self_eq_true]
                  have hH2 := own_below hH gr18 own13 hH.size
                  rw [← bv_app] at own17
                  have sm20 := Lib.hid (Sl.of_own own17)
                  refine hK1.out _ _ hH2 (fun hH => ?_)
                  clear hK1 K1 hr gr18 mv19 hH2
                  refine wpAnyH_ready (rs := [11, 12]) (by kernel_rfl) (by simp) ?_
                  refine AllReadyH.cons rfl (fun K1 hK1 => ?_) (AllReadyH.cons rfl (fun K1 hK1 => ?_) AllReadyH.nil)
                  · rw [if_pos (by rfl)]
                    go_wp2_with fail
                    refine (hw1.out _ _ (sH.out.keep hH) (sK.out.keep hH) (slk.out.keep hH) sm20.out).mono ?_
                    rintro e w21 ⟨rfl, hBa⟩
                    refine hK1.out _ _ (below_call hH hH.size hBa) (fun hH => ?_)
                    clear hK1 K1 hBa
                    refine wpAnyH_ready (rs := [12]) (by kernel_rfl) (by simp) ?_
                    refine AllReadyH.cons rfl (fun K1 hK1 => ?_) AllReadyH.nil
                    · go_simp
                      have q0 : w21.heap.size = w21.heap.size := by rfl
                      have q : w21.heap.size = w21.heap.size := q0
                      have hb22 : Blk (w21.alloc (.cells (bv (zeros 32)).toArray 25)) w21.heap.size 25 (bv (zeros 32)) := by rw [← q0]; exact Blk.new_at (w := w21) rfl rfl
                      have hGE : Hid (wr.heap.size ≤ w21.heap.size) := by show _ ≤ _; rw [← q]; exact hH.size
                      refine hK1.out _ _ (hH.alloc hH.size _) (fun hH => ?_)
                      clear hK1 K1 q q0
                      refine wpAnyH_ready (rs := [13]) (by kernel_rfl) (by simp) ?_
                      refine AllReadyH.cons rfl (fun K1 hK1 => ?_) AllReadyH.nil
                      · rw [if_pos (by rfl)]
                        refine wp_storeA 25 (.tmp 12) (.tmp 37) rfl 32 arrH _ _ rfl (bv (expB k l (j + 1))) rfl 25 _ hb22 hXl.out (by simp) (ones_bv _) ?_
                        intro w23 hb24 hKb
                        rw [putL_all (by rw [hXl.out]; simp)] at hb24
                        refine hK1.out _ _ (hH.trans (hKb.below hH.size (by intro b hb; simp only [List.mem_singleton] at hb; subst hb; exact hGE.out))) (fun hH => ?_)
                        clear hK1 K1 hKb
                        refine wpAnyH_done (by kernel_rfl) ?_ _
                        go_wp2_with fail
                        go_meet
                        exact ⟨_, rfl, hb24, hH⟩
                  · go_simp
                    have q0 : w16.heap.size = w16.heap.size := by rfl
                    have q : w16.heap.size = w16.heap.size := q0
                    have hb25 : Blk (w16.alloc (.cells (bv (zeros 32)).toArray 25)) w16.heap.size 25 (bv (zeros 32)) := by rw [← q0]; exact Blk.new_at (w := w16) rfl rfl
                    have hGE : Hid (wr.heap.size ≤ w16.heap.size) := by show _ ≤ _; rw [← q]; exact hH.size
                    have sm26 : Hid (Sl (w16.alloc (.cells (bv (zeros 32)).toArray 25)) v15 (bv (expB k l j ++ l ++ [(j + 1) % 256]))) := sm20.out.keep ((Below.refl _ w16).alloc (Nat.le_refl _) (.cells (bv (zeros 32)).toArray 25))
                    refine hK1.out _ _ (hH.alloc hH.size _) (fun hH => ?_)
                    clear hK1 K1 q q0
                    refine wpAnyH_ready (rs := [11]) (by kernel_rfl) (by simp) ?_
                    refine AllReadyH.cons rfl (fun K1 hK1 => ?_) AllReadyH.nil
                    · rw [if_pos (by rfl)]
                      go_wp2_with fail
                      refine (hw1.out _ _ (sH.out.keep hH) (sK.out.keep hH) (slk.out.keep hH) sm26.out).mono ?_
                      rintro e w27 ⟨rfl, hBa⟩
                      have hb28 := hb25.keep hBa
                      refine hK1.out _ _ (below_call hH hH.size hBa) (fun hH => ?_)
                      clear hK1 K1 hBa
                      refine wpAnyH_ready (rs := [13]) (by kernel_rfl) (by simp) ?_
                      refine AllReadyH.cons rfl (fun K1 hK1 => ?_) AllReadyH.nil
                      · rw [if_pos (by rfl)]
                        refine wp_storeA 25 (.tmp 12) (.tmp 37) rfl 32 arrH _ _ rfl (bv (expB k l (j + 1))) rfl 25 _ hb28 hXl.out (by simp) (ones_bv _) ?_
                        intro w29 hb30 hKb
                        rw [putL_all (by rw [hXl.out]; simp)] at hb30
                        refine hK1.out _ _ (hH.trans (hKb.below hH.size (by intro b hb; simp only [List.mem_singleton] at hb; subst hb; exact hGE.out))) (fun hH => ?_)
                        clear hK1 K1 hKb
                        refine wpAnyH_done (by kernel_rfl) ?_ _
                        go_wp2_with fail
                        go_meet
                        exact ⟨_, rfl, hb30, hH⟩
                · go_simp
                  have q0 : (w8.alloc (.cells #[.int .u8 (((j : Int) + 1) % 256)] 5)).heap.size = (w8.heap.size + 1) := by go_simp
                  have q : (w8.alloc (.cells #[.int .u8 (((j : Int) + 1) % 256)] 5)).heap.size = (w8.heap.size + 1) := q0
                  have hb31 : Blk ((w8.alloc (.cells #[.int .u8 (((j : Int) + 1) % 256)] 5)).alloc (.cells (bv (zeros 32)).toArray 25)) (w8.heap.size + 1) 25 (bv (zeros 32)) := by rw [← q0]; exact Blk.new_at (w := (w8.alloc (.cells #[.int .u8 (((j : Int) + 1) % 256)] 5))) rfl rfl
                  have hGE : Hid (wr.heap.size ≤ (w8.heap.size + 1)) := by show _ ≤ _; rw [← q]; exact hH.size
                  have own32 : ((w8.alloc (.cells #[.int .u8 (((j : Int) + 1) % 256)] 5)).alloc (.cells (bv (zeros 32)).toArray 25)).ownsRow wr.heap.size 5 1 v7 ((expB k l j ++ l).length) (bv (expB k l j ++ l)) := own13.alloc (.cells (bv (zeros 32)).toArray 25)
                  have ne33 : Hid ((v7).ownBlock ≠ some (w8.heap.size + 1)) := fun e => by have h9 : (w8.heap.size + 1) < (w8.alloc (.cells #[.int .u8 (((j : Int) + 1) % 256)] 5)).heap.size := (own13.lt _ e).2; omega
                  have hb34 : Blk ((w8.alloc (.cells #[.int .u8 (((j : Int) + 1) % 256)] 5)).alloc (.cells (bv (zeros 32)).toArray 25)) (w8.heap.size) 5 [.int .u8 (((j : Int) + 1) % 256)] := hb12.alloc (.cells (bv (zeros 32)).toArray 25)
                  refine hK1.out _ _ (hH.alloc hH.size _) (fun hH => ?_)
                  clear hK1 K1 q q0
                  refine wpAnyH_ready (rs := [10]) (by kernel_rfl) (by simp) ?_
                  refine AllReadyH.cons rfl (fun K1 hK1 => ?_) AllReadyH.nil
                  · rw [if_pos (by rfl)]
                    have sd : Sl ((w8.alloc (.cells #[.int .u8 (((j : Int) + 1) % 256)] 5)).alloc (.cells (bv (zeros 32)).toArray 25)) (.slice (some ⟨w8.heap.size, 0, none⟩) 1 1) (bv [(j + 1) % 256]) := Sl.of_blk (n := 1) (c := 1) hb34 (Nat.le_refl _) (by simp) (by unfold maxLen; omega)
                    obtain ⟨v35, w36, hr, own37, gr38, mv39⟩ := run_append_sl2 (P := Try.prog) ((w8.alloc (.cells #[.int .u8 (((j : Int) + 1) % 256)] 5)).alloc (.cells (bv (zeros 32)).toArray 25)) wr.heap.size 22 22 5 i0 (.int .u8 0) 1 Try.underlying22 hi hz0 hz1 hz2 rfl v7 _ _ own32 _ (bv [(j + 1) % 256]) sd (bv_oneCell _) (by simp [maxLen]; omega) (by simp; omega) hH.size
                    refine Lib.wp_append_run _ (.tmp 32) (.tmp 35) 22 22 rfl _ _ rfl rfl v35 w36 hr ?_
                    simp only [Act.put, List.setIfInBounds_toArray, List.set_cons_zero, List.set_cons_succ, Nat.zero_add, decide_true, beq_self_eq_true]
                    have hH2 := own_below hH gr38 own32 hH.size
                    have hb40 := hb31.keeps (Keeps.grown gr38) (by simp only [Option.mem_toList]; exact ne33.out)
                    have ne41 : Hid ((v35).ownBlock ≠ some ((w8.heap.size + 1))) := mv39.ne hb31.lt ne33.out
                    rw [← bv_app] at own37
                    have sm42 := Lib.hid (Sl.of_own own37)
                    refine hK1.out _ _ hH2 (fun hH => ?_)
                    clear hK1 K1 hr gr38 mv39 hH2
                    refine wpAnyH_ready (rs := [11]) (by kernel_rfl) (by simp) ?_
                    refine AllReadyH.cons rfl (fun K1 hK1 => ?_) AllReadyH.nil
                    · rw [if_pos (by rfl)]
                      go_wp2_with fail
                      refine (hw1.out _ _ (sH.out.keep hH) (sK.out.keep hH) (slk.out.keep hH) sm42.out).mono ?_
                      rintro e w43 ⟨rfl, hBa⟩
                      have hb44 := hb40.keep hBa
                      refine hK1.out _ _ (below_call hH hH.size hBa) (fun hH => ?_)
                      clear hK1 K1 hBa
                      refine wpAnyH_ready (rs := [13]) (by kernel_rfl) (by simp) ?_
                      refine AllReadyH.cons rfl (fun K1 hK1 => ?_) AllReadyH.nil
                      · rw [if_pos (by rfl)]
                        refine wp_storeA 25 (.tmp 12) (.tmp 37) rfl 32 arrH _ _ rfl (bv (expB k l (j + 1))) rfl 25 _ hb44 hXl.out (by simp) (ones_bv _) ?_
                        intro w45 hb46 hKb
                        rw [putL_all (by rw [hXl.out]; simp)] at hb46
                        refine hK1.out _ _ (hH.trans (hKb.below hH.size (by intro b hb; simp only [List.mem_singleton] at hb; subst hb; exact hGE.out))) (fun hH => ?_)
                        clear hK1 K1 hKb
                        refine wpAnyH_done (by kernel_rfl) ?_ _
                        go_wp2_with fail
                        go_meet
                        exact ⟨_, rfl, hb46, hH⟩
              · go_simp
                have q0 : w8.heap.size = w8.heap.size := by rfl
                have q : w8.heap.size = w8.heap.size := q0
                have hb47 : Blk (w8.alloc (.cells (bv (zeros 32)).toArray 25)) w8.heap.size 25 (bv (zeros 32)) := by rw [← q0]; exact Blk.new_at (w := w8) rfl rfl
                have hGE : Hid (wr.heap.size ≤ w8.heap.size) := by show _ ≤ _; rw [← q]; exact hH.size
                have own48 : (w8.alloc (.cells (bv (zeros 32)).toArray 25)).ownsRow wr.heap.size 5 1 v7 ((expB k l j ++ l).length) (bv (expB k l j ++ l)) := own9.alloc (.cells (bv (zeros 32)).toArray 25)
                have ne49 : Hid ((v7).ownBlock ≠ some w8.heap.size) := fun e => by have h9 : w8.heap.size < w8.heap.size := (own9.lt _ e).2; omega
                refine hK1.out _ _ (hH.alloc hH.size _) (fun hH => ?_)
                clear hK1 K1 q q0
                refine wpAnyH_ready (rs := [9]) (by kernel_rfl) (by simp) ?_
                refine AllReadyH.cons rfl (fun K1 hK1 => ?_) AllReadyH.nil
                · go_simp
                  have q0 : (w8.alloc (.cells (bv (zeros 32)).toArray 25)).heap.size = (w8.heap.size + 1) := by go_simp
                  have q : (w8.alloc (.cells (bv (zeros 32)).toArray 25)).heap.size = (w8.heap.size + 1) := q0
                  have hb50 : Blk ((w8.alloc (.cells (bv (zeros 32)).toArray 25)).alloc (.cells #[.int .u8 (((j : Int) + 1) % 256)] 5)) (w8.heap.size + 1) 5 [.int .u8 (((j : Int) + 1) % 256)] := by rw [← q0]; exact Blk.new_at (w := (w8.alloc (.cells (bv (zeros 32)).toArray 25))) rfl rfl
                  have own51 : ((w8.alloc (.cells (bv (zeros 32)).toArray 25)).alloc (.cells #[.int .u8 (((j : Int) + 1) % 256)] 5)).ownsRow wr.heap.size 5 1 v7 ((expB k l j ++ l).length) (bv (expB k l j ++ l)) := own48.alloc (.cells #[.int .u8 (((j : Int) + 1) % 256)] 5)
                  have ne52 : Hid ((v7).ownBlock ≠ some (w8.heap.size + 1)) := fun e => by have h9 : (w8.heap.size + 1) < (w8.alloc (.cells (bv (zeros 32)).toArray 25)).heap.size := (own48.lt _ e).2; omega
                  have hb53 : Blk ((w8.alloc (.cells (bv (zeros 32)).toArray 25)).alloc (.cells #[.int .u8 (((j : Int) + 1) % 256)] 5)) (w8.heap.size) 25 (bv (zeros 32)) := hb47.alloc (.cells #[.int .u8 (((j : Int) + 1) % 256)] 5)
                  refine hK1.out _ _ (hH.alloc hH.size _) (fun hH => ?_)
                  clear hK1 K1 q q0
                  refine wpAnyH_ready (rs := [10]) (by kernel_rfl) (by simp) ?_
                  refine AllReadyH.cons rfl (fun K1 hK1 => ?_) AllReadyH.nil
                  · rw [if_pos (by rfl)]
                    have sd : Sl ((w8.alloc (.cells (bv (zeros 32)).toArray 25)).alloc (.cells #[.int .u8 (((j : Int) + 1) % 256)] 5)) (.slice (some ⟨(w8.heap.size + 1), 0, none⟩) 1 1) (bv [(j + 1) % 256]) := Sl.of_blk (n := 1) (c := 1) hb50 (Nat.le_refl _) (by simp) (by unfold maxLen; omega)
                    obtain ⟨v54, w55, hr, own56, gr57, mv58⟩ := run_append_sl2 (P := Try.prog) ((w8.alloc (.cells (bv (zeros 32)).toArray 25)).alloc (.cells #[.int .u8 (((j : Int) + 1) % 256)] 5)) wr.heap.size 22 22 5 i0 (.int .u8 0) 1 Try.underlying22 hi hz0 hz1 hz2 rfl v7 _ _ own51 _ (bv [(j + 1) % 256]) sd (bv_oneCell _) (by simp [maxLen]; omega) (by simp; omega) hH.size
                    refine Lib.wp_append_run _ (.tmp 32) (.tmp 35) 22 22 rfl _ _ rfl rfl v54 w55 hr ?_
                    simp only [Act.put, List.setIfInBounds_toArray, List.set_cons_zero, List.set_cons_succ, Nat.zero_add, decide_true, beq_self_eq_true]
                    have hH2 := own_below hH gr57 own51 hH.size
                    have hb59 := hb53.keeps (Keeps.grown gr57) (by simp only [Option.mem_toList]; exact ne49.out)
                    have ne60 : Hid ((v54).ownBlock ≠ some (w8.heap.size)) := mv58.ne hb53.lt ne49.out
                    rw [← bv_app] at own56
                    have sm61 := Lib.hid (Sl.of_own own56)
                    refine hK1.out _ _ hH2 (fun hH => ?_)
                    clear hK1 K1 hr gr57 mv58 hH2
                    refine wpAnyH_ready (rs := [11]) (by kernel_rfl) (by simp) ?_
                    refine AllReadyH.cons rfl (fun K1 hK1 => ?_) AllReadyH.nil
                    · rw [if_pos (by rfl)]
                      go_wp2_with fail
                      refine (hw1.out _ _ (sH.out.keep hH) (sK.out.keep hH) (slk.out.keep hH) sm61.out).mono ?_
                      rintro e w62 ⟨rfl, hBa⟩
                      have hb63 := hb59.keep hBa
                      refine hK1.out _ _ (below_call hH hH.size hBa) (fun hH => ?_)
                      clear hK1 K1 hBa
                      refine wpAnyH_ready (rs := [13]) (by kernel_rfl) (by simp) ?_
                      refine AllReadyH.cons rfl (fun K1 hK1 => ?_) AllReadyH.nil
                      · rw [if_pos (by rfl)]
                        refine wp_storeA 25 (.tmp 12) (.tmp 37) rfl 32 arrH _ _ rfl (bv (expB k l (j + 1))) rfl 25 _ hb63 hXl.out (by simp) (ones_bv _) ?_
                        intro w64 hb65 hKb
                        rw [putL_all (by rw [hXl.out]; simp)] at hb65
                        refine hK1.out _ _ (hH.trans (hKb.below hH.size (by intro b hb; simp only [List.mem_singleton] at hb; subst hb; exact hGE.out))) (fun hH => ?_)
                        clear hK1 K1 hKb
                        refine wpAnyH_done (by kernel_rfl) ?_ _
                        go_wp2_with fail
                        go_meet
                        exact ⟨_, rfl, hb65, hH⟩
            · go_simp
              have q0 : w3.heap.size = w3.heap.size := by rfl
              have q : w3.heap.size = w3.heap.size := q0
              have hb66 : Blk (w3.alloc (.cells #[.int .u8 (((j : Int) + 1) % 256)] 5)) w3.heap.size 5 [.int .u8 (((j : Int) + 1) % 256)] := by rw [← q0]; exact Blk.new_at (w := w3) rfl rfl
              have own67 : (w3.alloc (.cells #[.int .u8 (((j : Int) + 1) % 256)] 5)).ownsRow wr.heap.size 5 1 v2 ((expB k l j).length) (bv (expB k l j)) := own4.alloc (.cells #[.int .u8 (((j : Int) + 1) % 256)] 5)
              have ne68 : Hid ((v2).ownBlock ≠ some w3.heap.size) := fun e => by have h9 : w3.heap.size < w3.heap.size := (own4.lt _ e).2; omega
              refine hK1.out _ _ (hH.alloc hH.size _) (fun hH => ?_)
              clear hK1 K1 q q0
              refine wpAnyH_ready (rs := [6, 12]) (by kernel_rfl) (by simp) ?_
              refine AllReadyH.cons rfl (fun K1 hK1 => ?_) (AllReadyH.cons rfl (fun K1 hK1 => ?_) AllReadyH.nil)
              · rw [if_pos (by rfl)]
                obtain ⟨v69, w70, hr, own71, gr72, mv73⟩ := run_append_str2 (P := Try.prog) (w3.alloc (.cells #[.int .u8 (((j : Int) + 1) % 256)] 5)) wr.heap.size 22 9 22 5 i0 Try.underlying22 Try.underlying9 hi hz0 hz1 hz2 v2 _ _ own67 (bstr l) (by rw [hsz]; simp [maxLen]; omega) (by rw [hsz]; omega) hH.size
                refine Lib.wp_append_run _ (.tmp 30) (.tmp 31) 22 9 rfl _ _ rfl rfl v69 w70 hr ?_
                simp only [Act.put, List.setIfInBounds_toArray, List.set_cons_zero, List.set_cons_succ, Nat.zero_add, decide_true, beq_self_eq_true]
                have hH2 := own_below hH gr72 own67 hH.size
                have hb74 := hb66.keeps (Keeps.grown gr72) (by simp only [Option.mem_toList]; exact ne68.out)
                have ne75 : Hid ((v69).ownBlock ≠ some (w3.heap.size)) := mv73.ne hb66.lt ne68.out
                rw [hscv.out, hsz, ← bv_app] at own71
                have own71 : w70.ownsRow wr.heap.size 5 1 v69 (expB k l j ++ l).length (bv (expB k l j ++ l)) := by rw [List.length_append]; exact own71
                refine hK1.out _ _ hH2 (fun hH => ?_)
                clear hK1 K1 hr gr72 mv73 hH2
                refine wpAnyH_ready (rs := [10, 12]) (by kernel_rfl) (by simp) ?_
                refine AllReadyH.cons rfl (fun K1 hK1 => ?_) (AllReadyH.cons rfl (fun K1 hK1 => ?_) AllReadyH.nil)
                · rw [if_pos (by rfl)]
                  have sd : Sl w70 (.slice (some ⟨w3.heap.size, 0, none⟩) 1 1) (bv [(j + 1) % 256]) := Sl.of_blk (n := 1) (c := 1) hb74 (Nat.le_refl _) (by simp) (by unfold maxLen; omega)
                  obtain ⟨v76, w77, hr, own78, gr79, mv80⟩ := run_append_sl2 (P := Try.prog) w70 wr.heap.size 22 22 5 i0 (.int .u8 0) 1 Try.underlying22 hi hz0 hz1 hz2 rfl v69 _ _ own71 _ (bv [(j + 1) % 256]) sd (bv_oneCell _) (by simp [maxLen]; omega) (by simp; omega) hH.size
                  refine Lib.wp_append_run _ (.tmp 32) (.tmp 35) 22 22 rfl _ _ rfl rfl v76 w77 hr ?_
                  simp only [Act.put, List.setIfInBounds_toArray, List.set_cons_zero, List.set_cons_succ, Nat.zero_add, decide_true, beq_self_eq_true]
                  have hH2 := own_below hH gr79 own71 hH.size
                  rw [← bv_app] at own78
                  have sm81 := Lib.hid (Sl.of_own own78)
                  refine hK1.out _ _ hH2 (fun hH => ?_)
                  clear hK1 K1 hr gr79 mv80 hH2
                  refine wpAnyH_ready (rs := [11, 12]) (by kernel_rfl) (by simp) ?_
                  refine AllReadyH.cons rfl (fun K1 hK1 => ?_) (AllReadyH.cons rfl (fun K1 hK1 => ?_) AllReadyH.nil)
                  · rw [if_pos (by rfl)]
                    go_wp2_with fail
                    refine (hw1.out _ _ (sH.out.keep hH) (sK.out.keep hH) (slk.out.keep hH) sm81.out).mono ?_
                    rintro e w82 ⟨rfl, hBa⟩
                    refine hK1.out _ _ (below_call hH hH.size hBa) (fun hH => ?_)
                    clear hK1 K1 hBa
                    refine wpAnyH_ready (rs := [12]) (by kernel_rfl) (by simp) ?_
                    refine AllReadyH.cons rfl (fun K1 hK1 => ?_) AllReadyH.nil
                    · go_simp
                      have q0 : w82.heap.size = w82.heap.size := by rfl
                      have q : w82.heap.size = w82.heap.size := q0
                      have hb83 : Blk (w82.alloc (.cells (bv (zeros 32)).toArray 25)) w82.heap.size 25 (bv (zeros 32)) := by rw [← q0]; exact Blk.new_at (w := w82) rfl rfl
                      have hGE : Hid (wr.heap.size ≤ w82.heap.size) := by show _ ≤ _; rw [← q]; exact hH.size
                      refine hK1.out _ _ (hH.alloc hH.size _) (fun hH => ?_)
                      clear hK1 K1 q q0
                      refine wpAnyH_ready (rs := [13]) (by kernel_rfl) (by simp) ?_
                      refine AllReadyH.cons rfl (fun K1 hK1 => ?_) AllReadyH.nil
                      · rw [if_pos (by rfl)]
                        refine wp_storeA 25 (.tmp 12) (.tmp 37) rfl 32 arrH _ _ rfl (bv (expB k l (j + 1))) rfl 25 _ hb83 hXl.out (by simp) (ones_bv _) ?_
                        intro w84 hb85 hKb
                        rw [putL_all (by rw [hXl.out]; simp)] at hb85
                        refine hK1.out _ _ (hH.trans (hKb.below hH.size (by intro b hb; simp only [List.mem_singleton] at hb; subst hb; exact hGE.out))) (fun hH => ?_)
                        clear hK1 K1 hKb
                        refine wpAnyH_done (by kernel_rfl) ?_ _
                        go_wp2_with fail
                        go_meet
                        exact ⟨_, rfl, hb85, hH⟩
                  · go_simp
                    have q0 : w77.heap.size = w77.heap.size := by rfl
                    have q : w77.heap.size = w77.heap.size := q0
                    have hb86 : Blk (w77.alloc (.cells (bv (zeros 32)).toArray 25)) w77.heap.size 25 (bv (zeros 32)) := by rw [← q0]; exact Blk.new_at (w := w77) rfl rfl
                    have hGE : Hid (wr.heap.size ≤ w77.heap.size) := by show _ ≤ _; rw [← q]; exact hH.size
                    have sm87 : Hid (Sl (w77.alloc (.cells (bv (zeros 32)).toArray 25)) v76 (bv (expB k l j ++ l ++ [(j + 1) % 256]))) := sm81.out.keep ((Below.refl _ w77).alloc (Nat.le_refl _) (.cells (bv (zeros 32)).toArray 25))
                    refine hK1.out _ _ (hH.alloc hH.size _) (fun hH => ?_)
                    clear hK1 K1 q q0
                    refine wpAnyH_ready (rs := [11]) (by kernel_rfl) (by simp) ?_
                    refine AllReadyH.cons rfl (fun K1 hK1 => ?_) AllReadyH.nil
                    · rw [if_pos (by rfl)]
                      go_wp2_with fail
                      refine (hw1.out _ _ (sH.out.keep hH) (sK.out.keep hH) (slk.out.keep hH) sm87.out).mono ?_
                      rintro e w88 ⟨rfl, hBa⟩
                      have hb89 := hb86.keep hBa
                      refine hK1.out _ _ (below_call hH hH.size hBa) (fun hH => ?_)
                      clear hK1 K1 hBa
                      refine wpAnyH_ready (rs := [13]) (by kernel_rfl) (by simp) ?_
                      refine AllReadyH.cons rfl (fun K1 hK1 => ?_) AllReadyH.nil
                      · rw [if_pos (by rfl)]
                        refine wp_storeA 25 (.tmp 12) (.tmp 37) rfl 32 arrH _ _ rfl (bv (expB k l (j + 1))) rfl 25 _ hb89 hXl.out (by simp) (ones_bv _) ?_
                        intro w90 hb91 hKb
                        rw [putL_all (by rw [hXl.out]; simp)] at hb91
                        refine hK1.out _ _ (hH.trans (hKb.below hH.size (by intro b hb; simp only [List.mem_singleton] at hb; subst hb; exact hGE.out))) (fun hH => ?_)
                        clear hK1 K1 hKb
                        refine wpAnyH_done (by kernel_rfl) ?_ _
                        go_wp2_with fail
                        go_meet
                        exact ⟨_, rfl, hb91, hH⟩
                · go_simp
                  have q0 : w70.heap.size = w70.heap.size := by rfl
                  have q : w70.heap.size = w70.heap.size := q0
                  have hb92 : Blk (w70.alloc (.cells (bv (zeros 32)).toArray 25)) w70.heap.size 25 (bv (zeros 32)) := by rw [← q0]; exact Blk.new_at (w := w70) rfl rfl
                  have hGE : Hid (wr.heap.size ≤ w70.heap.size) := by show _ ≤ _; rw [← q]; exact hH.size
                  have own93 : (w70.alloc (.cells (bv (zeros 32)).toArray 25)).ownsRow wr.heap.size 5 1 v69 ((expB k l j ++ l).length) (bv (expB k l j ++ l)) := own71.alloc (.cells (bv (zeros 32)).toArray 25)
                  have ne94 : Hid ((v69).ownBlock ≠ some w70.heap.size) := fun e => by have h9 : w70.heap.size < w70.heap.size := (own71.lt _ e).2; omega
                  have hb95 : Blk (w70.alloc (.cells (bv (zeros 32)).toArray 25)) (w3.heap.size) 5 [.int .u8 (((j : Int) + 1) % 256)] := hb74.alloc (.cells (bv (zeros 32)).toArray 25)
                  refine hK1.out _ _ (hH.alloc hH.size _) (fun hH => ?_)
                  clear hK1 K1 q q0
                  refine wpAnyH_ready (rs := [10]) (by kernel_rfl) (by simp) ?_
                  refine AllReadyH.cons rfl (fun K1 hK1 => ?_) AllReadyH.nil
                  · rw [if_pos (by rfl)]
                    have sd : Sl (w70.alloc (.cells (bv (zeros 32)).toArray 25)) (.slice (some ⟨w3.heap.size, 0, none⟩) 1 1) (bv [(j + 1) % 256]) := Sl.of_blk (n := 1) (c := 1) hb95 (Nat.le_refl _) (by simp) (by unfold maxLen; omega)
                    obtain ⟨v96, w97, hr, own98, gr99, mv100⟩ := run_append_sl2 (P := Try.prog) (w70.alloc (.cells (bv (zeros 32)).toArray 25)) wr.heap.size 22 22 5 i0 (.int .u8 0) 1 Try.underlying22 hi hz0 hz1 hz2 rfl v69 _ _ own93 _ (bv [(j + 1) % 256]) sd (bv_oneCell _) (by simp [maxLen]; omega) (by simp; omega) hH.size
                    refine Lib.wp_append_run _ (.tmp 32) (.tmp 35) 22 22 rfl _ _ rfl rfl v96 w97 hr ?_
                    simp only [Act.put, List.setIfInBounds_toArray, List.set_cons_zero, List.set_cons_succ, Nat.zero_add, decide_true, beq_self_eq_true]
                    have hH2 := own_below hH gr99 own93 hH.size
                    have hb101 := hb92.keeps (Keeps.grown gr99) (by simp only [Option.mem_toList]; exact ne94.out)
                    have ne102 : Hid ((v96).ownBlock ≠ some (w70.heap.size)) := mv100.ne hb92.lt ne94.out
                    rw [← bv_app] at own98
                    have sm103 := Lib.hid (Sl.of_own own98)
                    refine hK1.out _ _ hH2 (fun hH => ?_)
                    clear hK1 K1 hr gr99 mv100 hH2
                    refine wpAnyH_ready (rs := [11]) (by kernel_rfl) (by simp) ?_
                    refine AllReadyH.cons rfl (fun K1 hK1 => ?_) AllReadyH.nil
                    · rw [if_pos (by rfl)]
                      go_wp2_with fail
                      refine (hw1.out _ _ (sH.out.keep hH) (sK.out.keep hH) (slk.out.keep hH) sm103.out).mono ?_
                      rintro e w104 ⟨rfl, hBa⟩
                      have hb105 := hb101.keep hBa
                      refine hK1.out _ _ (below_call hH hH.size hBa) (fun hH => ?_)
                      clear hK1 K1 hBa
                      refine wpAnyH_ready (rs := [13]) (by kernel_rfl) (by simp) ?_
                      refine AllReadyH.cons rfl (fun K1 hK1 => ?_) AllReadyH.nil
                      · rw [if_pos (by rfl)]
                        refine wp_storeA 25 (.tmp 12) (.tmp 37) rfl 32 arrH _ _ rfl (bv (expB k l (j + 1))) rfl 25 _ hb105 hXl.out (by simp) (ones_bv _) ?_
                        intro w106 hb107 hKb
                        rw [putL_all (by rw [hXl.out]; simp)] at hb107
                        refine hK1.out _ _ (hH.trans (hKb.below hH.size (by intro b hb; simp only [List.mem_singleton] at hb; subst hb; exact hGE.out))) (fun hH => ?_)
                        clear hK1 K1 hKb
                        refine wpAnyH_done (by kernel_rfl) ?_ _
                        go_wp2_with fail
                        go_meet
                        exact ⟨_, rfl, hb107, hH⟩
              · go_simp
                have q0 : (w3.alloc (.cells #[.int .u8 (((j : Int) + 1) % 256)] 5)).heap.size = (w3.heap.size + 1) := by go_simp
                have q : (w3.alloc (.cells #[.int .u8 (((j : Int) + 1) % 256)] 5)).heap.size = (w3.heap.size + 1) := q0
                have hb108 : Blk ((w3.alloc (.cells #[.int .u8 (((j : Int) + 1) % 256)] 5)).alloc (.cells (bv (zeros 32)).toArray 25)) (w3.heap.size + 1) 25 (bv (zeros 32)) := by rw [← q0]; exact Blk.new_at (w := (w3.alloc (.cells #[.int .u8 (((j : Int) + 1) % 256)] 5))) rfl rfl
                have hGE : Hid (wr.heap.size ≤ (w3.heap.size + 1)) := by show _ ≤ _; rw [← q]; exact hH.size
                have own109 : ((w3.alloc (.cells #[.int .u8 (((j : Int) + 1) % 256)] 5)).alloc (.cells (bv (zeros 32)).toArray 25)).ownsRow wr.heap.size 5 1 v2 ((expB k l j).length) (bv (expB k l j)) := own67.alloc (.cells (bv (zeros 32)).toArray 25)
                have ne110 : Hid ((v2).ownBlock ≠ some (w3.heap.size + 1)) := fun e => by have h9 : (w3.heap.size + 1) < (w3.alloc (.cells #[.int .u8 (((j : Int) + 1) % 256)] 5)).heap.size := (own67.lt _ e).2; omega
                have hb111 : Blk ((w3.alloc (.cells #[.int .u8 (((j : Int) + 1) % 256)] 5)).alloc (.cells (bv (zeros 32)).toArray 25)) (w3.heap.size) 5 [.int .u8 (((j : Int) + 1) % 256)] := hb66.alloc (.cells (bv (zeros 32)).toArray 25)
                refine hK1.out _ _ (hH.alloc hH.size _) (fun hH => ?_)
                clear hK1 K1 q q0
                refine wpAnyH_ready (rs := [6]) (by kernel_rfl) (by simp) ?_
                refine AllReadyH.cons rfl (fun K1 hK1 => ?_) AllReadyH.nil
                · rw [if_pos (by rfl)]
                  obtain ⟨v112, w113, hr, own114, gr115, mv116⟩ := run_append_str2 (P := Try.prog) ((w3.alloc (.cells #[.int .u8 (((j : Int) + 1) % 256)] 5)).alloc (.cells (bv (zeros 32)).toArray 25)) wr.heap.size 22 9 22 5 i0 Try.underlying22 Try.underlying9 hi hz0 hz1 hz2 v2 _ _ own109 (bstr l) (by rw [hsz]; simp [maxLen]; omega) (by rw [hsz]; omega) hH.size
                  refine Lib.wp_append_run _ (.tmp 30) (.tmp 31) 22 9 rfl _ _ rfl rfl v112 w113 hr ?_
                  simp only [Act.put, List.setIfInBounds_toArray, List.set_cons_zero, List.set_cons_succ, Nat.zero_add, decide_true, beq_self_eq_true]
                  have hH2 := own_below hH gr115 own109 hH.size
                  have hb117 := hb111.keeps (Keeps.grown gr115) (by simp only [Option.mem_toList]; exact ne68.out)
                  have ne118 : Hid ((v112).ownBlock ≠ some (w3.heap.size)) := mv116.ne hb111.lt ne68.out
                  have hb119 := hb108.keeps (Keeps.grown gr115) (by simp only [Option.mem_toList]; exact ne110.out)
                  have ne120 : Hid ((v112).ownBlock ≠ some ((w3.heap.size + 1))) := mv116.ne hb108.lt ne110.out
                  rw [hscv.out, hsz, ← bv_app] at own114
                  have own114 : w113.ownsRow wr.heap.size 5 1 v112 (expB k l j ++ l).length (bv (expB k l j ++ l)) := by rw [List.length_append]; exact own114
                  refine hK1.out _ _ hH2 (fun hH => ?_)
                  clear hK1 K1 hr gr115 mv116 hH2
                  refine wpAnyH_ready (rs := [10]) (by kernel_rfl) (by simp) ?_
                  refine AllReadyH.cons rfl (fun K1 hK1 => ?_) AllReadyH.nil
                  · rw [if_pos (by rfl)]
                    have sd : Sl w113 (.slice (some ⟨w3.heap.size, 0, none⟩) 1 1) (bv [(j + 1) % 256]) := Sl.of_blk (n := 1) (c := 1) hb117 (Nat.le_refl _) (by simp) (by unfold maxLen; omega)
                    obtain ⟨v121, w122, hr, own123, gr124, mv125⟩ := run_append_sl2 (P := Try.prog) w113 wr.heap.size 22 22 5 i0 (.int .u8 0) 1 Try.underlying22 hi hz0 hz1 hz2 rfl v112 _ _ own114 _ (bv [(j + 1) % 256]) sd (bv_oneCell _) (by simp [maxLen]; omega) (by simp; omega) hH.size
                    refine Lib.wp_append_run _ (.tmp 32) (.tmp 35) 22 22 rfl _ _ rfl rfl v121 w122 hr ?_
                    simp only [Act.put, List.setIfInBounds_toArray, List.set_cons_zero, List.set_cons_succ, Nat.zero_add, decide_true, beq_self_eq_true]
                    have hH2 := own_below hH gr124 own114 hH.size
                    have hb126 := hb119.keeps (Keeps.grown gr124) (by simp only [Option.mem_toList]; exact ne120.out)
                    have ne127 : Hid ((v121).ownBlock ≠ some ((w3.heap.size + 1))) := mv125.ne hb119.lt ne120.out
                    rw [← bv_app] at own123
                    have sm128 := Lib.hid (Sl.of_own own123)
                    refine hK1.out _ _ hH2 (fun hH => ?_)
                    clear hK1 K1 hr gr124 mv125 hH2
                    refine wpAnyH_ready (rs := [11]) (by kernel_rfl) (by simp) ?_
                    refine AllReadyH.cons rfl (fun K1 hK1 => ?_) AllReadyH.nil
                    · rw [if_pos (by rfl)]
                      go_wp2_with fail
                      refine (hw1.out _ _ (sH.out.keep hH) (sK.out.keep hH) (slk.out.keep hH) sm128.out).mono ?_
                      rintro e w129 ⟨rfl, hBa⟩
                      have hb130 := hb126.keep hBa
                      refine hK1.out _ _ (below_call hH hH.size hBa) (fun hH => ?_)
                      clear hK1 K1 hBa
                      refine wpAnyH_ready (rs := [13]) (by kernel_rfl) (by simp) ?_
                      refine AllReadyH.cons rfl (fun K1 hK1 => ?_) AllReadyH.nil
                      · rw [if_pos (by rfl)]
                        refine wp_storeA 25 (.tmp 12) (.tmp 37) rfl 32 arrH _ _ rfl (bv (expB k l (j + 1))) rfl 25 _ hb130 hXl.out (by simp) (ones_bv _) ?_
                        intro w131 hb132 hKb
                        rw [putL_all (by rw [hXl.out]; simp)] at hb132
                        refine hK1.out _ _ (hH.trans (hKb.below hH.size (by intro b hb; simp only [List.mem_singleton] at hb; subst hb; exact hGE.out))) (fun hH => ?_)
                        clear hK1 K1 hKb
                        refine wpAnyH_done (by kernel_rfl) ?_ _
                        go_wp2_with fail
                        go_meet
                        exact ⟨_, rfl, hb132, hH⟩
            · go_simp
              have q0 : w3.heap.size = w3.heap.size := by rfl
              have q : w3.heap.size = w3.heap.size := q0
              have hb133 : Blk (w3.alloc (.cells (bv (zeros 32)).toArray 25)) w3.heap.size 25 (bv (zeros 32)) := by rw [← q0]; exact Blk.new_at (w := w3) rfl rfl
              have hGE : Hid (wr.heap.size ≤ w3.heap.size) := by show _ ≤ _; rw [← q]; exact hH.size
              have own134 : (w3.alloc (.cells (bv (zeros 32)).toArray 25)).ownsRow wr.heap.size 5 1 v2 ((expB k l j).length) (bv (expB k l j)) := own4.alloc (.cells (bv (zeros 32)).toArray 25)
              have ne135 : Hid ((v2).ownBlock ≠ some w3.heap.size) := fun e => by have h9 : w3.heap.size < w3.heap.size := (own4.lt _ e).2; omega
              refine hK1.out _ _ (hH.alloc hH.size _) (fun hH => ?_)
              clear hK1 K1 q q0
              refine wpAnyH_ready (rs := [6, 9]) (by kernel_rfl) (by simp) ?_
              refine AllReadyH.cons rfl (fun K1 hK1 => ?_) (AllReadyH.cons rfl (fun K1 hK1 => ?_) AllReadyH.nil)
              · rw [if_pos (by rfl)]
                obtain ⟨v136, w137, hr, own138, gr139, mv140⟩ := run_append_str2 (P := Try.prog) (w3.alloc (.cells (bv (zeros 32)).toArray 25)) wr.heap.size 22 9 22 5 i0 Try.underlying22 Try.underlying9 hi hz0 hz1 hz2 v2 _ _ own134 (bstr l) (by rw [hsz]; simp [maxLen]; omega) (by rw [hsz]; omega) hH.size
                refine Lib.wp_append_run _ (.tmp 30) (.tmp 31) 22 9 rfl _ _ rfl rfl v136 w137 hr ?_
                simp only [Act.put, List.setIfInBounds_toArray, List.set_cons_zero, List.set_cons_succ, Nat.zero_add, decide_true, beq_self_eq_true]
                have hH2 := own_below hH gr139 own134 hH.size
                have hb141 := hb133.keeps (Keeps.grown gr139) (by simp only [Option.mem_toList]; exact ne135.out)
                have ne142 : Hid ((v136).ownBlock ≠ some (w3.heap.size)) := mv140.ne hb133.lt ne135.out
                rw [hscv.out, hsz, ← bv_app] at own138
                have own138 : w137.ownsRow wr.heap.size 5 1 v136 (expB k l j ++ l).length (bv (expB k l j ++ l)) := by rw [List.length_append]; exact own138
                refine hK1.out _ _ hH2 (fun hH => ?_)
                clear hK1 K1 hr gr139 mv140 hH2
                refine wpAnyH_ready (rs := [9]) (by kernel_rfl) (by simp) ?_
                refine AllReadyH.cons rfl (fun K1 hK1 => ?_) AllReadyH.nil
                · go_simp
                  have q0 : w137.heap.size = w137.heap.size := by rfl
                  have q : w137.heap.size = w137.heap.size := q0
                  have hb143 : Blk (w137.alloc (.cells #[.int .u8 (((j : Int) + 1) % 256)] 5)) w137.heap.size 5 [.int .u8 (((j : Int) + 1) % 256)] := by rw [← q0]; exact Blk.new_at (w := w137) rfl rfl
                  have own144 : (w137.alloc (.cells #[.int .u8 (((j : Int) + 1) % 256)] 5)).ownsRow wr.heap.size 5 1 v136 ((expB k l j ++ l).length) (bv (expB k l j ++ l)) := own138.alloc (.cells #[.int .u8 (((j : Int) + 1) % 256)] 5)
                  have ne145 : Hid ((v136).ownBlock ≠ some w137.heap.size) := fun e => by have h9 : w137.heap.size < w137.heap.size := (own138.lt _ e).2; omega
                  have hb146 : Blk (w137.alloc (.cells #[.int .u8 (((j : Int) + 1) % 256)] 5)) (w3.heap.size) 25 (bv (zeros 32)) := hb141.alloc (.cells #[.int .u8 (((j : Int) + 1) % 256)] 5)
                  refine hK1.out _ _ (hH.alloc hH.size _) (fun hH => ?_)
                  clear hK1 K1 q q0
                  refine wpAnyH_ready (rs := [10]) (by kernel_rfl) (by simp) ?_
                  refine AllReadyH.cons rfl (fun K1 hK1 => ?_) AllReadyH.nil
                  · rw [if_pos (by rfl)]
                    have sd : Sl (w137.alloc (.cells #[.int .u8 (((j : Int) + 1) % 256)] 5)) (.slice (some ⟨w137.heap.size, 0, none⟩) 1 1) (bv [(j + 1) % 256]) := Sl.of_blk (n := 1) (c := 1) hb143 (Nat.le_refl _) (by simp) (by unfold maxLen; omega)
                    obtain ⟨v147, w148, hr, own149, gr150, mv151⟩ := run_append_sl2 (P := Try.prog) (w137.alloc (.cells #[.int .u8 (((j : Int) + 1) % 256)] 5)) wr.heap.size 22 22 5 i0 (.int .u8 0) 1 Try.underlying22 hi hz0 hz1 hz2 rfl v136 _ _ own144 _ (bv [(j + 1) % 256]) sd (bv_oneCell _) (by simp [maxLen]; omega) (by simp; omega) hH.size
                    refine Lib.wp_append_run _ (.tmp 32) (.tmp 35) 22 22 rfl _ _ rfl rfl v147 w148 hr ?_
                    simp only [Act.put, List.setIfInBounds_toArray, List.set_cons_zero, List.set_cons_succ, Nat.zero_add, decide_true, beq_self_eq_true]
                    have hH2 := own_below hH gr150 own144 hH.size
                    have hb152 := hb146.keeps (Keeps.grown gr150) (by simp only [Option.mem_toList]; exact ne142.out)
                    have ne153 : Hid ((v147).ownBlock ≠ some (w3.heap.size)) := mv151.ne hb146.lt ne142.out
                    rw [← bv_app] at own149
                    have sm154 := Lib.hid (Sl.of_own own149)
                    refine hK1.out _ _ hH2 (fun hH => ?_)
                    clear hK1 K1 hr gr150 mv151 hH2
                    refine wpAnyH_ready (rs := [11]) (by kernel_rfl) (by simp) ?_
                    refine AllReadyH.cons rfl (fun K1 hK1 => ?_) AllReadyH.nil
                    · rw [if_pos (by rfl)]
                      go_wp2_with fail
                      refine (hw1.out _ _ (sH.out.keep hH) (sK.out.keep hH) (slk.out.keep hH) sm154.out).mono ?_
                      rintro e w155 ⟨rfl, hBa⟩
                      have hb156 := hb152.keep hBa
                      refine hK1.out _ _ (below_call hH hH.size hBa) (fun hH => ?_)
                      clear hK1 K1 hBa
                      refine wpAnyH_ready (rs := [13]) (by kernel_rfl) (by simp) ?_
                      refine AllReadyH.cons rfl (fun K1 hK1 => ?_) AllReadyH.nil
                      · rw [if_pos (by rfl)]
                        refine wp_storeA 25 (.tmp 12) (.tmp 37) rfl 32 arrH _ _ rfl (bv (expB k l (j + 1))) rfl 25 _ hb156 hXl.out (by simp) (ones_bv _) ?_
                        intro w157 hb158 hKb
                        rw [putL_all (by rw [hXl.out]; simp)] at hb158
                        refine hK1.out _ _ (hH.trans (hKb.below hH.size (by intro b hb; simp only [List.mem_singleton] at hb; subst hb; exact hGE.out))) (fun hH => ?_)
                        clear hK1 K1 hKb
                        refine wpAnyH_done (by kernel_rfl) ?_ _
                        go_wp2_with fail
                        go_meet
                        exact ⟨_, rfl, hb158, hH⟩
              · go_simp
                have q0 : (w3.alloc (.cells (bv (zeros 32)).toArray 25)).heap.size = (w3.heap.size + 1) := by go_simp
                have q : (w3.alloc (.cells (bv (zeros 32)).toArray 25)).heap.size = (w3.heap.size + 1) := q0
                have hb159 : Blk ((w3.alloc (.cells (bv (zeros 32)).toArray 25)).alloc (.cells #[.int .u8 (((j : Int) + 1) % 256)] 5)) (w3.heap.size + 1) 5 [.int .u8 (((j : Int) + 1) % 256)] := by rw [← q0]; exact Blk.new_at (w := (w3.alloc (.cells (bv (zeros 32)).toArray 25))) rfl rfl
                have own160 : ((w3.alloc (.cells (bv (zeros 32)).toArray 25)).alloc (.cells #[.int .u8 (((j : Int) + 1) % 256)] 5)).ownsRow wr.heap.size 5 1 v2 ((expB k l j).length) (bv (expB k l j)) := own134.alloc (.cells #[.int .u8 (((j : Int) + 1) % 256)] 5)
                have ne161 : Hid ((v2).ownBlock ≠ some (w3.heap.size + 1)) := fun e => by have h9 : (w3.heap.size + 1) < (w3.alloc (.cells (bv (zeros 32)).toArray 25)).heap.size := (own134.lt _ e).2; omega
                have hb162 : Blk ((w3.alloc (.cells (bv (zeros 32)).toArray 25)).alloc (.cells #[.int .u8 (((j : Int) + 1) % 256)] 5)) (w3.heap.size) 25 (bv (zeros 32)) := hb133.alloc (.cells #[.int .u8 (((j : Int) + 1) % 256)] 5)
                refine hK1.out _ _ (hH.alloc hH.size _) (fun hH => ?_)
                clear hK1 K1 q q0
                refine wpAnyH_ready (rs := [6]) (by kernel_rfl) (by simp) ?_
                refine AllReadyH.cons rfl (fun K1 hK1 => ?_) AllReadyH.nil
                · rw [if_pos (by rfl)]
                  obtain ⟨v163, w164, hr, own165, gr166, mv167⟩ := run_append_str2 (P := Try.prog) ((w3.alloc (.cells (bv (zeros 32)).toArray 25)).alloc (.cells #[.int .u8 (((j : Int) + 1) % 256)] 5)) wr.heap.size 22 9 22 5 i0 Try.underlying22 Try.underlying9 hi hz0 hz1 hz2 v2 _ _ own160 (bstr l) (by rw [hsz]; simp [maxLen]; omega) (by rw [hsz]; omega) hH.size
                  refine Lib.wp_append_run _ (.tmp 30) (.tmp 31) 22 9 rfl _ _ rfl rfl v163 w164 hr ?_
                  simp only [Act.put, List.setIfInBounds_toArray, List.set_cons_zero, List.set_cons_succ, Nat.zero_add, decide_true, beq_self_eq_true]
                  have hH2 := own_below hH gr166 own160 hH.size
                  have hb168 := hb159.keeps (Keeps.grown gr166) (by simp only [Option.mem_toList]; exact ne161.out)
                  have ne169 : Hid ((v163).ownBlock ≠ some ((w3.heap.size + 1))) := mv167.ne hb159.lt ne161.out
                  have hb170 := hb162.keeps (Keeps.grown gr166) (by simp only [Option.mem_toList]; exact ne135.out)
                  have ne171 : Hid ((v163).ownBlock ≠ some (w3.heap.size)) := mv167.ne hb162.lt ne135.out
                  rw [hscv.out, hsz, ← bv_app] at own165
                  have own165 : w164.ownsRow wr.heap.size 5 1 v163 (expB k l j ++ l).length (bv (expB k l j ++ l)) := by rw [List.length_append]; exact own165
                  refine hK1.out _ _ hH2 (fun hH => ?_)
                  clear hK1 K1 hr gr166 mv167 hH2
                  refine wpAnyH_ready (rs := [10]) (by kernel_rfl) (by simp) ?_
                  refine AllReadyH.cons rfl (fun K1 hK1 => ?_) AllReadyH.nil
                  · rw [if_pos (by rfl)]
                    have sd : Sl w164 (.slice (some ⟨(w3.heap.size + 1), 0, none⟩) 1 1) (bv [(j + 1) % 256]) := Sl.of_blk (n := 1) (c := 1) hb168 (Nat.le_refl _) (by simp) (by unfold maxLen; omega)
                    obtain ⟨v172, w173, hr, own174, gr175, mv176⟩ := run_append_sl2 (P := Try.prog) w164 wr.heap.size 22 22 5 i0 (.int .u8 0) 1 Try.underlying22 hi hz0 hz1 hz2 rfl v163 _ _ own165 _ (bv [(j + 1) % 256]) sd (bv_oneCell _) (by simp [maxLen]; omega) (by simp; omega) hH.size
                    refine Lib.wp_append_run _ (.tmp 32) (.tmp 35) 22 22 rfl _ _ rfl rfl v172 w173 hr ?_
                    simp only [Act.put, List.setIfInBounds_toArray, List.set_cons_zero, List.set_cons_succ, Nat.zero_add, decide_true, beq_self_eq_true]
                    have hH2 := own_below hH gr175 own165 hH.size
                    have hb177 := hb170.keeps (Keeps.grown gr175) (by simp only [Option.mem_toList]; exact ne171.out)
                    have ne178 : Hid ((v172).ownBlock ≠ some (w3.heap.size)) := mv176.ne hb170.lt ne171.out
                    rw [← bv_app] at own174
                    have sm179 := Lib.hid (Sl.of_own own174)
                    refine hK1.out _ _ hH2 (fun hH => ?_)
                    clear hK1 K1 hr gr175 mv176 hH2
                    refine wpAnyH_ready (rs := [11]) (by kernel_rfl) (by simp) ?_
                    refine AllReadyH.cons rfl (fun K1 hK1 => ?_) AllReadyH.nil
                    · rw [if_pos (by rfl)]
                      go_wp2_with fail
                      refine (hw1.out _ _ (sH.out.keep hH) (sK.out.keep hH) (slk.out.keep hH) sm179.out).mono ?_
                      rintro e w180 ⟨rfl, hBa⟩
                      have hb181 := hb177.keep hBa
                      refine hK1.out _ _ (below_call hH hH.size hBa) (fun hH => ?_)
                      clear hK1 K1 hBa
                      refine wpAnyH_ready (rs := [13]) (by kernel_rfl) (by simp) ?_
                      refine AllReadyH.cons rfl (fun K1 hK1 => ?_) AllReadyH.nil
                      · rw [if_pos (by rfl)]
                        refine wp_storeA 25 (.tmp 12) (.tmp 37) rfl 32 arrH _ _ rfl (bv (expB k l (j + 1))) rfl 25 _ hb181 hXl.out (by simp) (ones_bv _) ?_
                        intro w182 hb183 hKb
                        rw [putL_all (by rw [hXl.out]; simp)] at hb183
                        refine hK1.out _ _ (hH.trans (hKb.below hH.size (by intro b hb; simp only [List.mem_singleton] at hb; subst hb; exact hGE.out))) (fun hH => ?_)
                        clear hK1 K1 hKb
                        refine wpAnyH_done (by kernel_rfl) ?_ _
                        go_wp2_with fail
                        go_meet
                        exact ⟨_, rfl, hb183, hH⟩
          · go_simp
            have q0 : (wr.alloc (.cells #[] 5)).heap.size = (wr.heap.size + 1) := by go_simp
            have q : (wr.alloc (.cells #[] 5)).drew.heap.size = (wr.heap.size + 1) := q0
            have hb184 : Blk ((wr.alloc (.cells #[] 5)).alloc (.cells #[.int .u8 (((j : Int) + 1) % 256)] 5)).drew (wr.heap.size + 1) 5 [.int .u8 (((j : Int) + 1) % 256)] := by rw [← q0]; exact Blk.new_at (w := (wr.alloc (.cells #[] 5))) rfl rfl
            have own185 : ((wr.alloc (.cells #[] 5)).alloc (.cells #[.int .u8 (((j : Int) + 1) % 256)] 5)).drew.ownsRow wr.heap.size 5 1 (Value.slice (some ⟨wr.heap.size, 0, none⟩) 0 0) (0) (bv ([] : List Nat)) := own1.alloc (.cells #[.int .u8 (((j : Int) + 1) % 256)] 5)
            have ne186 : Hid (((Value.slice (some ⟨wr.heap.size, 0, none⟩) 0 0)).ownBlock ≠ some (wr.heap.size + 1)) := fun e => by have h9 : (wr.heap.size + 1) < (wr.alloc (.cells #[] 5)).drew.heap.size := (own1.lt _ e).2; omega
            refine hK1.out _ _ (hH.alloc hH.size _) (fun hH => ?_)
            clear hK1 K1 q q0
            refine wpAnyH_ready (rs := [4, 12]) (by kernel_rfl) (by simp) ?_
            refine AllReadyH.cons rfl (fun K1 hK1 => ?_) (AllReadyH.cons rfl (fun K1 hK1 => ?_) AllReadyH.nil)
            · rw [if_pos (by rfl)]
              obtain ⟨v187, w188, hr, own189, gr190, mv191⟩ := run_append_sl2 (P := Try.prog) ((wr.alloc (.cells #[] 5)).alloc (.cells #[.int .u8 (((j : Int) + 1) % 256)] 5)).drew wr.heap.size 22 22 5 i0 (.int .u8 0) 1 Try.underlying22 hi hz0 hz1 hz2 rfl (Value.slice (some ⟨wr.heap.size, 0, none⟩) 0 0) 0 [] own185 _ (bv (expB k l j)) (hsl.out.keep hH) (bv_oneCell _) (by rw [bv_length]; simp [maxLen]; omega) (by rw [bv_length]; omega) hH.size
              refine Lib.wp_append_run _ (.tmp 28) (.tmp 29) 22 22 rfl _ _ rfl rfl v187 w188 hr ?_
              simp only [Act.put, List.setIfInBounds_toArray, List.set_cons_zero, List.set_cons_succ, Nat.zero_add, decide_true, beq_self_eq_true]
              have hH2 := own_below hH gr190 own185 hH.size
              have hb192 := hb184.keeps (Keeps.grown gr190) (by simp only [Option.mem_toList]; exact ne186.out)
              have ne193 : Hid ((v187).ownBlock ≠ some ((wr.heap.size + 1))) := mv191.ne hb184.lt ne186.out
              rw [Nat.zero_add, List.nil_append, bv_length] at own189
              refine hK1.out _ _ hH2 (fun hH => ?_)
              clear hK1 K1 hr gr190 mv191 hH2
              refine wpAnyH_ready (rs := [6, 12]) (by kernel_rfl) (by simp) ?_
              refine AllReadyH.cons rfl (fun K1 hK1 => ?_) (AllReadyH.cons rfl (fun K1 hK1 => ?_) AllReadyH.nil)
              · rw [if_pos (by rfl)]
                obtain ⟨v194, w195, hr, own196, gr197, mv198⟩ := run_append_str2 (P := Try.prog) w188 wr.heap.size 22 9 22 5 i0 Try.underlying22 Try.underlying9 hi hz0 hz1 hz2 v187 _ _ own189 (bstr l) (by rw [hsz]; simp [maxLen]; omega) (by rw [hsz]; omega) hH.size
                refine Lib.wp_append_run _ (.tmp 30) (.tmp 31) 22 9 rfl _ _ rfl rfl v194 w195 hr ?_
                simp only [Act.put, List.setIfInBounds_toArray, List.set_cons_zero, List.set_cons_succ, Nat.zero_add, decide_true, beq_self_eq_true]
                have hH2 := own_below hH gr197 own189 hH.size
                have hb199 := hb192.keeps (Keeps.grown gr197) (by simp only [Option.mem_toList]; exact ne193.out)
                have ne200 : Hid ((v194).ownBlock ≠ some ((wr.heap.size + 1))) := mv198.ne hb192.lt ne193.out
                rw [hscv.out, hsz, ← bv_app] at own196
                have own196 : w195.ownsRow wr.heap.size 5 1 v194 (expB k l j ++ l).length (bv (expB k l j ++ l)) := by rw [List.length_append]; exact own196
                refine hK1.out _ _ hH2 (fun hH => ?_)
                clear hK1 K1 hr gr197 mv198 hH2
                refine wpAnyH_ready (rs := [10, 12]) (by kernel_rfl) (by simp) ?_
                refine AllReadyH.cons rfl (fun K1 hK1 => ?_) (AllReadyH.cons rfl (fun K1 hK1 => ?_) AllReadyH.nil)
                · rw [if_pos (by rfl)]
                  have sd : Sl w195 (.slice (some ⟨(wr.heap.size + 1), 0, none⟩) 1 1) (bv [(j + 1) % 256]) := Sl.of_blk (n := 1) (c := 1) hb199 (Nat.le_refl _) (by simp) (by unfold maxLen; omega)
                  obtain ⟨v201, w202, hr, own203, gr204, mv205⟩ := run_append_sl2 (P := Try.prog) w195 wr.heap.size 22 22 5 i0 (.int .u8 0) 1 Try.underlying22 hi hz0 hz1 hz2 rfl v194 _ _ own196 _ (bv [(j + 1) % 256]) sd (bv_oneCell _) (by simp [maxLen]; omega) (by simp; omega) hH.size
                  refine Lib.wp_append_run _ (.tmp 32) (.tmp 35) 22 22 rfl _ _ rfl rfl v201 w202 hr ?_
                  simp only [Act.put, List.setIfInBounds_toArray, List.set_cons_zero, List.set_cons_succ, Nat.zero_add, decide_true, beq_self_eq_true]
                  have hH2 := own_below hH gr204 own196 hH.size
                  rw [← bv_app] at own203
                  have sm206 := Lib.hid (Sl.of_own own203)
                  refine hK1.out _ _ hH2 (fun hH => ?_)
                  clear hK1 K1 hr gr204 mv205 hH2
                  refine wpAnyH_ready (rs := [11, 12]) (by kernel_rfl) (by simp) ?_
                  refine AllReadyH.cons rfl (fun K1 hK1 => ?_) (AllReadyH.cons rfl (fun K1 hK1 => ?_) AllReadyH.nil)
                  · rw [if_pos (by rfl)]
                    go_wp2_with fail
                    refine (hw1.out _ _ (sH.out.keep hH) (sK.out.keep hH) (slk.out.keep hH) sm206.out).mono ?_
                    rintro e w207 ⟨rfl, hBa⟩
                    refine hK1.out _ _ (below_call hH hH.size hBa) (fun hH => ?_)
                    clear hK1 K1 hBa
                    refine wpAnyH_ready (rs := [12]) (by kernel_rfl) (by simp) ?_
                    refine AllReadyH.cons rfl (fun K1 hK1 => ?_) AllReadyH.nil
                    · go_simp
                      have q0 : w207.heap.size = w207.heap.size := by rfl
                      have q : w207.heap.size = w207.heap.size := q0
                      have hb208 : Blk (w207.alloc (.cells (bv (zeros 32)).toArray 25)) w207.heap.size 25 (bv (zeros 32)) := by rw [← q0]; exact Blk.new_at (w := w207) rfl rfl
                      have hGE : Hid (wr.heap.size ≤ w207.heap.size) := by show _ ≤ _; rw [← q]; exact hH.size
                      refine hK1.out _ _ (hH.alloc hH.size _) (fun hH => ?_)
                      clear hK1 K1 q q0
                      refine wpAnyH_ready (rs := [13]) (by kernel_rfl) (by simp) ?_
                      refine AllReadyH.cons rfl (fun K1 hK1 => ?_) AllReadyH.nil
                      · rw [if_pos (by rfl)]
                        refine wp_storeA 25 (.tmp 12) (.tmp 37) rfl 32 arrH _ _ rfl (bv (expB k l (j + 1))) rfl 25 _ hb208 hXl.out (by simp) (ones_bv _) ?_
                        intro w209 hb210 hKb
                        rw [putL_all (by rw [hXl.out]; simp)] at hb210
                        refine hK1.out _ _ (hH.trans (hKb.below hH.size (by intro b hb; simp only [List.mem_singleton] at hb; subst hb; exact hGE.out))) (fun hH => ?_)
                        clear hK1 K1 hKb
                        refine wpAnyH_done (by kernel_rfl) ?_ _
                        go_wp2_with fail
                        go_meet
                        exact ⟨_, rfl, hb210, hH⟩
                  · go_simp
                    have q0 : w202.heap.size = w202.heap.size := by rfl
                    have q : w202.heap.size = w202.heap.size := q0
                    have hb211 : Blk (w202.alloc (.cells (bv (zeros 32)).toArray 25)) w202.heap.size 25 (bv (zeros 32)) := by rw [← q0]; exact Blk.new_at (w := w202) rfl rfl
                    have hGE : Hid (wr.heap.size ≤ w202.heap.size) := by show _ ≤ _; rw [← q]; exact hH.size
                    have sm212 : Hid (Sl (w202.alloc (.cells (bv (zeros 32)).toArray 25)) v201 (bv (expB k l j ++ l ++ [(j + 1) % 256]))) := sm206.out.keep ((Below.refl _ w202).alloc (Nat.le_refl _) (.cells (bv (zeros 32)).toArray 25))
                    refine hK1.out _ _ (hH.alloc hH.size _) (fun hH => ?_)
                    clear hK1 K1 q q0
                    refine wpAnyH_ready (rs := [11]) (by kernel_rfl) (by simp) ?_
                    refine AllReadyH.cons rfl (fun K1 hK1 => ?_) AllReadyH.nil
                    · rw [if_pos (by rfl)]
                      go_wp2_with fail
                      refine (hw1.out _ _ (sH.out.keep hH) (sK.out.keep hH) (slk.out.keep hH) sm212.out).mono ?_
                      rintro e w213 ⟨rfl, hBa⟩
                      have hb214 := hb211.keep hBa
                      refine hK1.out _ _ (below_call hH hH.size hBa) (fun hH => ?_)
                      clear hK1 K1 hBa
                      refine wpAnyH_ready (rs := [13]) (by kernel_rfl) (by simp) ?_
                      refine AllReadyH.cons rfl (fun K1 hK1 => ?_) AllReadyH.nil
                      · rw [if_pos (by rfl)]
                        refine wp_storeA 25 (.tmp 12) (.tmp 37) rfl 32 arrH _ _ rfl (bv (expB k l (j + 1))) rfl 25 _ hb214 hXl.out (by simp) (ones_bv _) ?_
                        intro w215 hb216 hKb
                        rw [putL_all (by rw [hXl.out]; simp)] at hb216
                        refine hK1.out _ _ (hH.trans (hKb.below hH.size (by intro b hb; simp only [List.mem_singleton] at hb; subst hb; exact hGE.out))) (fun hH => ?_)
                        clear hK1 K1 hKb
                        refine wpAnyH_done (by kernel_rfl) ?_ _
                        go_wp2_with fail
                        go_meet
                        exact ⟨_, rfl, hb216, hH⟩
                · go_simp
                  have q0 : w195.heap.size = w195.heap.size := by rfl
                  have q : w195.heap.size = w195.heap.size := q0
                  have hb217 : Blk (w195.alloc (.cells (bv (zeros 32)).toArray 25)) w195.heap.size 25 (bv (zeros 32)) := by rw [← q0]; exact Blk.new_at (w := w195) rfl rfl
                  have hGE : Hid (wr.heap.size ≤ w195.heap.size) := by show _ ≤ _; rw [← q]; exact hH.size
                  have own218 : (w195.alloc (.cells (bv (zeros 32)).toArray 25)).ownsRow wr.heap.size 5 1 v194 ((expB k l j ++ l).length) (bv (expB k l j ++ l)) := own196.alloc (.cells (bv (zeros 32)).toArray 25)
                  have ne219 : Hid ((v194).ownBlock ≠ some w195.heap.size) := fun e => by have h9 : w195.heap.size < w195.heap.size := (own196.lt _ e).2; omega
                  have hb220 : Blk (w195.alloc (.cells (bv (zeros 32)).toArray 25)) ((wr.heap.size + 1)) 5 [.int .u8 (((j : Int) + 1) % 256)] := hb199.alloc (.cells (bv (zeros 32)).toArray 25)
                  refine hK1.out _ _ (hH.alloc hH.size _) (fun hH => ?_)
                  clear hK1 K1 q q0
                  refine wpAnyH_ready (rs := [10]) (by kernel_rfl) (by simp) ?_
                  refine AllReadyH.cons rfl (fun K1 hK1 => ?_) AllReadyH.nil
                  · rw [if_pos (by rfl)]
                    have sd : Sl (w195.alloc (.cells (bv (zeros 32)).toArray 25)) (.slice (some ⟨(wr.heap.size + 1), 0, none⟩) 1 1) (bv [(j + 1) % 256]) := Sl.of_blk (n := 1) (c := 1) hb220 (Nat.le_refl _) (by simp) (by unfold maxLen; omega)
                    obtain ⟨v221, w222, hr, own223, gr224, mv225⟩ := run_append_sl2 (P := Try.prog) (w195.alloc (.cells (bv (zeros 32)).toArray 25)) wr.heap.size 22 22 5 i0 (.int .u8 0) 1 Try.underlying22 hi hz0 hz1 hz2 rfl v194 _ _ own218 _ (bv [(j + 1) % 256]) sd (bv_oneCell _) (by simp [maxLen]; omega) (by simp; omega) hH.size
                    refine Lib.wp_append_run _ (.tmp 32) (.tmp 35) 22 22 rfl _ _ rfl rfl v221 w222 hr ?_
                    simp only [Act.put, List.setIfInBounds_toArray, List.set_cons_zero, List.set_cons_succ, Nat.zero_add, decide_true, beq_self_eq_true]
                    have hH2 := own_below hH gr224 own218 hH.size
                    have hb226 := hb217.keeps (Keeps.grown gr224) (by simp only [Option.mem_toList]; exact ne219.out)
                    have ne227 : Hid ((v221).ownBlock ≠ some (w195.heap.size)) := mv225.ne hb217.lt ne219.out
                    rw [← bv_app] at own223
                    have sm228 := Lib.hid (Sl.of_own own223)
                    refine hK1.out _ _ hH2 (fun hH => ?_)
                    clear hK1 K1 hr gr224 mv225 hH2
                    refine wpAnyH_ready (rs := [11]) (by kernel_rfl) (by simp) ?_
                    refine AllReadyH.cons rfl (fun K1 hK1 => ?_) AllReadyH.nil
                    · rw [if_pos (by rfl)]
                      go_wp2_with fail
                      refine (hw1.out _ _ (sH.out.keep hH) (sK.out.keep hH) (slk.out.keep hH) sm228.out).mono ?_
                      rintro e w229 ⟨rfl, hBa⟩
                      have hb230 := hb226.keep hBa
                      refine hK1.out _ _ (below_call hH hH.size hBa) (fun hH => ?_)
                      clear hK1 K1 hBa
                      refine wpAnyH_ready (rs := [13]) (by kernel_rfl) (by simp) ?_
                      refine AllReadyH.cons rfl (fun K1 hK1 => ?_) AllReadyH.nil
                      · rw [if_pos (by rfl)]
                        refine wp_storeA 25 (.tmp 12) (.tmp 37) rfl 32 arrH _ _ rfl (bv (expB k l (j + 1))) rfl 25 _ hb230 hXl.out (by simp) (ones_bv _) ?_
                        intro w231 hb232 hKb
                        rw [putL_all (by rw [hXl.out]; simp)] at hb232
                        refine hK1.out _ _ (hH.trans (hKb.below hH.size (by intro b hb; simp only [List.mem_singleton] at hb; subst hb; exact hGE.out))) (fun hH => ?_)
                        clear hK1 K1 hKb
                        refine wpAnyH_done (by kernel_rfl) ?_ _
                        go_wp2_with fail
                        go_meet
                        exact ⟨_, rfl, hb232, hH⟩
              · go_simp
                have q0 : w188.heap.size = w188.heap.size := by rfl
                have q : w188.heap.size = w188.heap.size := q0
                have hb233 : Blk (w188.alloc (.cells (bv (zeros 32)).toArray 25)) w188.heap.size 25 (bv (zeros 32)) := by rw [← q0]; exact Blk.new_at (w := w188) rfl rfl
                have hGE : Hid (wr.heap.size ≤ w188.heap.size) := by show _ ≤ _; rw [← q]; exact hH.size
                have own234 : (w188.alloc (.cells (bv (zeros 32)).toArray 25)).ownsRow wr.heap.size 5 1 v187 ((expB k l j).length) (bv (expB k l j)) := own189.alloc (.cells (bv (zeros 32)).toArray 25)
                have ne235 : Hid ((v187).ownBlock ≠ some w188.heap.size) := fun e => by have h9 : w188.heap.size < w188.heap.size := (own189.lt _ e).2; omega
                have hb236 : Blk (w188.alloc (.cells (bv (zeros 32)).toArray 25)) ((wr.heap.size + 1)) 5 [.int .u8 (((j : Int) + 1) % 256)] := hb192.alloc (.cells (bv (zeros 32)).toArray 25)
                refine hK1.out _ _ (hH.alloc hH.size _) (fun hH => ?_)
                clear hK1 K1 q q0
                refine wpAnyH_ready (rs := [6]) (by kernel_rfl) (by simp) ?_
                refine AllReadyH.cons rfl (fun K1 hK1 => ?_) AllReadyH.nil
                · rw [if_pos (by rfl)]
                  obtain ⟨v237, w238, hr, own239, gr240, mv241⟩ := run_append_str2 (P := Try.prog) (w188.alloc (.cells (bv (zeros 32)).toArray 25)) wr.heap.size 22 9 22 5 i0 Try.underlying22 Try.underlying9 hi hz0 hz1 hz2 v187 _ _ own234 (bstr l) (by rw [hsz]; simp [maxLen]; omega) (by rw [hsz]; omega) hH.size
                  refine Lib.wp_append_run _ (.tmp 30) (.tmp 31) 22 9 rfl _ _ rfl rfl v237 w238 hr ?_
                  simp only [Act.put, List.setIfInBounds_toArray, List.set_cons_zero, List.set_cons_succ, Nat.zero_add, decide_true, beq_self_eq_true]
                  have hH2 := own_below hH gr240 own234 hH.size
                  have hb242 := hb236.keeps (Keeps.grown gr240) (by simp only [Option.mem_toList]; exact ne193.out)
                  have ne243 : Hid ((v237).ownBlock ≠ some ((wr.heap.size + 1))) := mv241.ne hb236.lt ne193.out
                  have hb244 := hb233.keeps (Keeps.grown gr240) (by simp only [Option.mem_toList]; exact ne235.out)
                  have ne245 : Hid ((v237).ownBlock ≠ some (w188.heap.size)) := mv241.ne hb233.lt ne235.out
                  rw [hscv.out, hsz, ← bv_app] at own239
                  have own239 : w238.ownsRow wr.heap.size 5 1 v237 (expB k l j ++ l).length (bv (expB k l j ++ l)) := by rw [List.length_append]; exact own239
                  refine hK1.out _ _ hH2 (fun hH => ?_)
                  clear hK1 K1 hr gr240 mv241 hH2
                  refine wpAnyH_ready (rs := [10]) (by kernel_rfl) (by simp) ?_
                  refine AllReadyH.cons rfl (fun K1 hK1 => ?_) AllReadyH.nil
                  · rw [if_pos (by rfl)]
                    have sd : Sl w238 (.slice (some ⟨(wr.heap.size + 1), 0, none⟩) 1 1) (bv [(j + 1) % 256]) := Sl.of_blk (n := 1) (c := 1) hb242 (Nat.le_refl _) (by simp) (by unfold maxLen; omega)
                    obtain ⟨v246, w247, hr, own248, gr249, mv250⟩ := run_append_sl2 (P := Try.prog) w238 wr.heap.size 22 22 5 i0 (.int .u8 0) 1 Try.underlying22 hi hz0 hz1 hz2 rfl v237 _ _ own239 _ (bv [(j + 1) % 256]) sd (bv_oneCell _) (by simp [maxLen]; omega) (by simp; omega) hH.size
                    refine Lib.wp_append_run _ (.tmp 32) (.tmp 35) 22 22 rfl _ _ rfl rfl v246 w247 hr ?_
                    simp only [Act.put, List.setIfInBounds_toArray, List.set_cons_zero, List.set_cons_succ, Nat.zero_add, decide_true, beq_self_eq_true]
                    have hH2 := own_below hH gr249 own239 hH.size
                    have hb251 := hb244.keeps (Keeps.grown gr249) (by simp only [Option.mem_toList]; exact ne245.out)
                    have ne252 : Hid ((v246).ownBlock ≠ some (w188.heap.size)) := mv250.ne hb244.lt ne245.out
                    rw [← bv_app] at own248
                    have sm253 := Lib.hid (Sl.of_own own248)
                    refine hK1.out _ _ hH2 (fun hH => ?_)
                    clear hK1 K1 hr gr249 mv250 hH2
                    refine wpAnyH_ready (rs := [11]) (by kernel_rfl) (by simp) ?_
                    refine AllReadyH.cons rfl (fun K1 hK1 => ?_) AllReadyH.nil
                    · rw [if_pos (by rfl)]
                      go_wp2_with fail
                      refine (hw1.out _ _ (sH.out.keep hH) (sK.out.keep hH) (slk.out.keep hH) sm253.out).mono ?_
                      rintro e w254 ⟨rfl, hBa⟩
                      have hb255 := hb251.keep hBa
                      refine hK1.out _ _ (below_call hH hH.size hBa) (fun hH => ?_)
                      clear hK1 K1 hBa
                      refine wpAnyH_ready (rs := [13]) (by kernel_rfl) (by simp) ?_
                      refine AllReadyH.cons rfl (fun K1 hK1 => ?_) AllReadyH.nil
                      · rw [if_pos (by rfl)]
                        refine wp_storeA 25 (.tmp 12) (.tmp 37) rfl 32 arrH _ _ rfl (bv (expB k l (j + 1))) rfl 25 _ hb255 hXl.out (by simp) (ones_bv _) ?_
                        intro w256 hb257 hKb
                        rw [putL_all (by rw [hXl.out]; simp)] at hb257
                        refine hK1.out _ _ (hH.trans (hKb.below hH.size (by intro b hb; simp only [List.mem_singleton] at hb; subst hb; exact hGE.out))) (fun hH => ?_)
                        clear hK1 K1 hKb
                        refine wpAnyH_done (by kernel_rfl) ?_ _
                        go_wp2_with fail
                        go_meet
                        exact ⟨_, rfl, hb257, hH⟩
            · go_simp
              have q0 : ((wr.alloc (.cells #[] 5)).alloc (.cells #[.int .u8 (((j : Int) + 1) % 256)] 5)).heap.size = (wr.heap.size + 2) := by go_simp
              have q : ((wr.alloc (.cells #[] 5)).alloc (.cells #[.int .u8 (((j : Int) + 1) % 256)] 5)).drew.heap.size = (wr.heap.size + 2) := q0
              have hb258 : Blk (((wr.alloc (.cells #[] 5)).alloc (.cells #[.int .u8 (((j : Int) + 1) % 256)] 5)).alloc (.cells (bv (zeros 32)).toArray 25)).drew (wr.heap.size + 2) 25 (bv (zeros 32)) := by rw [← q0]; exact Blk.new_at (w := ((wr.alloc (.cells #[] 5)).alloc (.cells #[.int .u8 (((j : Int) + 1) % 256)] 5))) rfl rfl
              have hGE : Hid (wr.heap.size ≤ (wr.heap.size + 2)) := by show _ ≤ _; rw [← q]; exact hH.size
              have own259 : (((wr.alloc (.cells #[] 5)).alloc (.cells #[.int .u8 (((j : Int) + 1) % 256)] 5)).alloc (.cells (bv (zeros 32)).toArray 25)).drew.ownsRow wr.heap.size 5 1 (Value.slice (some ⟨wr.heap.size, 0, none⟩) 0 0) (0) (bv ([] : List Nat)) := own185.alloc (.cells (bv (zeros 32)).toArray 25)
              have ne260 : Hid (((Value.slice (some ⟨wr.heap.size, 0, none⟩) 0 0)).ownBlock ≠ some (wr.heap.size + 2)) := fun e => by have h9 : (wr.heap.size + 2) < ((wr.alloc (.cells #[] 5)).alloc (.cells #[.int .u8 (((j : Int) + 1) % 256)] 5)).drew.heap.size := (own185.lt _ e).2; omega
              have hb261 : Blk (((wr.alloc (.cells #[] 5)).alloc (.cells #[.int .u8 (((j : Int) + 1) % 256)] 5)).alloc (.cells (bv (zeros 32)).toArray 25)).drew ((wr.heap.size + 1)) 5 [.int .u8 (((j : Int) + 1) % 256)] := hb184.alloc (.cells (bv (zeros 32)).toArray 25)
              refine hK1.out _ _ (hH.alloc hH.size _) (fun hH => ?_)
              clear hK1 K1 q q0
              refine wpAnyH_ready (rs := [4]) (by kernel_rfl) (by simp) ?_
              refine AllReadyH.cons rfl (fun K1 hK1 => ?_) AllReadyH.nil
              · rw [if_pos (by rfl)]
                obtain ⟨v262, w263, hr, own264, gr265, mv266⟩ := run_append_sl2 (P := Try.prog) (((wr.alloc (.cells #[] 5)).alloc (.cells #[.int .u8 (((j : Int) + 1) % 256)] 5)).alloc (.cells (bv (zeros 32)).toArray 25)).drew wr.heap.size 22 22 5 i0 (.int .u8 0) 1 Try.underlying22 hi hz0 hz1 hz2 rfl (Value.slice (some ⟨wr.heap.size, 0, none⟩) 0 0) 0 [] own259 _ (bv (expB k l j)) (hsl.out.keep hH) (bv_oneCell _) (by rw [bv_length]; simp [maxLen]; omega) (by rw [bv_length]; omega) hH.size
                refine Lib.wp_append_run _ (.tmp 28) (.tmp 29) 22 22 rfl _ _ rfl rfl v262 w263 hr ?_
                simp only [Act.put, List.setIfInBounds_toArray, List.set_cons_zero, List.set_cons_succ, Nat.zero_add, decide_true, beq_self_eq_true]
                have hH2 := own_below hH gr265 own259 hH.size
                have hb267 := hb261.keeps (Keeps.grown gr265) (by simp only [Option.mem_toList]; exact ne186.out)
                have ne268 : Hid ((v262).ownBlock ≠ some ((wr.heap.size + 1))) := mv266.ne hb261.lt ne186.out
                have hb269 := hb258.keeps (Keeps.grown gr265) (by simp only [Option.mem_toList]; exact ne260.out)
                have ne270 : Hid ((v262).ownBlock ≠ some ((wr.heap.size + 2))) := mv266.ne hb258.lt ne260.out
                rw [Nat.zero_add, List.nil_append, bv_length] at own264
                refine hK1.out _ _ hH2 (fun hH => ?_)
                clear hK1 K1 hr gr265 mv266 hH2
                refine wpAnyH_ready (rs := [6]) (by kernel_rfl) (by simp) ?_
                refine AllReadyH.cons rfl (fun K1 hK1 => ?_) AllReadyH.nil
                · rw [if_pos (by rfl)]
                  obtain ⟨v271, w272, hr, own273, gr274, mv275⟩ := run_append_str2 (P := Try.prog) w263 wr.heap.size 22 9 22 5 i0 Try.underlying22 Try.underlying9 hi hz0 hz1 hz2 v262 _ _ own264 (bstr l) (by rw [hsz]; simp [maxLen]; omega) (by rw [hsz]; omega) hH.size
                  refine Lib.wp_append_run _ (.tmp 30) (.tmp 31) 22 9 rfl _ _ rfl rfl v271 w272 hr ?_
                  simp only [Act.put, List.setIfInBounds_toArray, List.set_cons_zero, List.set_cons_succ, Nat.zero_add, decide_true, beq_self_eq_true]
                  have hH2 := own_below hH gr274 own264 hH.size
                  have hb276 := hb267.keeps (Keeps.grown gr274) (by simp only [Option.mem_toList]; exact ne268.out)
                  have ne277 : Hid ((v271).ownBlock ≠ some ((wr.heap.size + 1))) := mv275.ne hb267.lt ne268.out
                  have hb278 := hb269.keeps (Keeps.grown gr274) (by simp only [Option.mem_toList]; exact ne270.out)
                  have ne279 : Hid ((v271).ownBlock ≠ some ((wr.heap.size + 2))) := mv275.ne hb269.lt ne270.out
                  rw [hscv.out, hsz, ← bv_app] at own273
                  have own273 : w272.ownsRow wr.heap.size 5 1 v271 (expB k l j ++ l).length (bv (expB k l j ++ l)) := by rw [List.length_append]; exact own273
                  refine hK1.out _ _ hH2 (fun hH => ?_)
                  clear hK1 K1 hr gr274 mv275 hH2
                  refine wpAnyH_ready (rs := [10]) (by kernel_rfl) (by simp) ?_
                  refine AllReadyH.cons rfl (fun K1 hK1 => ?_) AllReadyH.nil
                  · rw [if_pos (by rfl)]
                    have sd : Sl w272 (.slice (some ⟨(wr.heap.size + 1), 0, none⟩) 1 1) (bv [(j + 1) % 256]) := Sl.of_blk (n := 1) (c := 1) hb276 (Nat.le_refl _) (by simp) (by unfold maxLen; omega)
                    obtain ⟨v280, w281, hr, own282, gr283, mv284⟩ := run_append_sl2 (P := Try.prog) w272 wr.heap.size 22 22 5 i0 (.int .u8 0) 1 Try.underlying22 hi hz0 hz1 hz2 rfl v271 _ _ own273 _ (bv [(j + 1) % 256]) sd (bv_oneCell _) (by simp [maxLen]; omega) (by simp; omega) hH.size
                    refine Lib.wp_append_run _ (.tmp 32) (.tmp 35) 22 22 rfl _ _ rfl rfl v280 w281 hr ?_
                    simp only [Act.put, List.setIfInBounds_toArray, List.set_cons_zero, List.set_cons_succ, Nat.zero_add, decide_true, beq_self_eq_true]
                    have hH2 := own_below hH gr283 own273 hH.size
                    have hb285 := hb278.keeps (Keeps.grown gr283) (by simp only [Option.mem_toList]; exact ne279.out)
                    have ne286 : Hid ((v280).ownBlock ≠ some ((wr.heap.size + 2))) := mv284.ne hb278.lt ne279.out
                    rw [← bv_app] at own282
                    have sm287 := Lib.hid (Sl.of_own own282)
                    refine hK1.out _ _ hH2 (fun hH => ?_)
                    clear hK1 K1 hr gr283 mv284 hH2
                    refine wpAnyH_ready (rs := [11]) (by kernel_rfl) (by simp) ?_
                    refine AllReadyH.cons rfl (fun K1 hK1 => ?_) AllReadyH.nil
                    · rw [if_pos (by rfl)]
                      go_wp2_with fail
                      refine (hw1.out _ _ (sH.out.keep hH) (sK.out.keep hH) (slk.out.keep hH) sm287.out).mono ?_
                      rintro e w288 ⟨rfl, hBa⟩
                      have hb289 := hb285.keep hBa
                      refine hK1.out _ _ (below_call hH hH.size hBa) (fun hH => ?_)
                      clear hK1 K1 hBa
                      refine wpAnyH_ready (rs := [13]) (by kernel_rfl) (by simp) ?_
                      refine AllReadyH.cons rfl (fun K1 hK1 => ?_) AllReadyH.nil
                      · rw [if_pos (by rfl)]
                        refine wp_storeA 25 (.tmp 12) (.tmp 37) rfl 32 arrH _ _ rfl (bv (expB k l (j + 1))) rfl 25 _ hb289 hXl.out (by simp) (ones_bv _) ?_
                        intro w290 hb291 hKb
                        rw [putL_all (by rw [hXl.out]; simp)] at hb291
                        refine hK1.out _ _ (hH.trans (hKb.below hH.size (by intro b hb; simp only [List.mem_singleton] at hb; subst hb; exact hGE.out))) (fun hH => ?_)
                        clear hK1 K1 hKb
                        refine wpAnyH_done (by kernel_rfl) ?_ _
                        go_wp2_with fail
                        go_meet
                        exact ⟨_, rfl, hb291, hH⟩
          · go_simp
            have q0 : (wr.alloc (.cells #[] 5)).heap.size = (wr.heap.size + 1) := by go_simp
            have q : (wr.alloc (.cells #[] 5)).drew.heap.size = (wr.heap.size + 1) := q0
            have hb292 : Blk ((wr.alloc (.cells #[] 5)).alloc (.cells (bv (zeros 32)).toArray 25)).drew (wr.heap.size + 1) 25 (bv (zeros 32)) := by rw [← q0]; exact Blk.new_at (w := (wr.alloc (.cells #[] 5))) rfl rfl
            have hGE : Hid (wr.heap.size ≤ (wr.heap.size + 1)) := by show _ ≤ _; rw [← q]; exact hH.size
            have own293 : ((wr.alloc (.cells #[] 5)).alloc (.cells (bv (zeros 32)).toArray 25)).drew.ownsRow wr.heap.size 5 1 (Value.slice (some ⟨wr.heap.size, 0, none⟩) 0 0) (0) (bv ([] : List Nat)) := own1.alloc (.cells (bv (zeros 32)).toArray 25)
            have ne294 : Hid (((Value.slice (some ⟨wr.heap.size, 0, none⟩) 0 0)).ownBlock ≠ some (wr.heap.size + 1)) := fun e => by have h9 : (wr.heap.size + 1) < (wr.alloc (.cells #[] 5)).drew.heap.size := (own1.lt _ e).2; omega
            refine hK1.out _ _ (hH.alloc hH.size _) (fun hH => ?_)
            clear hK1 K1 q q0
            refine wpAnyH_ready (rs := [4, 9]) (by kernel_rfl) (by simp) ?_
            refine AllReadyH.cons rfl (fun K1 hK1 => ?_) (AllReadyH.cons rfl (fun K1 hK1 => ?_) AllReadyH.nil)
            · rw [if_pos (by rfl)]
              obtain ⟨v295, w296, hr, own297, gr298, mv299⟩ := run_append_sl2 (P := Try.prog) ((wr.alloc (.cells #[] 5)).alloc (.cells (bv (zeros 32)).toArray 25)).drew wr.heap.size 22 22 5 i0 (.int .u8 0) 1 Try.underlying22 hi hz0 hz1 hz2 rfl (Value.slice (some ⟨wr.heap.size, 0, none⟩) 0 0) 0 [] own293 _ (bv (expB k l j)) (hsl.out.keep hH) (bv_oneCell _) (by rw [bv_length]; simp [maxLen]; omega) (by rw [bv_length]; omega) hH.size
              refine Lib.wp_append_run _ (.tmp 28) (.tmp 29) 22 22 rfl _ _ rfl rfl v295 w296 hr ?_
              simp only [Act.put, List.setIfInBounds_toArray, List.set_cons_zero, List.set_cons_succ, Nat.zero_add, decide_true, beq_self_eq_true]
              have hH2 := own_below hH gr298 own293 hH.size
              have hb300 := hb292.keeps (Keeps.grown gr298) (by simp only [Option.mem_toList]; exact ne294.out)
              have ne301 : Hid ((v295).ownBlock ≠ some ((wr.heap.size + 1))) := mv299.ne hb292.lt ne294.out
              rw [Nat.zero_add, List.nil_append, bv_length] at own297
              refine hK1.out _ _ hH2 (fun hH => ?_)
              clear hK1 K1 hr gr298 mv299 hH2
              refine wpAnyH_ready (rs := [6, 9]) (by kernel_rfl) (by simp) ?_
              refine AllReadyH.cons rfl (fun K1 hK1 => ?_) (AllReadyH.cons rfl (fun K1 hK1 => ?_) AllReadyH.nil)
              · rw [if_pos (by rfl)]
                obtain ⟨v302, w303, hr, own304, gr305, mv306⟩ := run_append_str2 (P := Try.prog) w296 wr.heap.size 22 9 22 5 i0 Try.underlying22 Try.underlying9 hi hz0 hz1 hz2 v295 _ _ own297 (bstr l) (by rw [hsz]; simp [maxLen]; omega) (by rw [hsz]; omega) hH.size
                refine Lib.wp_append_run _ (.tmp 30) (.tmp 31) 22 9 rfl _ _ rfl rfl v302 w303 hr ?_
                simp only [Act.put, List.setIfInBounds_toArray, List.set_cons_zero, List.set_cons_succ, Nat.zero_add, decide_true, beq_self_eq_true]
                have hH2 := own_below hH gr305 own297 hH.size
                have hb307 := hb300.keeps (Keeps.grown gr305) (by simp only [Option.mem_toList]; exact ne301.out)
                have ne308 : Hid ((v302).ownBlock ≠ some ((wr.heap.size + 1))) := mv306.ne hb300.lt ne301.out
                rw [hscv.out, hsz, ← bv_app] at own304
                have own304 : w303.ownsRow wr.heap.size 5 1 v302 (expB k l j ++ l).length (bv (expB k l j ++ l)) := by rw [List.length_append]; exact own304
                refine hK1.out _ _ hH2 (fun hH => ?_)
                clear hK1 K1 hr gr305 mv306 hH2
                refine wpAnyH_ready (rs := [9]) (by kernel_rfl) (by simp) ?_
                refine AllReadyH.cons rfl (fun K1 hK1 => ?_) AllReadyH.nil
                · go_simp
                  have q0 : w303.heap.size = w303.heap.size := by rfl
                  have q : w303.heap.size = w303.heap.size := q0
                  have hb309 : Blk (w303.alloc (.cells #[.int .u8 (((j : Int) + 1) % 256)] 5)) w303.heap.size 5 [.int .u8 (((j : Int) + 1) % 256)] := by rw [← q0]; exact Blk.new_at (w := w303) rfl rfl
                  have own310 : (w303.alloc (.cells #[.int .u8 (((j : Int) + 1) % 256)] 5)).ownsRow wr.heap.size 5 1 v302 ((expB k l j ++ l).length) (bv (expB k l j ++ l)) := own304.alloc (.cells #[.int .u8 (((j : Int) + 1) % 256)] 5)
                  have ne311 : Hid ((v302).ownBlock ≠ some w303.heap.size) := fun e => by have h9 : w303.heap.size < w303.heap.size := (own304.lt _ e).2; omega
                  have hb312 : Blk (w303.alloc (.cells #[.int .u8 (((j : Int) + 1) % 256)] 5)) ((wr.heap.size + 1)) 25 (bv (zeros 32)) := hb307.alloc (.cells #[.int .u8 (((j : Int) + 1) % 256)] 5)
                  refine hK1.out _ _ (hH.alloc hH.size _) (fun hH => ?_)
                  clear hK1 K1 q q0
                  refine wpAnyH_ready (rs := [10]) (by kernel_rfl) (by simp) ?_
                  refine AllReadyH.cons rfl (fun K1 hK1 => ?_) AllReadyH.nil
                  · rw [if_pos (by rfl)]
                    have sd : Sl (w303.alloc (.cells #[.int .u8 (((j : Int) + 1) % 256)] 5)) (.slice (some ⟨w303.heap.size, 0, none⟩) 1 1) (bv [(j + 1) % 256]) := Sl.of_blk (n := 1) (c := 1) hb309 (Nat.le_refl _) (by simp) (by unfold maxLen; omega)
                    obtain ⟨v313, w314, hr, own315, gr316, mv317⟩ := run_append_sl2 (P := Try.prog) (w303.alloc (.cells #[.int .u8 (((j : Int) + 1) % 256)] 5)) wr.heap.size 22 22 5 i0 (.int .u8 0) 1 Try.underlying22 hi hz0 hz1 hz2 rfl v302 _ _ own310 _ (bv [(j + 1) % 256]) sd (bv_oneCell _) (by simp [maxLen]; omega) (by simp; omega) hH.size
                    refine Lib.wp_append_run _ (.tmp 32) (.tmp 35) 22 22 rfl _ _ rfl rfl v313 w314 hr ?_
                    simp only [Act.put, List.setIfInBounds_toArray, List.set_cons_zero, List.set_cons_succ, Nat.zero_add, decide_true, beq_self_eq_true]
                    have hH2 := own_below hH gr316 own310 hH.size
                    have hb318 := hb312.keeps (Keeps.grown gr316) (by simp only [Option.mem_toList]; exact ne308.out)
                    have ne319 : Hid ((v313).ownBlock ≠ some ((wr.heap.size + 1))) := mv317.ne hb312.lt ne308.out
                    rw [← bv_app] at own315
                    have sm320 := Lib.hid (Sl.of_own own315)
                    refine hK1.out _ _ hH2 (fun hH => ?_)
                    clear hK1 K1 hr gr316 mv317 hH2
                    refine wpAnyH_ready (rs := [11]) (by kernel_rfl) (by simp) ?_
                    refine AllReadyH.cons rfl (fun K1 hK1 => ?_) AllReadyH.nil
                    · rw [if_pos (by rfl)]
                      go_wp2_with fail
                      refine (hw1.out _ _ (sH.out.keep hH) (sK.out.keep hH) (slk.out.keep hH) sm320.out).mono ?_
                      rintro e w321 ⟨rfl, hBa⟩
                      have hb322 := hb318.keep hBa
                      refine hK1.out _ _ (below_call hH hH.size hBa) (fun hH => ?_)
                      clear hK1 K1 hBa
                      refine wpAnyH_ready (rs := [13]) (by kernel_rfl) (by simp) ?_
                      refine AllReadyH.cons rfl (fun K1 hK1 => ?_) AllReadyH.nil
                      · rw [if_pos (by rfl)]
                        refine wp_storeA 25 (.tmp 12) (.tmp 37) rfl 32 arrH _ _ rfl (bv (expB k l (j + 1))) rfl 25 _ hb322 hXl.out (by simp) (ones_bv _) ?_
                        intro w323 hb324 hKb
                        rw [putL_all (by rw [hXl.out]; simp)] at hb324
                        refine hK1.out _ _ (hH.trans (hKb.below hH.size (by intro b hb; simp only [List.mem_singleton] at hb; subst hb; exact hGE.out))) (fun hH => ?_)
                        clear hK1 K1 hKb
                        refine wpAnyH_done (by kernel_rfl) ?_ _
                        go_wp2_with fail
                        go_meet
                        exact ⟨_, rfl, hb324, hH⟩
              · go_simp
                have q0 : w296.heap.size = w296.heap.size := by rfl
                have q : w296.heap.size = w296.heap.size := q0
                have hb325 : Blk (w296.alloc (.cells #[.int .u8 (((j : Int) + 1) % 256)] 5)) w296.heap.size 5 [.int .u8 (((j : Int) + 1) % 256)] := by rw [← q0]; exact Blk.new_at (w := w296) rfl rfl
                have own326 : (w296.alloc (.cells #[.int .u8 (((j : Int) + 1) % 256)] 5)).ownsRow wr.heap.size 5 1 v295 ((expB k l j).length) (bv (expB k l j)) := own297.alloc (.cells #[.int .u8 (((j : Int) + 1) % 256)] 5)
                have ne327 : Hid ((v295).ownBlock ≠ some w296.heap.size) := fun e => by have h9 : w296.heap.size < w296.heap.size := (own297.lt _ e).2; omega
                have hb328 : Blk (w296.alloc (.cells #[.int .u8 (((j : Int) + 1) % 256)] 5)) ((wr.heap.size + 1)) 25 (bv (zeros 32)) := hb300.alloc (.cells #[.int .u8 (((j : Int) + 1) % 256)] 5)
                refine hK1.out _ _ (hH.alloc hH.size _) (fun hH => ?_)
                clear hK1 K1 q q0
                refine wpAnyH_ready (rs := [6]) (by kernel_rfl) (by simp) ?_
                refine AllReadyH.cons rfl (fun K1 hK1 => ?_) AllReadyH.nil
                · rw [if_pos (by rfl)]
                  obtain ⟨v329, w330, hr, own331, gr332, mv333⟩ := run_append_str2 (P := Try.prog) (w296.alloc (.cells #[.int .u8 (((j : Int) + 1) % 256)] 5)) wr.heap.size 22 9 22 5 i0 Try.underlying22 Try.underlying9 hi hz0 hz1 hz2 v295 _ _ own326 (bstr l) (by rw [hsz]; simp [maxLen]; omega) (by rw [hsz]; omega) hH.size
                  refine Lib.wp_append_run _ (.tmp 30) (.tmp 31) 22 9 rfl _ _ rfl rfl v329 w330 hr ?_
                  simp only [Act.put, List.setIfInBounds_toArray, List.set_cons_zero, List.set_cons_succ, Nat.zero_add, decide_true, beq_self_eq_true]
                  have hH2 := own_below hH gr332 own326 hH.size
                  have hb334 := hb325.keeps (Keeps.grown gr332) (by simp only [Option.mem_toList]; exact ne327.out)
                  have ne335 : Hid ((v329).ownBlock ≠ some (w296.heap.size)) := mv333.ne hb325.lt ne327.out
                  have hb336 := hb328.keeps (Keeps.grown gr332) (by simp only [Option.mem_toList]; exact ne301.out)
                  have ne337 : Hid ((v329).ownBlock ≠ some ((wr.heap.size + 1))) := mv333.ne hb328.lt ne301.out
                  rw [hscv.out, hsz, ← bv_app] at own331
                  have own331 : w330.ownsRow wr.heap.size 5 1 v329 (expB k l j ++ l).length (bv (expB k l j ++ l)) := by rw [List.length_append]; exact own331
                  refine hK1.out _ _ hH2 (fun hH => ?_)
                  clear hK1 K1 hr gr332 mv333 hH2
                  refine wpAnyH_ready (rs := [10]) (by kernel_rfl) (by simp) ?_
                  refine AllReadyH.cons rfl (fun K1 hK1 => ?_) AllReadyH.nil
                  · rw [if_pos (by rfl)]
                    have sd : Sl w330 (.slice (some ⟨w296.heap.size, 0, none⟩) 1 1) (bv [(j + 1) % 256]) := Sl.of_blk (n := 1) (c := 1) hb334 (Nat.le_refl _) (by simp) (by unfold maxLen; omega)
                    obtain ⟨v338, w339, hr, own340, gr341, mv342⟩ := run_append_sl2 (P := Try.prog) w330 wr.heap.size 22 22 5 i0 (.int .u8 0) 1 Try.underlying22 hi hz0 hz1 hz2 rfl v329 _ _ own331 _ (bv [(j + 1) % 256]) sd (bv_oneCell _) (by simp [maxLen]; omega) (by simp; omega) hH.size
                    refine Lib.wp_append_run _ (.tmp 32) (.tmp 35) 22 22 rfl _ _ rfl rfl v338 w339 hr ?_
                    simp only [Act.put, List.setIfInBounds_toArray, List.set_cons_zero, List.set_cons_succ, Nat.zero_add, decide_true, beq_self_eq_true]
                    have hH2 := own_below hH gr341 own331 hH.size
                    have hb343 := hb336.keeps (Keeps.grown gr341) (by simp only [Option.mem_toList]; exact ne337.out)
                    have ne344 : Hid ((v338).ownBlock ≠ some ((wr.heap.size + 1))) := mv342.ne hb336.lt ne337.out
                    rw [← bv_app] at own340
                    have sm345 := Lib.hid (Sl.of_own own340)
                    refine hK1.out _ _ hH2 (fun hH => ?_)
                    clear hK1 K1 hr gr341 mv342 hH2
                    refine wpAnyH_ready (rs := [11]) (by kernel_rfl) (by simp) ?_
                    refine AllReadyH.cons rfl (fun K1 hK1 => ?_) AllReadyH.nil
                    · rw [if_pos (by rfl)]
                      go_wp2_with fail
                      refine (hw1.out _ _ (sH.out.keep hH) (sK.out.keep hH) (slk.out.keep hH) sm345.out).mono ?_
                      rintro e w346 ⟨rfl, hBa⟩
                      have hb347 := hb343.keep hBa
                      refine hK1.out _ _ (below_call hH hH.size hBa) (fun hH => ?_)
                      clear hK1 K1 hBa
                      refine wpAnyH_ready (rs := [13]) (by kernel_rfl) (by simp) ?_
                      refine AllReadyH.cons rfl (fun K1 hK1 => ?_) AllReadyH.nil
                      · rw [if_pos (by rfl)]
                        refine wp_storeA 25 (.tmp 12) (.tmp 37) rfl 32 arrH _ _ rfl (bv (expB k l (j + 1))) rfl 25 _ hb347 hXl.out (by simp) (ones_bv _) ?_
                        intro w348 hb349 hKb
                        rw [putL_all (by rw [hXl.out]; simp)] at hb349
                        refine hK1.out _ _ (hH.trans (hKb.below hH.size (by intro b hb; simp only [List.mem_singleton] at hb; subst hb; exact hGE.out))) (fun hH => ?_)
                        clear hK1 K1 hKb
                        refine wpAnyH_done (by kernel_rfl) ?_ _
                        go_wp2_with fail
                        go_meet
                        exact ⟨_, rfl, hb349, hH⟩
            · go_simp
              have q0 : ((wr.alloc (.cells #[] 5)).alloc (.cells (bv (zeros 32)).toArray 25)).heap.size = (wr.heap.size + 2) := by go_simp
              have q : ((wr.alloc (.cells #[] 5)).alloc (.cells (bv (zeros 32)).toArray 25)).drew.heap.size = (wr.heap.size + 2) := q0
              have hb350 : Blk (((wr.alloc (.cells #[] 5)).alloc (.cells (bv (zeros 32)).toArray 25)).alloc (.cells #[.int .u8 (((j : Int) + 1) % 256)] 5)).drew (wr.heap.size + 2) 5 [.int .u8 (((j : Int) + 1) % 256)] := by rw [← q0]; exact Blk.new_at (w := ((wr.alloc (.cells #[] 5)).alloc (.cells (bv (zeros 32)).toArray 25))) rfl rfl
              have own351 : (((wr.alloc (.cells #[] 5)).alloc (.cells (bv (zeros 32)).toArray 25)).alloc (.cells #[.int .u8 (((j : Int) + 1) % 256)] 5)).drew.ownsRow wr.heap.size 5 1 (Value.slice (some ⟨wr.heap.size, 0, none⟩) 0 0) (0) (bv ([] : List Nat)) := own293.alloc (.cells #[.int .u8 (((j : Int) + 1) % 256)] 5)
              have ne352 : Hid (((Value.slice (some ⟨wr.heap.size, 0, none⟩) 0 0)).ownBlock ≠ some (wr.heap.size + 2)) := fun e => by have h9 : (wr.heap.size + 2) < ((wr.alloc (.cells #[] 5)).alloc (.cells (bv (zeros 32)).toArray 25)).drew.heap.size := (own293.lt _ e).2; omega
              have hb353 : Blk (((wr.alloc (.cells #[] 5)).alloc (.cells (bv (zeros 32)).toArray 25)).alloc (.cells #[.int .u8 (((j : Int) + 1) % 256)] 5)).drew ((wr.heap.size + 1)) 25 (bv (zeros 32)) := hb292.alloc (.cells #[.int .u8 (((j : Int) + 1) % 256)] 5)
              refine hK1.out _ _ (hH.alloc hH.size _) (fun hH => ?_)
              clear hK1 K1 q q0
              refine wpAnyH_ready (rs := [4]) (by kernel_rfl) (by simp) ?_
              refine AllReadyH.cons rfl (fun K1 hK1 => ?_) AllReadyH.nil
              · rw [if_pos (by rfl)]
                obtain ⟨v354, w355, hr, own356, gr357, mv358⟩ := run_append_sl2 (P := Try.prog) (((wr.alloc (.cells #[] 5)).alloc (.cells (bv (zeros 32)).toArray 25)).alloc (.cells #[.int .u8 (((j : Int) + 1) % 256)] 5)).drew wr.heap.size 22 22 5 i0 (.int .u8 0) 1 Try.underlying22 hi hz0 hz1 hz2 rfl (Value.slice (some ⟨wr.heap.size, 0, none⟩) 0 0) 0 [] own351 _ (bv (expB k l j)) (hsl.out.keep hH) (bv_oneCell _) (by rw [bv_length]; simp [maxLen]; omega) (by rw [bv_length]; omega) hH.size
                refine Lib.wp_append_run _ (.tmp 28) (.tmp 29) 22 22 rfl _ _ rfl rfl v354 w355 hr ?_
                simp only [Act.put, List.setIfInBounds_toArray, List.set_cons_zero, List.set_cons_succ, Nat.zero_add, decide_true, beq_self_eq_true]
                have hH2 := own_below hH gr357 own351 hH.size
                have hb359 := hb350.keeps (Keeps.grown gr357) (by simp only [Option.mem_toList]; exact ne352.out)
                have ne360 : Hid ((v354).ownBlock ≠ some ((wr.heap.size + 2))) := mv358.ne hb350.lt ne352.out
                have hb361 := hb353.keeps (Keeps.grown gr357) (by simp only [Option.mem_toList]; exact ne294.out)
                have ne362 : Hid ((v354).ownBlock ≠ some ((wr.heap.size + 1))) := mv358.ne hb353.lt ne294.out
                rw [Nat.zero_add, List.nil_append, bv_length] at own356
                refine hK1.out _ _ hH2 (fun hH => ?_)
                clear hK1 K1 hr gr357 mv358 hH2
                refine wpAnyH_ready (rs := [6]) (by kernel_rfl) (by simp) ?_
                refine AllReadyH.cons rfl (fun K1 hK1 => ?_) AllReadyH.nil
                · rw [if_pos (by rfl)]
                  obtain ⟨v363, w364, hr, own365, gr366, mv367⟩ := run_append_str2 (P := Try.prog) w355 wr.heap.size 22 9 22 5 i0 Try.underlying22 Try.underlying9 hi hz0 hz1 hz2 v354 _ _ own356 (bstr l) (by rw [hsz]; simp [maxLen]; omega) (by rw [hsz]; omega) hH.size
                  refine Lib.wp_append_run _ (.tmp 30) (.tmp 31) 22 9 rfl _ _ rfl rfl v363 w364 hr ?_
                  simp only [Act.put, List.setIfInBounds_toArray, List.set_cons_zero, List.set_cons_succ, Nat.zero_add, decide_true, beq_self_eq_true]
                  have hH2 := own_below hH gr366 own356 hH.size
                  have hb368 := hb359.keeps (Keeps.grown gr366) (by simp only [Option.mem_toList]; exact ne360.out)
                  have ne369 : Hid ((v363).ownBlock ≠ some ((wr.heap.size + 2))) := mv367.ne hb359.lt ne360.out
                  have hb370 := hb361.keeps (Keeps.grown gr366) (by simp only [Option.mem_toList]; exact ne362.out)
                  have ne371 : Hid ((v363).ownBlock ≠ some ((wr.heap.size + 1))) := mv367.ne hb361.lt ne362.out
                  rw [hscv.out, hsz, ← bv_app] at own365
                  have own365 : w364.ownsRow wr.heap.size 5 1 v363 (expB k l j ++ l).length (bv (expB k l j ++ l)) := by rw [List.length_append]; exact own365
                  refine hK1.out _ _ hH2 (fun hH => ?_)
                  clear hK1 K1 hr gr366 mv367 hH2
                  refine wpAnyH_ready (rs := [10]) (by kernel_rfl) (by simp) ?_
                  refine AllReadyH.cons rfl (fun K1 hK1 => ?_) AllReadyH.nil
                  · rw [if_pos (by rfl)]
                    have sd : Sl w364 (.slice (some ⟨(wr.heap.size + 2), 0, none⟩) 1 1) (bv [(j + 1) % 256]) := Sl.of_blk (n := 1) (c := 1) hb368 (Nat.le_refl _) (by simp) (by unfold maxLen; omega)
                    obtain ⟨v372, w373, hr, own374, gr375, mv376⟩ := run_append_sl2 (P := Try.prog) w364 wr.heap.size 22 22 5 i0 (.int .u8 0) 1 Try.underlying22 hi hz0 hz1 hz2 rfl v363 _ _ own365 _ (bv [(j + 1) % 256]) sd (bv_oneCell _) (by simp [maxLen]; omega) (by simp; omega) hH.size
                    refine Lib.wp_append_run _ (.tmp 32) (.tmp 35) 22 22 rfl _ _ rfl rfl v372 w373 hr ?_
                    simp only [Act.put, List.setIfInBounds_toArray, List.set_cons_zero, List.set_cons_succ, Nat.zero_add, decide_true, beq_self_eq_true]
                    have hH2 := own_below hH gr375 own365 hH.size
                    have hb377 := hb370.keeps (Keeps.grown gr375) (by simp only [Option.mem_toList]; exact ne371.out)
                    have ne378 : Hid ((v372).ownBlock ≠ some ((wr.heap.size + 1))) := mv376.ne hb370.lt ne371.out
                    rw [← bv_app] at own374
                    have sm379 := Lib.hid (Sl.of_own own374)
                    refine hK1.out _ _ hH2 (fun hH => ?_)
                    clear hK1 K1 hr gr375 mv376 hH2
                    refine wpAnyH_ready (rs := [11]) (by kernel_rfl) (by simp) ?_
                    refine AllReadyH.cons rfl (fun K1 hK1 => ?_) AllReadyH.nil
                    · rw [if_pos (by rfl)]
                      go_wp2_with fail
                      refine (hw1.out _ _ (sH.out.keep hH) (sK.out.keep hH) (slk.out.keep hH) sm379.out).mono ?_
                      rintro e w380 ⟨rfl, hBa⟩
                      have hb381 := hb377.keep hBa
                      refine hK1.out _ _ (below_call hH hH.size hBa) (fun hH => ?_)
                      clear hK1 K1 hBa
                      refine wpAnyH_ready (rs := [13]) (by kernel_rfl) (by simp) ?_
                      refine AllReadyH.cons rfl (fun K1 hK1 => ?_) AllReadyH.nil
                      · rw [if_pos (by rfl)]
                        refine wp_storeA 25 (.tmp 12) (.tmp 37) rfl 32 arrH _ _ rfl (bv (expB k l (j + 1))) rfl 25 _ hb381 hXl.out (by simp) (ones_bv _) ?_
                        intro w382 hb383 hKb
                        rw [putL_all (by rw [hXl.out]; simp)] at hb383
                        refine hK1.out _ _ (hH.trans (hKb.below hH.size (by intro b hb; simp only [List.mem_singleton] at hb; subst hb; exact hGE.out))) (fun hH => ?_)
                        clear hK1 K1 hKb
                        refine wpAnyH_done (by kernel_rfl) ?_ _
                        go_wp2_with fail
                        go_meet
                        exact ⟨_, rfl, hb383, hH⟩
        · go_simp
          have q0 : wr.heap.size = wr.heap.size := by rfl
          have q : wr.drew.heap.size = wr.heap.size := q0
          have hb384 : Blk (wr.alloc (.cells #[.int .u8 (((j : Int) + 1) % 256)] 5)).drew wr.heap.size 5 [.int .u8 (((j : Int) + 1) % 256)] := by rw [← q0]; exact Blk.new_at (w := wr) rfl rfl
          refine hK1.out _ _ (hH.alloc hH.size _) (fun hH => ?_)
          clear hK1 K1 q q0
          refine wpAnyH_ready (rs := [2, 12]) (by kernel_rfl) (by simp) ?_
          refine AllReadyH.cons rfl (fun K1 hK1 => ?_) (AllReadyH.cons rfl (fun K1 hK1 => ?_) AllReadyH.nil)
          · go_simp
            have q0 : (wr.alloc (.cells #[.int .u8 (((j : Int) + 1) % 256)] 5)).heap.size = (wr.heap.size + 1) := by go_simp
            have q : (wr.alloc (.cells #[.int .u8 (((j : Int) + 1) % 256)] 5)).drew.heap.size = (wr.heap.size + 1) := q0
            have own385 : ((wr.alloc (.cells #[.int .u8 (((j : Int) + 1) % 256)] 5)).alloc (.cells #[] 5)).drew.ownsRow wr.heap.size 5 1 (Value.slice (some ⟨(wr.heap.size + 1), 0, none⟩) 0 0) 0 [] := by rw [← q0]; exact World.ownsRow_made (wr.alloc (.cells #[.int .u8 (((j : Int) + 1) % 256)] 5)) #[] 0 hH.size (Nat.zero_le _) rfl
            have hb386 : Blk ((wr.alloc (.cells #[.int .u8 (((j : Int) + 1) % 256)] 5)).alloc (.cells #[] 5)).drew (wr.heap.size) 5 [.int .u8 (((j : Int) + 1) % 256)] := hb384.alloc (.cells #[] 5)
            have ne387 : Hid ((Value.slice (some ⟨(wr.heap.size + 1), 0, none⟩) 0 0).ownBlock ≠ some (wr.heap.size)) := fun e => by have h9 : wr.heap.size < (wr.alloc (.cells #[.int .u8 (((j : Int) + 1) % 256)] 5)).drew.heap.size := hb384.lt; injection e with e; have h8 : (wr.heap.size + 1) = wr.heap.size := e; omega
            refine hK1.out _ _ (hH.alloc hH.size _) (fun hH => ?_)
            clear hK1 K1 q q0
            refine wpAnyH_ready (rs := [4, 12]) (by kernel_rfl) (by simp) ?_
            refine AllReadyH.cons rfl (fun K1 hK1 => ?_) (AllReadyH.cons rfl (fun K1 hK1 => ?_) AllReadyH.nil)
            · rw [if_pos (by rfl)]
              obtain ⟨v388, w389, hr, own390, gr391, mv392⟩ := run_append_sl2 (P := Try.prog) ((wr.alloc (.cells #[.int .u8 (((j : Int) + 1) % 256)] 5)).alloc (.cells #[] 5)).drew wr.heap.size 22 22 5 i0 (.int .u8 0) 1 Try.underlying22 hi hz0 hz1 hz2 rfl (Value.slice (some ⟨(wr.heap.size + 1), 0, none⟩) 0 0) 0 [] own385 _ (bv (expB k l j)) (hsl.out.keep hH) (bv_oneCell _) (by rw [bv_length]; simp [maxLen]; omega) (by rw [bv_length]; omega) hH.size
              refine Lib.wp_append_run _ (.tmp 28) (.tmp 29) 22 22 rfl _ _ rfl rfl v388 w389 hr ?_
              simp only [Act.put, List.setIfInBounds_toArray, List.set_cons_zero, List.set_cons_succ, Nat.zero_add, decide_true, beq_self_eq_true]
              have hH2 := own_below hH gr391 own385 hH.size
              have hb393 := hb386.keeps (Keeps.grown gr391) (by simp only [Option.mem_toList]; exact ne387.out)
              have ne394 : Hid ((v388).ownBlock ≠ some (wr.heap.size)) := mv392.ne hb386.lt ne387.out
              rw [Nat.zero_add, List.nil_append, bv_length] at own390
              refine hK1.out _ _ hH2 (fun hH => ?_)
              clear hK1 K1 hr gr391 mv392 hH2
              refine wpAnyH_ready (rs := [6, 12]) (by kernel_rfl) (by simp) ?_
              refine AllReadyH.cons rfl (fun K1 hK1 => ?_) (AllReadyH.cons rfl (fun K1 hK1 => ?_) AllReadyH.nil)
              · rw [if_pos (by rfl)]
                obtain ⟨v395, w396, hr, own397, gr398, mv399⟩ := run_append_str2 (P := Try.prog) w389 wr.heap.size 22 9 22 5 i0 Try.underlying22 Try.underlying9 hi hz0 hz1 hz2 v388 _ _ own390 (bstr l) (by rw [hsz]; simp [maxLen]; omega) (by rw [hsz]; omega) hH.size
                refine Lib.wp_append_run _ (.tmp 30) (.tmp 31) 22 9 rfl _ _ rfl rfl v395 w396 hr ?_
                simp only [Act.put, List.setIfInBounds_toArray, List.set_cons_zero, List.set_cons_succ, Nat.zero_add, decide_true, beq_self_eq_true]
                have hH2 := own_below hH gr398 own390 hH.size
                have hb400 := hb393.keeps (Keeps.grown gr398) (by simp only [Option.mem_toList]; exact ne394.out)
                have ne401 : Hid ((v395).ownBlock ≠ some (wr.heap.size)) := mv399.ne hb393.lt ne394.out
                rw [hscv.out, hsz, ← bv_app] at own397
                have own397 : w396.ownsRow wr.heap.size 5 1 v395 (expB k l j ++ l).length (bv (expB k l j ++ l)) := by rw [List.length_append]; exact own397
                refine hK1.out _ _ hH2 (fun hH => ?_)
                clear hK1 K1 hr gr398 mv399 hH2
                refine wpAnyH_ready (rs := [10, 12]) (by kernel_rfl) (by simp) ?_
                refine AllReadyH.cons rfl (fun K1 hK1 => ?_) (AllReadyH.cons rfl (fun K1 hK1 => ?_) AllReadyH.nil)
                · rw [if_pos (by rfl)]
                  have sd : Sl w396 (.slice (some ⟨wr.heap.size, 0, none⟩) 1 1) (bv [(j + 1) % 256]) := Sl.of_blk (n := 1) (c := 1) hb400 (Nat.le_refl _) (by simp) (by unfold maxLen; omega)
                  obtain ⟨v402, w403, hr, own404, gr405, mv406⟩ := run_append_sl2 (P := Try.prog) w396 wr.heap.size 22 22 5 i0 (.int .u8 0) 1 Try.underlying22 hi hz0 hz1 hz2 rfl v395 _ _ own397 _ (bv [(j + 1) % 256]) sd (bv_oneCell _) (by simp [maxLen]; omega) (by simp; omega) hH.size
                  refine Lib.wp_append_run _ (.tmp 32) (.tmp 35) 22 22 rfl _ _ rfl rfl v402 w403 hr ?_
                  simp only [Act.put, List.setIfInBounds_toArray, List.set_cons_zero, List.set_cons_succ, Nat.zero_add, decide_true, beq_self_eq_true]
                  have hH2 := own_below hH gr405 own397 hH.size
                  rw [← bv_app] at own404
                  have sm407 := Lib.hid (Sl.of_own own404)
                  refine hK1.out _ _ hH2 (fun hH => ?_)
                  clear hK1 K1 hr gr405 mv406 hH2
                  refine wpAnyH_ready (rs := [11, 12]) (by kernel_rfl) (by simp) ?_
                  refine AllReadyH.cons rfl (fun K1 hK1 => ?_) (AllReadyH.cons rfl (fun K1 hK1 => ?_) AllReadyH.nil)
                  · rw [if_pos (by rfl)]
                    go_wp2_with fail
                    refine (hw1.out _ _ (sH.out.keep hH) (sK.out.keep hH) (slk.out.keep hH) sm407.out).mono ?_
                    rintro e w408 ⟨rfl, hBa⟩
                    refine hK1.out _ _ (below_call hH hH.size hBa) (fun hH => ?_)
                    clear hK1 K1 hBa
                    refine wpAnyH_ready (rs := [12]) (by kernel_rfl) (by simp) ?_
                    refine AllReadyH.cons rfl (fun K1 hK1 => ?_) AllReadyH.nil
                    · go_simp
                      have q0 : w408.heap.size = w408.heap.size := by rfl
                      have q : w408.heap.size = w408.heap.size := q0
                      have hb409 : Blk (w408.alloc (.cells (bv (zeros 32)).toArray 25)) w408.heap.size 25 (bv (zeros 32)) := by rw [← q0]; exact Blk.new_at (w := w408) rfl rfl
                      have hGE : Hid (wr.heap.size ≤ w408.heap.size) := by show _ ≤ _; rw [← q]; exact hH.size
                      refine hK1.out _ _ (hH.alloc hH.size _) (fun hH => ?_)
                      clear hK1 K1 q q0
                      refine wpAnyH_ready (rs := [13]) (by kernel_rfl) (by simp) ?_
                      refine AllReadyH.cons rfl (fun K1 hK1 => ?_) AllReadyH.nil
                      · rw [if_pos (by rfl)]
                        refine wp_storeA 25 (.tmp 12) (.tmp 37) rfl 32 arrH _ _ rfl (bv (expB k l (j + 1))) rfl 25 _ hb409 hXl.out (by simp) (ones_bv _) ?_
                        intro w410 hb411 hKb
                        rw [putL_all (by rw [hXl.out]; simp)] at hb411
                        refine hK1.out _ _ (hH.trans (hKb.below hH.size (by intro b hb; simp only [List.mem_singleton] at hb; subst hb; exact hGE.out))) (fun hH => ?_)
                        clear hK1 K1 hKb
                        refine wpAnyH_done (by kernel_rfl) ?_ _
                        go_wp2_with fail
                        go_meet
                        exact ⟨_, rfl, hb411, hH⟩
                  · go_simp
                    have q0 : w403.heap.size = w403.heap.size := by rfl
                    have q : w403.heap.size = w403.heap.size := q0
                    have hb412 : Blk (w403.alloc (.cells (bv (zeros 32)).toArray 25)) w403.heap.size 25 (bv (zeros 32)) := by rw [← q0]; exact Blk.new_at (w := w403) rfl rfl
                    have hGE : Hid (wr.heap.size ≤ w403.heap.size) := by show _ ≤ _; rw [← q]; exact hH.size
                    have sm413 : Hid (Sl (w403.alloc (.cells (bv (zeros 32)).toArray 25)) v402 (bv (expB k l j ++ l ++ [(j + 1) % 256]))) := sm407.out.keep ((Below.refl _ w403).alloc (Nat.le_refl _) (.cells (bv (zeros 32)).toArray 25))
                    refine hK1.out _ _ (hH.alloc hH.size _) (fun hH => ?_)
                    clear hK1 K1 q q0
                    refine wpAnyH_ready (rs := [11]) (by kernel_rfl) (by simp) ?_
                    refine AllReadyH.cons rfl (fun K1 hK1 => ?_) AllReadyH.nil
                    · rw [if_pos (by rfl)]
                      go_wp2_with fail
                      refine (hw1.out _ _ (sH.out.keep hH) (sK.out.keep hH) (slk.out.keep hH) sm413.out).mono ?_
                      rintro e w414 ⟨rfl, hBa⟩
                      have hb415 := hb412.keep hBa
                      refine hK1.out _ _ (below_call hH hH.size hBa) (fun hH => ?_)
                      clear hK1 K1 hBa
                      refine wpAnyH_ready (rs := [13]) (by kernel_rfl) (by simp) ?_
                      refine AllReadyH.cons rfl (fun K1 hK1 => ?_) AllReadyH.nil
                      · rw [if_pos (by rfl)]
                        refine wp_storeA 25 (.tmp 12) (.tmp 37) rfl 32 arrH _ _ rfl (bv (expB k l (j + 1))) rfl 25 _ hb415 hXl.out (by simp) (ones_bv _) ?_
                        intro w416 hb417 hKb
                        rw [putL_all (by rw [hXl.out]; simp)] at hb417
                        refine hK1.out _ _ (hH.trans (hKb.below hH.size (by intro b hb; simp only [List.mem_singleton] at hb; subst hb; exact hGE.out))) (fun hH => ?_)
                        clear hK1 K1 hKb
                        refine wpAnyH_done (by kernel_rfl) ?_ _
                        go_wp2_with fail
                        go_meet
                        exact ⟨_, rfl, hb417, hH⟩
                · go_simp
                  have q0 : w396.heap.size = w396.heap.size := by rfl
                  have q : w396.heap.size = w396.heap.size := q0
                  have hb418 : Blk (w396.alloc (.cells (bv (zeros 32)).toArray 25)) w396.heap.size 25 (bv (zeros 32)) := by rw [← q0]; exact Blk.new_at (w := w396) rfl rfl
                  have hGE : Hid (wr.heap.size ≤ w396.heap.size) := by show _ ≤ _; rw [← q]; exact hH.size
                  have own419 : (w396.alloc (.cells (bv (zeros 32)).toArray 25)).ownsRow wr.heap.size 5 1 v395 ((expB k l j ++ l).length) (bv (expB k l j ++ l)) := own397.alloc (.cells (bv (zeros 32)).toArray 25)
                  have ne420 : Hid ((v395).ownBlock ≠ some w396.heap.size) := fun e => by have h9 : w396.heap.size < w396.heap.size := (own397.lt _ e).2; omega
                  have hb421 : Blk (w396.alloc (.cells (bv (zeros 32)).toArray 25)) (wr.heap.size) 5 [.int .u8 (((j : Int) + 1) % 256)] := hb400.alloc (.cells (bv (zeros 32)).toArray 25)
                  refine hK1.out _ _ (hH.alloc hH.size _) (fun hH => ?_)
                  clear hK1 K1 q q0
                  refine wpAnyH_ready (rs := [10]) (by kernel_rfl) (by simp) ?_
                  refine AllReadyH.cons rfl (fun K1 hK1 => ?_) AllReadyH.nil
                  · rw [if_pos (by rfl)]
                    have sd : Sl (w396.alloc (.cells (bv (zeros 32)).toArray 25)) (.slice (some ⟨wr.heap.size, 0, none⟩) 1 1) (bv [(j + 1) % 256]) := Sl.of_blk (n := 1) (c := 1) hb421 (Nat.le_refl _) (by simp) (by unfold maxLen; omega)
                    obtain ⟨v422, w423, hr, own424, gr425, mv426⟩ := run_append_sl2 (P := Try.prog) (w396.alloc (.cells (bv (zeros 32)).toArray 25)) wr.heap.size 22 22 5 i0 (.int .u8 0) 1 Try.underlying22 hi hz0 hz1 hz2 rfl v395 _ _ own419 _ (bv [(j + 1) % 256]) sd (bv_oneCell _) (by simp [maxLen]; omega) (by simp; omega) hH.size
                    refine Lib.wp_append_run _ (.tmp 32) (.tmp 35) 22 22 rfl _ _ rfl rfl v422 w423 hr ?_
                    simp only [Act.put, List.setIfInBounds_toArray, List.set_cons_zero, List.set_cons_succ, Nat.zero_add, decide_true, beq_self_eq_true]
                    have hH2 := own_below hH gr425 own419 hH.size
                    have hb427 := hb418.keeps (Keeps.grown gr425) (by simp only [Option.mem_toList]; exact ne420.out)
                    have ne428 : Hid ((v422).ownBlock ≠ some (w396.heap.size)) := mv426.ne hb418.lt ne420.out
                    rw [← bv_app] at own424
                    have sm429 := Lib.hid (Sl.of_own own424)
                    refine hK1.out _ _ hH2 (fun hH => ?_)
                    clear hK1 K1 hr gr425 mv426 hH2
                    refine wpAnyH_ready (rs := [11]) (by kernel_rfl) (by simp) ?_
                    refine AllReadyH.cons rfl (fun K1 hK1 => ?_) AllReadyH.nil
                    · rw [if_pos (by rfl)]
                      go_wp2_with fail
                      refine (hw1.out _ _ (sH.out.keep hH) (sK.out.keep hH) (slk.out.keep hH) sm429.out).mono ?_
                      rintro e w430 ⟨rfl, hBa⟩
                      have hb431 := hb427.keep hBa
                      refine hK1.out _ _ (below_call hH hH.size hBa) (fun hH => ?_)
                      clear hK1 K1 hBa
                      refine wpAnyH_ready (rs := [13]) (by kernel_rfl) (by simp) ?_
                      refine AllReadyH.cons rfl (fun K1 hK1 => ?_) AllReadyH.nil
                      · rw [if_pos (by rfl)]
                        refine wp_storeA 25 (.tmp 12) (.tmp 37) rfl 32 arrH _ _ rfl (bv (expB k l (j + 1))) rfl 25 _ hb431 hXl.out (by simp) (ones_bv _) ?_
                        intro w432 hb433 hKb
                        rw [putL_all (by rw [hXl.out]; simp)] at hb433
                        refine hK1.out _ _ (hH.trans (hKb.below hH.size (by intro b hb; simp only [List.mem_singleton] at hb; subst hb; exact hGE.out))) (fun hH => ?_)
                        clear hK1 K1 hKb
                        refine wpAnyH_done (by kernel_rfl) ?_ _
                        go_wp2_with fail
                        go_meet
                        exact ⟨_, rfl, hb433, hH⟩
              · go_simp
                have q0 : w389.heap.size = w389.heap.size := by rfl
                have q : w389.heap.size = w389.heap.size := q0
                have hb434 : Blk (w389.alloc (.cells (bv (zeros 32)).toArray 25)) w389.heap.size 25 (bv (zeros 32)) := by rw [← q0]; exact Blk.new_at (w := w389) rfl rfl
                have hGE : Hid (wr.heap.size ≤ w389.heap.size) := by show _ ≤ _; rw [← q]; exact hH.size
                have own435 : (w389.alloc (.cells (bv (zeros 32)).toArray 25)).ownsRow wr.heap.size 5 1 v388 ((expB k l j).length) (bv (expB k l j)) := own390.alloc (.cells (bv (zeros 32)).toArray 25)
                have ne436 : Hid ((v388).ownBlock ≠ some w389.heap.size) := fun e => by have h9 : w389.heap.size < w389.heap.size := (own390.lt _ e).2; omega
                have hb437 : Blk (w389.alloc (.cells (bv (zeros 32)).toArray 25)) (wr.heap.size) 5 [.int .u8 (((j : Int) + 1) % 256)] := hb393.alloc (.cells (bv (zeros 32)).toArray 25)
                refine hK1.out _ _ (hH.alloc hH.size _) (fun hH => ?_)
                clear hK1 K1 q q0
                refine wpAnyH_ready (rs := [6]) (by kernel_rfl) (by simp) ?_
                refine AllReadyH.cons rfl (fun K1 hK1 => ?_) AllReadyH.nil
                · rw [if_pos (by rfl)]
                  obtain ⟨v438, w439, hr, own440, gr441, mv442⟩ := run_append_str2 (P := Try.prog) (w389.alloc (.cells (bv (zeros 32)).toArray 25)) wr.heap.size 22 9 22 5 i0 Try.underlying22 Try.underlying9 hi hz0 hz1 hz2 v388 _ _ own435 (bstr l) (by rw [hsz]; simp [maxLen]; omega) (by rw [hsz]; omega) hH.size
                  refine Lib.wp_append_run _ (.tmp 30) (.tmp 31) 22 9 rfl _ _ rfl rfl v438 w439 hr ?_
                  simp only [Act.put, List.setIfInBounds_toArray, List.set_cons_zero, List.set_cons_succ, Nat.zero_add, decide_true, beq_self_eq_true]
                  have hH2 := own_below hH gr441 own435 hH.size
                  have hb443 := hb437.keeps (Keeps.grown gr441) (by simp only [Option.mem_toList]; exact ne394.out)
                  have ne444 : Hid ((v438).ownBlock ≠ some (wr.heap.size)) := mv442.ne hb437.lt ne394.out
                  have hb445 := hb434.keeps (Keeps.grown gr441) (by simp only [Option.mem_toList]; exact ne436.out)
                  have ne446 : Hid ((v438).ownBlock ≠ some (w389.heap.size)) := mv442.ne hb434.lt ne436.out
                  rw [hscv.out, hsz, ← bv_app] at own440
                  have own440 : w439.ownsRow wr.heap.size 5 1 v438 (expB k l j ++ l).length (bv (expB k l j ++ l)) := by rw [List.length_append]; exact own440
                  refine hK1.out _ _ hH2 (fun hH => ?_)
                  clear hK1 K1 hr gr441 mv442 hH2
                  refine wpAnyH_ready (rs := [10]) (by kernel_rfl) (by simp) ?_
                  refine AllReadyH.cons rfl (fun K1 hK1 => ?_) AllReadyH.nil
                  · rw [if_pos (by rfl)]
                    have sd : Sl w439 (.slice (some ⟨wr.heap.size, 0, none⟩) 1 1) (bv [(j + 1) % 256]) := Sl.of_blk (n := 1) (c := 1) hb443 (Nat.le_refl _) (by simp) (by unfold maxLen; omega)
                    obtain ⟨v447, w448, hr, own449, gr450, mv451⟩ := run_append_sl2 (P := Try.prog) w439 wr.heap.size 22 22 5 i0 (.int .u8 0) 1 Try.underlying22 hi hz0 hz1 hz2 rfl v438 _ _ own440 _ (bv [(j + 1) % 256]) sd (bv_oneCell _) (by simp [maxLen]; omega) (by simp; omega) hH.size
                    refine Lib.wp_append_run _ (.tmp 32) (.tmp 35) 22 22 rfl _ _ rfl rfl v447 w448 hr ?_
                    simp only [Act.put, List.setIfInBounds_toArray, List.set_cons_zero, List.set_cons_succ, Nat.zero_add, decide_true, beq_self_eq_true]
                    have hH2 := own_below hH gr450 own440 hH.size
                    have hb452 := hb445.keeps (Keeps.grown gr450) (by simp only [Option.mem_toList]; exact ne446.out)
                    have ne453 : Hid ((v447).ownBlock ≠ some (w389.heap.size)) := mv451.ne hb445.lt ne446.out
                    rw [← bv_app] at own449
                    have sm454 := Lib.hid (Sl.of_own own449)
                    refine hK1.out _ _ hH2 (fun hH => ?_)
                    clear hK1 K1 hr gr450 mv451 hH2
                    refine wpAnyH_ready (rs := [11]) (by kernel_rfl) (by simp) ?_
                    refine AllReadyH.cons rfl (fun K1 hK1 => ?_) AllReadyH.nil
                    · rw [if_pos (by rfl)]
                      go_wp2_with fail
                      refine (hw1.out _ _ (sH.out.keep hH) (sK.out.keep hH) (slk.out.keep hH) sm454.out).mono ?_
                      rintro e w455 ⟨rfl, hBa⟩
                      have hb456 := hb452.keep hBa
                      refine hK1.out _ _ (below_call hH hH.size hBa) (fun hH => ?_)
                      clear hK1 K1 hBa
                      refine wpAnyH_ready (rs := [13]) (by kernel_rfl) (by simp) ?_
                      refine AllReadyH.cons rfl (fun K1 hK1 => ?_) AllReadyH.nil
                      · rw [if_pos (by rfl)]
                        refine wp_storeA 25 (.tmp 12) (.tmp 37) rfl 32 arrH _ _ rfl (bv (expB k l (j + 1))) rfl 25 _ hb456 hXl.out (by simp) (ones_bv _) ?_
                        intro w457 hb458 hKb
                        rw [putL_all (by rw [hXl.out]; simp)] at hb458
                        refine hK1.out _ _ (hH.trans (hKb.below hH.size (by intro b hb; simp only [List.mem_singleton] at hb; subst hb; exact hGE.out))) (fun hH => ?_)
                        clear hK1 K1 hKb
                        refine wpAnyH_done (by kernel_rfl) ?_ _
                        go_wp2_with fail
                        go_meet
                        exact ⟨_, rfl, hb458, hH⟩
            · go_simp
              have q0 : ((wr.alloc (.cells #[.int .u8 (((j : Int) + 1) % 256)] 5)).alloc (.cells #[] 5)).heap.size = (wr.heap.size + 2) := by go_simp
              have q : ((wr.alloc (.cells #[.int .u8 (((j : Int) + 1) % 256)] 5)).alloc (.cells #[] 5)).drew.heap.size = (wr.heap.size + 2) := q0
              have hb459 : Blk (((wr.alloc (.cells #[.int .u8 (((j : Int) + 1) % 256)] 5)).alloc (.cells #[] 5)).alloc (.cells (bv (zeros 32)).toArray 25)).drew (wr.heap.size + 2) 25 (bv (zeros 32)) := by rw [← q0]; exact Blk.new_at (w := ((wr.alloc (.cells #[.int .u8 (((j : Int) + 1) % 256)] 5)).alloc (.cells #[] 5))) rfl rfl
              have hGE : Hid (wr.heap.size ≤ (wr.heap.size + 2)) := by show _ ≤ _; rw [← q]; exact hH.size
              have own460 : (((wr.alloc (.cells #[.int .u8 (((j : Int) + 1) % 256)] 5)).alloc (.cells #[] 5)).alloc (.cells (bv (zeros 32)).toArray 25)).drew.ownsRow wr.heap.size 5 1 (Value.slice (some ⟨(wr.heap.size + 1), 0, none⟩) 0 0) (0) (bv ([] : List Nat)) := own385.alloc (.cells (bv (zeros 32)).toArray 25)
              have ne461 : Hid (((Value.slice (some ⟨(wr.heap.size + 1), 0, none⟩) 0 0)).ownBlock ≠ some (wr.heap.size + 2)) := fun e => by have h9 : (wr.heap.size + 2) < ((wr.alloc (.cells #[.int .u8 (((j : Int) + 1) % 256)] 5)).alloc (.cells #[] 5)).drew.heap.size := (own385.lt _ e).2; omega
              have hb462 : Blk (((wr.alloc (.cells #[.int .u8 (((j : Int) + 1) % 256)] 5)).alloc (.cells #[] 5)).alloc (.cells (bv (zeros 32)).toArray 25)).drew (wr.heap.size) 5 [.int .u8 (((j : Int) + 1) % 256)] := hb386.alloc (.cells (bv (zeros 32)).toArray 25)
              refine hK1.out _ _ (hH.alloc hH.size _) (fun hH => ?_)
              clear hK1 K1 q q0
              refine wpAnyH_ready (rs := [4]) (by kernel_rfl) (by simp) ?_
              refine AllReadyH.cons rfl (fun K1 hK1 => ?_) AllReadyH.nil
              · rw [if_pos (by rfl)]
                obtain ⟨v463, w464, hr, own465, gr466, mv467⟩ := run_append_sl2 (P := Try.prog) (((wr.alloc (.cells #[.int .u8 (((j : Int) + 1) % 256)] 5)).alloc (.cells #[] 5)).alloc (.cells (bv (zeros 32)).toArray 25)).drew wr.heap.size 22 22 5 i0 (.int .u8 0) 1 Try.underlying22 hi hz0 hz1 hz2 rfl (Value.slice (some ⟨(wr.heap.size + 1), 0, none⟩) 0 0) 0 [] own460 _ (bv (expB k l j)) (hsl.out.keep hH) (bv_oneCell _) (by rw [bv_length]; simp [maxLen]; omega) (by rw [bv_length]; omega) hH.size
                refine Lib.wp_append_run _ (.tmp 28) (.tmp 29) 22 22 rfl _ _ rfl rfl v463 w464 hr ?_
                simp only [Act.put, List.setIfInBounds_toArray, List.set_cons_zero, List.set_cons_succ, Nat.zero_add, decide_true, beq_self_eq_true]
                have hH2 := own_below hH gr466 own460 hH.size
                have hb468 := hb462.keeps (Keeps.grown gr466) (by simp only [Option.mem_toList]; exact ne387.out)
                have ne469 : Hid ((v463).ownBlock ≠ some (wr.heap.size)) := mv467.ne hb462.lt ne387.out
                have hb470 := hb459.keeps (Keeps.grown gr466) (by simp only [Option.mem_toList]; exact ne461.out)
                have ne471 : Hid ((v463).ownBlock ≠ some ((wr.heap.size + 2))) := mv467.ne hb459.lt ne461.out
                rw [Nat.zero_add, List.nil_append, bv_length] at own465
                refine hK1.out _ _ hH2 (fun hH => ?_)
                clear hK1 K1 hr gr466 mv467 hH2
                refine wpAnyH_ready (rs := [6]) (by kernel_rfl) (by simp) ?_
                refine AllReadyH.cons rfl (fun K1 hK1 => ?_) AllReadyH.nil
                · rw [if_pos (by rfl)]
                  obtain ⟨v472, w473, hr, own474, gr475, mv476⟩ := run_append_str2 (P := Try.prog) w464 wr.heap.size 22 9 22 5 i0 Try.underlying22 Try.underlying9 hi hz0 hz1 hz2 v463 _ _ own465 (bstr l) (by rw [hsz]; simp [maxLen]; omega) (by rw [hsz]; omega) hH.size
                  refine Lib.wp_append_run _ (.tmp 30) (.tmp 31) 22 9 rfl _ _ rfl rfl v472 w473 hr ?_
                  simp only [Act.put, List.setIfInBounds_toArray, List.set_cons_zero, List.set_cons_succ, Nat.zero_add, decide_true, beq_self_eq_true]
                  have hH2 := own_below hH gr475 own465 hH.size
                  have hb477 := hb468.keeps (Keeps.grown gr475) (by simp only [Option.mem_toList]; exact ne469.out)
                  have ne478 : Hid ((v472).ownBlock ≠ some (wr.heap.size)) := mv476.ne hb468.lt ne469.out
                  have hb479 := hb470.keeps (Keeps.grown gr475) (by simp only [Option.mem_toList]; exact ne471.out)
                  have ne480 : Hid ((v472).ownBlock ≠ some ((wr.heap.size + 2))) := mv476.ne hb470.lt ne471.out
                  rw [hscv.out, hsz, ← bv_app] at own474
                  have own474 : w473.ownsRow wr.heap.size 5 1 v472 (expB k l j ++ l).length (bv (expB k l j ++ l)) := by rw [List.length_append]; exact own474
                  refine hK1.out _ _ hH2 (fun hH => ?_)
                  clear hK1 K1 hr gr475 mv476 hH2
                  refine wpAnyH_ready (rs := [10]) (by kernel_rfl) (by simp) ?_
                  refine AllReadyH.cons rfl (fun K1 hK1 => ?_) AllReadyH.nil
                  · rw [if_pos (by rfl)]
                    have sd : Sl w473 (.slice (some ⟨wr.heap.size, 0, none⟩) 1 1) (bv [(j + 1) % 256]) := Sl.of_blk (n := 1) (c := 1) hb477 (Nat.le_refl _) (by simp) (by unfold maxLen; omega)
                    obtain ⟨v481, w482, hr, own483, gr484, mv485⟩ := run_append_sl2 (P := Try.prog) w473 wr.heap.size 22 22 5 i0 (.int .u8 0) 1 Try.underlying22 hi hz0 hz1 hz2 rfl v472 _ _ own474 _ (bv [(j + 1) % 256]) sd (bv_oneCell _) (by simp [maxLen]; omega) (by simp; omega) hH.size
                    refine Lib.wp_append_run _ (.tmp 32) (.tmp 35) 22 22 rfl _ _ rfl rfl v481 w482 hr ?_
                    simp only [Act.put, List.setIfInBounds_toArray, List.set_cons_zero, List.set_cons_succ, Nat.zero_add, decide_true, beq_self_eq_true]
                    have hH2 := own_below hH gr484 own474 hH.size
                    have hb486 := hb479.keeps (Keeps.grown gr484) (by simp only [Option.mem_toList]; exact ne480.out)
                    have ne487 : Hid ((v481).ownBlock ≠ some ((wr.heap.size + 2))) := mv485.ne hb479.lt ne480.out
                    rw [← bv_app] at own483
                    have sm488 := Lib.hid (Sl.of_own own483)
                    refine hK1.out _ _ hH2 (fun hH => ?_)
                    clear hK1 K1 hr gr484 mv485 hH2
                    refine wpAnyH_ready (rs := [11]) (by kernel_rfl) (by simp) ?_
                    refine AllReadyH.cons rfl (fun K1 hK1 => ?_) AllReadyH.nil
                    · rw [if_pos (by rfl)]
                      go_wp2_with fail
                      refine (hw1.out _ _ (sH.out.keep hH) (sK.out.keep hH) (slk.out.keep hH) sm488.out).mono ?_
                      rintro e w489 ⟨rfl, hBa⟩
                      have hb490 := hb486.keep hBa
                      refine hK1.out _ _ (below_call hH hH.size hBa) (fun hH => ?_)
                      clear hK1 K1 hBa
                      refine wpAnyH_ready (rs := [13]) (by kernel_rfl) (by simp) ?_
                      refine AllReadyH.cons rfl (fun K1 hK1 => ?_) AllReadyH.nil
                      · rw [if_pos (by rfl)]
                        refine wp_storeA 25 (.tmp 12) (.tmp 37) rfl 32 arrH _ _ rfl (bv (expB k l (j + 1))) rfl 25 _ hb490 hXl.out (by simp) (ones_bv _) ?_
                        intro w491 hb492 hKb
                        rw [putL_all (by rw [hXl.out]; simp)] at hb492
                        refine hK1.out _ _ (hH.trans (hKb.below hH.size (by intro b hb; simp only [List.mem_singleton] at hb; subst hb; exact hGE.out))) (fun hH => ?_)
                        clear hK1 K1 hKb
                        refine wpAnyH_done (by kernel_rfl) ?_ _
                        go_wp2_with fail
                        go_meet
                        exact ⟨_, rfl, hb492, hH⟩
          · go_simp
            have q0 : (wr.alloc (.cells #[.int .u8 (((j : Int) + 1) % 256)] 5)).heap.size = (wr.heap.size + 1) := by go_simp
            have q : (wr.alloc (.cells #[.int .u8 (((j : Int) + 1) % 256)] 5)).drew.heap.size = (wr.heap.size + 1) := q0
            have hb493 : Blk ((wr.alloc (.cells #[.int .u8 (((j : Int) + 1) % 256)] 5)).alloc (.cells (bv (zeros 32)).toArray 25)).drew (wr.heap.size + 1) 25 (bv (zeros 32)) := by rw [← q0]; exact Blk.new_at (w := (wr.alloc (.cells #[.int .u8 (((j : Int) + 1) % 256)] 5))) rfl rfl
            have hGE : Hid (wr.heap.size ≤ (wr.heap.size + 1)) := by show _ ≤ _; rw [← q]; exact hH.size
            have hb494 : Blk ((wr.alloc (.cells #[.int .u8 (((j : Int) + 1) % 256)] 5)).alloc (.cells (bv (zeros 32)).toArray 25)).drew (wr.heap.size) 5 [.int .u8 (((j : Int) + 1) % 256)] := hb384.alloc (.cells (bv (zeros 32)).toArray 25)
            refine hK1.out _ _ (hH.alloc hH.size _) (fun hH => ?_)
            clear hK1 K1 q q0
            refine wpAnyH_ready (rs := [2]) (by kernel_rfl) (by simp) ?_
            refine AllReadyH.cons rfl (fun K1 hK1 => ?_) AllReadyH.nil
            · go_simp
              have q0 : ((wr.alloc (.cells #[.int .u8 (((j : Int) + 1) % 256)] 5)).alloc (.cells (bv (zeros 32)).toArray 25)).heap.size = (wr.heap.size + 2) := by go_simp
              have q : ((wr.alloc (.cells #[.int .u8 (((j : Int) + 1) % 256)] 5)).alloc (.cells (bv (zeros 32)).toArray 25)).drew.heap.size = (wr.heap.size + 2) := q0
              have own495 : (((wr.alloc (.cells #[.int .u8 (((j : Int) + 1) % 256)] 5)).alloc (.cells (bv (zeros 32)).toArray 25)).alloc (.cells #[] 5)).drew.ownsRow wr.heap.size 5 1 (Value.slice (some ⟨(wr.heap.size + 2), 0, none⟩) 0 0) 0 [] := by rw [← q0]; exact World.ownsRow_made ((wr.alloc (.cells #[.int .u8 (((j : Int) + 1) % 256)] 5)).alloc (.cells (bv (zeros 32)).toArray 25)) #[] 0 hH.size (Nat.zero_le _) rfl
              have hb496 : Blk (((wr.alloc (.cells #[.int .u8 (((j : Int) + 1) % 256)] 5)).alloc (.cells (bv (zeros 32)).toArray 25)).alloc (.cells #[] 5)).drew (wr.heap.size) 5 [.int .u8 (((j : Int) + 1) % 256)] := hb494.alloc (.cells #[] 5)
              have ne497 : Hid ((Value.slice (some ⟨(wr.heap.size + 2), 0, none⟩) 0 0).ownBlock ≠ some (wr.heap.size)) := fun e => by have h9 : wr.heap.size < ((wr.alloc (.cells #[.int .u8 (((j : Int) + 1) % 256)] 5)).alloc (.cells (bv (zeros 32)).toArray 25)).drew.heap.size := hb494.lt; injection e with e; have h8 : (wr.heap.size + 2) = wr.heap.size := e; omega
              have hb498 : Blk (((wr.alloc (.cells #[.int .u8 (((j : Int) + 1) % 256)] 5)).alloc (.cells (bv (zeros 32)).toArray 25)).alloc (.cells #[] 5)).drew ((wr.heap.size + 1)) 25 (bv (zeros 32)) := hb493.alloc (.cells #[] 5)
              have ne499 : Hid ((Value.slice (some ⟨(wr.heap.size + 2), 0, none⟩) 0 0).ownBlock ≠ some ((wr.heap.size + 1))) := fun e => by have h9 : (wr.heap.size + 1) < ((wr.alloc (.cells #[.int .u8 (((j : Int) + 1) % 256)] 5)).alloc (.cells (bv (zeros 32)).toArray 25)).drew.heap.size := hb493.lt; injection e with e; have h8 : (wr.heap.size + 2) = (wr.heap.size + 1) := e; omega
              refine hK1.out _ _ (hH.alloc hH.size _) (fun hH => ?_)
              clear hK1 K1 q q0
              refine wpAnyH_ready (rs := [4]) (by kernel_rfl) (by simp) ?_
              refine AllReadyH.cons rfl (fun K1 hK1 => ?_) AllReadyH.nil
              · rw [if_pos (by rfl)]
                obtain ⟨v500, w501, hr, own502, gr503, mv504⟩ := run_append_sl2 (P := Try.prog) (((wr.alloc (.cells #[.int .u8 (((j : Int) + 1) % 256)] 5)).alloc (.cells (bv (zeros 32)).toArray 25)).alloc (.cells #[] 5)).drew wr.heap.size 22 22 5 i0 (.int .u8 0) 1 Try.underlying22 hi hz0 hz1 hz2 rfl (Value.slice (some ⟨(wr.heap.size + 2), 0, none⟩) 0 0) 0 [] own495 _ (bv (expB k l j)) (hsl.out.keep hH) (bv_oneCell _) (by rw [bv_length]; simp [maxLen]; omega) (by rw [bv_length]; omega) hH.size
                refine Lib.wp_append_run _ (.tmp 28) (.tmp 29) 22 22 rfl _ _ rfl rfl v500 w501 hr ?_
                simp only [Act.put, List.setIfInBounds_toArray, List.set_cons_zero, List.set_cons_succ, Nat.zero_add, decide_true, beq_self_eq_true]
                have hH2 := own_below hH gr503 own495 hH.size
                have hb505 := hb496.keeps (Keeps.grown gr503) (by simp only [Option.mem_toList]; exact ne497.out)
                have ne506 : Hid ((v500).ownBlock ≠ some (wr.heap.size)) := mv504.ne hb496.lt ne497.out
                have hb507 := hb498.keeps (Keeps.grown gr503) (by simp only [Option.mem_toList]; exact ne499.out)
                have ne508 : Hid ((v500).ownBlock ≠ some ((wr.heap.size + 1))) := mv504.ne hb498.lt ne499.out
                rw [Nat.zero_add, List.nil_append, bv_length] at own502
                refine hK1.out _ _ hH2 (fun hH => ?_)
                clear hK1 K1 hr gr503 mv504 hH2
                refine wpAnyH_ready (rs := [6]) (by kernel_rfl) (by simp) ?_
                refine AllReadyH.cons rfl (fun K1 hK1 => ?_) AllReadyH.nil
                · rw [if_pos (by rfl)]
                  obtain ⟨v509, w510, hr, own511, gr512, mv513⟩ := run_append_str2 (P := Try.prog) w501 wr.heap.size 22 9 22 5 i0 Try.underlying22 Try.underlying9 hi hz0 hz1 hz2 v500 _ _ own502 (bstr l) (by rw [hsz]; simp [maxLen]; omega) (by rw [hsz]; omega) hH.size
                  refine Lib.wp_append_run _ (.tmp 30) (.tmp 31) 22 9 rfl _ _ rfl rfl v509 w510 hr ?_
                  simp only [Act.put, List.setIfInBounds_toArray, List.set_cons_zero, List.set_cons_succ, Nat.zero_add, decide_true, beq_self_eq_true]
                  have hH2 := own_below hH gr512 own502 hH.size
                  have hb514 := hb505.keeps (Keeps.grown gr512) (by simp only [Option.mem_toList]; exact ne506.out)
                  have ne515 : Hid ((v509).ownBlock ≠ some (wr.heap.size)) := mv513.ne hb505.lt ne506.out
                  have hb516 := hb507.keeps (Keeps.grown gr512) (by simp only [Option.mem_toList]; exact ne508.out)
                  have ne517 : Hid ((v509).ownBlock ≠ some ((wr.heap.size + 1))) := mv513.ne hb507.lt ne508.out
                  rw [hscv.out, hsz, ← bv_app] at own511
                  have own511 : w510.ownsRow wr.heap.size 5 1 v509 (expB k l j ++ l).length (bv (expB k l j ++ l)) := by rw [List.length_append]; exact own511
                  refine hK1.out _ _ hH2 (fun hH => ?_)
                  clear hK1 K1 hr gr512 mv513 hH2
                  refine wpAnyH_ready (rs := [10]) (by kernel_rfl) (by simp) ?_
                  refine AllReadyH.cons rfl (fun K1 hK1 => ?_) AllReadyH.nil
                  · rw [if_pos (by rfl)]
                    have sd : Sl w510 (.slice (some ⟨wr.heap.size, 0, none⟩) 1 1) (bv [(j + 1) % 256]) := Sl.of_blk (n := 1) (c := 1) hb514 (Nat.le_refl _) (by simp) (by unfold maxLen; omega)
                    obtain ⟨v518, w519, hr, own520, gr521, mv522⟩ := run_append_sl2 (P := Try.prog) w510 wr.heap.size 22 22 5 i0 (.int .u8 0) 1 Try.underlying22 hi hz0 hz1 hz2 rfl v509 _ _ own511 _ (bv [(j + 1) % 256]) sd (bv_oneCell _) (by simp [maxLen]; omega) (by simp; omega) hH.size
                    refine Lib.wp_append_run _ (.tmp 32) (.tmp 35) 22 22 rfl _ _ rfl rfl v518 w519 hr ?_
                    simp only [Act.put, List.setIfInBounds_toArray, List.set_cons_zero, List.set_cons_succ, Nat.zero_add, decide_true, beq_self_eq_true]
                    have hH2 := own_below hH gr521 own511 hH.size
                    have hb523 := hb516.keeps (Keeps.grown gr521) (by simp only [Option.mem_toList]; exact ne517.out)
                    have ne524 : Hid ((v518).ownBlock ≠ some ((wr.heap.size + 1))) := mv522.ne hb516.lt ne517.out
                    rw [← bv_app] at own520
                    have sm525 := Lib.hid (Sl.of_own own520)
                    refine hK1.out _ _ hH2 (fun hH => ?_)
                    clear hK1 K1 hr gr521 mv522 hH2
                    refine wpAnyH_ready (rs := [11]) (by kernel_rfl) (by simp) ?_
                    refine AllReadyH.cons rfl (fun K1 hK1 => ?_) AllReadyH.nil
                    · rw [if_pos (by rfl)]
                      go_wp2_with fail
                      refine (hw1.out _ _ (sH.out.keep hH) (sK.out.keep hH) (slk.out.keep hH) sm525.out).mono ?_
                      rintro e w526 ⟨rfl, hBa⟩
                      have hb527 := hb523.keep hBa
                      refine hK1.out _ _ (below_call hH hH.size hBa) (fun hH => ?_)
                      clear hK1 K1 hBa
                      refine wpAnyH_ready (rs := [13]) (by kernel_rfl) (by simp) ?_
                      refine AllReadyH.cons rfl (fun K1 hK1 => ?_) AllReadyH.nil
                      · rw [if_pos (by rfl)]
                        refine wp_storeA 25 (.tmp 12) (.tmp 37) rfl 32 arrH _ _ rfl (bv (expB k l (j + 1))) rfl 25 _ hb527 hXl.out (by simp) (ones_bv _) ?_
                        intro w528 hb529 hKb
                        rw [putL_all (by rw [hXl.out]; simp)] at hb529
                        refine hK1.out _ _ (hH.trans (hKb.below hH.size (by intro b hb; simp only [List.mem_singleton] at hb; subst hb; exact hGE.out))) (fun hH => ?_)
                        clear hK1 K1 hKb
                        refine wpAnyH_done (by kernel_rfl) ?_ _
                        go_wp2_with fail
                        go_meet
                        exact ⟨_, rfl, hb529, hH⟩
        · go_simp
          have q0 : wr.heap.size = wr.heap.size := by rfl
          have q : wr.drew.heap.size = wr.heap.size := q0
          have hb530 : Blk (wr.alloc (.cells (bv (zeros 32)).toArray 25)).drew wr.heap.size 25 (bv (zeros 32)) := by rw [← q0]; exact Blk.new_at (w := wr) rfl rfl
          have hGE : Hid (wr.heap.size ≤ wr.heap.size) := by show _ ≤ _; rw [← q]; exact hH.size
          refine hK1.out _ _ (hH.alloc hH.size _) (fun hH => ?_)
          clear hK1 K1 q q0
          refine wpAnyH_ready (rs := [2, 9]) (by kernel_rfl) (by simp) ?_
          refine AllReadyH.cons rfl (fun K1 hK1 => ?_) (AllReadyH.cons rfl (fun K1 hK1 => ?_) AllReadyH.nil)
          · go_simp
            have q0 : (wr.alloc (.cells (bv (zeros 32)).toArray 25)).heap.size = (wr.heap.size + 1) := by go_simp
            have q : (wr.alloc (.cells (bv (zeros 32)).toArray 25)).drew.heap.size = (wr.heap.size + 1) := q0
            have own531 : ((wr.alloc (.cells (bv (zeros 32)).toArray 25)).alloc (.cells #[] 5)).drew.ownsRow wr.heap.size 5 1 (Value.slice (some ⟨(wr.heap.size + 1), 0, none⟩) 0 0) 0 [] := by rw [← q0]; exact World.ownsRow_made (wr.alloc (.cells (bv (zeros 32)).toArray 25)) #[] 0 hH.size (Nat.zero_le _) rfl
            have hb532 : Blk ((wr.alloc (.cells (bv (zeros 32)).toArray 25)).alloc (.cells #[] 5)).drew (wr.heap.size) 25 (bv (zeros 32)) := hb530.alloc (.cells #[] 5)
            have ne533 : Hid ((Value.slice (some ⟨(wr.heap.size + 1), 0, none⟩) 0 0).ownBlock ≠ some (wr.heap.size)) := fun e => by have h9 : wr.heap.size < (wr.alloc (.cells (bv (zeros 32)).toArray 25)).drew.heap.size := hb530.lt; injection e with e; have h8 : (wr.heap.size + 1) = wr.heap.size := e; omega
            refine hK1.out _ _ (hH.alloc hH.size _) (fun hH => ?_)
            clear hK1 K1 q q0
            refine wpAnyH_ready (rs := [4, 9]) (by kernel_rfl) (by simp) ?_
            refine AllReadyH.cons rfl (fun K1 hK1 => ?_) (AllReadyH.cons rfl (fun K1 hK1 => ?_) AllReadyH.nil)
            · rw [if_pos (by rfl)]
              obtain ⟨v534, w535, hr, own536, gr537, mv538⟩ := run_append_sl2 (P := Try.prog) ((wr.alloc (.cells (bv (zeros 32)).toArray 25)).alloc (.cells #[] 5)).drew wr.heap.size 22 22 5 i0 (.int .u8 0) 1 Try.underlying22 hi hz0 hz1 hz2 rfl (Value.slice (some ⟨(wr.heap.size + 1), 0, none⟩) 0 0) 0 [] own531 _ (bv (expB k l j)) (hsl.out.keep hH) (bv_oneCell _) (by rw [bv_length]; simp [maxLen]; omega) (by rw [bv_length]; omega) hH.size
              refine Lib.wp_append_run _ (.tmp 28) (.tmp 29) 22 22 rfl _ _ rfl rfl v534 w535 hr ?_
              simp only [Act.put, List.setIfInBounds_toArray, List.set_cons_zero, List.set_cons_succ, Nat.zero_add, decide_true, beq_self_eq_true]
              have hH2 := own_below hH gr537 own531 hH.size
              have hb539 := hb532.keeps (Keeps.grown gr537) (by simp only [Option.mem_toList]; exact ne533.out)
              have ne540 : Hid ((v534).ownBlock ≠ some (wr.heap.size)) := mv538.ne hb532.lt ne533.out
              rw [Nat.zero_add, List.nil_append, bv_length] at own536
              refine hK1.out _ _ hH2 (fun hH => ?_)
              clear hK1 K1 hr gr537 mv538 hH2
              refine wpAnyH_ready (rs := [6, 9]) (by kernel_rfl) (by simp) ?_
              refine AllReadyH.cons rfl (fun K1 hK1 => ?_) (AllReadyH.cons rfl (fun K1 hK1 => ?_) AllReadyH.nil)
              · rw [if_pos (by rfl)]
                obtain ⟨v541, w542, hr, own543, gr544, mv545⟩ := run_append_str2 (P := Try.prog) w535 wr.heap.size 22 9 22 5 i0 Try.underlying22 Try.underlying9 hi hz0 hz1 hz2 v534 _ _ own536 (bstr l) (by rw [hsz]; simp [maxLen]; omega) (by rw [hsz]; omega) hH.size
                refine Lib.wp_append_run _ (.tmp 30) (.tmp 31) 22 9 rfl _ _ rfl rfl v541 w542 hr ?_
                simp only [Act.put, List.setIfInBounds_toArray, List.set_cons_zero, List.set_cons_succ, Nat.zero_add, decide_true, beq_self_eq_true]
                have hH2 := own_below hH gr544 own536 hH.size
                have hb546 := hb539.keeps (Keeps.grown gr544) (by simp only [Option.mem_toList]; exact ne540.out)
                have ne547 : Hid ((v541).ownBlock ≠ some (wr.heap.size)) := mv545.ne hb539.lt ne540.out
                rw [hscv.out, hsz, ← bv_app] at own543
                have own543 : w542.ownsRow wr.heap.size 5 1 v541 (expB k l j ++ l).length (bv (expB k l j ++ l)) := by rw [List.length_append]; exact own543
                refine hK1.out _ _ hH2 (fun hH => ?_)
                clear hK1 K1 hr gr544 mv545 hH2
                refine wpAnyH_ready (rs := [9]) (by kernel_rfl) (by simp) ?_
                refine AllReadyH.cons rfl (fun K1 hK1 => ?_) AllReadyH.nil
                · go_simp
                  have q0 : w542.heap.size = w542.heap.size := by rfl
                  have q : w542.heap.size = w542.heap.size := q0
                  have hb548 : Blk (w542.alloc (.cells #[.int .u8 (((j : Int) + 1) % 256)] 5)) w542.heap.size 5 [.int .u8 (((j : Int) + 1) % 256)] := by rw [← q0]; exact Blk.new_at (w := w542) rfl rfl
                  have own549 : (w542.alloc (.cells #[.int .u8 (((j : Int) + 1) % 256)] 5)).ownsRow wr.heap.size 5 1 v541 ((expB k l j ++ l).length) (bv (expB k l j ++ l)) := own543.alloc (.cells #[.int .u8 (((j : Int) + 1) % 256)] 5)
                  have ne550 : Hid ((v541).ownBlock ≠ some w542.heap.size) := fun e => by have h9 : w542.heap.size < w542.heap.size := (own543.lt _ e).2; omega
                  have hb551 : Blk (w542.alloc (.cells #[.int .u8 (((j : Int) + 1) % 256)] 5)) (wr.heap.size) 25 (bv (zeros 32)) := hb546.alloc (.cells #[.int .u8 (((j : Int) + 1) % 256)] 5)
                  refine hK1.out _ _ (hH.alloc hH.size _) (fun hH => ?_)
                  clear hK1 K1 q q0
                  refine wpAnyH_ready (rs := [10]) (by kernel_rfl) (by simp) ?_
                  refine AllReadyH.cons rfl (fun K1 hK1 => ?_) AllReadyH.nil
                  · rw [if_pos (by rfl)]
                    have sd : Sl (w542.alloc (.cells #[.int .u8 (((j : Int) + 1) % 256)] 5)) (.slice (some ⟨w542.heap.size, 0, none⟩) 1 1) (bv [(j + 1) % 256]) := Sl.of_blk (n := 1) (c := 1) hb548 (Nat.le_refl _) (by simp) (by unfold maxLen; omega)
                    obtain ⟨v552, w553, hr, own554, gr555, mv556⟩ := run_append_sl2 (P := Try.prog) (w542.alloc (.cells #[.int .u8 (((j : Int) + 1) % 256)] 5)) wr.heap.size 22 22 5 i0 (.int .u8 0) 1 Try.underlying22 hi hz0 hz1 hz2 rfl v541 _ _ own549 _ (bv [(j + 1) % 256]) sd (bv_oneCell _) (by simp [maxLen]; omega) (by simp; omega) hH.size
                    refine Lib.wp_append_run _ (.tmp 32) (.tmp 35) 22 22 rfl _ _ rfl rfl v552 w553 hr ?_
                    simp only [Act.put, List.setIfInBounds_toArray, List.set_cons_zero, List.set_cons_succ, Nat.zero_add, decide_true, beq_self_eq_true]
                    have hH2 := own_below hH gr555 own549 hH.size
                    have hb557 := hb551.keeps (Keeps.grown gr555) (by simp only [Option.mem_toList]; exact ne547.out)
                    have ne558 : Hid ((v552).ownBlock ≠ some (wr.heap.size)) := mv556.ne hb551.lt ne547.out
                    rw [← bv_app] at own554
                    have sm559 := Lib.hid (Sl.of_own own554)
                    refine hK1.out _ _ hH2 (fun hH => ?_)
                    clear hK1 K1 hr gr555 mv556 hH2
                    refine wpAnyH_ready (rs := [11]) (by kernel_rfl) (by simp) ?_
                    refine AllReadyH.cons rfl (fun K1 hK1 => ?_) AllReadyH.nil
                    · rw [if_pos (by rfl)]
                      go_wp2_with fail
                      refine (hw1.out _ _ (sH.out.keep hH) (sK.out.keep hH) (slk.out.keep hH) sm559.out).mono ?_
                      rintro e w560 ⟨rfl, hBa⟩
                      have hb561 := hb557.keep hBa
                      refine hK1.out _ _ (below_call hH hH.size hBa) (fun hH => ?_)
                      clear hK1 K1 hBa
                      refine wpAnyH_ready (rs := [13]) (by kernel_rfl) (by simp) ?_
                      refine AllReadyH.cons rfl (fun K1 hK1 => ?_) AllReadyH.nil
                      · rw [if_pos (by rfl)]
                        refine wp_storeA 25 (.tmp 12) (.tmp 37) rfl 32 arrH _ _ rfl (bv (expB k l (j + 1))) rfl 25 _ hb561 hXl.out (by simp) (ones_bv _) ?_
                        intro w562 hb563 hKb
                        rw [putL_all (by rw [hXl.out]; simp)] at hb563
                        refine hK1.out _ _ (hH.trans (hKb.below hH.size (by intro b hb; simp only [List.mem_singleton] at hb; subst hb; exact hGE.out))) (fun hH => ?_)
                        clear hK1 K1 hKb
                        refine wpAnyH_done (by kernel_rfl) ?_ _
                        go_wp2_with fail
                        go_meet
                        exact ⟨_, rfl, hb563, hH⟩
              · go_simp
                have q0 : w535.heap.size = w535.heap.size := by rfl
                have q : w535.heap.size = w535.heap.size := q0
                have hb564 : Blk (w535.alloc (.cells #[.int .u8 (((j : Int) + 1) % 256)] 5)) w535.heap.size 5 [.int .u8 (((j : Int) + 1) % 256)] := by rw [← q0]; exact Blk.new_at (w := w535) rfl rfl
                have own565 : (w535.alloc (.cells #[.int .u8 (((j : Int) + 1) % 256)] 5)).ownsRow wr.heap.size 5 1 v534 ((expB k l j).length) (bv (expB k l j)) := own536.alloc (.cells #[.int .u8 (((j : Int) + 1) % 256)] 5)
                have ne566 : Hid ((v534).ownBlock ≠ some w535.heap.size) := fun e => by have h9 : w535.heap.size < w535.heap.size := (own536.lt _ e).2; omega
                have hb567 : Blk (w535.alloc (.cells #[.int .u8 (((j : Int) + 1) % 256)] 5)) (wr.heap.size) 25 (bv (zeros 32)) := hb539.alloc (.cells #[.int .u8 (((j : Int) + 1) % 256)] 5)
                refine hK1.out _ _ (hH.alloc hH.size _) (fun hH => ?_)
                clear hK1 K1 q q0
                refine wpAnyH_ready (rs := [6]) (by kernel_rfl) (by simp) ?_
                refine AllReadyH.cons rfl (fun K1 hK1 => ?_) AllReadyH.nil
                · rw [if_pos (by rfl)]
                  obtain ⟨v568, w569, hr, own570, gr571, mv572⟩ := run_append_str2 (P := Try.prog) (w535.alloc (.cells #[.int .u8 (((j : Int) + 1) % 256)] 5)) wr.heap.size 22 9 22 5 i0 Try.underlying22 Try.underlying9 hi hz0 hz1 hz2 v534 _ _ own565 (bstr l) (by rw [hsz]; simp [maxLen]; omega) (by rw [hsz]; omega) hH.size
                  refine Lib.wp_append_run _ (.tmp 30) (.tmp 31) 22 9 rfl _ _ rfl rfl v568 w569 hr ?_
                  simp only [Act.put, List.setIfInBounds_toArray, List.set_cons_zero, List.set_cons_succ, Nat.zero_add, decide_true, beq_self_eq_true]
                  have hH2 := own_below hH gr571 own565 hH.size
                  have hb573 := hb564.keeps (Keeps.grown gr571) (by simp only [Option.mem_toList]; exact ne566.out)
                  have ne574 : Hid ((v568).ownBlock ≠ some (w535.heap.size)) := mv572.ne hb564.lt ne566.out
                  have hb575 := hb567.keeps (Keeps.grown gr571) (by simp only [Option.mem_toList]; exact ne540.out)
                  have ne576 : Hid ((v568).ownBlock ≠ some (wr.heap.size)) := mv572.ne hb567.lt ne540.out
                  rw [hscv.out, hsz, ← bv_app] at own570
                  have own570 : w569.ownsRow wr.heap.size 5 1 v568 (expB k l j ++ l).length (bv (expB k l j ++ l)) := by rw [List.length_append]; exact own570
                  refine hK1.out _ _ hH2 (fun hH => ?_)
                  clear hK1 K1 hr gr571 mv572 hH2
                  refine wpAnyH_ready (rs := [10]) (by kernel_rfl) (by simp) ?_
                  refine AllReadyH.cons rfl (fun K1 hK1 => ?_) AllReadyH.nil
                  · rw [if_pos (by rfl)]
                    have sd : Sl w569 (.slice (some ⟨w535.heap.size, 0, none⟩) 1 1) (bv [(j + 1) % 256]) := Sl.of_blk (n := 1) (c := 1) hb573 (Nat.le_refl _) (by simp) (by unfold maxLen; omega)
                    obtain ⟨v577, w578, hr, own579, gr580, mv581⟩ := run_append_sl2 (P := Try.prog) w569 wr.heap.size 22 22 5 i0 (.int .u8 0) 1 Try.underlying22 hi hz0 hz1 hz2 rfl v568 _ _ own570 _ (bv [(j + 1) % 256]) sd (bv_oneCell _) (by simp [maxLen]; omega) (by simp; omega) hH.size
                    refine Lib.wp_append_run _ (.tmp 32) (.tmp 35) 22 22 rfl _ _ rfl rfl v577 w578 hr ?_
                    simp only [Act.put, List.setIfInBounds_toArray, List.set_cons_zero, List.set_cons_succ, Nat.zero_add, decide_true, beq_self_eq_true]
                    have hH2 := own_below hH gr580 own570 hH.size
                    have hb582 := hb575.keeps (Keeps.grown gr580) (by simp only [Option.mem_toList]; exact ne576.out)
                    have ne583 : Hid ((v577).ownBlock ≠ some (wr.heap.size)) := mv581.ne hb575.lt ne576.out
                    rw [← bv_app] at own579
                    have sm584 := Lib.hid (Sl.of_own own579)
                    refine hK1.out _ _ hH2 (fun hH => ?_)
                    clear hK1 K1 hr gr580 mv581 hH2
                    refine wpAnyH_ready (rs := [11]) (by kernel_rfl) (by simp) ?_
                    refine AllReadyH.cons rfl (fun K1 hK1 => ?_) AllReadyH.nil
                    · rw [if_pos (by rfl)]
                      go_wp2_with fail
                      refine (hw1.out _ _ (sH.out.keep hH) (sK.out.keep hH) (slk.out.keep hH) sm584.out).mono ?_
                      rintro e w585 ⟨rfl, hBa⟩
                      have hb586 := hb582.keep hBa
                      refine hK1.out _ _ (below_call hH hH.size hBa) (fun hH => ?_)
                      clear hK1 K1 hBa
                      refine wpAnyH_ready (rs := [13]) (by kernel_rfl) (by simp) ?_
                      refine AllReadyH.cons rfl (fun K1 hK1 => ?_) AllReadyH.nil
                      · rw [if_pos (by rfl)]
                        refine wp_storeA 25 (.tmp 12) (.tmp 37) rfl 32 arrH _ _ rfl (bv (expB k l (j + 1))) rfl 25 _ hb586 hXl.out (by simp) (ones_bv _) ?_
                        intro w587 hb588 hKb
                        rw [putL_all (by rw [hXl.out]; simp)] at hb588
                        refine hK1.out _ _ (hH.trans (hKb.below hH.size (by intro b hb; simp only [List.mem_singleton] at hb; subst hb; exact hGE.out))) (fun hH => ?_)
                        clear hK1 K1 hKb
                        refine wpAnyH_done (by kernel_rfl) ?_ _
                        go_wp2_with fail
                        go_meet
                        exact ⟨_, rfl, hb588, hH⟩
            · go_simp
              have q0 : ((wr.alloc (.cells (bv (zeros 32)).toArray 25)).alloc (.cells #[] 5)).heap.size = (wr.heap.size + 2) := by go_simp
              have q : ((wr.alloc (.cells (bv (zeros 32)).toArray 25)).alloc (.cells #[] 5)).drew.heap.size = (wr.heap.size + 2) := q0
              have hb589 : Blk (((wr.alloc (.cells (bv (zeros 32)).toArray 25)).alloc (.cells #[] 5)).alloc (.cells #[.int .u8 (((j : Int) + 1) % 256)] 5)).drew (wr.heap.size + 2) 5 [.int .u8 (((j : Int) + 1) % 256)] := by rw [← q0]; exact Blk.new_at (w := ((wr.alloc (.cells (bv (zeros 32)).toArray 25)).alloc (.cells #[] 5))) rfl rfl
              have own590 : (((wr.alloc (.cells (bv (zeros 32)).toArray 25)).alloc (.cells #[] 5)).alloc (.cells #[.int .u8 (((j : Int) + 1) % 256)] 5)).drew.ownsRow wr.heap.size 5 1 (Value.slice (some ⟨(wr.heap.size + 1), 0, none⟩) 0 0) (0) (bv ([] : List Nat)) := own531.alloc (.cells #[.int .u8 (((j : Int) + 1) % 256)] 5)
              have ne591 : Hid (((Value.slice (some ⟨(wr.heap.size + 1), 0, none⟩) 0 0)).ownBlock ≠ some (wr.heap.size + 2)) := fun e => by have h9 : (wr.heap.size + 2) < ((wr.alloc (.cells (bv (zeros 32)).toArray 25)).alloc (.cells #[] 5)).drew.heap.size := (own531.lt _ e).2; omega
              have hb592 : Blk (((wr.alloc (.cells (bv (zeros 32)).toArray 25)).alloc (.cells #[] 5)).alloc (.cells #[.int .u8 (((j : Int) + 1) % 256)] 5)).drew (wr.heap.size) 25 (bv (zeros 32)) := hb532.alloc (.cells #[.int .u8 (((j : Int) + 1) % 256)] 5)
              refine hK1.out _ _ (hH.alloc hH.size _) (fun hH => ?_)
              clear hK1 K1 q q0
              refine wpAnyH_ready (rs := [4]) (by kernel_rfl) (by simp) ?_
              refine AllReadyH.cons rfl (fun K1 hK1 => ?_) AllReadyH.nil
              · rw [if_pos (by rfl)]
                obtain ⟨v593, w594, hr, own595, gr596, mv597⟩ := run_append_sl2 (P := Try.prog) (((wr.alloc (.cells (bv (zeros 32)).toArray 25)).alloc (.cells #[] 5)).alloc (.cells #[.int .u8 (((j : Int) + 1) % 256)] 5)).drew wr.heap.size 22 22 5 i0 (.int .u8 0) 1 Try.underlying22 hi hz0 hz1 hz2 rfl (Value.slice (some ⟨(wr.heap.size + 1), 0, none⟩) 0 0) 0 [] own590 _ (bv (expB k l j)) (hsl.out.keep hH) (bv_oneCell _) (by rw [bv_length]; simp [maxLen]; omega) (by rw [bv_length]; omega) hH.size
                refine Lib.wp_append_run _ (.tmp 28) (.tmp 29) 22 22 rfl _ _ rfl rfl v593 w594 hr ?_
                simp only [Act.put, List.setIfInBounds_toArray, List.set_cons_zero, List.set_cons_succ, Nat.zero_add, decide_true, beq_self_eq_true]
                have hH2 := own_below hH gr596 own590 hH.size
                have hb598 := hb589.keeps (Keeps.grown gr596) (by simp only [Option.mem_toList]; exact ne591.out)
                have ne599 : Hid ((v593).ownBlock ≠ some ((wr.heap.size + 2))) := mv597.ne hb589.lt ne591.out
                have hb600 := hb592.keeps (Keeps.grown gr596) (by simp only [Option.mem_toList]; exact ne533.out)
                have ne601 : Hid ((v593).ownBlock ≠ some (wr.heap.size)) := mv597.ne hb592.lt ne533.out
                rw [Nat.zero_add, List.nil_append, bv_length] at own595
                refine hK1.out _ _ hH2 (fun hH => ?_)
                clear hK1 K1 hr gr596 mv597 hH2
                refine wpAnyH_ready (rs := [6]) (by kernel_rfl) (by simp) ?_
                refine AllReadyH.cons rfl (fun K1 hK1 => ?_) AllReadyH.nil
                · rw [if_pos (by rfl)]
                  obtain ⟨v602, w603, hr, own604, gr605, mv606⟩ := run_append_str2 (P := Try.prog) w594 wr.heap.size 22 9 22 5 i0 Try.underlying22 Try.underlying9 hi hz0 hz1 hz2 v593 _ _ own595 (bstr l) (by rw [hsz]; simp [maxLen]; omega) (by rw [hsz]; omega) hH.size
                  refine Lib.wp_append_run _ (.tmp 30) (.tmp 31) 22 9 rfl _ _ rfl rfl v602 w603 hr ?_
                  simp only [Act.put, List.setIfInBounds_toArray, List.set_cons_zero, List.set_cons_succ, Nat.zero_add, decide_true, beq_self_eq_true]
                  have hH2 := own_below hH gr605 own595 hH.size
                  have hb607 := hb598.keeps (Keeps.grown gr605) (by simp only [Option.mem_toList]; exact ne599.out)
                  have ne608 : Hid ((v602).ownBlock ≠ some ((wr.heap.size + 2))) := mv606.ne hb598.lt ne599.out
                  have hb609 := hb600.keeps (Keeps.grown gr605) (by simp only [Option.mem_toList]; exact ne601.out)
                  have ne610 : Hid ((v602).ownBlock ≠ some (wr.heap.size)) := mv606.ne hb600.lt ne601.out
                  rw [hscv.out, hsz, ← bv_app] at own604
                  have own604 : w603.ownsRow wr.heap.size 5 1 v602 (expB k l j ++ l).length (bv (expB k l j ++ l)) := by rw [List.length_append]; exact own604
                  refine hK1.out _ _ hH2 (fun hH => ?_)
                  clear hK1 K1 hr gr605 mv606 hH2
                  refine wpAnyH_ready (rs := [10]) (by kernel_rfl) (by simp) ?_
                  refine AllReadyH.cons rfl (fun K1 hK1 => ?_) AllReadyH.nil
                  · rw [if_pos (by rfl)]
                    have sd : Sl w603 (.slice (some ⟨(wr.heap.size + 2), 0, none⟩) 1 1) (bv [(j + 1) % 256]) := Sl.of_blk (n := 1) (c := 1) hb607 (Nat.le_refl _) (by simp) (by unfold maxLen; omega)
                    obtain ⟨v611, w612, hr, own613, gr614, mv615⟩ := run_append_sl2 (P := Try.prog) w603 wr.heap.size 22 22 5 i0 (.int .u8 0) 1 Try.underlying22 hi hz0 hz1 hz2 rfl v602 _ _ own604 _ (bv [(j + 1) % 256]) sd (bv_oneCell _) (by simp [maxLen]; omega) (by simp; omega) hH.size
                    refine Lib.wp_append_run _ (.tmp 32) (.tmp 35) 22 22 rfl _ _ rfl rfl v611 w612 hr ?_
                    simp only [Act.put, List.setIfInBounds_toArray, List.set_cons_zero, List.set_cons_succ, Nat.zero_add, decide_true, beq_self_eq_true]
                    have hH2 := own_below hH gr614 own604 hH.size
                    have hb616 := hb609.keeps (Keeps.grown gr614) (by simp only [Option.mem_toList]; exact ne610.out)
                    have ne617 : Hid ((v611).ownBlock ≠ some (wr.heap.size)) := mv615.ne hb609.lt ne610.out
                    rw [← bv_app] at own613
                    have sm618 := Lib.hid (Sl.of_own own613)
                    refine hK1.out _ _ hH2 (fun hH => ?_)
                    clear hK1 K1 hr gr614 mv615 hH2
                    refine wpAnyH_ready (rs := [11]) (by kernel_rfl) (by simp) ?_
                    refine AllReadyH.cons rfl (fun K1 hK1 => ?_) AllReadyH.nil
                    · rw [if_pos (by rfl)]
                      go_wp2_with fail
                      refine (hw1.out _ _ (sH.out.keep hH) (sK.out.keep hH) (slk.out.keep hH) sm618.out).mono ?_
                      rintro e w619 ⟨rfl, hBa⟩
                      have hb620 := hb616.keep hBa
                      refine hK1.out _ _ (below_call hH hH.size hBa) (fun hH => ?_)
                      clear hK1 K1 hBa
                      refine wpAnyH_ready (rs := [13]) (by kernel_rfl) (by simp) ?_
                      refine AllReadyH.cons rfl (fun K1 hK1 => ?_) AllReadyH.nil
                      · rw [if_pos (by rfl)]
                        refine wp_storeA 25 (.tmp 12) (.tmp 37) rfl 32 arrH _ _ rfl (bv (expB k l (j + 1))) rfl 25 _ hb620 hXl.out (by simp) (ones_bv _) ?_
                        intro w621 hb622 hKb
                        rw [putL_all (by rw [hXl.out]; simp)] at hb622
                        refine hK1.out _ _ (hH.trans (hKb.below hH.size (by intro b hb; simp only [List.mem_singleton] at hb; subst hb; exact hGE.out))) (fun hH => ?_)
                        clear hK1 K1 hKb
                        refine wpAnyH_done (by kernel_rfl) ?_ _
                        go_wp2_with fail
                        go_meet
                        exact ⟨_, rfl, hb622, hH⟩
          · go_simp
            have q0 : (wr.alloc (.cells (bv (zeros 32)).toArray 25)).heap.size = (wr.heap.size + 1) := by go_simp
            have q : (wr.alloc (.cells (bv (zeros 32)).toArray 25)).drew.heap.size = (wr.heap.size + 1) := q0
            have hb623 : Blk ((wr.alloc (.cells (bv (zeros 32)).toArray 25)).alloc (.cells #[.int .u8 (((j : Int) + 1) % 256)] 5)).drew (wr.heap.size + 1) 5 [.int .u8 (((j : Int) + 1) % 256)] := by rw [← q0]; exact Blk.new_at (w := (wr.alloc (.cells (bv (zeros 32)).toArray 25))) rfl rfl
            have hb624 : Blk ((wr.alloc (.cells (bv (zeros 32)).toArray 25)).alloc (.cells #[.int .u8 (((j : Int) + 1) % 256)] 5)).drew (wr.heap.size) 25 (bv (zeros 32)) := hb530.alloc (.cells #[.int .u8 (((j : Int) + 1) % 256)] 5)
            refine hK1.out _ _ (hH.alloc hH.size _) (fun hH => ?_)
            clear hK1 K1 q q0
            refine wpAnyH_ready (rs := [2]) (by kernel_rfl) (by simp) ?_
            refine AllReadyH.cons rfl (fun K1 hK1 => ?_) AllReadyH.nil
            · go_simp
              have q0 : ((wr.alloc (.cells (bv (zeros 32)).toArray 25)).alloc (.cells #[.int .u8 (((j : Int) + 1) % 256)] 5)).heap.size = (wr.heap.size + 2) := by go_simp
              have q : ((wr.alloc (.cells (bv (zeros 32)).toArray 25)).alloc (.cells #[.int .u8 (((j : Int) + 1) % 256)] 5)).drew.heap.size = (wr.heap.size + 2) := q0
              have own625 : (((wr.alloc (.cells (bv (zeros 32)).toArray 25)).alloc (.cells #[.int .u8 (((j : Int) + 1) % 256)] 5)).alloc (.cells #[] 5)).drew.ownsRow wr.heap.size 5 1 (Value.slice (some ⟨(wr.heap.size + 2), 0, none⟩) 0 0) 0 [] := by rw [← q0]; exact World.ownsRow_made ((wr.alloc (.cells (bv (zeros 32)).toArray 25)).alloc (.cells #[.int .u8 (((j : Int) + 1) % 256)] 5)) #[] 0 hH.size (Nat.zero_le _) rfl
              have hb626 : Blk (((wr.alloc (.cells (bv (zeros 32)).toArray 25)).alloc (.cells #[.int .u8 (((j : Int) + 1) % 256)] 5)).alloc (.cells #[] 5)).drew ((wr.heap.size + 1)) 5 [.int .u8 (((j : Int) + 1) % 256)] := hb623.alloc (.cells #[] 5)
              have ne627 : Hid ((Value.slice (some ⟨(wr.heap.size + 2), 0, none⟩) 0 0).ownBlock ≠ some ((wr.heap.size + 1))) := fun e => by have h9 : (wr.heap.size + 1) < ((wr.alloc (.cells (bv (zeros 32)).toArray 25)).alloc (.cells #[.int .u8 (((j : Int) + 1) % 256)] 5)).drew.heap.size := hb623.lt; injection e with e; have h8 : (wr.heap.size + 2) = (wr.heap.size + 1) := e; omega
              have hb628 : Blk (((wr.alloc (.cells (bv (zeros 32)).toArray 25)).alloc (.cells #[.int .u8 (((j : Int) + 1) % 256)] 5)).alloc (.cells #[] 5)).drew (wr.heap.size) 25 (bv (zeros 32)) := hb624.alloc (.cells #[] 5)
              have ne629 : Hid ((Value.slice (some ⟨(wr.heap.size + 2), 0, none⟩) 0 0).ownBlock ≠ some (wr.heap.size)) := fun e => by have h9 : wr.heap.size < ((wr.alloc (.cells (bv (zeros 32)).toArray 25)).alloc (.cells #[.int .u8 (((j : Int) + 1) % 256)] 5)).drew.heap.size := hb624.lt; injection e with e; have h8 : (wr.heap.size + 2) = wr.heap.size := e; omega
              refine hK1.out _ _ (hH.alloc hH.size _) (fun hH => ?_)
              clear hK1 K1 q q0
              refine wpAnyH_ready (rs := [4]) (by kernel_rfl) (by simp) ?_
              refine AllReadyH.cons rfl (fun K1 hK1 => ?_) AllReadyH.nil
              · rw [if_pos (by rfl)]
                obtain ⟨v630, w631, hr, own632, gr633, mv634⟩ := run_append_sl2 (P := Try.prog) (((wr.alloc (.cells (bv (zeros 32)).toArray 25)).alloc (.cells #[.int .u8 (((j : Int) + 1) % 256)] 5)).alloc (.cells #[] 5)).drew wr.heap.size 22 22 5 i0 (.int .u8 0) 1 Try.underlying22 hi hz0 hz1 hz2 rfl (Value.slice (some ⟨(wr.heap.size + 2), 0, none⟩) 0 0) 0 [] own625 _ (bv (expB k l j)) (hsl.out.keep hH) (bv_oneCell _) (by rw [bv_length]; simp [maxLen]; omega) (by rw [bv_length]; omega) hH.size
                refine Lib.wp_append_run _ (.tmp 28) (.tmp 29) 22 22 rfl _ _ rfl rfl v630 w631 hr ?_
                simp only [Act.put, List.setIfInBounds_toArray, List.set_cons_zero, List.set_cons_succ, Nat.zero_add, decide_true, beq_self_eq_true]
                have hH2 := own_below hH gr633 own625 hH.size
                have hb635 := hb626.keeps (Keeps.grown gr633) (by simp only [Option.mem_toList]; exact ne627.out)
                have ne636 : Hid ((v630).ownBlock ≠ some ((wr.heap.size + 1))) := mv634.ne hb626.lt ne627.out
                have hb637 := hb628.keeps (Keeps.grown gr633) (by simp only [Option.mem_toList]; exact ne629.out)
                have ne638 : Hid ((v630).ownBlock ≠ some (wr.heap.size)) := mv634.ne hb628.lt ne629.out
                rw [Nat.zero_add, List.nil_append, bv_length] at own632
                refine hK1.out _ _ hH2 (fun hH => ?_)
                clear hK1 K1 hr gr633 mv634 hH2
                refine wpAnyH_ready (rs := [6]) (by kernel_rfl) (by simp) ?_
                refine AllReadyH.cons rfl (fun K1 hK1 => ?_) AllReadyH.nil
                · rw [if_pos (by rfl)]
                  obtain ⟨v639, w640, hr, own641, gr642, mv643⟩ := run_append_str2 (P := Try.prog) w631 wr.heap.size 22 9 22 5 i0 Try.underlying22 Try.underlying9 hi hz0 hz1 hz2 v630 _ _ own632 (bstr l) (by rw [hsz]; simp [maxLen]; omega) (by rw [hsz]; omega) hH.size
                  refine Lib.wp_append_run _ (.tmp 30) (.tmp 31) 22 9 rfl _ _ rfl rfl v639 w640 hr ?_
                  simp only [Act.put, List.setIfInBounds_toArray, List.set_cons_zero, List.set_cons_succ, Nat.zero_add, decide_true, beq_self_eq_true]
                  have hH2 := own_below hH gr642 own632 hH.size
                  have hb644 := hb635.keeps (Keeps.grown gr642) (by simp only [Option.mem_toList]; exact ne636.out)
                  have ne645 : Hid ((v639).ownBlock ≠ some ((wr.heap.size + 1))) := mv643.ne hb635.lt ne636.out
                  have hb646 := hb637.keeps (Keeps.grown gr642) (by simp only [Option.mem_toList]; exact ne638.out)
                  have ne647 : Hid ((v639).ownBlock ≠ some (wr.heap.size)) := mv643.ne hb637.lt ne638.out
                  rw [hscv.out, hsz, ← bv_app] at own641
                  have own641 : w640.ownsRow wr.heap.size 5 1 v639 (expB k l j ++ l).length (bv (expB k l j ++ l)) := by rw [List.length_append]; exact own641
                  refine hK1.out _ _ hH2 (fun hH => ?_)
                  clear hK1 K1 hr gr642 mv643 hH2
                  refine wpAnyH_ready (rs := [10]) (by kernel_rfl) (by simp) ?_
                  refine AllReadyH.cons rfl (fun K1 hK1 => ?_) AllReadyH.nil
                  · rw [if_pos (by rfl)]
                    have sd : Sl w640 (.slice (some ⟨(wr.heap.size + 1), 0, none⟩) 1 1) (bv [(j + 1) % 256]) := Sl.of_blk (n := 1) (c := 1) hb644 (Nat.le_refl _) (by simp) (by unfold maxLen; omega)
                    obtain ⟨v648, w649, hr, own650, gr651, mv652⟩ := run_append_sl2 (P := Try.prog) w640 wr.heap.size 22 22 5 i0 (.int .u8 0) 1 Try.underlying22 hi hz0 hz1 hz2 rfl v639 _ _ own641 _ (bv [(j + 1) % 256]) sd (bv_oneCell _) (by simp [maxLen]; omega) (by simp; omega) hH.size
                    refine Lib.wp_append_run _ (.tmp 32) (.tmp 35) 22 22 rfl _ _ rfl rfl v648 w649 hr ?_
                    simp only [Act.put, List.setIfInBounds_toArray, List.set_cons_zero, List.set_cons_succ, Nat.zero_add, decide_true, beq_self_eq_true]
                    have hH2 := own_below hH gr651 own641 hH.size
                    have hb653 := hb646.keeps (Keeps.grown gr651) (by simp only [Option.mem_toList]; exact ne647.out)
                    have ne654 : Hid ((v648).ownBlock ≠ some (wr.heap.size)) := mv652.ne hb646.lt ne647.out
                    rw [← bv_app] at own650
                    have sm655 := Lib.hid (Sl.of_own own650)
                    refine hK1.out _ _ hH2 (fun hH => ?_)
                    clear hK1 K1 hr gr651 mv652 hH2
                    refine wpAnyH_ready (rs := [11]) (by kernel_rfl) (by simp) ?_
                    refine AllReadyH.cons rfl (fun K1 hK1 => ?_) AllReadyH.nil
                    · rw [if_pos (by rfl)]
                      go_wp2_with fail
                      refine (hw1.out _ _ (sH.out.keep hH) (sK.out.keep hH) (slk.out.keep hH) sm655.out).mono ?_
                      rintro e w656 ⟨rfl, hBa⟩
                      have hb657 := hb653.keep hBa
                      refine hK1.out _ _ (below_call hH hH.size hBa) (fun hH => ?_)
                      clear hK1 K1 hBa
                      refine wpAnyH_ready (rs := [13]) (by kernel_rfl) (by simp) ?_
                      refine AllReadyH.cons rfl (fun K1 hK1 => ?_) AllReadyH.nil
                      · rw [if_pos (by rfl)]
                        refine wp_storeA 25 (.tmp 12) (.tmp 37) rfl 32 arrH _ _ rfl (bv (expB k l (j + 1))) rfl 25 _ hb657 hXl.out (by simp) (ones_bv _) ?_
                        intro w658 hb659 hKb
                        rw [putL_all (by rw [hXl.out]; simp)] at hb659
                        refine hK1.out _ _ (hH.trans (hKb.below hH.size (by intro b hb; simp only [List.mem_singleton] at hb; subst hb; exact hGE.out))) (fun hH => ?_)
                        clear hK1 K1 hKb
                        refine wpAnyH_done (by kernel_rfl) ?_ _
                        go_wp2_with fail
                        go_meet
                        exact ⟨_, rfl, hb659, hH⟩
      case rest =>
        obtain ⟨g8, rfl, hb8, hBx⟩ := hcut
        have hB4 := below_call hB hB.size hBx
        have own4 := own_keep own.out hBx
        have sl8 := hash_sl hb8 hXl.out
        have hL := Lib.hid (hL1.out j)
        have own0 : (wc.alloc (.cells #[] 5)).ownsRow wc.heap.size 5 1 (.slice (some ⟨wc.heap.size, 0, none⟩) 0 0) 0 [] := World.ownsRow_made wc #[] 0 (Nat.le_refl _) (Nat.zero_le _) rfl
        have bel0 : Below wc.heap.size wc (wc.alloc (.cells #[] 5)) := (Below.refl _ _).alloc (Nat.le_refl _) _
        have sl1 := sl8.keep bel0
        clear hcc sH sK slk hw1 qb hb8 hBx hBW sl8
        go_wp2_with (at_builtin; refine wpList_append_sl rfl (.tmp 38) (.tmp 39) 22 rfl wc.heap.size 5 i0 (.int .u8 0) 1 Try.underlying22 hi hz0 hz1 hz2 rfl _ 0 [] rfl own0 _ (bv (expB k l (j + 1))) rfl sl1 (bv_oneCell _) ?_ ?_ ?_ ?_)
        · rw [hXl.out]; simp [maxLen]
        · rw [hXl.out]; decide
        · simp
        intro v5 w5 own5 gr5
        have bel5 := own_below bel0 gr5 own0 (by simp)
        have own5' : w5.ownsRow wc.heap.size 5 1 v5 32 (bv (expB k l (j + 1))) := by
          try simp only [Nat.zero_add, List.nil_append, bv_length] at own5
          rw [(hBl.out j).2] at own5
          exact own5
        have own6 := own_keep own4 bel5
        have hB5 := below_call hB4 hB4.size bel5
        have hout : Hid (∀ x, (Value.slice Ao (32 * j) co).ownBlock = some x → x < wc.heap.size) := fun x hx => (own4.lt x hx).2
        have hlast : Hid (∀ x, v5.ownBlock = some x → wc.heap.size ≤ x ∧ x < w5.heap.size) := fun x hx => own5'.lt x hx
        have sl5 := Sl.of_own own5'
        obtain ⟨A5, c5, rfl, -⟩ := own_shape own5'
        replace own5' := Lib.hid own5'
        clear own5 gr5 own0 bel0 sl1 own4 bel5 hB4
        go_wp2_with (at_builtin; refine wpList_append_sl2 rfl (.tmp 41) (.tmp 42) 22 rfl w3.heap.size 5 i0 (.int .u8 0) 1 Try.underlying22 hi hz0 hz1 hz2 rfl _ (32 * j) (bv (expL k l j)) rfl own6 _ (bv (expB k l (j + 1))) rfl sl5 (bv_oneCell _) ?_ ?_ ?_ ?_)
        · rw [hXl.out]; simp [maxLen]; omega
        · rw [hXl.out]; omega
        · exact hB5.size
        intro v7 w7 own7 gr7 mv7
        have own7' : w7.ownsRow w3.heap.size 5 1 v7 (32 * (j + 1)) (bv (expL k l (j + 1))) := by
          rw [hL.out, bv_app, show 32 * (j + 1) = 32 * j + (bv (expB k l (j + 1))).length by rw [hXl.out]; omega]
          first | exact own7 | (rw [bv_length]; exact own7)
        have sl7 : Sl w7 (.slice A5 32 c5) (bv (expB k l (j + 1))) := Sl.of_own (own_keeps own5'.out (Keeps.grown gr7) (fun x hx hv => by
          simp only [Option.mem_toList]
          intro e
          have h1 := hout.out x e
          have h2 := (hlast.out x hv).1
          omega))
        have hne7 : ∀ (a : Addr) (n c : Nat), Value.slice A5 32 c5 = .slice (some a) n c → v7.ownBlock ≠ some a.block := fun a n c e => by
          injection e with e
          subst e
          have h2 := hlast.out a.block rfl
          exact mv7.ne h2.2 (fun e => by have := hout.out _ e; omega)
        have hB7 := own_below hB5 gr7 own6 hB5.size
        replace own7' := Lib.hid own7'
        replace sl7 := Lib.hid sl7
        replace hne7 := Lib.hid hne7
        clear own7 gr7 mv7 own6 sl5 hB5
        go_wp2
        go_roundg (gk - 1)
        case measure => have := hgk.out; omega
        case rel => exact ⟨j + 1, by show _ = _; have := hgk.out; omega, by congr 1, own7'.out, sl7.out, hne7.out, hB7⟩
    · have hjq : j = q := by have := hgk.out; omega
      have hm32 : Hid (m ≤ 32 * j ∧ (m = 0 ↔ j = 0)) := by show _ ∧ _; have := Hq.out; omega
      have ht : ¬ (32 * (j : Int)) < (m : Int) := by have := hm32.out.1; omega
      have hBl2 := Lib.hid (hLl.out j)
      rw [← hjq] at hR
      have hmj : (m : Int) ≤ 32 * (j : Int) := by omega
      have hBW := below_call hB3 hB3.size hB
      clear hsl hne hnl hgk hjq hao
      rcases own.out.2 with ⟨e, -⟩ | ⟨g, cap, cur, e, hb2, hg, h3', h4, -, -⟩
      · injection e with e1 e2 e3
        have hj0 : j = 0 := by omega
        have hm0 : m = 0 := by have := hm32.out.2; omega
        subst e1 e3 hj0 hm0
        clear own e2
        go_wp2
        exact hR.out _ _ _ ⟨_, rfl, by rw [List.take_zero]; exact Sl.nil_ _, hBW⟩
      · injection e with e1 e2 e3
        subst e1 e3
        have hcI : (m : Int) ≤ co := by omega
        have hc1 : (co : Int) ≤ 9223372036854775807 := by unfold maxLen at h4; omega
        have slo : Sl wr (.slice (some ⟨g, 0, none⟩) (32 * j) co) (bv (expL k l j)) := Sl.of_own own.out
        have slh := slo.head (i := m) (by rw [bv_length, hBl2.out]) hm32.out.1
        rw [show (bv (expL k l j)).take m = bv ((expL k l j).take m) from by simp [bv]] at slh
        replace slh := Lib.hid slh
        clear slo own hg
        go_wp2
        exact hR.out _ _ _ ⟨_, rfl, slh.out, hBW⟩
theorem rexpand_any (v : Value) (m : Nat) (k l : List Nat) (w : World) (hs : Sl w v (bv k)) (bk : Byt k) (hlk : (k.length : Int) ≤ 549755813888) (bl : Byt l) (hll : (l.length : Int) ≤ 1000) (hm : (m : Int) ≤ 8160) :
    Calls Try.prog 16 #[v, .string (bstr l), .int .i64 (m : Int)] w (RetX k l m w) := by
  obtain ⟨A, c, rfl, -⟩ := id hs
  exact rexpand_core A _ c m k l w hs bk hlk bl hll hm
end Go.Proofs.Ythlebobfbalknaa
