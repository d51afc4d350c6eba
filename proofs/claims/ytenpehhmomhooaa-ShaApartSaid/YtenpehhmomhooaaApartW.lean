/- The walk of ShaApart. -/
import Derived.Test.YtenpehhmomhooaaShL
import Derived.Test.YtenpehhmomhooaaRgx
set_option linter.unusedVariables false
set_option linter.unusedSimpArgs false
namespace Go.Proofs.Ytenpehhmomhooaa.w_ShaApart
open Go.RowKit
open Go.Proofs.PlainAes
open Go.Proofs.PlainSha

/-- Two hashers side by side, made behind w0. -/
def Two (w0 w : World) (z1 z2 g h : Nat) (r r' : Option Nat) (l l' : List Nat) : Prop :=
  Hsh w z1 g r l ∧ Hsh w z2 h r' l' ∧ Below w0.heap.size w0 w ∧ r ≠ some h ∧ (∀ k, r' = some k → r ≠ some k) ∧ w0.heap.size ≤ z1 ∧ g < z2 ∧ z1 ≤ z2
theorem Two.ne {w0 w : World} {z1 z2 g h : Nat} {r r' : Option Nat} {l l' : List Nat} (t : Two w0 w z1 z2 g h r r' l l') : r' ≠ some g := fun e => by
  obtain ⟨h1, h2, h3, h4, h5, h6, h7, h8⟩ := t
  have := (h2.row _ e).1
  omega
theorem Two.writeG {w0 w w' : World} {z1 z2 g h : Nat} {r r' : Option Nat} {l l' m : List Nat} (t : Two w0 w z1 z2 g h r r' l l') {e : Ending} (x : RetWr z1 g r m w e w') :
    e = .returned (.int .i64 0) ∧ ∃ q, Two w0 w' z1 z2 g h q r' m l' := by
  have hne := t.ne
  obtain ⟨h1, h2, h3, h4, h5, h6, h7, h8⟩ := t
  obtain ⟨rfl, q, hq, hK, hm⟩ := x
  have b1 := h1.lt
  have b2 := h2.lt
  have b3 := h3.size
  exact ⟨rfl, q, hq, h2.other hK (by omega) h4 hne h5, h3.trans (hK.belowH b3 (by omega) (fun k hk => by have := (h1.row k hk).1; omega)),
    hm.ne b2.2 h4, fun k hk => hm.ne (h2.row k hk).2 (h5 k hk), h6, h7, h8⟩
theorem Two.writeH {w0 w w' : World} {z1 z2 g h : Nat} {r r' : Option Nat} {l l' m : List Nat} (t : Two w0 w z1 z2 g h r r' l l') {e : Ending} (x : RetWr z2 h r' m w e w') :
    e = .returned (.int .i64 0) ∧ ∃ q, Two w0 w' z1 z2 g h r q l m := by
  have hne := t.ne
  obtain ⟨h1, h2, h3, h4, h5, h6, h7, h8⟩ := t
  obtain ⟨rfl, q, hq, hK, hm⟩ := x
  have b1 := h1.lt
  have b2 := h2.lt
  have b3 := h3.size
  exact ⟨rfl, q, h1.other hK (by omega) hne h4 (fun k hk e => h5 k e hk), hq, h3.trans (hK.belowH b3 (by omega) (fun k hk => by have := (h2.row k hk).1; omega)),
    h4, fun k hk e => hm.ne (h1.row k e).2 (fun e' => h5 k e' e) hk, h6, h7, h8⟩
theorem Two.keep {w0 w w' : World} {z1 z2 g h : Nat} {r r' : Option Nat} {l l' : List Nat} (t : Two w0 w z1 z2 g h r r' l l') (hB : Below w.heap.size w w') : Two w0 w' z1 z2 g h r r' l l' := by
  obtain ⟨h1, h2, h3, h4, h5, h6, h7, h8⟩ := t
  exact ⟨h1.keep hB, h2.keep hB, below_call h3 h3.size hB, h4, h5, h6, h7, h8⟩
theorem Two.fresh {w0 w w' : World} {z1 z2 g h x : Nat} {r r' : Option Nat} {l l' : List Nat} (t : Two w0 w z1 z2 g h r r' l l') (hK : Keeps [x] w w') (hx : g < x ∧ h < x ∧ w0.heap.size ≤ x) (hr : r ≠ some x ∧ r' ≠ some x) : Two w0 w' z1 z2 g h r r' l l' := by
  obtain ⟨h1, h2, h3, h4, h5, h6, h7, h8⟩ := t
  exact ⟨h1.keeps hK (by simp; omega) (fun k hk => by simp; intro e; exact hr.1 (by rw [hk, e])), h2.keeps hK (by simp; omega) (fun k hk => by simp; intro e; exact hr.2 (by rw [hk, e])), h3.trans (hK.below h3.size (by simp; omega)), h4, h5, h6, h7, h8⟩
theorem Two.alloc {w0 w w' : World} {z1 z2 g h : Nat} {r r' : Option Nat} {l l' : List Nat} (t : Two w0 w z1 z2 g h r r' l l') (hK : Keeps [] w w') : Two w0 w' z1 z2 g h r r' l l' := by
  obtain ⟨h1, h2, h3, h4, h5, h6, h7, h8⟩ := t
  exact ⟨h1.keeps hK (by simp) (by simp), h2.keeps hK (by simp) (by simp), h3.trans (hK.below h3.size (by simp)), h4, h5, h6, h7, h8⟩
theorem Two.lt {w0 w : World} {z1 z2 g h : Nat} {r r' : Option Nat} {l l' : List Nat} (t : Two w0 w z1 z2 g h r r' l l') : g < w.heap.size ∧ h < w.heap.size ∧ w0.heap.size ≤ w.heap.size ∧ r ≠ some w.heap.size ∧ r' ≠ some w.heap.size := by
  obtain ⟨h1, h2, h3, h4, h5, h6, h7, h8⟩ := t
  exact ⟨h1.lt.2, h2.lt.2, h3.size, fun e => by have := (h1.row _ e).2; omega, fun e => by have := (h2.row _ e).2; omega⟩
/-- A part of an old slice lies apart from both. -/
theorem Two.apart {w0 w : World} {z1 z2 g h : Nat} {r r' : Option Nat} {l l' : List Nat} (t : Two w0 w z1 z2 g h r r' l l') {x : Nat} (hx : x < w0.heap.size) : x ≠ g ∧ r ≠ some x ∧ x ≠ h ∧ r' ≠ some x := by
  obtain ⟨h1, h2, h3, h4, h5, h6, h7, h8⟩ := t
  have b1 := h1.lt
  have b2 := h2.lt
  exact ⟨by omega, fun e => by have := (h1.row _ e).1; omega, by omega, fun e => by have := (h2.row _ e).1; omega⟩

set_option maxRecDepth 100000 in
set_option maxHeartbeats 4000000 in
theorem core (A1 A2 : Option Addr) (n1 n2 c1 c2 : Nat) (a b : List Nat) (w : World) (hs1 : Sl w (.slice A1 n1 c1) (bv a)) (hs2 : Sl w (.slice A2 n2 c2) (bv b)) (ba : Byt a) (bb : Byt b) (hn1 : n1 = a.length) (hn2 : n2 = b.length) (hm1 : (n1 : Int) ≤ 140737488355328) (hm2 : (n2 : Int) ≤ 140737488355328) :
    Calls Try.prog 8 #[.slice A1 n1 c1, .slice A2 n2 c2] w fun e w' => e = .returned (.bool true) ∧ Below w.heap.size w w' := by
  have hal := Lib.hid (fun w => alive_any w)
  by_cases hbig : (3000 : Int) < (n1 : Int) + (n2 : Int)
  · clear hs1 hs2
    go_enter Try.func8, Try.ntmps8
    go_wp2_with fail
    refine (hal.out _).mono ?_
    rintro e w1 ⟨rfl, hB1⟩
    go_wp2
    go_ret
    exact ⟨rfl, hB1⟩
  · have hnew := Lib.hid (fun w => new_any w)
    have hwr := Lib.hid (fun l b B g v r w h hs bl bb hlen hsep => write_any l b B g v r w h hs bl bb hlen hsep)
    have hsm := Lib.hid (fun l B g r w h bl hlen => sum_any l B g r w h bl hlen)
    have hsum := Lib.hid (fun b v w hs bb hlen => shasum_any b v w hs bb hlen)
    replace hs1 := Lib.hid hs1
    replace hs2 := Lib.hid hs2
    replace hn1 := Lib.hid hn1
    replace hn2 := Lib.hid hn2
    go_enter Try.func8, Try.ntmps8
    go_wp2_with fail
    refine (hal.out _).mono ?_
    rintro e w1 ⟨rfl, hB1⟩
    go_wp2_with fail
    refine (hnew.out _).mono ?_
    rintro e w2 ⟨g, rfl, hg, hB2⟩
    go_wp2_with fail
    refine (hnew.out _).mono ?_
    rintro e w3 ⟨h, rfl, hh, hB3⟩
    have hT3 : Two w w3 w1.heap.size w2.heap.size g h none none [] [] := ⟨hg.keep hB3, hh, below_call (below_call hB1 hB1.size hB2) (by have := hB1.size; have := hB2.size; omega) hB3, by simp, by simp, hB1.size, hg.lt.2, hB2.size⟩
    clear hB1 hB2 hB3 hg hh
    generalize w1.heap.size = z1 at *
    generalize w2.heap.size = z2 at *
    go_wp2
    have hM : (n1 : Int) ≤ max (n1 : Int) n2 ∧ (n2 : Int) ≤ max (n1 : Int) n2 ∧ max (n1 : Int) n2 ≤ 3000 := by omega
    generalize max (n1 : Int) n2 = M at *
    go_loopw [27] (fun i wr => ∃ (k : Nat) (r r' : Option Nat), (k : Int) ≤ M ∧ i = .int .i64 (k : Int) ∧ Two w wr z1 z2 g h r r' (a.take k) (b.take k)) (fun i _ => M.toNat - (intOf i).toNat)
    case atStart => exact ⟨0, none, none, by omega, rfl, hT3⟩
    case round =>
      clear hT3
      obtain ⟨k, r, r', hk, rfl, hT⟩ := hrel
      by_cases hlt : (k : Int) < M
      · have hc1 := hs1.out.cap
        have hc2 := hs2.out.cap
        by_cases hka : (k : Int) < (n1 : Int)
        · have hkl : k < a.length := by have := hn1.out; omega
          obtain ⟨ga, oa, hAe, hpt⟩ := (hs1.out.keep hT.2.2.1).part k 1 (by decide) (by omega) (by rw [bv_length, hn1.out])
          have hga := hs1.out.lt (by rw [bv_length]; omega) (by rw [hAe])
          have hap := hT.apart hga
          rw [bv_seg] at hpt
          have hw1 := Lib.hid (hwr.out (a.take k) (seg a k 1) z1 g _ r _ hT.1 hpt (fun x hx => ba x (List.mem_of_mem_take hx)) (seg_lt ba _ _) (by simp [seg]; omega) (fun _ a' n' c' e => by
            injection e with e _ _
            injection e with e
            subst e
            exact ⟨hap.1, hap.2.1⟩))
          rw [take_seg1 a k hkl] at hw1
          subst hAe
          clear hpt hga hap hkl
          go_wp2_with fail
          refine hw1.out.mono ?_
          rintro e w4G hR
          replace hT := hT.writeG hR
          obtain ⟨rfl, qG, hT⟩ := hT
          clear hR hw1
          by_cases hkb : (k : Int) < (n2 : Int)
          · have hkl : k < b.length := by have := hn2.out; omega
            obtain ⟨ga, oa, hAe, hpt⟩ := (hs2.out.keep hT.2.2.1).part k 1 (by decide) (by omega) (by rw [bv_length, hn2.out])
            have hga := hs2.out.lt (by rw [bv_length]; omega) (by rw [hAe])
            have hap := hT.apart hga
            rw [bv_seg] at hpt
            have hw1 := Lib.hid (hwr.out (b.take k) (seg b k 1) z2 h _ r' _ hT.2.1 hpt (fun x hx => bb x (List.mem_of_mem_take hx)) (seg_lt bb _ _) (by simp [seg]; omega) (fun _ a' n' c' e => by
              injection e with e _ _
              injection e with e
              subst e
              exact ⟨hap.2.2.1, hap.2.2.2⟩))
            rw [take_seg1 b k hkl] at hw1
            subst hAe
            clear hpt hga hap hkl
            go_wp2_with fail
            refine hw1.out.mono ?_
            rintro e w4H hR
            replace hT := hT.writeH hR
            obtain ⟨rfl, qH, hT⟩ := hT
            clear hR hw1
            go_wp2
            go_roundw
            case rel => exact ⟨k + 1, _, _, by omega, by go_num, hT⟩
            case measure => simp [intOf]; omega
          · have hsk : b.take k = b.take (k + 1) := by have := hn2.out; rw [List.take_of_length_le (by omega), List.take_of_length_le (by omega)]
            rw [hsk] at hT
            clear hsk
            go_wp2
            go_roundw
            case rel => exact ⟨k + 1, _, _, by omega, by go_num, hT⟩
            case measure => simp [intOf]; omega
        · have hsk : a.take k = a.take (k + 1) := by have := hn1.out; rw [List.take_of_length_le (by omega), List.take_of_length_le (by omega)]
          rw [hsk] at hT
          clear hsk
          by_cases hkb : (k : Int) < (n2 : Int)
          · have hkl : k < b.length := by have := hn2.out; omega
            obtain ⟨ga, oa, hAe, hpt⟩ := (hs2.out.keep hT.2.2.1).part k 1 (by decide) (by omega) (by rw [bv_length, hn2.out])
            have hga := hs2.out.lt (by rw [bv_length]; omega) (by rw [hAe])
            have hap := hT.apart hga
            rw [bv_seg] at hpt
            have hw1 := Lib.hid (hwr.out (b.take k) (seg b k 1) z2 h _ r' _ hT.2.1 hpt (fun x hx => bb x (List.mem_of_mem_take hx)) (seg_lt bb _ _) (by simp [seg]; omega) (fun _ a' n' c' e => by
              injection e with e _ _
              injection e with e
              subst e
              exact ⟨hap.2.2.1, hap.2.2.2⟩))
            rw [take_seg1 b k hkl] at hw1
            subst hAe
            clear hpt hga hap hkl
            go_wp2_with fail
            refine hw1.out.mono ?_
            rintro e w4H hR
            replace hT := hT.writeH hR
            obtain ⟨rfl, qH, hT⟩ := hT
            clear hR hw1
            go_wp2
            go_roundw
            case rel => exact ⟨k + 1, _, _, by omega, by go_num, hT⟩
            case measure => simp [intOf]; omega
          · have hsk : b.take k = b.take (k + 1) := by have := hn2.out; rw [List.take_of_length_le (by omega), List.take_of_length_le (by omega)]
            rw [hsk] at hT
            clear hsk
            go_wp2
            go_roundw
            case rel => exact ⟨k + 1, _, _, by omega, by go_num, hT⟩
            case measure => simp [intOf]; omega
      · obtain rfl : M = (k : Int) := by omega
        rw [List.take_of_length_le (by have := hn1.out; omega), List.take_of_length_le (by have := hn2.out; omega)] at hT
        go_wp2_with fail
        refine (hsm.out _ z1 g r _ hT.1 ba (by have := hn1.out; omega)).mono ?_
        rintro e w6a ⟨rfl, hB6⟩
        replace hT := hT.keep hB6
        clear hB6
        go_wp2_with (refine wpList_allocA rfl 24 rfl (bv (zeros 32)) (by kernel_rfl) ?_)
        intro w6b hx6o hK6 hz6
        have hl6 := hT.lt
        replace hT := hT.alloc hK6
        clear hK6 hz6
        generalize w6a.heap.size = gx at *
        go_wp2_with (refine wpList_storeW rfl 24 (.tmp 8) (.tmp 56) rfl 32 arrH gx rfl (bv (shaL a)) rfl 24 _ hx6o (bvsh a) (by simp) (ones_bv _) ?_)
        intro w6 hx6 hK6
        clear hx6o
        replace hT := hT.fresh hK6 ⟨hl6.1, hl6.2.1, hl6.2.2.1⟩ ⟨hl6.2.2.2.1, hl6.2.2.2.2⟩
        clear hK6 hl6
        go_wp2_with fail
        refine (hsm.out _ z2 h r' _ hT.2.1 bb (by have := hn2.out; omega)).mono ?_
        rintro e w8a ⟨rfl, hB8⟩
        replace hT := hT.keep hB8
        have hx6 := hx6.keep hB8
        clear hB8
        go_wp2_with (refine wpList_allocA rfl 24 rfl (bv (zeros 32)) (by kernel_rfl) ?_)
        intro w8b hx8o hK8 hz8
        have hl8 := hT.lt
        replace hT := hT.alloc hK8
        have qhx6 := hx6.lt
        have hx6 := hx6.keeps hK8 (by simp)
        clear hK8 hz8
        generalize w8a.heap.size = gy at *
        go_wp2_with (refine wpList_storeW rfl 24 (.tmp 10) (.tmp 61) rfl 32 arrH gy rfl (bv (shaL b)) rfl 24 _ hx8o (bvsh b) (by simp) (ones_bv _) ?_)
        intro w8 hx8 hK8
        clear hx8o
        replace hT := hT.fresh hK8 ⟨hl8.1, hl8.2.1, hl8.2.2.1⟩ ⟨hl8.2.2.2.1, hl8.2.2.2.2⟩
        have hx6 := hx6.keeps hK8 (by simp; omega)
        clear hK8 hl8
        have hB9 := Lib.hid hT.2.2.1
        have hsA := Lib.hid (hs1.out.keep hB9.out)
        have hsB := Lib.hid (hs2.out.keep hB9.out)
        have hW1 := Lib.hid (show ((a.length : Nat) : Int) = (n1 : Int) by rw [hn1.out])
        have hW2 := Lib.hid (show ((b.length : Nat) : Int) = (n2 : Int) by rw [hn2.out])
        go_wp2
        refine wp_region_held_drew (S := fun w' => Below w8.heap.size w8 w') (by kernel_rfl) ((Below.refl _ _).drew) (fun hH => ?_)
        refine takeH_move (o := ⟨some 63, _, _, _, _, _⟩) (i := 0) rfl (by kernel_rfl) (by kernel_rfl) (by kernel_rfl) (fun _ _ _ _ h => h) rfl (.tmp 9) rfl (.int .i64 0) rfl hH ?_
        simp only [Act.put, List.setIfInBounds_toArray, List.set_cons_zero, List.set_cons_succ, Nat.zero_add, decide_true, beq_self_eq_true]
        refine takeH_eqInt (o := ⟨some 64, _, _, _, _, _⟩) (i := 1) rfl (by kernel_rfl) (by kernel_rfl) (by kernel_rfl) (fun _ _ _ _ h => h) rfl 32 32 .i64 (.tmp 63) (.const (.int .i64 0)) rfl Try.underlying32 _ _ rfl rfl (rfl) hH ?_
        simp only [Act.put, List.setIfInBounds_toArray, List.set_cons_zero, List.set_cons_succ, Nat.zero_add, decide_true, beq_self_eq_true]
        refine takeH_move (o := ⟨some 65, _, _, _, _, _⟩) (i := 2) rfl (by kernel_rfl) (by kernel_rfl) (by kernel_rfl) (fun _ _ _ _ h => h) rfl (.tmp 64) rfl (.bool true) rfl hH ?_
        simp only [Act.put, List.setIfInBounds_toArray, List.set_cons_zero, List.set_cons_succ, Nat.zero_add, decide_true, beq_self_eq_true]
        refine takeH_move (o := ⟨some 66, _, _, _, _, _⟩) (i := 3) rfl (by kernel_rfl) (by kernel_rfl) (by kernel_rfl) (fun _ _ _ _ h => h) rfl (.tmp 11) rfl (.int .i64 0) rfl hH ?_
        simp only [Act.put, List.setIfInBounds_toArray, List.set_cons_zero, List.set_cons_succ, Nat.zero_add, decide_true, beq_self_eq_true]
        refine takeH_eqInt (o := ⟨some 67, _, _, _, _, _⟩) (i := 4) rfl (by kernel_rfl) (by kernel_rfl) (by kernel_rfl) (fun _ _ _ _ h => h) rfl 32 32 .i64 (.tmp 66) (.const (.int .i64 0)) rfl Try.underlying32 _ _ rfl rfl (rfl) hH ?_
        simp only [Act.put, List.setIfInBounds_toArray, List.set_cons_zero, List.set_cons_succ, Nat.zero_add, decide_true, beq_self_eq_true]
        refine takeH_pick (o := ⟨some 68, _, _, _, _, _⟩) (i := 5) rfl (by kernel_rfl) (by kernel_rfl) (by kernel_rfl) (fun _ _ _ _ h => h) rfl (.tmp 65) (.tmp 67) (.const (.bool false)) rfl true rfl (.bool true) rfl hH ?_
        simp only [Act.put, List.setIfInBounds_toArray, List.set_cons_zero, List.set_cons_succ, Nat.zero_add, decide_true, beq_self_eq_true]
        refine takeH_move (o := ⟨some 69, _, _, _, _, _⟩) (i := 6) rfl (by kernel_rfl) (by kernel_rfl) (by kernel_rfl) (fun _ _ _ _ h => h) rfl (.tmp 68) rfl (.bool true) rfl hH ?_
        simp only [Act.put, List.setIfInBounds_toArray, List.set_cons_zero, List.set_cons_succ, Nat.zero_add, decide_true, beq_self_eq_true]
        refine takeH_load (o := ⟨some 70, _, _, _, _, _⟩) (i := 7) rfl (by kernel_rfl) (by kernel_rfl) (by kernel_rfl) (fun _ _ _ _ h => h) rfl 24 (.tmp 8) rfl 32 arrH gx 0 rfl (bv (shaL a)) (bvsh _) (fun w h => hSS (hx6.keep h) (bvsh _)) hH ?_
        simp only [Act.put, List.setIfInBounds_toArray, List.set_cons_zero, List.set_cons_succ, Nat.zero_add, decide_true, beq_self_eq_true]
        refine takeH_move (o := ⟨some 71, _, _, _, _, _⟩) (i := 8) rfl (by kernel_rfl) (by kernel_rfl) (by kernel_rfl) (fun _ _ _ _ h => h) rfl (.tmp 0) rfl (.slice A1 n1 c1) rfl hH ?_
        simp only [Act.put, List.setIfInBounds_toArray, List.set_cons_zero, List.set_cons_succ, Nat.zero_add, decide_true, beq_self_eq_true]
        refine wpAnyH_ready (rs := [9]) (by kernel_rfl) (by simp) ?_
        refine AllReadyH.cons rfl (fun K1 hK1 => ?_) AllReadyH.nil
        rw [if_pos (by rfl)]
        go_wp2_with fail
        refine (hsum.out a _ _ (hsA.out.keep hH) ba (by have := hn1.out; omega)).mono ?_
        rintro e wa ⟨rfl, hBa⟩
        refine hK1.out _ _ (below_call hH hH.size hBa) (fun hH => ?_)
        clear hK1 K1
        refine takeH_eqlT (o := ⟨some 73, _, _, _, _, _⟩) (i := 10) rfl (by kernel_rfl) (by kernel_rfl) (by kernel_rfl) (fun _ _ _ _ h => h) rfl 24 (.tmp 70) (.tmp 72) 24 rfl 32 bytH _ _ rfl rfl (shlen _) rfl hH ?_
        simp only [Act.put, List.setIfInBounds_toArray, List.set_cons_zero, List.set_cons_succ, Nat.zero_add, decide_true, beq_self_eq_true]
        refine takeH_pick (o := ⟨some 74, _, _, _, _, _⟩) (i := 11) rfl (by kernel_rfl) (by kernel_rfl) (by kernel_rfl) (fun _ _ _ _ h => h) rfl (.tmp 69) (.tmp 73) (.const (.bool false)) rfl true rfl (.bool true) rfl hH ?_
        simp only [Act.put, List.setIfInBounds_toArray, List.set_cons_zero, List.set_cons_succ, Nat.zero_add, decide_true, beq_self_eq_true]
        refine takeH_move (o := ⟨some 75, _, _, _, _, _⟩) (i := 12) rfl (by kernel_rfl) (by kernel_rfl) (by kernel_rfl) (fun _ _ _ _ h => h) rfl (.tmp 74) rfl (.bool true) rfl hH ?_
        simp only [Act.put, List.setIfInBounds_toArray, List.set_cons_zero, List.set_cons_succ, Nat.zero_add, decide_true, beq_self_eq_true]
        refine takeH_load (o := ⟨some 76, _, _, _, _, _⟩) (i := 13) rfl (by kernel_rfl) (by kernel_rfl) (by kernel_rfl) (fun _ _ _ _ h => h) rfl 24 (.tmp 10) rfl 32 arrH gy 0 rfl (bv (shaL b)) (bvsh _) (fun w h => hSS (hx8.keep h) (bvsh _)) hH ?_
        simp only [Act.put, List.setIfInBounds_toArray, List.set_cons_zero, List.set_cons_succ, Nat.zero_add, decide_true, beq_self_eq_true]
        refine takeH_move (o := ⟨some 77, _, _, _, _, _⟩) (i := 14) rfl (by kernel_rfl) (by kernel_rfl) (by kernel_rfl) (fun _ _ _ _ h => h) rfl (.tmp 1) rfl (.slice A2 n2 c2) rfl hH ?_
        simp only [Act.put, List.setIfInBounds_toArray, List.set_cons_zero, List.set_cons_succ, Nat.zero_add, decide_true, beq_self_eq_true]
        refine wpAnyH_ready (rs := [15]) (by kernel_rfl) (by simp) ?_
        refine AllReadyH.cons rfl (fun K1 hK1 => ?_) AllReadyH.nil
        rw [if_pos (by rfl)]
        go_wp2_with fail
        refine (hsum.out b _ _ (hsB.out.keep hH) bb (by have := hn2.out; omega)).mono ?_
        rintro e wa ⟨rfl, hBa⟩
        refine hK1.out _ _ (below_call hH hH.size hBa) (fun hH => ?_)
        clear hK1 K1
        refine takeH_eqlT (o := ⟨some 79, _, _, _, _, _⟩) (i := 16) rfl (by kernel_rfl) (by kernel_rfl) (by kernel_rfl) (fun _ _ _ _ h => h) rfl 24 (.tmp 76) (.tmp 78) 24 rfl 32 bytH _ _ rfl rfl (shlen _) rfl hH ?_
        simp only [Act.put, List.setIfInBounds_toArray, List.set_cons_zero, List.set_cons_succ, Nat.zero_add, decide_true, beq_self_eq_true]
        refine takeH_pick (o := ⟨some 80, _, _, _, _, _⟩) (i := 17) rfl (by kernel_rfl) (by kernel_rfl) (by kernel_rfl) (fun _ _ _ _ h => h) rfl (.tmp 75) (.tmp 79) (.const (.bool false)) rfl true rfl (.bool true) rfl hH ?_
        simp only [Act.put, List.setIfInBounds_toArray, List.set_cons_zero, List.set_cons_succ, Nat.zero_add, decide_true, beq_self_eq_true]
        refine takeH_move (o := ⟨some 81, _, _, _, _, _⟩) (i := 18) rfl (by kernel_rfl) (by kernel_rfl) (by kernel_rfl) (fun _ _ _ _ h => h) rfl (.tmp 80) rfl (.bool true) rfl hH ?_
        simp only [Act.put, List.setIfInBounds_toArray, List.set_cons_zero, List.set_cons_succ, Nat.zero_add, decide_true, beq_self_eq_true]
        refine takeH_move (o := ⟨some 82, _, _, _, _, _⟩) (i := 19) rfl (by kernel_rfl) (by kernel_rfl) (by kernel_rfl) (fun _ _ _ _ h => h) rfl (.tmp 5) rfl (.pointer (some ⟨g, 0, none⟩)) rfl hH ?_
        simp only [Act.put, List.setIfInBounds_toArray, List.set_cons_zero, List.set_cons_succ, Nat.zero_add, decide_true, beq_self_eq_true]
        refine takeH_move (o := ⟨some 84, _, _, _, _, _⟩) (i := 21) rfl (by kernel_rfl) (by kernel_rfl) (by kernel_rfl) (fun _ _ _ _ h => h) rfl (.tmp 0) rfl (.slice A1 n1 c1) rfl hH ?_
        simp only [Act.put, List.setIfInBounds_toArray, List.set_cons_zero, List.set_cons_succ, Nat.zero_add, decide_true, beq_self_eq_true]
        refine takeH_len (o := ⟨some 85, _, _, _, _, _⟩) (i := 22) rfl (by kernel_rfl) (by kernel_rfl) (by kernel_rfl) (fun _ _ _ _ h => h) rfl 22 5 (.tmp 84) rfl Try.underlying22 _ _ _ rfl hH ?_
        simp only [Act.put, List.setIfInBounds_toArray, List.set_cons_zero, List.set_cons_succ, Nat.zero_add, decide_true, beq_self_eq_true]
        refine wpAnyH_ready (rs := [20]) (by kernel_rfl) (by simp) ?_
        refine AllReadyH.cons rfl (fun K1 hK1 => ?_) AllReadyH.nil
        rw [if_pos (by rfl)]
        go_wp2_with fail
        refine (len_any (a) z1 g r _ (hT.1.keep hH)).mono ?_
        rintro e wa ⟨rfl, rfl⟩
        refine hK1.out _ _ hH (fun hH => ?_)
        clear hK1 K1
        refine takeH_eqInt (o := ⟨some 86, _, _, _, _, _⟩) (i := 23) rfl (by kernel_rfl) (by kernel_rfl) (by kernel_rfl) (fun _ _ _ _ h => h) rfl 3 3 .i64 (.tmp 83) (.tmp 85) rfl Try.underlying3 _ _ rfl rfl (hW1.out) hH ?_
        simp only [Act.put, List.setIfInBounds_toArray, List.set_cons_zero, List.set_cons_succ, Nat.zero_add, decide_true, beq_self_eq_true]
        refine takeH_pick (o := ⟨some 87, _, _, _, _, _⟩) (i := 24) rfl (by kernel_rfl) (by kernel_rfl) (by kernel_rfl) (fun _ _ _ _ h => h) rfl (.tmp 81) (.tmp 86) (.const (.bool false)) rfl true rfl (.bool true) rfl hH ?_
        simp only [Act.put, List.setIfInBounds_toArray, List.set_cons_zero, List.set_cons_succ, Nat.zero_add, decide_true, beq_self_eq_true]
        refine takeH_move (o := ⟨some 88, _, _, _, _, _⟩) (i := 25) rfl (by kernel_rfl) (by kernel_rfl) (by kernel_rfl) (fun _ _ _ _ h => h) rfl (.tmp 87) rfl (.bool true) rfl hH ?_
        simp only [Act.put, List.setIfInBounds_toArray, List.set_cons_zero, List.set_cons_succ, Nat.zero_add, decide_true, beq_self_eq_true]
        refine takeH_move (o := ⟨some 89, _, _, _, _, _⟩) (i := 26) rfl (by kernel_rfl) (by kernel_rfl) (by kernel_rfl) (fun _ _ _ _ h => h) rfl (.tmp 6) rfl (.pointer (some ⟨h, 0, none⟩)) rfl hH ?_
        simp only [Act.put, List.setIfInBounds_toArray, List.set_cons_zero, List.set_cons_succ, Nat.zero_add, decide_true, beq_self_eq_true]
        refine takeH_move (o := ⟨some 91, _, _, _, _, _⟩) (i := 28) rfl (by kernel_rfl) (by kernel_rfl) (by kernel_rfl) (fun _ _ _ _ h => h) rfl (.tmp 1) rfl (.slice A2 n2 c2) rfl hH ?_
        simp only [Act.put, List.setIfInBounds_toArray, List.set_cons_zero, List.set_cons_succ, Nat.zero_add, decide_true, beq_self_eq_true]
        refine takeH_len (o := ⟨some 92, _, _, _, _, _⟩) (i := 29) rfl (by kernel_rfl) (by kernel_rfl) (by kernel_rfl) (fun _ _ _ _ h => h) rfl 22 5 (.tmp 91) rfl Try.underlying22 _ _ _ rfl hH ?_
        simp only [Act.put, List.setIfInBounds_toArray, List.set_cons_zero, List.set_cons_succ, Nat.zero_add, decide_true, beq_self_eq_true]
        refine wpAnyH_ready (rs := [27]) (by kernel_rfl) (by simp) ?_
        refine AllReadyH.cons rfl (fun K1 hK1 => ?_) AllReadyH.nil
        rw [if_pos (by rfl)]
        go_wp2_with fail
        refine (len_any (b) z2 h r' _ (hT.2.1.keep hH)).mono ?_
        rintro e wa ⟨rfl, rfl⟩
        refine hK1.out _ _ hH (fun hH => ?_)
        clear hK1 K1
        refine takeH_eqInt (o := ⟨some 93, _, _, _, _, _⟩) (i := 30) rfl (by kernel_rfl) (by kernel_rfl) (by kernel_rfl) (fun _ _ _ _ h => h) rfl 3 3 .i64 (.tmp 90) (.tmp 92) rfl Try.underlying3 _ _ rfl rfl (hW2.out) hH ?_
        simp only [Act.put, List.setIfInBounds_toArray, List.set_cons_zero, List.set_cons_succ, Nat.zero_add, decide_true, beq_self_eq_true]
        refine takeH_pick (o := ⟨some 94, _, _, _, _, _⟩) (i := 31) rfl (by kernel_rfl) (by kernel_rfl) (by kernel_rfl) (fun _ _ _ _ h => h) rfl (.tmp 88) (.tmp 93) (.const (.bool false)) rfl true rfl (.bool true) rfl hH ?_
        simp only [Act.put, List.setIfInBounds_toArray, List.set_cons_zero, List.set_cons_succ, Nat.zero_add, decide_true, beq_self_eq_true]
        refine takeH_assign (o := ⟨some 4, _, _, _, _, _⟩) (i := 32) rfl (by kernel_rfl) (by kernel_rfl) (by kernel_rfl) (fun _ _ _ _ h => h) rfl (.tmp 94) rfl (.bool true) rfl hH ?_
        simp only [Act.put, List.setIfInBounds_toArray, List.set_cons_zero, List.set_cons_succ, Nat.zero_add, decide_true, beq_self_eq_true]
        refine wpAnyH_done (by kernel_rfl) ?_ _
        go_wp2_with fail
        go_ret
        exact ⟨rfl, below_call hB9.out hB9.out.size hH⟩

theorem walk (v0 : Value) (l0 : List Nat) (b0 : Byt l0) (m0 : l0.length ≤ 140737488351232) (v1 : Value) (l1 : List Nat) (b1 : Byt l1) (m1 : l1.length ≤ 140737488351232) (W : World) (s0 : Sl W v0 (bv l0)) (s1 : Sl W v1 (bv l1)) :
    Calls Try.prog 8 #[v0, v1] W fun e w' => e = .returned (.bool true) ∧ Below W.heap.size W w' := by
  obtain ⟨A1, c1, h1, -⟩ := id s0
  obtain ⟨A2, c2, h2, -⟩ := id s1
  subst h1 h2
  exact core A1 A2 _ _ c1 c2 l0 l1 W s0 s1 b0 b1 (by simp) (by simp) (by simp; omega) (by simp; omega)
end Go.Proofs.Ytenpehhmomhooaa.w_ShaApart
