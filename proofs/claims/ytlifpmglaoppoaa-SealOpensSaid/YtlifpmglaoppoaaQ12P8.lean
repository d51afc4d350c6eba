/- Several texts in one (written by mergetop.py): SealI SealJ. -/
import Derived.Test.YtlifpmglaoppoaaQ12P4
import Derived.Test.YtlifpmglaoppoaaQ12P6
import Derived.Test.YtlifpmglaoppoaaScH
set_option linter.unusedVariables false
set_option linter.unusedSimpArgs false

/- Contracts of layer 12: both Seals, of any arguments. -/
namespace Go.Proofs.Ytlifpmglaoppoaa
open Go.RowKit
open Go.Proofs.PlainAes
open Go.Proofs.PlainSha
open Go.Proofs.PlainMac
open Go.Proofs.PlainSeal

/-- Something that reads as these bytes, a pointer, an error's number. -/
def RetSP (L : List Nat) (a b : Nat) (S : List Nat) (c : Int) (w : World) (e : Ending) (w' : World) : Prop :=
  ∃ v, e = .returned (.tuple #[v, .agg (pcells a b S).toArray, .int .i64 c]) ∧ Sl w' v (bv L) ∧ Below w.heap.size w w'
theorem built_none : Try.prog.built 41 [] = some (pcells 0 0 (zeros 32)).toArray := by kernel_rfl
theorem arrK12 : ArrTy Try.prog 31 64 := ⟨_, Try.underlying31, rfl, by kernel_rfl⟩
theorem fldR0 (g : Nat) (w : World) : (Instr.fieldAt 31 (.pointer (some ⟨g, 0, none⟩)) 0).run Try.prog w = .ok (.pointer (some ⟨g, 0, none⟩)) w := by kernel_rfl
theorem z34 : (pcells 0 0 (zeros 32)).length = 34 := rfl
theorem own_from {B0 B : Nat} {w : World} {e : TypeId} {v : Value} {n : Nat} {xs : List Value} (h : w.ownsRow B e 1 v n xs) (hB : B0 ≤ B) : ∀ A m c, v = .slice (some A) m c → B0 ≤ A.block := by
  intro A m c hv
  rcases h.2 with ⟨rfl, _⟩ | ⟨g, cap, cur, rfl, hb2, _⟩
  · cases hv
  · cases hv; exact Nat.le_trans hB hb2
/-- What may not be sealed. -/
def Bad (n : Int) (b a : Int) : Prop := n ≠ 512 ∨ b = 0 ∨ a < 2 ∨ 4096 ≤ a
set_option maxRecDepth 100000 in
set_option maxHeartbeats 2000000 in
theorem seal_err12 (A : Option Addr) (n c : Nat) (E : List Nat) (b a : Nat) (w : World) (hn : (n : Int) ≤ 140737488351232) (hb : (b : Int) ≤ 18446744073709551615) (ha : (a : Int) ≤ 4294967295) (hbad : Bad n b a) :
    Calls Try.prog 14 #[.agg (bv E).toArray, .int .u64 (b : Int), .int .u32 (a : Int), .slice A n c] w (RetSP [] 0 0 (zeros 32) 2 w) := by
  have hR : Hid (∀ w', Below w.heap.size w w' → RetSP [] 0 0 (zeros 32) 2 w (.returned (.tuple #[.slice none 0 0, .agg (pcells 0 0 (zeros 32)).toArray, .int .i64 2])) w') := fun w' h => ⟨_, rfl, Sl.nil_ _, h⟩
  have hB0 := Lib.hid (show Below w.heap.size w (w.alloc (.cells (bv E).toArray 28)) from (Below.refl _ _).alloc (Nat.le_refl _) _)
  have hge : Hid (w.heap.size ≤ (w.alloc (.cells (bv E).toArray 28)).heap.size) := hB0.out.size
  generalize RetSP [] 0 0 (zeros 32) 2 w = RX at *
  unfold Bad at hbad
  by_cases n1 : (n : Int) = 512
  · by_cases n2 : (b : Int) = 0
    · have hn' : (n : Int) = 512 := n1
      obtain rfl : b = 0 := by omega
      clear hbad n2
      go_enter Try.func14, Try.ntmps14
      go_wp2_with (refine wpList_allocA rfl 41 rfl (pcells 0 0 (zeros 32)) pt_zero ?_)
      intro w1 h9 hK1 hz1
      have hB := hB0.out.trans (hK1.below hB0.out.size (by simp))
      clear hK1 hz1
      go_wp2_with (first
        | refine wpList_buildV rfl 41 _ rfl _ rfl (pcells 0 0 (zeros 32)) built_none ?_
        | refine wpList_storeW rfl 41 (.tmp 9) (.tmp 28) rfl 34 arrPt _ rfl (pcells 0 0 (zeros 32)) rfl 41 _ h9 z34 z34 (pcells_ones _ _ _) ?_)
      intro w6 h6 hK6
      have hB6 := hB.trans (hK6.below hB.size (by intro b hb; simp only [List.mem_singleton] at hb; subst hb; omega))
      go_wp2
      exact bodyPost_ret (res_tct Try.results14 _ _ _ 41 _ arrPt z34 rfl h6) rfl (hR.out _ hB6)
    · by_cases n3 : (a : Int) < 2
      · have e2 : ((b : Int) == 0) = false := by simpa using n2
        clear hbad n2
        go_enter Try.func14, Try.ntmps14
        go_wp2_with (refine wpList_allocA rfl 41 rfl (pcells 0 0 (zeros 32)) pt_zero ?_)
        intro w1 h9 hK1 hz1
        have hB := hB0.out.trans (hK1.below hB0.out.size (by simp))
        clear hK1 hz1
        go_wp2_with (first
          | refine wpList_buildV rfl 41 _ rfl _ rfl (pcells 0 0 (zeros 32)) built_none ?_
          | refine wpList_storeW rfl 41 (.tmp 9) (.tmp 28) rfl 34 arrPt _ rfl (pcells 0 0 (zeros 32)) rfl 41 _ h9 z34 z34 (pcells_ones _ _ _) ?_)
        intro w6 h6 hK6
        have hB6 := hB.trans (hK6.below hB.size (by intro b hb; simp only [List.mem_singleton] at hb; subst hb; omega))
        go_wp2
        exact bodyPost_ret (res_tct Try.results14 _ _ _ 41 _ arrPt z34 rfl h6) rfl (hR.out _ hB6)
      · have n4 : 4096 ≤ (a : Int) := by omega
        have e2 : ((b : Int) == 0) = false := by simpa using n2
        clear hbad n2
        go_enter Try.func14, Try.ntmps14
        go_wp2_with (refine wpList_allocA rfl 41 rfl (pcells 0 0 (zeros 32)) pt_zero ?_)
        intro w1 h9 hK1 hz1
        have hB := hB0.out.trans (hK1.below hB0.out.size (by simp))
        clear hK1 hz1
        go_wp2_with (first
          | refine wpList_buildV rfl 41 _ rfl _ rfl (pcells 0 0 (zeros 32)) built_none ?_
          | refine wpList_storeW rfl 41 (.tmp 9) (.tmp 28) rfl 34 arrPt _ rfl (pcells 0 0 (zeros 32)) rfl 41 _ h9 z34 z34 (pcells_ones _ _ _) ?_)
        intro w6 h6 hK6
        have hB6 := hB.trans (hK6.below hB.size (by intro b hb; simp only [List.mem_singleton] at hb; subst hb; omega))
        go_wp2
        exact bodyPost_ret (res_tct Try.results14 _ _ _ 41 _ arrPt z34 rfl h6) rfl (hR.out _ hB6)
  · have e1 : ((n : Int) == 512) = false := by simpa using n1
    clear hbad
    go_enter Try.func14, Try.ntmps14
    go_wp2_with (refine wpList_allocA rfl 41 rfl (pcells 0 0 (zeros 32)) pt_zero ?_)
    intro w1 h9 hK1 hz1
    have hB := hB0.out.trans (hK1.below hB0.out.size (by simp))
    clear hK1 hz1
    go_wp2_with (first
      | refine wpList_buildV rfl 41 _ rfl _ rfl (pcells 0 0 (zeros 32)) built_none ?_
      | refine wpList_storeW rfl 41 (.tmp 9) (.tmp 28) rfl 34 arrPt _ rfl (pcells 0 0 (zeros 32)) rfl 41 _ h9 z34 z34 (pcells_ones _ _ _) ?_)
    intro w6 h6 hK6
    have hB6 := hB.trans (hK6.below hB.size (by intro b hb; simp only [List.mem_singleton] at hb; subst hb; omega))
    go_wp2
    exact bodyPost_ret (res_tct Try.results14 _ _ _ 41 _ arrPt z34 rfl h6) rfl (hR.out _ hB6)
set_option maxRecDepth 100000 in
set_option maxHeartbeats 2000000 in
theorem rseal_err12 (A : Option Addr) (n c : Nat) (t E : List Nat) (b a : Nat) (w : World) (hn : (n : Int) ≤ 140737488351232) (hb : (b : Int) ≤ 18446744073709551615) (ha : (a : Int) ≤ 4294967295) (hbad : Bad n b a) :
    Calls Try.prog 15 #[.agg (bv t).toArray, .agg (bv E).toArray, .int .u64 (b : Int), .int .u32 (a : Int), .slice A n c] w (RetSP [] 0 0 (zeros 32) 2 w) := by
  have hR : Hid (∀ w', Below w.heap.size w w' → RetSP [] 0 0 (zeros 32) 2 w (.returned (.tuple #[.slice none 0 0, .agg (pcells 0 0 (zeros 32)).toArray, .int .i64 2])) w') := fun w' h => ⟨_, rfl, Sl.nil_ _, h⟩
  have hB0 := Lib.hid (show Below w.heap.size w ((w.alloc (.cells (bv t).toArray 38)).alloc (.cells (bv E).toArray 31)) from ((Below.refl _ _).alloc (Nat.le_refl _) _).alloc (by simp) _)
  have hge : Hid (w.heap.size ≤ ((w.alloc (.cells (bv t).toArray 38)).alloc (.cells (bv E).toArray 31)).heap.size) := hB0.out.size
  generalize RetSP [] 0 0 (zeros 32) 2 w = RX at *
  unfold Bad at hbad
  by_cases n1 : (n : Int) = 512
  · by_cases n2 : (b : Int) = 0
    · have hn' : (n : Int) = 512 := n1
      obtain rfl : b = 0 := by omega
      clear hbad n2
      go_enter Try.func15, Try.ntmps15
      go_wp2_with (refine wpList_allocA rfl 41 rfl (pcells 0 0 (zeros 32)) pt_zero ?_)
      intro w1 h9 hK1 hz1
      have hB := hB0.out.trans (hK1.below hB0.out.size (by simp))
      clear hK1 hz1
      go_wp2_with (first
        | refine wpList_buildV rfl 41 _ rfl _ rfl (pcells 0 0 (zeros 32)) built_none ?_
        | refine wpList_storeW rfl 41 (.tmp 11) (.tmp 30) rfl 34 arrPt _ rfl (pcells 0 0 (zeros 32)) rfl 41 _ h9 z34 z34 (pcells_ones _ _ _) ?_)
      intro w6 h6 hK6
      have hB6 := hB.trans (hK6.below hB.size (by intro b hb; simp only [List.mem_singleton] at hb; subst hb; omega))
      go_wp2
      exact bodyPost_ret (res_tct Try.results15 _ _ _ 41 _ arrPt z34 rfl h6) rfl (hR.out _ hB6)
    · by_cases n3 : (a : Int) < 2
      · have e2 : ((b : Int) == 0) = false := by simpa using n2
        clear hbad n2
        go_enter Try.func15, Try.ntmps15
        go_wp2_with (refine wpList_allocA rfl 41 rfl (pcells 0 0 (zeros 32)) pt_zero ?_)
        intro w1 h9 hK1 hz1
        have hB := hB0.out.trans (hK1.below hB0.out.size (by simp))
        clear hK1 hz1
        go_wp2_with (first
          | refine wpList_buildV rfl 41 _ rfl _ rfl (pcells 0 0 (zeros 32)) built_none ?_
          | refine wpList_storeW rfl 41 (.tmp 11) (.tmp 30) rfl 34 arrPt _ rfl (pcells 0 0 (zeros 32)) rfl 41 _ h9 z34 z34 (pcells_ones _ _ _) ?_)
        intro w6 h6 hK6
        have hB6 := hB.trans (hK6.below hB.size (by intro b hb; simp only [List.mem_singleton] at hb; subst hb; omega))
        go_wp2
        exact bodyPost_ret (res_tct Try.results15 _ _ _ 41 _ arrPt z34 rfl h6) rfl (hR.out _ hB6)
      · have n4 : 4096 ≤ (a : Int) := by omega
        have e2 : ((b : Int) == 0) = false := by simpa using n2
        clear hbad n2
        go_enter Try.func15, Try.ntmps15
        go_wp2_with (refine wpList_allocA rfl 41 rfl (pcells 0 0 (zeros 32)) pt_zero ?_)
        intro w1 h9 hK1 hz1
        have hB := hB0.out.trans (hK1.below hB0.out.size (by simp))
        clear hK1 hz1
        go_wp2_with (first
          | refine wpList_buildV rfl 41 _ rfl _ rfl (pcells 0 0 (zeros 32)) built_none ?_
          | refine wpList_storeW rfl 41 (.tmp 11) (.tmp 30) rfl 34 arrPt _ rfl (pcells 0 0 (zeros 32)) rfl 41 _ h9 z34 z34 (pcells_ones _ _ _) ?_)
        intro w6 h6 hK6
        have hB6 := hB.trans (hK6.below hB.size (by intro b hb; simp only [List.mem_singleton] at hb; subst hb; omega))
        go_wp2
        exact bodyPost_ret (res_tct Try.results15 _ _ _ 41 _ arrPt z34 rfl h6) rfl (hR.out _ hB6)
  · have e1 : ((n : Int) == 512) = false := by simpa using n1
    clear hbad
    go_enter Try.func15, Try.ntmps15
    go_wp2_with (refine wpList_allocA rfl 41 rfl (pcells 0 0 (zeros 32)) pt_zero ?_)
    intro w1 h9 hK1 hz1
    have hB := hB0.out.trans (hK1.below hB0.out.size (by simp))
    clear hK1 hz1
    go_wp2_with (first
      | refine wpList_buildV rfl 41 _ rfl _ rfl (pcells 0 0 (zeros 32)) built_none ?_
      | refine wpList_storeW rfl 41 (.tmp 11) (.tmp 30) rfl 34 arrPt _ rfl (pcells 0 0 (zeros 32)) rfl 41 _ h9 z34 z34 (pcells_ones _ _ _) ?_)
    intro w6 h6 hK6
    have hB6 := hB.trans (hK6.below hB.size (by intro b hb; simp only [List.mem_singleton] at hb; subst hb; omega))
    go_wp2
    exact bodyPost_ret (res_tct Try.results15 _ _ _ 41 _ arrPt z34 rfl h6) rfl (hR.out _ hB6)
set_option maxRecDepth 100000 in
set_option maxHeartbeats 4000000 in
theorem rseal_core12 (A : Option Addr) (n c : Nat) (E M l : List Nat) (b a : Nat) (w : World) (hn : n = 512) (hs : Sl w (.slice A n c) (bv l)) (hE : E.length = 32) (hM : M.length = 32) (bE : Byt E) (bl : Byt l) (hl : l.length = 512) (hb : (b : Int) ≤ 18446744073709551615) (hb0 : 1 ≤ (b : Int)) (ha : (a : Int) ≤ 4095) (ha2 : 2 ≤ (a : Int)) :
    Calls Try.prog 15 #[.agg (bv (tbl box)).toArray, .agg (bv (E ++ M)).toArray, .int .u64 (b : Int), .int .u32 (a : Int), .slice A n c] w (RetSP (sealL E b a l) a b (shaL (sealL E b a l)) 0 w) := by
  have hmade := Lib.hid (fun w => rmade_any b a w hb (by omega))
  have hcr0 := fun w (h : Sl w (.slice A n c) (bv l)) => rcrypt_core E (nonceL b a) l A n c w (by omega) hE bE (nonceL_length b a) (nonceL_byt b a) bl (by omega) h
  have hcr := Lib.hid hcr0
  change Hid (∀ w h, Calls _ _ _ w (RetOK (sealL E b a l) w)) at hcr
  have hsum := Lib.hid (fun v w (h : Sl w v (bv (sealL E b a l))) => refsum_any v (sealL E b a l) w h (sealL_byt bE b a bl) (by simp [hl]))
  have hbl := Lib.hid (built_ptr a b (shaL (sealL E b a l)) (shaL_len _))
  have hpl := Lib.hid (show (pcells a b (shaL (sealL E b a l))).length = 34 by simp)
  have hEl := Lib.hid (show (bv E).length = 32 by simp [hE])
  have hcl : Hid ((sealL E b a l).length = 512) := by show _ = _; simp [hl]
  have hR : Hid (∀ v w', Sl w' v (bv (sealL E b a l)) → Below w.heap.size w w' → RetSP (sealL E b a l) a b (shaL (sealL E b a l)) 0 w (.returned (.tuple #[v, .agg (pcells a b (shaL (sealL E b a l))).toArray, .int .i64 0])) w') := fun v w' h1 h2 => ⟨v, rfl, h1, h2⟩
  have sl := Lib.hid hs
  have n1 : ((b : Int) == 0) = false := by simp; omega
  have n2 : decide ((a : Int) < 2) = false := by simp; omega
  have n3 : decide ((4096 : Int) ≤ (a : Int)) = false := by simp; omega
  have hn' : (n : Int) = 512 := by omega
  clear hcr0 hs hE hM bE bl hl hb hb0 ha ha2 hn
  generalize RetSP (sealL E b a l) a b (shaL (sealL E b a l)) 0 w = RX at *
  generalize shaL (sealL E b a l) = S at *
  generalize sealL E b a l = C at *
  generalize nonceL b a = N at *
  have t0 : Blk ((w.alloc (.cells (bv (tbl box)).toArray 38)).alloc (.cells (bv (E ++ M)).toArray 31)) w.heap.size 38 (bv (tbl box)) := (Blk.new_at rfl rfl).alloc _
  have k0 : Blk ((w.alloc (.cells (bv (tbl box)).toArray 38)).alloc (.cells (bv (E ++ M)).toArray 31)) (w.heap.size + 1) 31 (bv (E ++ M)) := Blk.new_at (by simp) rfl
  have hB0 : Below w.heap.size w ((w.alloc (.cells (bv (tbl box)).toArray 38)).alloc (.cells (bv (E ++ M)).toArray 31)) := ((Below.refl _ _).alloc (Nat.le_refl _) _).alloc (by simp) _
  replace t0 := Lib.hid t0
  replace k0 := Lib.hid k0
  replace hB0 := Lib.hid hB0
  go_enter Try.func15, Try.ntmps15
  go_wp2_with (refine wpList_allocA rfl 41 rfl (pcells 0 0 (zeros 32)) pt_zero ?_)
  intro w1 h9 hK1 hz1
  have t1 := Lib.hid (t0.out.keeps hK1 (by simp))
  have k1 := Lib.hid (k0.out.keeps hK1 (by simp))
  have hB := hB0.out.trans (hK1.below hB0.out.size (by simp))
  have hg9 := Lib.hid h9.lt
  have hBh := Lib.hid hB
  replace sl := Lib.hid (sl.out.keep hB)
  clear hK1 hz1 t0 k0
  go_upto_region 3 with fail
  refine wp_region_held_drew (S := fun w' => Below w1.heap.size w1 w') (by kernel_rfl) ((Below.refl _ _).drew) (fun hH => ?_)
  have hD : Below w1.heap.size w1 w1.drew := (Below.refl _ _).drew
  refine takeH_load (o := ⟨some 32, _, _, _, _, _⟩) (i := 0) rfl (by kernel_rfl) (by kernel_rfl) (by kernel_rfl) (fun _ _ _ _ h => h) rfl 38 (.tmp 5) rfl 256 arrT256 w.heap.size 0 rfl (bv (tbl box)) (tbl_len _) (fun w h => hSS (t1.out.keep h) (tbl_len _)) hH ?_
  simp only [Act.put, List.setIfInBounds_toArray, List.set_cons_zero, List.set_cons_succ, Nat.zero_add, decide_true, beq_self_eq_true]
  refine takeH_field (o := ⟨some 33, _, _, _, _, _⟩) (i := 1) rfl (by kernel_rfl) (by kernel_rfl) (by kernel_rfl) (fun _ _ _ _ h => h) rfl 31 (.tmp 6) 0 rfl (w.heap.size + 1) 0 rfl (fun w => fldR0 _ w) hH ?_
  simp only [Act.put, List.setIfInBounds_toArray, List.set_cons_zero, List.set_cons_succ, Nat.zero_add, decide_true, beq_self_eq_true]
  refine takeH_load (o := ⟨some 34, _, _, _, _, _⟩) (i := 2) rfl (by kernel_rfl) (by kernel_rfl) (by kernel_rfl) (fun _ _ _ _ h => h) rfl 24 (.tmp 33) rfl 32 arrK32 (w.heap.size + 1) 0 rfl (bv E) hEl.out (fun w h => SK0 hEl.out (k1.out.keep h)) hH ?_
  simp only [Act.put, List.setIfInBounds_toArray, List.set_cons_zero, List.set_cons_succ, Nat.zero_add, decide_true, beq_self_eq_true]
  refine takeH_move (o := ⟨some 35, _, _, _, _, _⟩) (i := 3) rfl (by kernel_rfl) (by kernel_rfl) (by kernel_rfl) (fun _ _ _ _ h => h) rfl (.tmp 2) rfl (.int .u64 (b : Int)) rfl hH ?_
  simp only [Act.put, List.setIfInBounds_toArray, List.set_cons_zero, List.set_cons_succ, Nat.zero_add, decide_true, beq_self_eq_true]
  refine takeH_move (o := ⟨some 36, _, _, _, _, _⟩) (i := 4) rfl (by kernel_rfl) (by kernel_rfl) (by kernel_rfl) (fun _ _ _ _ h => h) rfl (.tmp 3) rfl (.int .u32 (a : Int)) rfl hH ?_
  simp only [Act.put, List.setIfInBounds_toArray, List.set_cons_zero, List.set_cons_succ, Nat.zero_add, decide_true, beq_self_eq_true]
  refine takeH_move (o := ⟨some 38, _, _, _, _, _⟩) (i := 6) rfl (by kernel_rfl) (by kernel_rfl) (by kernel_rfl) (fun _ _ _ _ h => h) rfl (.tmp 4) rfl (.slice A n c) rfl hH ?_
  simp only [Act.put, List.setIfInBounds_toArray, List.set_cons_zero, List.set_cons_succ, Nat.zero_add, decide_true, beq_self_eq_true]
  refine wpAnyH_ready (rs := [5]) (by kernel_rfl) (by simp) ?_
  refine AllReadyH.cons rfl (fun K1 hK1 => ?_) AllReadyH.nil
  rw [if_pos (by rfl)]
  go_wp2_with fail
  refine (hmade.out _).mono ?_
  rintro e wa ⟨rfl, hBa⟩
  have hA1 := below_call hD hD.size hBa
  refine hK1.out _ _ hA1 (fun hH => ?_)
  clear hK1 K1 hBa
  refine wpAnyH_ready (rs := [7]) (by kernel_rfl) (by simp) ?_
  refine AllReadyH.cons rfl (fun K1 hK1 => ?_) AllReadyH.nil
  rw [if_pos (by rfl)]
  go_wp2_with fail
  refine (hcr.out _ (sl.out.keep hA1)).mono ?_
  rintro e wb ⟨v, rfl, oc, hBa⟩
  have hA2 := below_call hA1 hA1.size hBa
  have sv := Lib.hid (Sl.of_own oc)
  have hcn := Lib.hid (own_from oc hA1.size)
  refine hK1.out _ _ hA2 (fun hH => ?_)
  clear hK1 K1 hBa
  refine takeH_move (o := ⟨some 31, _, _, _, _, _⟩) (i := 8) rfl (by kernel_rfl) (by kernel_rfl) (by kernel_rfl) (fun _ _ _ _ h => h) rfl (.tmp 39) rfl (.tuple #[v, .int .i64 0]) rfl hH ?_
  simp only [Act.put, List.setIfInBounds_toArray, List.set_cons_zero, List.set_cons_succ, Nat.zero_add, decide_true, beq_self_eq_true]
  refine takeH_S (o := ⟨some 40, _, _, _, _, _⟩) (i := 9) rfl (by kernel_rfl) (by kernel_rfl) (by kernel_rfl) (fun _ _ _ _ h => h) rfl v (fun w _ => by go_simp) hH ?_
  simp only [Act.put, List.setIfInBounds_toArray, List.set_cons_zero, List.set_cons_succ, Nat.zero_add, decide_true, beq_self_eq_true]
  refine takeH_S (o := ⟨some 41, _, _, _, _, _⟩) (i := 10) rfl (by kernel_rfl) (by kernel_rfl) (by kernel_rfl) (fun _ _ _ _ h => h) rfl (.int .i64 0) (fun w _ => by go_simp) hH ?_
  simp only [Act.put, List.setIfInBounds_toArray, List.set_cons_zero, List.set_cons_succ, Nat.zero_add, decide_true, beq_self_eq_true]
  refine takeH_assign (o := ⟨some 13, _, _, _, _, _⟩) (i := 11) rfl (by kernel_rfl) (by kernel_rfl) (by kernel_rfl) (fun _ _ _ _ h => h) rfl (.tmp 40) rfl v rfl hH ?_
  simp only [Act.put, List.setIfInBounds_toArray, List.set_cons_zero, List.set_cons_succ, Nat.zero_add, decide_true, beq_self_eq_true]
  refine takeH_assign (o := ⟨some 14, _, _, _, _, _⟩) (i := 12) rfl (by kernel_rfl) (by kernel_rfl) (by kernel_rfl) (fun _ _ _ _ h => h) rfl (.tmp 41) rfl (.int .i64 0) rfl hH ?_
  simp only [Act.put, List.setIfInBounds_toArray, List.set_cons_zero, List.set_cons_succ, Nat.zero_add, decide_true, beq_self_eq_true]
  refine wpAnyH_done (by kernel_rfl) ?_ _
  obtain ⟨Av, nv, cv, rfl⟩ : ∃ A n c, v = .slice A n c := by obtain ⟨A, c, h, -⟩ := sv.out; exact ⟨A, _, c, h⟩
  have h9' := h9.keep hA2
  have hB2 := below_call hBh.out hBh.out.size hA2
  clear oc hH hA1 hA2 hD h9 hB
  go_wp2_with fail
  refine (hsum.out _ _ sv.out).mono ?_
  rintro e w5 ⟨rfl, hB5⟩
  have h95 := h9'.keep hB5
  have hB5' := below_call hB2 hB2.size hB5
  have sv5 := Lib.hid (sv.out.keep hB5)
  clear h9' hB2 hB5 sv
  go_wp2_with (first
    | refine wpList_buildV rfl 41 _ rfl _ rfl (pcells a b S) hbl.out ?_
    | refine wpList_storeW rfl 41 (.tmp 11) (.tmp 47) rfl 34 arrPt _ rfl (pcells a b S) rfl 41 _ h95 hpl.out (by simp) (pcells_ones _ _ _) ?_)
  intro w6 h6 hK6
  have hB6 := hB5'.trans (hK6.below hB5'.size (by intro b hb; simp only [List.mem_singleton] at hb; subst hb; omega))
  have sv6 := Lib.hid (sv5.out.keeps hK6 (fun A' n' c' e' => by have h1 := hcn.out A' n' c' e'; have h2 := hg9.out; simp only [List.mem_singleton]; omega))
  go_wp2
  exact bodyPost_ret (res_tct Try.results15 _ _ _ 41 _ arrPt hpl.out rfl h6) rfl (hR.out _ _ sv6.out hB6)
end Go.Proofs.Ytlifpmglaoppoaa

/- Contracts of layer 12: both Fits, both Opens, of any arguments. -/
namespace Go.Proofs.PlainSeal
open Go.Proofs.PlainAes
open Go.Proofs.PlainSha
/-- Whether bytes are a pointer's; what they are when opened; what the error is. -/
def fitB (l s : List Nat) : Bool := decide (l.length = 512 ∧ shaL l = s)
def opL (E : List Nat) (b a : Nat) (l s : List Nat) : List Nat := if l.length = 512 ∧ shaL l = s then sealL E b a l else []
def opE (l s : List Nat) : Int := if l.length = 512 then (if shaL l = s then 0 else 5) else 2
theorem opL_byt {E : List Nat} (bE : ∀ x ∈ E, x < 256) (b a : Nat) {l : List Nat} (bl : ∀ x ∈ l, x < 256) (s : List Nat) : ∀ x ∈ opL E b a l s, x < 256 := by
  unfold opL
  split
  · exact sealL_byt bE b a bl
  · intro x hx; cases hx
end Go.Proofs.PlainSeal
namespace Go.Proofs.Ytlifpmglaoppoaa
open Go.RowKit
open Go.Proofs.PlainAes
open Go.Proofs.PlainSha
open Go.Proofs.PlainMac
open Go.Proofs.PlainSeal

section
variable {P : Program} {ops : Array Oper} {Q : Exit → Act → World → Prop} {S : World → Prop} {md : Region.Mode}
/-- An operation whose guard does not hold, taken first. -/
theorem takeH_skip {i : Nat} {o : Oper} {fuel : Nat} {listed : Array Bool} {a : Act} {w : World} (hi : ops[i]? = some o) (hs : Region.noSelect ops = true) (hf : Region.free md ops listed i = true) (hr : (Region.ready md ops listed).contains i = true)
    (hQ : ∀ c a w v, Q (.panic c) (a.put o.dst v) w → Q (.panic c) a w) (hw : Region.wanted o (yielded ops a.tmps) = false)
    (hH : S w) (h : wpAnyH P md ops Q S fuel (listed.setIfInBounds i true) (a.put o.dst undef) w) : wpAnyH P md ops Q S (fuel + 1) listed a w :=
  wpAnyH_take hi hs hf hr (fun c a w => hQ c a w _) (.inr ⟨hw, rfl⟩) hH h
end
/-- A yes or a no. -/
def RetY (y : Bool) (w : World) (e : Ending) (w' : World) : Prop := e = .returned (.bool y) ∧ Below w.heap.size w w'
set_option maxRecDepth 100000 in
set_option maxHeartbeats 2000000 in
theorem fits_no (A : Option Addr) (n c : Nat) (s : List Nat) (b a : Nat) (w : World) (hn : (n : Int) ≠ 512) :
    Calls Try.prog 20 #[.agg (pcells a b s).toArray, .slice A n c] w (RetY false w) := by
  have e1 : ((n : Int) == 512) = false := by simpa using hn
  have hR : Hid (∀ w', Below w.heap.size w w' → RetY false w (.returned (.bool false)) w') := fun w' h => ⟨rfl, h⟩
  clear hn
  generalize RetY false w = RX at *
  go_enter Try.func20, Try.ntmps20
  go_upto_region 1 with fail
  have hB : Below w.heap.size w (w.alloc (.cells (pcells a b s).toArray 41)) := (Below.refl _ _).alloc (Nat.le_refl _) _
  generalize w.alloc (.cells (pcells a b s).toArray 41) = w1 at *
  refine wp_region_held_drew (S := fun w' => Below w1.heap.size w1 w') (by kernel_rfl) ((Below.refl _ _).drew) (fun hH => ?_)
  refine takeH_move (o := ⟨some 5, _, _, _, _, _⟩) (i := 0) rfl (by kernel_rfl) (by kernel_rfl) (by kernel_rfl) (fun _ _ _ _ h => h) rfl (.tmp 1) rfl (.slice A n c) rfl hH ?_
  simp only [Act.put, List.setIfInBounds_toArray, List.set_cons_zero, List.set_cons_succ, Nat.zero_add, decide_true, beq_self_eq_true]
  refine takeH_len (o := ⟨some 6, _, _, _, _, _⟩) (i := 1) rfl (by kernel_rfl) (by kernel_rfl) (by kernel_rfl) (fun _ _ _ _ h => h) rfl 22 5 (.tmp 5) rfl Try.underlying22 _ _ _ rfl hH ?_
  simp only [Act.put, List.setIfInBounds_toArray, List.set_cons_zero, List.set_cons_succ, Nat.zero_add, decide_true, beq_self_eq_true]
  refine takeH_S (o := ⟨some 7, _, _, _, _, _⟩) (i := 2) rfl (by kernel_rfl) (by kernel_rfl) (by kernel_rfl) (fun _ _ _ _ h => h) rfl (.bool false) (fun w _ => by go_simp) hH ?_
  simp only [Act.put, List.setIfInBounds_toArray, List.set_cons_zero, List.set_cons_succ, Nat.zero_add, decide_true, beq_self_eq_true]
  refine takeH_move (o := ⟨some 8, _, _, _, _, _⟩) (i := 3) rfl (by kernel_rfl) (by kernel_rfl) (by kernel_rfl) (fun _ _ _ _ h => h) rfl (.tmp 7) rfl (.bool false) rfl hH ?_
  simp only [Act.put, List.setIfInBounds_toArray, List.set_cons_zero, List.set_cons_succ, Nat.zero_add, decide_true, beq_self_eq_true]
  refine takeH_skip (o := ⟨some 9, _, _, _, _, _⟩) (i := 4) rfl (by kernel_rfl) (by kernel_rfl) (by kernel_rfl) (fun _ _ _ _ h => h) rfl hH ?_
  simp only [Act.put, List.setIfInBounds_toArray, List.set_cons_zero, List.set_cons_succ, Nat.zero_add, decide_true, beq_self_eq_true]
  refine takeH_skip (o := ⟨some 11, _, _, _, _, _⟩) (i := 6) rfl (by kernel_rfl) (by kernel_rfl) (by kernel_rfl) (fun _ _ _ _ h => h) rfl hH ?_
  simp only [Act.put, List.setIfInBounds_toArray, List.set_cons_zero, List.set_cons_succ, Nat.zero_add, decide_true, beq_self_eq_true]
  refine takeH_skip (o := ⟨some 12, _, _, _, _, _⟩) (i := 7) rfl (by kernel_rfl) (by kernel_rfl) (by kernel_rfl) (fun _ _ _ _ h => h) rfl hH ?_
  simp only [Act.put, List.setIfInBounds_toArray, List.set_cons_zero, List.set_cons_succ, Nat.zero_add, decide_true, beq_self_eq_true]
  refine wpAnyH_ready (rs := [5]) (by kernel_rfl) (by simp) ?_
  refine AllReadyH.cons rfl (fun K1 hK1 => ?_) AllReadyH.nil
  rw [if_neg (by show ¬ (false = true); exact Bool.false_ne_true)]
  refine hK1.out _ _ hH (fun hH => ?_)
  clear hK1 K1
  simp only [Act.put, List.getElem_toArray, List.getElem_cons_succ, List.getElem_cons_zero, List.setIfInBounds_toArray, List.set_cons_zero, List.set_cons_succ, Nat.zero_add]
  refine takeH_skip (o := ⟨some 13, _, _, _, _, _⟩) (i := 8) rfl (by kernel_rfl) (by kernel_rfl) (by kernel_rfl) (fun _ _ _ _ h => h) rfl hH ?_
  simp only [Act.put, List.setIfInBounds_toArray, List.set_cons_zero, List.set_cons_succ, Nat.zero_add, decide_true, beq_self_eq_true]
  refine takeH_pick (o := ⟨some 14, _, _, _, _, _⟩) (i := 9) rfl (by kernel_rfl) (by kernel_rfl) (by kernel_rfl) (fun _ _ _ _ h => h) rfl (.tmp 8) (.tmp 13) (.const (.bool false)) rfl false rfl (.bool false) rfl hH ?_
  simp only [Act.put, List.setIfInBounds_toArray, List.set_cons_zero, List.set_cons_succ, Nat.zero_add, decide_true, beq_self_eq_true]
  refine takeH_assign (o := ⟨some 4, _, _, _, _, _⟩) (i := 10) rfl (by kernel_rfl) (by kernel_rfl) (by kernel_rfl) (fun _ _ _ _ h => h) rfl (.tmp 14) rfl (.bool false) rfl hH ?_
  simp only [Act.put, List.setIfInBounds_toArray, List.set_cons_zero, List.set_cons_succ, Nat.zero_add, decide_true, beq_self_eq_true]
  refine wpAnyH_done (by kernel_rfl) ?_ _
  replace hB := below_call hB hB.size hH
  clear hH
  go_wp2
  exact hR.out _ hB
set_option maxRecDepth 100000 in
set_option maxHeartbeats 2000000 in
theorem rfits_no (A : Option Addr) (n c : Nat) (s : List Nat) (b a : Nat) (w : World) (hn : (n : Int) ≠ 512) :
    Calls Try.prog 21 #[.agg (pcells a b s).toArray, .slice A n c] w (RetY false w) := by
  have e1 : ((n : Int) == 512) = false := by simpa using hn
  have hR : Hid (∀ w', Below w.heap.size w w' → RetY false w (.returned (.bool false)) w') := fun w' h => ⟨rfl, h⟩
  clear hn
  generalize RetY false w = RX at *
  go_enter Try.func21, Try.ntmps21
  go_upto_region 1 with fail
  have hB : Below w.heap.size w (w.alloc (.cells (pcells a b s).toArray 41)) := (Below.refl _ _).alloc (Nat.le_refl _) _
  generalize w.alloc (.cells (pcells a b s).toArray 41) = w1 at *
  refine wp_region_held_drew (S := fun w' => Below w1.heap.size w1 w') (by kernel_rfl) ((Below.refl _ _).drew) (fun hH => ?_)
  refine takeH_move (o := ⟨some 5, _, _, _, _, _⟩) (i := 0) rfl (by kernel_rfl) (by kernel_rfl) (by kernel_rfl) (fun _ _ _ _ h => h) rfl (.tmp 1) rfl (.slice A n c) rfl hH ?_
  simp only [Act.put, List.setIfInBounds_toArray, List.set_cons_zero, List.set_cons_succ, Nat.zero_add, decide_true, beq_self_eq_true]
  refine takeH_len (o := ⟨some 6, _, _, _, _, _⟩) (i := 1) rfl (by kernel_rfl) (by kernel_rfl) (by kernel_rfl) (fun _ _ _ _ h => h) rfl 22 5 (.tmp 5) rfl Try.underlying22 _ _ _ rfl hH ?_
  simp only [Act.put, List.setIfInBounds_toArray, List.set_cons_zero, List.set_cons_succ, Nat.zero_add, decide_true, beq_self_eq_true]
  refine takeH_S (o := ⟨some 7, _, _, _, _, _⟩) (i := 2) rfl (by kernel_rfl) (by kernel_rfl) (by kernel_rfl) (fun _ _ _ _ h => h) rfl (.bool false) (fun w _ => by go_simp) hH ?_
  simp only [Act.put, List.setIfInBounds_toArray, List.set_cons_zero, List.set_cons_succ, Nat.zero_add, decide_true, beq_self_eq_true]
  refine takeH_move (o := ⟨some 8, _, _, _, _, _⟩) (i := 3) rfl (by kernel_rfl) (by kernel_rfl) (by kernel_rfl) (fun _ _ _ _ h => h) rfl (.tmp 7) rfl (.bool false) rfl hH ?_
  simp only [Act.put, List.setIfInBounds_toArray, List.set_cons_zero, List.set_cons_succ, Nat.zero_add, decide_true, beq_self_eq_true]
  refine takeH_skip (o := ⟨some 9, _, _, _, _, _⟩) (i := 4) rfl (by kernel_rfl) (by kernel_rfl) (by kernel_rfl) (fun _ _ _ _ h => h) rfl hH ?_
  simp only [Act.put, List.setIfInBounds_toArray, List.set_cons_zero, List.set_cons_succ, Nat.zero_add, decide_true, beq_self_eq_true]
  refine takeH_skip (o := ⟨some 11, _, _, _, _, _⟩) (i := 6) rfl (by kernel_rfl) (by kernel_rfl) (by kernel_rfl) (fun _ _ _ _ h => h) rfl hH ?_
  simp only [Act.put, List.setIfInBounds_toArray, List.set_cons_zero, List.set_cons_succ, Nat.zero_add, decide_true, beq_self_eq_true]
  refine takeH_skip (o := ⟨some 12, _, _, _, _, _⟩) (i := 7) rfl (by kernel_rfl) (by kernel_rfl) (by kernel_rfl) (fun _ _ _ _ h => h) rfl hH ?_
  simp only [Act.put, List.setIfInBounds_toArray, List.set_cons_zero, List.set_cons_succ, Nat.zero_add, decide_true, beq_self_eq_true]
  refine wpAnyH_ready (rs := [5]) (by kernel_rfl) (by simp) ?_
  refine AllReadyH.cons rfl (fun K1 hK1 => ?_) AllReadyH.nil
  rw [if_neg (by show ¬ (false = true); exact Bool.false_ne_true)]
  refine hK1.out _ _ hH (fun hH => ?_)
  clear hK1 K1
  simp only [Act.put, List.getElem_toArray, List.getElem_cons_succ, List.getElem_cons_zero, List.setIfInBounds_toArray, List.set_cons_zero, List.set_cons_succ, Nat.zero_add]
  refine takeH_skip (o := ⟨some 13, _, _, _, _, _⟩) (i := 8) rfl (by kernel_rfl) (by kernel_rfl) (by kernel_rfl) (fun _ _ _ _ h => h) rfl hH ?_
  simp only [Act.put, List.setIfInBounds_toArray, List.set_cons_zero, List.set_cons_succ, Nat.zero_add, decide_true, beq_self_eq_true]
  refine takeH_pick (o := ⟨some 14, _, _, _, _, _⟩) (i := 9) rfl (by kernel_rfl) (by kernel_rfl) (by kernel_rfl) (fun _ _ _ _ h => h) rfl (.tmp 8) (.tmp 13) (.const (.bool false)) rfl false rfl (.bool false) rfl hH ?_
  simp only [Act.put, List.setIfInBounds_toArray, List.set_cons_zero, List.set_cons_succ, Nat.zero_add, decide_true, beq_self_eq_true]
  refine takeH_assign (o := ⟨some 4, _, _, _, _, _⟩) (i := 10) rfl (by kernel_rfl) (by kernel_rfl) (by kernel_rfl) (fun _ _ _ _ h => h) rfl (.tmp 14) rfl (.bool false) rfl hH ?_
  simp only [Act.put, List.setIfInBounds_toArray, List.set_cons_zero, List.set_cons_succ, Nat.zero_add, decide_true, beq_self_eq_true]
  refine wpAnyH_done (by kernel_rfl) ?_ _
  replace hB := below_call hB hB.size hH
  clear hH
  go_wp2
  exact hR.out _ hB
set_option maxRecDepth 100000 in
set_option maxHeartbeats 2000000 in
theorem rfits_core (A : Option Addr) (n c : Nat) (l s : List Nat) (b a : Nat) (w : World) (hn : n = 512) (hs : Sl w (.slice A n c) (bv l)) (bl : Byt l) (hl : l.length = 512) (hsl : s.length = 32) :
    Calls Try.prog 21 #[.agg (pcells a b s).toArray, .slice A n c] w (RetF l s w) := by
  have hsum := Lib.hid (fun w (h : Sl w (.slice A n c) (bv l)) => refsum_any _ l w h bl (by omega))
  have hS1 := Lib.hid (shaL_len l)
  have hs1 := Lib.hid hsl
  have sl := Lib.hid hs
  replace hsl := Lib.hid (show (bv s).length = 32 by simp [hsl])
  have hn' : (n : Int) = 512 := by omega
  have hR : Hid (∀ w', Below w.heap.size w w' → RetF l s w (.returned (.bool (decide (shaL l = s)))) w') := fun w' h => ⟨rfl, h⟩
  clear hs bl hl hn
  generalize RetF l s w = RX at *
  generalize shaL l = S at *
  go_enter Try.func21, Try.ntmps21
  go_upto_region 1 with fail
  have h2 : Blk (w.alloc (.cells (pcells a b s).toArray 41)) w.heap.size 41 (pcells a b s) := Blk.new_at rfl rfl
  have hB : Below w.heap.size w (w.alloc (.cells (pcells a b s).toArray 41)) := (Below.refl _ _).alloc (Nat.le_refl _) _
  replace sl := Lib.hid (sl.out.keep hB)
  generalize w.alloc (.cells (pcells a b s).toArray 41) = w1 at *
  refine wp_region_held_drew (S := fun w' => Below w1.heap.size w1 w') (by kernel_rfl) ((Below.refl _ _).drew) (fun hH => ?_)
  refine takeH_move (o := ⟨some 5, _, _, _, _, _⟩) (i := 0) rfl (by kernel_rfl) (by kernel_rfl) (by kernel_rfl) (fun _ _ _ _ h => h) rfl (.tmp 1) rfl (.slice A n c) rfl hH ?_
  simp only [Act.put, List.setIfInBounds_toArray, List.set_cons_zero, List.set_cons_succ, Nat.zero_add, decide_true, beq_self_eq_true]
  refine takeH_len (o := ⟨some 6, _, _, _, _, _⟩) (i := 1) rfl (by kernel_rfl) (by kernel_rfl) (by kernel_rfl) (fun _ _ _ _ h => h) rfl 22 5 (.tmp 5) rfl Try.underlying22 _ _ _ rfl hH ?_
  simp only [Act.put, List.setIfInBounds_toArray, List.set_cons_zero, List.set_cons_succ, Nat.zero_add, decide_true, beq_self_eq_true]
  refine takeH_eqInt (o := ⟨some 7, _, _, _, _, _⟩) (i := 2) rfl (by kernel_rfl) (by kernel_rfl) (by kernel_rfl) (fun _ _ _ _ h => h) rfl 3 3 .i64 (.tmp 6) (.const (.int .i64 512)) rfl Try.underlying3 _ _ rfl rfl (hn') hH ?_
  simp only [Act.put, List.setIfInBounds_toArray, List.set_cons_zero, List.set_cons_succ, Nat.zero_add, decide_true, beq_self_eq_true]
  refine takeH_move (o := ⟨some 8, _, _, _, _, _⟩) (i := 3) rfl (by kernel_rfl) (by kernel_rfl) (by kernel_rfl) (fun _ _ _ _ h => h) rfl (.tmp 7) rfl (.bool true) rfl hH ?_
  simp only [Act.put, List.setIfInBounds_toArray, List.set_cons_zero, List.set_cons_succ, Nat.zero_add, decide_true, beq_self_eq_true]
  refine takeH_move (o := ⟨some 9, _, _, _, _, _⟩) (i := 4) rfl (by kernel_rfl) (by kernel_rfl) (by kernel_rfl) (fun _ _ _ _ h => h) rfl (.tmp 1) rfl (.slice A n c) rfl hH ?_
  simp only [Act.put, List.setIfInBounds_toArray, List.set_cons_zero, List.set_cons_succ, Nat.zero_add, decide_true, beq_self_eq_true]
  refine takeH_field (o := ⟨some 11, _, _, _, _, _⟩) (i := 6) rfl (by kernel_rfl) (by kernel_rfl) (by kernel_rfl) (fun _ _ _ _ h => h) rfl 41 (.tmp 2) 2 rfl w.heap.size 2 rfl (fun w => fldP2 _ w) hH ?_
  simp only [Act.put, List.setIfInBounds_toArray, List.set_cons_zero, List.set_cons_succ, Nat.zero_add, decide_true, beq_self_eq_true]
  refine takeH_load (o := ⟨some 12, _, _, _, _, _⟩) (i := 7) rfl (by kernel_rfl) (by kernel_rfl) (by kernel_rfl) (fun _ _ _ _ h => h) rfl 26 (.tmp 11) rfl 32 arrH w.heap.size 2 rfl (bv s) hsl.out (fun w h => SP2 (h2.keep h)) hH ?_
  simp only [Act.put, List.setIfInBounds_toArray, List.set_cons_zero, List.set_cons_succ, Nat.zero_add, decide_true, beq_self_eq_true]
  refine wpAnyH_ready (rs := [5]) (by kernel_rfl) (by simp) ?_
  refine AllReadyH.cons rfl (fun K1 hK1 => ?_) AllReadyH.nil
  rw [if_pos (by rfl)]
  go_wp2_with fail
  refine (hsum.out _ (sl.out.keep hH)).mono ?_
  rintro e wa ⟨rfl, hBa⟩
  refine hK1.out _ _ (below_call hH hH.size hBa) (fun hH => ?_)
  clear hK1 K1
  refine takeH_eqlB (o := ⟨some 13, _, _, _, _, _⟩) (i := 8) rfl (by kernel_rfl) (by kernel_rfl) (by kernel_rfl) (fun _ _ _ _ h => h) rfl 26 (.tmp 10) (.tmp 12) 26 rfl 32 bytH S s rfl rfl hS1.out hs1.out hH ?_
  simp only [Act.put, List.setIfInBounds_toArray, List.set_cons_zero, List.set_cons_succ, Nat.zero_add, decide_true, beq_self_eq_true]
  refine takeH_pick (o := ⟨some 14, _, _, _, _, _⟩) (i := 9) rfl (by kernel_rfl) (by kernel_rfl) (by kernel_rfl) (fun _ _ _ _ h => h) rfl (.tmp 8) (.tmp 13) (.const (.bool false)) rfl true rfl (.bool (decide (S = s))) rfl hH ?_
  simp only [Act.put, List.setIfInBounds_toArray, List.set_cons_zero, List.set_cons_succ, Nat.zero_add, decide_true, beq_self_eq_true]
  refine takeH_assign (o := ⟨some 4, _, _, _, _, _⟩) (i := 10) rfl (by kernel_rfl) (by kernel_rfl) (by kernel_rfl) (fun _ _ _ _ h => h) rfl (.tmp 14) rfl (.bool (decide (S = s))) rfl hH ?_
  simp only [Act.put, List.setIfInBounds_toArray, List.set_cons_zero, List.set_cons_succ, Nat.zero_add, decide_true, beq_self_eq_true]
  refine wpAnyH_done (by kernel_rfl) ?_ _
  replace hB := below_call hB hB.size hH
  clear hH h2
  go_wp2
  exact hR.out _ hB
theorem fits_all (A : Option Addr) (n c : Nat) (l s : List Nat) (b a : Nat) (w : World) (hn : n = l.length) (hs : Sl w (.slice A n c) (bv l)) (bl : Byt l) (hsl : s.length = 32) :
    Calls Try.prog 20 #[.agg (pcells a b s).toArray, .slice A n c] w (RetY (fitB l s) w) := by
  by_cases h : l.length = 512
  · have := fits_core A n c l s b a w (by omega) hs bl h hsl
    unfold RetF at this
    unfold RetY fitB
    rwa [show decide (l.length = 512 ∧ shaL l = s) = decide (shaL l = s) from by simp [h]]
  · have := fits_no A n c s b a w (by omega)
    rwa [show fitB l s = false from by simp [fitB, h]]
theorem rfits_all (A : Option Addr) (n c : Nat) (l s : List Nat) (b a : Nat) (w : World) (hn : n = l.length) (hs : Sl w (.slice A n c) (bv l)) (bl : Byt l) (hsl : s.length = 32) :
    Calls Try.prog 21 #[.agg (pcells a b s).toArray, .slice A n c] w (RetY (fitB l s) w) := by
  by_cases h : l.length = 512
  · have := rfits_core A n c l s b a w (by omega) hs bl h hsl
    unfold RetF at this
    unfold RetY fitB
    rwa [show decide (l.length = 512 ∧ shaL l = s) = decide (shaL l = s) from by simp [h]]
  · have := rfits_no A n c s b a w (by omega)
    rwa [show fitB l s = false from by simp [fitB, h]]
set_option maxRecDepth 100000 in
set_option maxHeartbeats 2000000 in
theorem open_no (A : Option Addr) (n c : Nat) (E s : List Nat) (b a : Nat) (w : World) (hn : (n : Int) ≠ 512) :
    Calls Try.prog 17 #[.agg (bv E).toArray, .agg (pcells a b s).toArray, .slice A n c] w (RetB [] 2 w) := by
  have e1 : ((n : Int) == 512) = false := by simpa using hn
  have hR : Hid (∀ w', Below w.heap.size w w' → RetB [] 2 w (.returned (.tuple #[.slice none 0 0, .int .i64 2])) w') := fun w' h => ⟨_, rfl, Sl.nil_ _, h⟩
  have hB := Lib.hid (show Below w.heap.size w ((w.alloc (.cells (bv E).toArray 28)).alloc (.cells (pcells a b s).toArray 41)) from ((Below.refl _ _).alloc (Nat.le_refl _) _).alloc (by simp) _)
  clear hn
  generalize RetB [] 2 w = RX at *
  go_enter Try.func17, Try.ntmps17
  go_wp2
  exact hR.out _ hB.out
set_option maxRecDepth 100000 in
set_option maxHeartbeats 2000000 in
theorem ropen_no (A : Option Addr) (n c : Nat) (t E s : List Nat) (b a : Nat) (w : World) (hn : (n : Int) ≠ 512) :
    Calls Try.prog 18 #[.agg (bv t).toArray, .agg (bv E).toArray, .agg (pcells a b s).toArray, .slice A n c] w (RetB [] 2 w) := by
  have e1 : ((n : Int) == 512) = false := by simpa using hn
  have hR : Hid (∀ w', Below w.heap.size w w' → RetB [] 2 w (.returned (.tuple #[.slice none 0 0, .int .i64 2])) w') := fun w' h => ⟨_, rfl, Sl.nil_ _, h⟩
  have hB := Lib.hid (show Below w.heap.size w (((w.alloc (.cells (bv t).toArray 38)).alloc (.cells (bv E).toArray 31)).alloc (.cells (pcells a b s).toArray 41)) from (((Below.refl _ _).alloc (Nat.le_refl _) _).alloc (by simp) _).alloc (by simp; omega) _)
  clear hn
  generalize RetB [] 2 w = RX at *
  go_enter Try.func18, Try.ntmps18
  go_wp2
  exact hR.out _ hB.out
set_option maxRecDepth 100000 in
set_option maxHeartbeats 4000000 in
theorem ropen_core12 (A : Option Addr) (n c : Nat) (E M l s : List Nat) (b a : Nat) (w : World) (hn : n = 512) (hs : Sl w (.slice A n c) (bv l)) (hE : E.length = 32) (hM : M.length = 32) (bE : Byt E) (bl : Byt l) (hl : l.length = 512) (hsl : s.length = 32) (hb : (b : Int) ≤ 18446744073709551615) (ha : (a : Int) ≤ 4294967295) :
    Calls Try.prog 18 #[.agg (bv (tbl box)).toArray, .agg (bv (E ++ M)).toArray, .agg (pcells a b s).toArray, .slice A n c] w (RetB (opL E b a l s) (opE l s) w) := by
  have hmade := Lib.hid (fun w => rmade_any b a w hb ha)
  have hcr0 := fun w (h : Sl w (.slice A n c) (bv l)) => rcrypt_core E (nonceL b a) l A n c w (by omega) hE bE (nonceL_length b a) (nonceL_byt b a) bl (by omega) h
  have hcr := Lib.hid hcr0
  change Hid (∀ w h, Calls _ _ _ w (RetOK (sealL E b a l) w)) at hcr
  have hfit := Lib.hid (fun w (h : Sl w (.slice A n c) (bv l)) => rfits_all A n c l s b a w (by omega) h bl hsl)
  unfold RetY at hfit
  have hEl := Lib.hid (show (bv E).length = 32 by simp [hE])
  have hpl := Lib.hid (show (pcells a b s).length = 34 by simp [hsl])
  have hop : opL E b a l s = if shaL l = s then sealL E b a l else [] := by unfold opL; simp [hl]
  have hoe : opE l s = if shaL l = s then 0 else 5 := by unfold opE; rw [if_pos hl]
  have hfb : fitB l s = decide (shaL l = s) := by simp [fitB, hl]
  rw [hop, hoe]
  rw [hfb] at hfit
  have sl := Lib.hid hs
  have hn' : (n : Int) = 512 := by omega
  have t0 : Blk (((w.alloc (.cells (bv (tbl box)).toArray 38)).alloc (.cells (bv (E ++ M)).toArray 31)).alloc (.cells (pcells a b s).toArray 41)) w.heap.size 38 (bv (tbl box)) := ((Blk.new_at rfl rfl).alloc _).alloc _
  have k0 : Blk (((w.alloc (.cells (bv (tbl box)).toArray 38)).alloc (.cells (bv (E ++ M)).toArray 31)).alloc (.cells (pcells a b s).toArray 41)) (w.heap.size + 1) 31 (bv (E ++ M)) := (Blk.new_at (by simp) rfl).alloc _
  have p0 : Blk (((w.alloc (.cells (bv (tbl box)).toArray 38)).alloc (.cells (bv (E ++ M)).toArray 31)).alloc (.cells (pcells a b s).toArray 41)) (w.heap.size + 1 + 1) 41 (pcells a b s) := Blk.new_at (by simp) rfl
  have hB0 : Below w.heap.size w (((w.alloc (.cells (bv (tbl box)).toArray 38)).alloc (.cells (bv (E ++ M)).toArray 31)).alloc (.cells (pcells a b s).toArray 41)) := (((Below.refl _ _).alloc (Nat.le_refl _) _).alloc (by simp) _).alloc (by simp; omega) _
  replace t0 := Lib.hid t0
  replace k0 := Lib.hid k0
  replace p0 := Lib.hid p0
  replace hB0 := Lib.hid hB0
  clear hcr0 hs hE hM bE bl hl hb ha hn hsl hop hoe hfb
  generalize shaL l = S at *
  generalize sealL E b a l = C at *
  generalize nonceL b a = N at *
  by_cases hSs : S = s
  · rw [decide_eq_true hSs] at hfit
    rw [if_pos hSs, if_pos hSs]
    have hR : Hid (∀ v w', Sl w' v (bv C) → Below w.heap.size w w' → RetB C 0 w (.returned (.tuple #[v, .int .i64 0])) w') := fun v w' h1 h2 => ⟨v, rfl, h1, h2⟩
    generalize RetB C 0 w = RX at *
    clear hSs
    go_enter Try.func18, Try.ntmps18
    go_wp2_with (first
      | refine wpList_loadW rfl 41 (.tmp 6) rfl 34 arrPt _ rfl 41 _ p0.out hpl.out ?_)
    refine (hfit.out _ (sl.out.keep hB0.out)).mono ?_
    rintro e w2 ⟨rfl, hB2⟩
    have t2 := Lib.hid (t0.out.keep hB2)
    have k2 := Lib.hid (k0.out.keep hB2)
    have p2 := Lib.hid (p0.out.keep hB2)
    replace sl := Lib.hid (sl.out.keep (hB0.out.trans (hB2.mono hB0.out.size)))
    have hB := Lib.hid (below_call hB0.out hB0.out.size hB2)
    clear hB2
    go_upto_region 5 with fail
    refine wp_region_held_drew (S := fun w' => Below w2.heap.size w2 w') (by kernel_rfl) ((Below.refl _ _).drew) (fun hH => ?_)
    have hD : Below w2.heap.size w2 w2.drew := (Below.refl _ _).drew
    refine takeH_load (o := ⟨some 17, _, _, _, _, _⟩) (i := 0) rfl (by kernel_rfl) (by kernel_rfl) (by kernel_rfl) (fun _ _ _ _ h => h) rfl 38 (.tmp 4) rfl 256 arrT256 w.heap.size 0 rfl (bv (tbl box)) (tbl_len _) (fun w h => hSS (t2.out.keep h) (tbl_len _)) hH ?_
    simp only [Act.put, List.setIfInBounds_toArray, List.set_cons_zero, List.set_cons_succ, Nat.zero_add, decide_true, beq_self_eq_true]
    refine takeH_field (o := ⟨some 18, _, _, _, _, _⟩) (i := 1) rfl (by kernel_rfl) (by kernel_rfl) (by kernel_rfl) (fun _ _ _ _ h => h) rfl 31 (.tmp 5) 0 rfl (w.heap.size + 1) 0 rfl (fun w => fldR0 _ w) hH ?_
    simp only [Act.put, List.setIfInBounds_toArray, List.set_cons_zero, List.set_cons_succ, Nat.zero_add, decide_true, beq_self_eq_true]
    refine takeH_load (o := ⟨some 19, _, _, _, _, _⟩) (i := 2) rfl (by kernel_rfl) (by kernel_rfl) (by kernel_rfl) (fun _ _ _ _ h => h) rfl 24 (.tmp 18) rfl 32 arrK32 (w.heap.size + 1) 0 rfl (bv E) hEl.out (fun w h => SK0 hEl.out (k2.out.keep h)) hH ?_
    simp only [Act.put, List.setIfInBounds_toArray, List.set_cons_zero, List.set_cons_succ, Nat.zero_add, decide_true, beq_self_eq_true]
    refine takeH_field (o := ⟨some 20, _, _, _, _, _⟩) (i := 3) rfl (by kernel_rfl) (by kernel_rfl) (by kernel_rfl) (fun _ _ _ _ h => h) rfl 41 (.tmp 6) 1 rfl (w.heap.size + 1 + 1) 1 rfl (fun w => fldP1 _ w) hH ?_
    simp only [Act.put, List.setIfInBounds_toArray, List.set_cons_zero, List.set_cons_succ, Nat.zero_add, decide_true, beq_self_eq_true]
    refine takeH_cell (o := ⟨some 21, _, _, _, _, _⟩) (i := 4) rfl (by kernel_rfl) (by kernel_rfl) (by kernel_rfl) (fun _ _ _ _ h => h) rfl 34 (.tmp 20) rfl Try.underlying34 rfl (w.heap.size + 1 + 1) 1 rfl (.int .u64 (b : Int)) (fun w h => ((p2.out.keep h).cell 1).trans rfl) hH ?_
    simp only [Act.put, List.setIfInBounds_toArray, List.set_cons_zero, List.set_cons_succ, Nat.zero_add, decide_true, beq_self_eq_true]
    refine takeH_field (o := ⟨some 22, _, _, _, _, _⟩) (i := 5) rfl (by kernel_rfl) (by kernel_rfl) (by kernel_rfl) (fun _ _ _ _ h => h) rfl 41 (.tmp 6) 0 rfl (w.heap.size + 1 + 1) 0 rfl (fun w => fldP0 _ w) hH ?_
    simp only [Act.put, List.setIfInBounds_toArray, List.set_cons_zero, List.set_cons_succ, Nat.zero_add, decide_true, beq_self_eq_true]
    refine takeH_cell (o := ⟨some 23, _, _, _, _, _⟩) (i := 6) rfl (by kernel_rfl) (by kernel_rfl) (by kernel_rfl) (fun _ _ _ _ h => h) rfl 35 (.tmp 22) rfl Try.underlying35 rfl (w.heap.size + 1 + 1) 0 rfl (.int .u32 (a : Int)) (fun w h => ((p2.out.keep h).cell 0).trans rfl) hH ?_
    simp only [Act.put, List.setIfInBounds_toArray, List.set_cons_zero, List.set_cons_succ, Nat.zero_add, decide_true, beq_self_eq_true]
    refine takeH_move (o := ⟨some 25, _, _, _, _, _⟩) (i := 8) rfl (by kernel_rfl) (by kernel_rfl) (by kernel_rfl) (fun _ _ _ _ h => h) rfl (.tmp 3) rfl (.slice A n c) rfl hH ?_
    simp only [Act.put, List.setIfInBounds_toArray, List.set_cons_zero, List.set_cons_succ, Nat.zero_add, decide_true, beq_self_eq_true]
    refine wpAnyH_ready (rs := [7]) (by kernel_rfl) (by simp) ?_
    refine AllReadyH.cons rfl (fun K1 hK1 => ?_) AllReadyH.nil
    rw [if_pos (by rfl)]
    go_wp2_with fail
    refine (hmade.out _).mono ?_
    rintro e wa ⟨rfl, hBa⟩
    have hA1 := below_call hD hD.size hBa
    refine hK1.out _ _ hA1 (fun hH => ?_)
    clear hK1 K1 hBa
    refine wpAnyH_ready (rs := [9]) (by kernel_rfl) (by simp) ?_
    refine AllReadyH.cons rfl (fun K1 hK1 => ?_) AllReadyH.nil
    rw [if_pos (by rfl)]
    go_wp2_with fail
    refine (hcr.out _ (sl.out.keep hA1)).mono ?_
    rintro e wb ⟨v, rfl, oc, hBa⟩
    have hA2 := below_call hA1 hA1.size hBa
    have sv := Lib.hid (Sl.of_own oc)
    refine hK1.out _ _ hA2 (fun hH => ?_)
    clear hK1 K1 hBa
    refine takeH_S (o := ⟨some 27, _, _, _, _, _⟩) (i := 10) rfl (by kernel_rfl) (by kernel_rfl) (by kernel_rfl) (fun _ _ _ _ h => h) rfl v (fun w _ => by go_simp) hH ?_
    simp only [Act.put, List.setIfInBounds_toArray, List.set_cons_zero, List.set_cons_succ, Nat.zero_add, decide_true, beq_self_eq_true]
    refine takeH_S (o := ⟨some 28, _, _, _, _, _⟩) (i := 11) rfl (by kernel_rfl) (by kernel_rfl) (by kernel_rfl) (fun _ _ _ _ h => h) rfl (.int .i64 0) (fun w _ => by go_simp) hH ?_
    simp only [Act.put, List.setIfInBounds_toArray, List.set_cons_zero, List.set_cons_succ, Nat.zero_add, decide_true, beq_self_eq_true]
    refine takeH_assign (o := ⟨some 8, _, _, _, _, _⟩) (i := 12) rfl (by kernel_rfl) (by kernel_rfl) (by kernel_rfl) (fun _ _ _ _ h => h) rfl (.tmp 27) rfl v rfl hH ?_
    simp only [Act.put, List.setIfInBounds_toArray, List.set_cons_zero, List.set_cons_succ, Nat.zero_add, decide_true, beq_self_eq_true]
    refine takeH_assign (o := ⟨some 9, _, _, _, _, _⟩) (i := 13) rfl (by kernel_rfl) (by kernel_rfl) (by kernel_rfl) (fun _ _ _ _ h => h) rfl (.tmp 28) rfl (.int .i64 0) rfl hH ?_
    simp only [Act.put, List.setIfInBounds_toArray, List.set_cons_zero, List.set_cons_succ, Nat.zero_add, decide_true, beq_self_eq_true]
    refine wpAnyH_done (by kernel_rfl) ?_ _
    have hBf := Lib.hid (below_call hB.out hB.out.size hA2)
    clear hH hA1 hA2 hD oc
    go_wp2
    exact hR.out _ _ sv.out hBf.out
  · rw [decide_eq_false hSs] at hfit
    rw [if_neg hSs, if_neg hSs]
    have hR : Hid (∀ w', Below w.heap.size w w' → RetB [] 5 w (.returned (.tuple #[.slice none 0 0, .int .i64 5])) w') := fun w' h => ⟨_, rfl, Sl.nil_ _, h⟩
    generalize RetB [] 5 w = RX at *
    clear hSs
    go_enter Try.func18, Try.ntmps18
    go_wp2_with (first
      | refine wpList_loadW rfl 41 (.tmp 6) rfl 34 arrPt _ rfl 41 _ p0.out hpl.out ?_)
    refine (hfit.out _ (sl.out.keep hB0.out)).mono ?_
    rintro e w2 ⟨rfl, hB2⟩
    have hB := Lib.hid (below_call hB0.out hB0.out.size hB2)
    clear hB2
    go_wp2
    exact hR.out _ hB.out
theorem open_all (A : Option Addr) (n c : Nat) (E M l s : List Nat) (b a : Nat) (w : World) (hn : n = l.length) (hs : Sl w (.slice A n c) (bv l)) (hE : E.length = 32) (hM : M.length = 32) (bE : Byt E) (bl : Byt l) (hsl : s.length = 32) (hb : (b : Int) ≤ 18446744073709551615) (ha : (a : Int) ≤ 4294967295) :
    Calls Try.prog 17 #[.agg (bv (E ++ M)).toArray, .agg (pcells a b s).toArray, .slice A n c] w (RetB (opL E b a l s) (opE l s) w) := by
  by_cases h : l.length = 512
  · refine (openS_core A n c E M l s b a w (by omega) hs hE hM bE bl h hsl hb ha).mono fun e w' hr => ?_
    by_cases hS : shaL l = s
    · rw [show opL E b a l s = sealL E b a l from by unfold opL; rw [if_pos ⟨h, hS⟩], show opE l s = 0 from by unfold opE; rw [if_pos h, if_pos hS]]
      obtain ⟨v, h1, h2, h3⟩ := hr.1 hS
      exact ⟨v, h1, Sl.of_own h2, h3⟩
    · rw [show opL E b a l s = [] from by unfold opL; rw [if_neg (fun h => hS h.2)], show opE l s = 5 from by unfold opE; rw [if_pos h, if_neg hS]]
      obtain ⟨h1, h2⟩ := hr.2 hS
      exact ⟨_, h1, Sl.nil_ _, h2⟩
  · rw [show opL E b a l s = [] from by unfold opL; rw [if_neg (fun h2 => h h2.1)], show opE l s = 2 from by unfold opE; rw [if_neg h]]
    exact open_no A n c (E ++ M) s b a w (by omega)
theorem ropen_all (A : Option Addr) (n c : Nat) (E M l s : List Nat) (b a : Nat) (w : World) (hn : n = l.length) (hs : Sl w (.slice A n c) (bv l)) (hE : E.length = 32) (hM : M.length = 32) (bE : Byt E) (bl : Byt l) (hsl : s.length = 32) (hb : (b : Int) ≤ 18446744073709551615) (ha : (a : Int) ≤ 4294967295) :
    Calls Try.prog 18 #[.agg (bv (tbl box)).toArray, .agg (bv (E ++ M)).toArray, .agg (pcells a b s).toArray, .slice A n c] w (RetB (opL E b a l s) (opE l s) w) := by
  by_cases h : l.length = 512
  · exact ropen_core12 A n c E M l s b a w (by omega) hs hE hM bE bl h hsl hb ha
  · rw [show opL E b a l s = [] from by unfold opL; rw [if_neg (fun h2 => h h2.1)], show opE l s = 2 from by unfold opE; rw [if_neg h]]
    exact ropen_no A n c (tbl box) (E ++ M) s b a w (by omega)
end Go.Proofs.Ytlifpmglaoppoaa
