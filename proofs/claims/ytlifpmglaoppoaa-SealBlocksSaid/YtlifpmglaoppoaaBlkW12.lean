/- The walk of SealBlocks. -/
import Derived.Test.YtlifpmglaoppoaaQ12P8
import Derived.Test.YtlifpmglaoppoaaQ12P4
import Derived.Test.YtlifpmglaoppoaaPtE
import Derived.Test.YtlifpmglaoppoaaEqH
import Derived.Test.YtlifpmglaoppoaaRefN0
set_option linter.unusedVariables false
set_option linter.unusedSimpArgs false
namespace Go.Proofs.Ytlifpmglaoppoaa
open Go.RowKit
open Go.Proofs.PlainAes
open Go.Proofs.PlainSha
open Go.Proofs.PlainSeal

theorem built_rkey (x : List Nat) (hx : x.length = 32) : Try.prog.built 31 [(0, .agg (bv x).toArray)] = some (bv (x ++ zeros 32)).toArray := by
  have hz : (Try.prog.info? 31).bind (·.zero) = some (.agg (bv (zeros 64)).toArray) := by kernel_rfl
  cases hi : Try.prog.info? 31 with
  | none => rw [hi] at hz; cases hz
  | some it =>
    rw [hi] at hz
    rw [built_fst (n := 32) (z := bv (zeros 64)) (z2 := bv (zeros 32)) (r := [(32, 32)]) hi Try.underlying31 hz (by rfl) (by simp) (by kernel_rfl) (bv x) (by simp [hx]), bv_app]
theorem same12 (va vb : Value) (l : List Nat) (w : World) (ha : Sl w va (bv l)) (hb : Sl w vb (bv l)) (hl : ∀ b ∈ l, b < 256) :
    Calls Try.prog 16 #[va, vb] w fun e w' => e = .returned (.bool true) ∧ w = w' :=
  (same_any va vb l l w ha hb hl hl).mono fun e w' h => ⟨by rw [h.1, decide_eq_true rfl], h.2⟩
theorem arr32s : ArrTy Try.prog 24 32 := ⟨_, Try.underlying24, rfl, by kernel_rfl⟩
/-- Of any arguments both Seals answer the same. -/
theorem seals_both (E M l : List Nat) (A : Option Addr) (n c b a : Nat) (hn : n = l.length) (hI : (n : Int) ≤ 140737488351232) (hE : E.length = 32) (hM : M.length = 32) (bE : Byt E) (bl : Byt l) (hb : (b : Int) ≤ 18446744073709551615) (ha : (a : Int) ≤ 4294967295) :
    ∃ (L S : List Nat) (a' b' : Nat) (cd : Int), Byt L ∧ S.length = 32 ∧ (a' : Int) ≤ 4294967295 ∧ (b' : Int) ≤ 18446744073709551615 ∧ (cd = 0 ∨ cd = 2) ∧
      (∀ w, Sl w (.slice A n c) (bv l) → Calls Try.prog 14 #[.agg (bv (E ++ M)).toArray, .int .u64 (b : Int), .int .u32 (a : Int), .slice A n c] w (RetSP L a' b' S cd w)) ∧
      (∀ w, Sl w (.slice A n c) (bv l) → Calls Try.prog 15 #[.agg (bv (tbl box)).toArray, .agg (bv (E ++ M)).toArray, .int .u64 (b : Int), .int .u32 (a : Int), .slice A n c] w (RetSP L a' b' S cd w)) := by
  by_cases h : Bad n b a
  · exact ⟨[], zeros 32, 0, 0, 2, (by intro x hx; cases hx), rfl, by decide, by decide, .inr rfl, fun w hs => seal_err12 A n c (E ++ M) b a w hI hb ha h, fun w hs => rseal_err12 A n c (tbl box) (E ++ M) b a w hI hb ha h⟩
  · have h4 : (n : Int) = 512 ∧ ¬ (b : Int) = 0 ∧ ¬ (a : Int) < 2 ∧ ¬ 4096 ≤ (a : Int) := by
      unfold Bad at h
      refine ⟨?_, ?_, ?_, ?_⟩
      · exact Classical.byContradiction fun hh => h (.inl hh)
      · exact fun hh => h (.inr (.inl hh))
      · exact fun hh => h (.inr (.inr (.inl hh)))
      · exact fun hh => h (.inr (.inr (.inr hh)))
    obtain ⟨h1, h2, h3, h5⟩ := h4
    refine ⟨sealL E b a l, shaL (sealL E b a l), a, b, 0, sealL_byt bE b a bl, shaL_len _, ha, hb, .inl rfl, fun w hs => ?_, fun w hs => ?_⟩
    · exact (seal_core A n c E M l b a w (by omega) hs hE hM bE bl (by omega) hb (by omega) (by omega) (by omega)).mono fun e w' ⟨v, q1, q2, q3⟩ => ⟨v, q1, by
        have := Sl.of_own q2
        exact this, q3⟩
    · exact rseal_core12 A n c E M l b a w (by omega) hs hE hM bE bl (by omega) hb (by omega) (by omega) (by omega)
/-- The argument's cells. -/
def bornC (k : List Nat) (b a : Nat) (v : Value) : List Value := bv k ++ ([.int .u64 (b : Int), .int .u32 (a : Int), v] : List Value)
theorem bornS {w : World} {g t : Nat} {k : List Nat} {b a : Nat} {v : Value} (hk : k.length = 32) (h : Blk w g t (bornC k b a v)) :
    w.rangeAt g 0 (bv k) ∧ w.cell? ⟨g, 32, none⟩ = some (.int .u64 (b : Int)) ∧ w.cell? ⟨g, 33, none⟩ = some (.int .u32 (a : Int)) ∧ w.cell? ⟨g, 34, none⟩ = some v := by
  have hl : (bv k).length = 32 := by simp [hk]
  have hc : ∀ j, (bornC k b a v)[32 + j]? = ([.int .u64 (b : Int), .int .u32 (a : Int), v] : List Value)[j]? := fun j => by
    unfold bornC
    rw [List.getElem?_append_right (by omega), hl, Nat.add_sub_cancel_left]
  refine ⟨?_, (h.cell 32).trans (hc 0), (h.cell 33).trans (hc 1), (h.cell 34).trans (hc 2)⟩
  intro j v hv
  rw [h.cell, Nat.zero_add, bornC, List.getElem?_append_left (List.getElem?_eq_some_iff.1 hv).1]
  exact hv
theorem fldB0 (g : Nat) (w : World) : (Instr.fieldAt 37 (.pointer (some ⟨g, 0, none⟩)) 0).run Try.prog w = .ok (.pointer (some ⟨g, 0, none⟩)) w := by kernel_rfl
theorem fldB1 (g : Nat) (w : World) : (Instr.fieldAt 37 (.pointer (some ⟨g, 0, none⟩)) 1).run Try.prog w = .ok (.pointer (some ⟨g, 32, none⟩)) w := by kernel_rfl
theorem fldB2 (g : Nat) (w : World) : (Instr.fieldAt 37 (.pointer (some ⟨g, 0, none⟩)) 2).run Try.prog w = .ok (.pointer (some ⟨g, 33, none⟩)) w := by kernel_rfl
theorem fldB3 (g : Nat) (w : World) : (Instr.fieldAt 37 (.pointer (some ⟨g, 0, none⟩)) 3).run Try.prog w = .ok (.pointer (some ⟨g, 34, none⟩)) w := by kernel_rfl
namespace w_SealBlocks
set_option maxRecDepth 100000 in
set_option maxHeartbeats 8000000 in
theorem core (k : List Nat) (b a : Nat) (A : Option Addr) (n c : Nat) (l : List Nat) (hk : k.length = 32) (bk : Byt k) (hb : (b : Int) ≤ 18446744073709551615) (ha : (a : Int) ≤ 4294967295) (hn : n = l.length) (hI : (n : Int) ≤ 140737488351232) (bl : Byt l) (W : World) (hs : Sl W (.slice A n c) (bv l)) :
    Calls Try.prog 4 #[.agg (bornC k b a (.slice A n c)).toArray] W fun e w' => e = .returned (.bool true) ∧ Below W.heap.size W w' := by
  obtain ⟨Ls, S, a', b', cd, bL, hSl, ha', hb', hcd, hx0, hy0⟩ := seals_both k (zeros 32) l A n c b a hn hI hk rfl bk bl hb ha
  have hx := Lib.hid hx0
  have hy := Lib.hid hy0
  have bO := opL_byt bk b' a' bL S
  have hox := Lib.hid (fun (A : Option Addr) (n c : Nat) w (hn : n = Ls.length) hs => open_all A n c k (zeros 32) Ls S b' a' w hn hs hk rfl bk bL hSl hb' ha')
  have hoy := Lib.hid (fun (A : Option Addr) (n c : Nat) w (hn : n = Ls.length) hs => ropen_all A n c k (zeros 32) Ls S b' a' w hn hs hk rfl bk bL hSl hb' ha')
  have htb : Hid (∀ w, Calls Try.prog 13 #[] w (RetA (tbl box) w)) := fun w => rtable_any w
  have hsm := Lib.hid (fun va vb w ha hb => same12 va vb Ls w ha hb bL)
  have hso := Lib.hid (fun va vb w ha hb => same12 va vb (opL k b' a' Ls S) w ha hb bO)
  have hal := Lib.hid (fun w => alive12 w)
  have hkl := Lib.hid (show (bv k).length = 32 by simp [hk])
  have hKl := Lib.hid (show (bv (k ++ zeros 32)).length = 64 by simp [hk])
  have hbr := Lib.hid (built_rkey k hk)
  have hbs := Lib.hid (built_key1 k hk)
  have hSl' := Lib.hid hSl
  have hpl := Lib.hid (show (pcells a' b' S).length = 34 by simp [hSl])
  have hBs : Hid (∀ (w : World) (g t : Nat), Blk w g t (bornC k b a (.slice A n c)) → w.rangeAt g 0 (bv k) ∧ w.cell? ⟨g, 32, none⟩ = some (.int .u64 (b : Int)) ∧ w.cell? ⟨g, 33, none⟩ = some (.int .u32 (a : Int)) ∧ w.cell? ⟨g, 34, none⟩ = some (.slice A n c)) := fun w g t h => bornS hk h
  clear hx0 hy0 bL bO hk bk bl hSl hb' ha' hn
  generalize opL k b' a' Ls S = Lo at *
  generalize opE Ls S = co at *
  have q0 := Blk.new_at (w := W) (n := W.heap.size) (t := 37) (cs := (bornC k b a (.slice A n c)).toArray) rfl rfl
  have hB0 : Below W.heap.size W (W.alloc (.cells (bornC k b a (.slice A n c)).toArray 37)) := (Below.refl _ _).alloc (Nat.le_refl _) _
  generalize bornC k b a (.slice A n c) = CS at *
  replace q0 := Lib.hid q0
  replace hB0 := Lib.hid hB0
  have hs0 := Lib.hid hs
  clear hs
  by_cases hg : 600 < (n : Int)
  · go_enter Try.func4, Try.ntmps4
    go_wp2_with (first
      | (go_at_call 10; refine (hal.out _).mono ?_; rintro e w1 ⟨rfl, hB1⟩)
      | (go_not_at_region 3; go_in))
    have q1 := Lib.hid (q0.out.keep hB1)
    have hW1 := Lib.hid (below_call hB0.out hB0.out.size hB1)
    clear hB1
    refine wp_region_held_drew (S := fun w' => Below w1.heap.size w1 w') (by kernel_rfl) ((Below.refl _ _).drew) (fun hH => ?_)
    refine takeH_field (o := ⟨some 21, _, _, _, _, _⟩) (i := 0) rfl (by kernel_rfl) (by kernel_rfl) (by kernel_rfl) (fun _ _ _ _ h => h) rfl 37 (.tmp 1) 0 rfl _ 0 rfl (fun w => fldB0 _ w) hH ?_
    simp only [Act.put, List.setIfInBounds_toArray, List.set_cons_zero, List.set_cons_succ, Nat.zero_add, decide_true, beq_self_eq_true]
    refine takeH_load (o := ⟨some 22, _, _, _, _, _⟩) (i := 1) rfl (by kernel_rfl) (by kernel_rfl) (by kernel_rfl) (fun _ _ _ _ h => h) rfl 24 (.tmp 21) rfl 32 arr32s _ _ rfl (bv k) hkl.out (fun w h => (hBs.out _ _ _ (q1.out.keep h)).1) hH ?_
    simp only [Act.put, List.setIfInBounds_toArray, List.set_cons_zero, List.set_cons_succ, Nat.zero_add, decide_true, beq_self_eq_true]
    refine takeH_field (o := ⟨some 23, _, _, _, _, _⟩) (i := 2) rfl (by kernel_rfl) (by kernel_rfl) (by kernel_rfl) (fun _ _ _ _ h => h) rfl 37 (.tmp 1) 1 rfl _ 32 rfl (fun w => fldB1 _ w) hH ?_
    simp only [Act.put, List.setIfInBounds_toArray, List.set_cons_zero, List.set_cons_succ, Nat.zero_add, decide_true, beq_self_eq_true]
    refine takeH_cell (o := ⟨some 24, _, _, _, _, _⟩) (i := 3) rfl (by kernel_rfl) (by kernel_rfl) (by kernel_rfl) (fun _ _ _ _ h => h) rfl 34 (.tmp 23) rfl Try.underlying34 rfl _ 32 rfl (.int .u64 (b : Int)) (fun w h => (hBs.out _ _ _ (q1.out.keep h)).2.1) hH ?_
    simp only [Act.put, List.setIfInBounds_toArray, List.set_cons_zero, List.set_cons_succ, Nat.zero_add, decide_true, beq_self_eq_true]
    refine takeH_field (o := ⟨some 25, _, _, _, _, _⟩) (i := 4) rfl (by kernel_rfl) (by kernel_rfl) (by kernel_rfl) (fun _ _ _ _ h => h) rfl 37 (.tmp 1) 2 rfl _ 33 rfl (fun w => fldB2 _ w) hH ?_
    simp only [Act.put, List.setIfInBounds_toArray, List.set_cons_zero, List.set_cons_succ, Nat.zero_add, decide_true, beq_self_eq_true]
    refine takeH_cell (o := ⟨some 26, _, _, _, _, _⟩) (i := 5) rfl (by kernel_rfl) (by kernel_rfl) (by kernel_rfl) (fun _ _ _ _ h => h) rfl 35 (.tmp 25) rfl Try.underlying35 rfl _ 33 rfl (.int .u32 (a : Int)) (fun w h => (hBs.out _ _ _ (q1.out.keep h)).2.2.1) hH ?_
    simp only [Act.put, List.setIfInBounds_toArray, List.set_cons_zero, List.set_cons_succ, Nat.zero_add, decide_true, beq_self_eq_true]
    refine takeH_field (o := ⟨some 27, _, _, _, _, _⟩) (i := 6) rfl (by kernel_rfl) (by kernel_rfl) (by kernel_rfl) (fun _ _ _ _ h => h) rfl 37 (.tmp 1) 3 rfl _ 34 rfl (fun w => fldB3 _ w) hH ?_
    simp only [Act.put, List.setIfInBounds_toArray, List.set_cons_zero, List.set_cons_succ, Nat.zero_add, decide_true, beq_self_eq_true]
    refine takeH_cell (o := ⟨some 28, _, _, _, _, _⟩) (i := 7) rfl (by kernel_rfl) (by kernel_rfl) (by kernel_rfl) (fun _ _ _ _ h => h) rfl 22 (.tmp 27) rfl Try.underlying22 rfl _ 34 rfl (.slice A n c) (fun w h => (hBs.out _ _ _ (q1.out.keep h)).2.2.2) hH ?_
    simp only [Act.put, List.setIfInBounds_toArray, List.set_cons_zero, List.set_cons_succ, Nat.zero_add, decide_true, beq_self_eq_true]
    refine wpAnyH_ready (rs := [8]) (by kernel_rfl) (by simp) ?_
    refine AllReadyH.cons rfl (fun K1 hK1 => ?_) AllReadyH.nil
    rw [if_pos (by rfl)]
    refine wp_allocA 24 rfl (bv (zeros 32)) (by kernel_rfl) ?_
    intro w2 k2 hK2
    have hB2 : Below w1.heap.size w1 w2 := ((Below.refl w1.heap.size w1).drew).trans (hK2.below (Nat.le_refl _) (by simp))
    have hg : w1.heap.size ≤ w1.drew.heap.size := Nat.le_refl _
    refine hK1.out _ _ hB2 (fun hH => ?_)
    clear hK1 K1 hK2
    simp only [Act.put, List.getElem_toArray, List.getElem_cons_succ, List.getElem_cons_zero, List.setIfInBounds_toArray, List.set_cons_zero, List.set_cons_succ, Nat.zero_add]
    generalize w1.drew.heap.size = g3 at *
    refine wpAnyH_ready (rs := [9]) (by kernel_rfl) (by simp) ?_
    refine AllReadyH.cons rfl (fun K1 hK1 => ?_) AllReadyH.nil
    rw [if_pos (by rfl)]
    refine wp_storeA 24 (.tmp 3) (.tmp 22) rfl 32 arr32s _ _ rfl (bv k) rfl 24 _ k2 hkl.out (by simp) (ones_bv _) ?_
    intro w3 k3 hK3
    rw [putL_all (by rw [hkl.out]; simp)] at k3
    have hB3 : Below w1.heap.size w1 w3 := hB2.trans (hK3.below hB2.size (by intro b hb; simp only [List.mem_singleton] at hb; subst hb; exact hg))
    refine hK1.out _ _ hB3 (fun hH => ?_)
    clear hK1 K1 hK3 hB2 k2
    simp only [Act.put, List.getElem_toArray, List.getElem_cons_succ, List.getElem_cons_zero, List.setIfInBounds_toArray, List.set_cons_zero, List.set_cons_succ, Nat.zero_add]
    refine takeH_assign (o := ⟨some 4, _, _, _, _, _⟩) (i := 10) rfl (by kernel_rfl) (by kernel_rfl) (by kernel_rfl) (fun _ _ _ _ h => h) rfl (.tmp 24) rfl (.int .u64 (b : Int)) rfl hH ?_
    simp only [Act.put, List.setIfInBounds_toArray, List.set_cons_zero, List.set_cons_succ, Nat.zero_add, decide_true, beq_self_eq_true]
    refine takeH_assign (o := ⟨some 5, _, _, _, _, _⟩) (i := 11) rfl (by kernel_rfl) (by kernel_rfl) (by kernel_rfl) (fun _ _ _ _ h => h) rfl (.tmp 26) rfl (.int .u32 (a : Int)) rfl hH ?_
    simp only [Act.put, List.setIfInBounds_toArray, List.set_cons_zero, List.set_cons_succ, Nat.zero_add, decide_true, beq_self_eq_true]
    refine takeH_assign (o := ⟨some 6, _, _, _, _, _⟩) (i := 12) rfl (by kernel_rfl) (by kernel_rfl) (by kernel_rfl) (fun _ _ _ _ h => h) rfl (.tmp 28) rfl (.slice A n c) rfl hH ?_
    simp only [Act.put, List.setIfInBounds_toArray, List.set_cons_zero, List.set_cons_succ, Nat.zero_add, decide_true, beq_self_eq_true]
    refine wpAnyH_done (by kernel_rfl) ?_ _
    clear hH hg
    have hW3 := Lib.hid (below_call hW1.out hW1.out.size hB3)
    clear hB3
    go_wp2
    go_ret
    exact ⟨rfl, hW3.out⟩
  · rcases hcd with hcd | hcd
    · subst hcd
      go_enter Try.func4, Try.ntmps4
      go_wp2_with (first
        | (go_at_call 10; refine (hal.out _).mono ?_; rintro e w1 ⟨rfl, hB1⟩)
        | (go_not_at_region 3; go_in))
      have q1 := Lib.hid (q0.out.keep hB1)
      have hW1 := Lib.hid (below_call hB0.out hB0.out.size hB1)
      clear hB1
      refine wp_region_held_drew (S := fun w' => Below w1.heap.size w1 w') (by kernel_rfl) ((Below.refl _ _).drew) (fun hH => ?_)
      refine takeH_field (o := ⟨some 21, _, _, _, _, _⟩) (i := 0) rfl (by kernel_rfl) (by kernel_rfl) (by kernel_rfl) (fun _ _ _ _ h => h) rfl 37 (.tmp 1) 0 rfl _ 0 rfl (fun w => fldB0 _ w) hH ?_
      simp only [Act.put, List.setIfInBounds_toArray, List.set_cons_zero, List.set_cons_succ, Nat.zero_add, decide_true, beq_self_eq_true]
      refine takeH_load (o := ⟨some 22, _, _, _, _, _⟩) (i := 1) rfl (by kernel_rfl) (by kernel_rfl) (by kernel_rfl) (fun _ _ _ _ h => h) rfl 24 (.tmp 21) rfl 32 arr32s _ _ rfl (bv k) hkl.out (fun w h => (hBs.out _ _ _ (q1.out.keep h)).1) hH ?_
      simp only [Act.put, List.setIfInBounds_toArray, List.set_cons_zero, List.set_cons_succ, Nat.zero_add, decide_true, beq_self_eq_true]
      refine takeH_field (o := ⟨some 23, _, _, _, _, _⟩) (i := 2) rfl (by kernel_rfl) (by kernel_rfl) (by kernel_rfl) (fun _ _ _ _ h => h) rfl 37 (.tmp 1) 1 rfl _ 32 rfl (fun w => fldB1 _ w) hH ?_
      simp only [Act.put, List.setIfInBounds_toArray, List.set_cons_zero, List.set_cons_succ, Nat.zero_add, decide_true, beq_self_eq_true]
      refine takeH_cell (o := ⟨some 24, _, _, _, _, _⟩) (i := 3) rfl (by kernel_rfl) (by kernel_rfl) (by kernel_rfl) (fun _ _ _ _ h => h) rfl 34 (.tmp 23) rfl Try.underlying34 rfl _ 32 rfl (.int .u64 (b : Int)) (fun w h => (hBs.out _ _ _ (q1.out.keep h)).2.1) hH ?_
      simp only [Act.put, List.setIfInBounds_toArray, List.set_cons_zero, List.set_cons_succ, Nat.zero_add, decide_true, beq_self_eq_true]
      refine takeH_field (o := ⟨some 25, _, _, _, _, _⟩) (i := 4) rfl (by kernel_rfl) (by kernel_rfl) (by kernel_rfl) (fun _ _ _ _ h => h) rfl 37 (.tmp 1) 2 rfl _ 33 rfl (fun w => fldB2 _ w) hH ?_
      simp only [Act.put, List.setIfInBounds_toArray, List.set_cons_zero, List.set_cons_succ, Nat.zero_add, decide_true, beq_self_eq_true]
      refine takeH_cell (o := ⟨some 26, _, _, _, _, _⟩) (i := 5) rfl (by kernel_rfl) (by kernel_rfl) (by kernel_rfl) (fun _ _ _ _ h => h) rfl 35 (.tmp 25) rfl Try.underlying35 rfl _ 33 rfl (.int .u32 (a : Int)) (fun w h => (hBs.out _ _ _ (q1.out.keep h)).2.2.1) hH ?_
      simp only [Act.put, List.setIfInBounds_toArray, List.set_cons_zero, List.set_cons_succ, Nat.zero_add, decide_true, beq_self_eq_true]
      refine takeH_field (o := ⟨some 27, _, _, _, _, _⟩) (i := 6) rfl (by kernel_rfl) (by kernel_rfl) (by kernel_rfl) (fun _ _ _ _ h => h) rfl 37 (.tmp 1) 3 rfl _ 34 rfl (fun w => fldB3 _ w) hH ?_
      simp only [Act.put, List.setIfInBounds_toArray, List.set_cons_zero, List.set_cons_succ, Nat.zero_add, decide_true, beq_self_eq_true]
      refine takeH_cell (o := ⟨some 28, _, _, _, _, _⟩) (i := 7) rfl (by kernel_rfl) (by kernel_rfl) (by kernel_rfl) (fun _ _ _ _ h => h) rfl 22 (.tmp 27) rfl Try.underlying22 rfl _ 34 rfl (.slice A n c) (fun w h => (hBs.out _ _ _ (q1.out.keep h)).2.2.2) hH ?_
      simp only [Act.put, List.setIfInBounds_toArray, List.set_cons_zero, List.set_cons_succ, Nat.zero_add, decide_true, beq_self_eq_true]
      refine wpAnyH_ready (rs := [8]) (by kernel_rfl) (by simp) ?_
      refine AllReadyH.cons rfl (fun K1 hK1 => ?_) AllReadyH.nil
      rw [if_pos (by rfl)]
      refine wp_allocA 24 rfl (bv (zeros 32)) (by kernel_rfl) ?_
      intro w2 k2 hK2
      have hB2 : Below w1.heap.size w1 w2 := ((Below.refl w1.heap.size w1).drew).trans (hK2.below (Nat.le_refl _) (by simp))
      have hg : w1.heap.size ≤ w1.drew.heap.size := Nat.le_refl _
      refine hK1.out _ _ hB2 (fun hH => ?_)
      clear hK1 K1 hK2
      simp only [Act.put, List.getElem_toArray, List.getElem_cons_succ, List.getElem_cons_zero, List.setIfInBounds_toArray, List.set_cons_zero, List.set_cons_succ, Nat.zero_add]
      generalize w1.drew.heap.size = g3 at *
      refine wpAnyH_ready (rs := [9]) (by kernel_rfl) (by simp) ?_
      refine AllReadyH.cons rfl (fun K1 hK1 => ?_) AllReadyH.nil
      rw [if_pos (by rfl)]
      refine wp_storeA 24 (.tmp 3) (.tmp 22) rfl 32 arr32s _ _ rfl (bv k) rfl 24 _ k2 hkl.out (by simp) (ones_bv _) ?_
      intro w3 k3 hK3
      rw [putL_all (by rw [hkl.out]; simp)] at k3
      have hB3 : Below w1.heap.size w1 w3 := hB2.trans (hK3.below hB2.size (by intro b hb; simp only [List.mem_singleton] at hb; subst hb; exact hg))
      refine hK1.out _ _ hB3 (fun hH => ?_)
      clear hK1 K1 hK3 hB2 k2
      simp only [Act.put, List.getElem_toArray, List.getElem_cons_succ, List.getElem_cons_zero, List.setIfInBounds_toArray, List.set_cons_zero, List.set_cons_succ, Nat.zero_add]
      refine takeH_assign (o := ⟨some 4, _, _, _, _, _⟩) (i := 10) rfl (by kernel_rfl) (by kernel_rfl) (by kernel_rfl) (fun _ _ _ _ h => h) rfl (.tmp 24) rfl (.int .u64 (b : Int)) rfl hH ?_
      simp only [Act.put, List.setIfInBounds_toArray, List.set_cons_zero, List.set_cons_succ, Nat.zero_add, decide_true, beq_self_eq_true]
      refine takeH_assign (o := ⟨some 5, _, _, _, _, _⟩) (i := 11) rfl (by kernel_rfl) (by kernel_rfl) (by kernel_rfl) (fun _ _ _ _ h => h) rfl (.tmp 26) rfl (.int .u32 (a : Int)) rfl hH ?_
      simp only [Act.put, List.setIfInBounds_toArray, List.set_cons_zero, List.set_cons_succ, Nat.zero_add, decide_true, beq_self_eq_true]
      refine takeH_assign (o := ⟨some 6, _, _, _, _, _⟩) (i := 12) rfl (by kernel_rfl) (by kernel_rfl) (by kernel_rfl) (fun _ _ _ _ h => h) rfl (.tmp 28) rfl (.slice A n c) rfl hH ?_
      simp only [Act.put, List.setIfInBounds_toArray, List.set_cons_zero, List.set_cons_succ, Nat.zero_add, decide_true, beq_self_eq_true]
      refine wpAnyH_done (by kernel_rfl) ?_ _
      clear hH hg
      have hW3 := Lib.hid (below_call hW1.out hW1.out.size hB3)
      clear hB3
      go_wp2_with (first
        | (go_at_call 13; refine (htb.out _).mono ?_; rintro e w4 ⟨rfl, hBc⟩; replace k3 := k3.keep hBc; replace hW3 := below_call hW3.out hW3.out.size hBc)
        | refine wpList_allocA rfl 38 rfl (bv (zeros 256)) (by kernel_rfl) ?_)
      intro wd nd hKd hzd
      have hQ : Below w4.heap.size w4 wd := hKd.below (Nat.le_refl _) (by simp)
      have hgw : Hid (w4.heap.size = w4.heap.size) := rfl
      generalize hgx : w4.heap.size = gg at nd ⊢
      replace hgw := Lib.hid hgx
      clear hgx hKd hzd
      go_wp2_with (refine wpList_storeW rfl 38 (.tmp 7) (.tmp 32) rfl 256 arrT256 gg rfl (bv (tbl box)) rfl 38 _ nd (tbl_len _) (by simp) (ones_bv _) ?_)
      intro w5 t5 hKe
      replace hQ : Below w4.heap.size w4 w5 := hQ.trans (hKe.below hQ.size (by intro b hb; simp only [List.mem_singleton] at hb; subst hb; exact Nat.le_of_eq hgw.out))
      clear hKe nd
      replace k3 := k3.keep hQ
      have hW5 := Lib.hid (below_call hW3 hW3.size hQ)
      clear hQ hBc hW3
      generalize gg = g7 at *
      go_wp2_with (first
        | refine wpList_loadW rfl 24 (.tmp 3) rfl 32 arr32s _ rfl 24 _ k3 hkl.out ?_
        | refine wpList_buildV rfl 31 _ rfl _ rfl (bv (k ++ zeros 32)) hbr.out ?_
        | refine wpList_allocA rfl 31 rfl (bv (zeros 64)) (by kernel_rfl) ?_)
      intro wd nd hKd hzd
      have hQ : Below w5.heap.size w5 wd := hKd.below (Nat.le_refl _) (by simp)
      have hgw : Hid (w5.heap.size = w5.heap.size) := rfl
      generalize hgx : w5.heap.size = gg at nd ⊢
      replace hgw := Lib.hid hgx
      clear hgx hKd hzd
      go_wp2_with (refine wpList_storeW rfl 31 (.tmp 8) (.tmp 34) rfl 64 arrK12 gg rfl (bv (k ++ zeros 32)) rfl 31 _ nd hKl.out (by simp) (ones_bv _) ?_)
      intro w6 K6 hKe
      replace hQ : Below w5.heap.size w5 w6 := hQ.trans (hKe.below hQ.size (by intro b hb; simp only [List.mem_singleton] at hb; subst hb; exact Nat.le_of_eq hgw.out))
      clear hKe nd
      replace k3 := k3.keep hQ
      replace t5 := t5.keep hQ
      have hW6 := Lib.hid (below_call hW5.out hW5.out.size hQ)
      clear hQ hW5
      generalize gg = g8 at *
      have hs6 := hs0.out.keep hW6.out
      go_wp2_with (first
        | refine wpList_loadW rfl 24 (.tmp 3) rfl 32 arr32s _ rfl 24 _ k3 hkl.out ?_
        | refine wpList_buildV rfl 28 _ rfl _ rfl (bv (k ++ zeros 32)) hbs.out ?_
        | (go_at_call 14; refine (hx.out _ hs6).mono ?_; rintro e w7 ⟨v1, rfl, s1, hBc⟩; replace k3 := k3.keep hBc; replace t5 := t5.keep hBc; replace K6 := K6.keep hBc; replace hW6 := below_call hW6.out hW6.out.size hBc)
        | refine wpList_allocA rfl 41 rfl (pcells 0 0 (zeros 32)) pt_zero ?_)
      intro wd nd hKd hzd
      have hQ : Below w7.heap.size w7 wd := hKd.below (Nat.le_refl _) (by simp)
      have hgw : Hid (w7.heap.size = w7.heap.size) := rfl
      generalize hgx : w7.heap.size = gg at nd ⊢
      replace hgw := Lib.hid hgx
      clear hgx hKd hzd
      go_wp2_with (refine wpList_storeW rfl 41 (.tmp 10) (.tmp 43) rfl 34 arrPt gg rfl (pcells a' b' S) rfl 41 _ nd hpl.out rfl (pcells_ones _ _ _) ?_)
      intro w8 p8 hKe
      replace hQ : Below w7.heap.size w7 w8 := hQ.trans (hKe.below hQ.size (by intro b hb; simp only [List.mem_singleton] at hb; subst hb; exact Nat.le_of_eq hgw.out))
      clear hKe nd
      replace k3 := k3.keep hQ
      replace t5 := t5.keep hQ
      replace K6 := K6.keep hQ
      replace s1 := s1.keep hQ
      have hW8 := Lib.hid (below_call hW6 hW6.size hQ)
      clear hQ hBc hW6 hs6
      generalize gg = g10 at *
      replace s1 := Lib.hid s1
      have hs8 := hs0.out.keep hW8.out
      go_wp2_with (first
        | refine wpList_loadW rfl 38 (.tmp 7) rfl 256 arrT256 _ rfl 38 _ t5 (tbl_len _) ?_
        | refine wpList_loadW rfl 31 (.tmp 8) rfl 64 arrK12 _ rfl 31 _ K6 hKl.out ?_
        | (go_at_call 15; refine (hy.out _ hs8).mono ?_; rintro e w9 ⟨v2, rfl, s2, hBc⟩; replace k3 := k3.keep hBc; replace t5 := t5.keep hBc; replace K6 := K6.keep hBc; replace p8 := p8.keep hBc; replace s1 := s1.out.keep hBc; replace hW8 := below_call hW8.out hW8.out.size hBc)
        | refine wpList_allocA rfl 41 rfl (pcells 0 0 (zeros 32)) pt_zero ?_)
      intro wd nd hKd hzd
      have hQ : Below w9.heap.size w9 wd := hKd.below (Nat.le_refl _) (by simp)
      have hgw : Hid (w9.heap.size = w9.heap.size) := rfl
      generalize hgx : w9.heap.size = gg at nd ⊢
      replace hgw := Lib.hid hgx
      clear hgx hKd hzd
      go_wp2_with (refine wpList_storeW rfl 41 (.tmp 13) (.tmp 53) rfl 34 arrPt gg rfl (pcells a' b' S) rfl 41 _ nd hpl.out rfl (pcells_ones _ _ _) ?_)
      intro w10 p10 hKe
      replace hQ : Below w9.heap.size w9 w10 := hQ.trans (hKe.below hQ.size (by intro b hb; simp only [List.mem_singleton] at hb; subst hb; exact Nat.le_of_eq hgw.out))
      clear hKe nd
      replace k3 := k3.keep hQ
      replace t5 := t5.keep hQ
      replace K6 := K6.keep hQ
      replace p8 := p8.keep hQ
      replace s1 := s1.keep hQ
      replace s2 := s2.keep hQ
      have hW10 := Lib.hid (below_call hW8 hW8.size hQ)
      clear hQ hBc hW8 hs8
      generalize gg = g13 at *
      replace s1 := Lib.hid s1
      replace s2 := Lib.hid s2
      obtain ⟨A2, c2, hv2, -⟩ := id s2.out
      rw [bv_length] at hv2
      have hss := Lib.hid (hsm.out v1 v2 _ s1.out s2.out)
      subst hv2
      go_wp2_with (first
        | (go_at_call 16; refine hss.out.mono ?_; rintro e wz ⟨rfl, rfl⟩)
        | refine wpList_loadG rfl 41 (.tmp 10) rfl 34 arrPt _ rfl 41 _ p8 hpl.out ?_
        | refine wpList_loadG rfl 41 (.tmp 13) rfl 34 arrPt _ rfl 41 _ p10 hpl.out ?_
        | refine wpList_neqPt rfl (.tmp 60) (.tmp 61) rfl a' b' S hSl'.out rfl rfl ?_
        | refine wpList_loadW rfl 24 (.tmp 3) rfl 32 arr32s _ rfl 24 _ k3 hkl.out ?_
        | refine wpList_loadW rfl 38 (.tmp 7) rfl 256 arrT256 _ rfl 38 _ t5 (tbl_len _) ?_
        | refine wpList_loadW rfl 31 (.tmp 8) rfl 64 arrK12 _ rfl 31 _ K6 hKl.out ?_
        | refine wpList_loadW rfl 41 (.tmp 13) rfl 34 arrPt _ rfl 41 _ p10 hpl.out ?_
        | refine wpList_buildV rfl 28 _ rfl _ rfl (bv (k ++ zeros 32)) hbs.out ?_
        | (go_at_call 17; refine (hox.out _ _ _ _ rfl s2.out).mono ?_; rintro e w14 ⟨v3, rfl, s3, hBd⟩; replace t5 := t5.keep hBd; replace K6 := K6.keep hBd; replace p10 := p10.keep hBd; replace s2 := Lib.hid (s2.out.keep hBd); replace hW10 := Lib.hid (below_call hW10.out hW10.out.size hBd))
        | (go_at_call 18; refine (hoy.out _ _ _ _ rfl s2.out).mono ?_; rintro e w15 ⟨v4, rfl, s4, hBe⟩; replace s3 := s3.keep hBe; replace hW10 := Lib.hid (below_call hW10.out hW10.out.size hBe); have hst := Lib.hid (hso.out v3 v4 _ s3 s4))
        | (go_at_call 16; refine hst.out.mono ?_; rintro e wy ⟨rfl, rfl⟩))
      go_ret
      exact ⟨rfl, hW10.out⟩
    · subst hcd
      go_enter Try.func4, Try.ntmps4
      go_wp2_with (first
        | (go_at_call 10; refine (hal.out _).mono ?_; rintro e w1 ⟨rfl, hB1⟩)
        | (go_not_at_region 3; go_in))
      have q1 := Lib.hid (q0.out.keep hB1)
      have hW1 := Lib.hid (below_call hB0.out hB0.out.size hB1)
      clear hB1
      refine wp_region_held_drew (S := fun w' => Below w1.heap.size w1 w') (by kernel_rfl) ((Below.refl _ _).drew) (fun hH => ?_)
      refine takeH_field (o := ⟨some 21, _, _, _, _, _⟩) (i := 0) rfl (by kernel_rfl) (by kernel_rfl) (by kernel_rfl) (fun _ _ _ _ h => h) rfl 37 (.tmp 1) 0 rfl _ 0 rfl (fun w => fldB0 _ w) hH ?_
      simp only [Act.put, List.setIfInBounds_toArray, List.set_cons_zero, List.set_cons_succ, Nat.zero_add, decide_true, beq_self_eq_true]
      refine takeH_load (o := ⟨some 22, _, _, _, _, _⟩) (i := 1) rfl (by kernel_rfl) (by kernel_rfl) (by kernel_rfl) (fun _ _ _ _ h => h) rfl 24 (.tmp 21) rfl 32 arr32s _ _ rfl (bv k) hkl.out (fun w h => (hBs.out _ _ _ (q1.out.keep h)).1) hH ?_
      simp only [Act.put, List.setIfInBounds_toArray, List.set_cons_zero, List.set_cons_succ, Nat.zero_add, decide_true, beq_self_eq_true]
      refine takeH_field (o := ⟨some 23, _, _, _, _, _⟩) (i := 2) rfl (by kernel_rfl) (by kernel_rfl) (by kernel_rfl) (fun _ _ _ _ h => h) rfl 37 (.tmp 1) 1 rfl _ 32 rfl (fun w => fldB1 _ w) hH ?_
      simp only [Act.put, List.setIfInBounds_toArray, List.set_cons_zero, List.set_cons_succ, Nat.zero_add, decide_true, beq_self_eq_true]
      refine takeH_cell (o := ⟨some 24, _, _, _, _, _⟩) (i := 3) rfl (by kernel_rfl) (by kernel_rfl) (by kernel_rfl) (fun _ _ _ _ h => h) rfl 34 (.tmp 23) rfl Try.underlying34 rfl _ 32 rfl (.int .u64 (b : Int)) (fun w h => (hBs.out _ _ _ (q1.out.keep h)).2.1) hH ?_
      simp only [Act.put, List.setIfInBounds_toArray, List.set_cons_zero, List.set_cons_succ, Nat.zero_add, decide_true, beq_self_eq_true]
      refine takeH_field (o := ⟨some 25, _, _, _, _, _⟩) (i := 4) rfl (by kernel_rfl) (by kernel_rfl) (by kernel_rfl) (fun _ _ _ _ h => h) rfl 37 (.tmp 1) 2 rfl _ 33 rfl (fun w => fldB2 _ w) hH ?_
      simp only [Act.put, List.setIfInBounds_toArray, List.set_cons_zero, List.set_cons_succ, Nat.zero_add, decide_true, beq_self_eq_true]
      refine takeH_cell (o := ⟨some 26, _, _, _, _, _⟩) (i := 5) rfl (by kernel_rfl) (by kernel_rfl) (by kernel_rfl) (fun _ _ _ _ h => h) rfl 35 (.tmp 25) rfl Try.underlying35 rfl _ 33 rfl (.int .u32 (a : Int)) (fun w h => (hBs.out _ _ _ (q1.out.keep h)).2.2.1) hH ?_
      simp only [Act.put, List.setIfInBounds_toArray, List.set_cons_zero, List.set_cons_succ, Nat.zero_add, decide_true, beq_self_eq_true]
      refine takeH_field (o := ⟨some 27, _, _, _, _, _⟩) (i := 6) rfl (by kernel_rfl) (by kernel_rfl) (by kernel_rfl) (fun _ _ _ _ h => h) rfl 37 (.tmp 1) 3 rfl _ 34 rfl (fun w => fldB3 _ w) hH ?_
      simp only [Act.put, List.setIfInBounds_toArray, List.set_cons_zero, List.set_cons_succ, Nat.zero_add, decide_true, beq_self_eq_true]
      refine takeH_cell (o := ⟨some 28, _, _, _, _, _⟩) (i := 7) rfl (by kernel_rfl) (by kernel_rfl) (by kernel_rfl) (fun _ _ _ _ h => h) rfl 22 (.tmp 27) rfl Try.underlying22 rfl _ 34 rfl (.slice A n c) (fun w h => (hBs.out _ _ _ (q1.out.keep h)).2.2.2) hH ?_
      simp only [Act.put, List.setIfInBounds_toArray, List.set_cons_zero, List.set_cons_succ, Nat.zero_add, decide_true, beq_self_eq_true]
      refine wpAnyH_ready (rs := [8]) (by kernel_rfl) (by simp) ?_
      refine AllReadyH.cons rfl (fun K1 hK1 => ?_) AllReadyH.nil
      rw [if_pos (by rfl)]
      refine wp_allocA 24 rfl (bv (zeros 32)) (by kernel_rfl) ?_
      intro w2 k2 hK2
      have hB2 : Below w1.heap.size w1 w2 := ((Below.refl w1.heap.size w1).drew).trans (hK2.below (Nat.le_refl _) (by simp))
      have hg : w1.heap.size ≤ w1.drew.heap.size := Nat.le_refl _
      refine hK1.out _ _ hB2 (fun hH => ?_)
      clear hK1 K1 hK2
      simp only [Act.put, List.getElem_toArray, List.getElem_cons_succ, List.getElem_cons_zero, List.setIfInBounds_toArray, List.set_cons_zero, List.set_cons_succ, Nat.zero_add]
      generalize w1.drew.heap.size = g3 at *
      refine wpAnyH_ready (rs := [9]) (by kernel_rfl) (by simp) ?_
      refine AllReadyH.cons rfl (fun K1 hK1 => ?_) AllReadyH.nil
      rw [if_pos (by rfl)]
      refine wp_storeA 24 (.tmp 3) (.tmp 22) rfl 32 arr32s _ _ rfl (bv k) rfl 24 _ k2 hkl.out (by simp) (ones_bv _) ?_
      intro w3 k3 hK3
      rw [putL_all (by rw [hkl.out]; simp)] at k3
      have hB3 : Below w1.heap.size w1 w3 := hB2.trans (hK3.below hB2.size (by intro b hb; simp only [List.mem_singleton] at hb; subst hb; exact hg))
      refine hK1.out _ _ hB3 (fun hH => ?_)
      clear hK1 K1 hK3 hB2 k2
      simp only [Act.put, List.getElem_toArray, List.getElem_cons_succ, List.getElem_cons_zero, List.setIfInBounds_toArray, List.set_cons_zero, List.set_cons_succ, Nat.zero_add]
      refine takeH_assign (o := ⟨some 4, _, _, _, _, _⟩) (i := 10) rfl (by kernel_rfl) (by kernel_rfl) (by kernel_rfl) (fun _ _ _ _ h => h) rfl (.tmp 24) rfl (.int .u64 (b : Int)) rfl hH ?_
      simp only [Act.put, List.setIfInBounds_toArray, List.set_cons_zero, List.set_cons_succ, Nat.zero_add, decide_true, beq_self_eq_true]
      refine takeH_assign (o := ⟨some 5, _, _, _, _, _⟩) (i := 11) rfl (by kernel_rfl) (by kernel_rfl) (by kernel_rfl) (fun _ _ _ _ h => h) rfl (.tmp 26) rfl (.int .u32 (a : Int)) rfl hH ?_
      simp only [Act.put, List.setIfInBounds_toArray, List.set_cons_zero, List.set_cons_succ, Nat.zero_add, decide_true, beq_self_eq_true]
      refine takeH_assign (o := ⟨some 6, _, _, _, _, _⟩) (i := 12) rfl (by kernel_rfl) (by kernel_rfl) (by kernel_rfl) (fun _ _ _ _ h => h) rfl (.tmp 28) rfl (.slice A n c) rfl hH ?_
      simp only [Act.put, List.setIfInBounds_toArray, List.set_cons_zero, List.set_cons_succ, Nat.zero_add, decide_true, beq_self_eq_true]
      refine wpAnyH_done (by kernel_rfl) ?_ _
      clear hH hg
      have hW3 := Lib.hid (below_call hW1.out hW1.out.size hB3)
      clear hB3
      go_wp2_with (first
        | (go_at_call 13; refine (htb.out _).mono ?_; rintro e w4 ⟨rfl, hBc⟩; replace k3 := k3.keep hBc; replace hW3 := below_call hW3.out hW3.out.size hBc)
        | refine wpList_allocA rfl 38 rfl (bv (zeros 256)) (by kernel_rfl) ?_)
      intro wd nd hKd hzd
      have hQ : Below w4.heap.size w4 wd := hKd.below (Nat.le_refl _) (by simp)
      have hgw : Hid (w4.heap.size = w4.heap.size) := rfl
      generalize hgx : w4.heap.size = gg at nd ⊢
      replace hgw := Lib.hid hgx
      clear hgx hKd hzd
      go_wp2_with (refine wpList_storeW rfl 38 (.tmp 7) (.tmp 32) rfl 256 arrT256 gg rfl (bv (tbl box)) rfl 38 _ nd (tbl_len _) (by simp) (ones_bv _) ?_)
      intro w5 t5 hKe
      replace hQ : Below w4.heap.size w4 w5 := hQ.trans (hKe.below hQ.size (by intro b hb; simp only [List.mem_singleton] at hb; subst hb; exact Nat.le_of_eq hgw.out))
      clear hKe nd
      replace k3 := k3.keep hQ
      have hW5 := Lib.hid (below_call hW3 hW3.size hQ)
      clear hQ hBc hW3
      generalize gg = g7 at *
      go_wp2_with (first
        | refine wpList_loadW rfl 24 (.tmp 3) rfl 32 arr32s _ rfl 24 _ k3 hkl.out ?_
        | refine wpList_buildV rfl 31 _ rfl _ rfl (bv (k ++ zeros 32)) hbr.out ?_
        | refine wpList_allocA rfl 31 rfl (bv (zeros 64)) (by kernel_rfl) ?_)
      intro wd nd hKd hzd
      have hQ : Below w5.heap.size w5 wd := hKd.below (Nat.le_refl _) (by simp)
      have hgw : Hid (w5.heap.size = w5.heap.size) := rfl
      generalize hgx : w5.heap.size = gg at nd ⊢
      replace hgw := Lib.hid hgx
      clear hgx hKd hzd
      go_wp2_with (refine wpList_storeW rfl 31 (.tmp 8) (.tmp 34) rfl 64 arrK12 gg rfl (bv (k ++ zeros 32)) rfl 31 _ nd hKl.out (by simp) (ones_bv _) ?_)
      intro w6 K6 hKe
      replace hQ : Below w5.heap.size w5 w6 := hQ.trans (hKe.below hQ.size (by intro b hb; simp only [List.mem_singleton] at hb; subst hb; exact Nat.le_of_eq hgw.out))
      clear hKe nd
      replace k3 := k3.keep hQ
      replace t5 := t5.keep hQ
      have hW6 := Lib.hid (below_call hW5.out hW5.out.size hQ)
      clear hQ hW5
      generalize gg = g8 at *
      have hs6 := hs0.out.keep hW6.out
      go_wp2_with (first
        | refine wpList_loadW rfl 24 (.tmp 3) rfl 32 arr32s _ rfl 24 _ k3 hkl.out ?_
        | refine wpList_buildV rfl 28 _ rfl _ rfl (bv (k ++ zeros 32)) hbs.out ?_
        | (go_at_call 14; refine (hx.out _ hs6).mono ?_; rintro e w7 ⟨v1, rfl, s1, hBc⟩; replace k3 := k3.keep hBc; replace t5 := t5.keep hBc; replace K6 := K6.keep hBc; replace hW6 := below_call hW6.out hW6.out.size hBc)
        | refine wpList_allocA rfl 41 rfl (pcells 0 0 (zeros 32)) pt_zero ?_)
      intro wd nd hKd hzd
      have hQ : Below w7.heap.size w7 wd := hKd.below (Nat.le_refl _) (by simp)
      have hgw : Hid (w7.heap.size = w7.heap.size) := rfl
      generalize hgx : w7.heap.size = gg at nd ⊢
      replace hgw := Lib.hid hgx
      clear hgx hKd hzd
      go_wp2_with (refine wpList_storeW rfl 41 (.tmp 10) (.tmp 43) rfl 34 arrPt gg rfl (pcells a' b' S) rfl 41 _ nd hpl.out rfl (pcells_ones _ _ _) ?_)
      intro w8 p8 hKe
      replace hQ : Below w7.heap.size w7 w8 := hQ.trans (hKe.below hQ.size (by intro b hb; simp only [List.mem_singleton] at hb; subst hb; exact Nat.le_of_eq hgw.out))
      clear hKe nd
      replace k3 := k3.keep hQ
      replace t5 := t5.keep hQ
      replace K6 := K6.keep hQ
      replace s1 := s1.keep hQ
      have hW8 := Lib.hid (below_call hW6 hW6.size hQ)
      clear hQ hBc hW6 hs6
      generalize gg = g10 at *
      replace s1 := Lib.hid s1
      have hs8 := hs0.out.keep hW8.out
      go_wp2_with (first
        | refine wpList_loadW rfl 38 (.tmp 7) rfl 256 arrT256 _ rfl 38 _ t5 (tbl_len _) ?_
        | refine wpList_loadW rfl 31 (.tmp 8) rfl 64 arrK12 _ rfl 31 _ K6 hKl.out ?_
        | (go_at_call 15; refine (hy.out _ hs8).mono ?_; rintro e w9 ⟨v2, rfl, s2, hBc⟩; replace k3 := k3.keep hBc; replace t5 := t5.keep hBc; replace K6 := K6.keep hBc; replace p8 := p8.keep hBc; replace s1 := s1.out.keep hBc; replace hW8 := below_call hW8.out hW8.out.size hBc)
        | refine wpList_allocA rfl 41 rfl (pcells 0 0 (zeros 32)) pt_zero ?_)
      intro wd nd hKd hzd
      have hQ : Below w9.heap.size w9 wd := hKd.below (Nat.le_refl _) (by simp)
      have hgw : Hid (w9.heap.size = w9.heap.size) := rfl
      generalize hgx : w9.heap.size = gg at nd ⊢
      replace hgw := Lib.hid hgx
      clear hgx hKd hzd
      go_wp2_with (refine wpList_storeW rfl 41 (.tmp 13) (.tmp 53) rfl 34 arrPt gg rfl (pcells a' b' S) rfl 41 _ nd hpl.out rfl (pcells_ones _ _ _) ?_)
      intro w10 p10 hKe
      replace hQ : Below w9.heap.size w9 w10 := hQ.trans (hKe.below hQ.size (by intro b hb; simp only [List.mem_singleton] at hb; subst hb; exact Nat.le_of_eq hgw.out))
      clear hKe nd
      replace k3 := k3.keep hQ
      replace t5 := t5.keep hQ
      replace K6 := K6.keep hQ
      replace p8 := p8.keep hQ
      replace s1 := s1.keep hQ
      replace s2 := s2.keep hQ
      have hW10 := Lib.hid (below_call hW8 hW8.size hQ)
      clear hQ hBc hW8 hs8
      generalize gg = g13 at *
      replace s1 := Lib.hid s1
      replace s2 := Lib.hid s2
      obtain ⟨A2, c2, hv2, -⟩ := id s2.out
      rw [bv_length] at hv2
      have hss := Lib.hid (hsm.out v1 v2 _ s1.out s2.out)
      subst hv2
      go_wp2_with (first
        | (go_at_call 16; refine hss.out.mono ?_; rintro e wz ⟨rfl, rfl⟩)
        | refine wpList_loadG rfl 41 (.tmp 10) rfl 34 arrPt _ rfl 41 _ p8 hpl.out ?_
        | refine wpList_loadG rfl 41 (.tmp 13) rfl 34 arrPt _ rfl 41 _ p10 hpl.out ?_
        | refine wpList_neqPt rfl (.tmp 60) (.tmp 61) rfl a' b' S hSl'.out rfl rfl ?_)
      go_ret
      exact ⟨rfl, hW10.out⟩
theorem walk (k : List Nat) (b a : Nat) (A : Option Addr) (n c : Nat) (l : List Nat) (W : World) (hk : k.length = 32) (bk : Byt k) (hb : (b : Int) ≤ 18446744073709551615) (ha : (a : Int) ≤ 4294967295) (hs : Sl W (.slice A n c) (bv l)) (bl : Byt l) (hn : n = l.length) (hI : (n : Int) ≤ 140737488351232) :
    Calls Try.prog 4 #[.agg (bv k ++ ([.int .u64 (b : Int), .int .u32 (a : Int), .slice A n c] : List Value)).toArray] W fun e w' => e = .returned (.bool true) ∧ Below W.heap.size W w' :=
  core k b a A n c l hk bk hb ha hn hI bl W hs
end w_SealBlocks
end Go.Proofs.Ytlifpmglaoppoaa
