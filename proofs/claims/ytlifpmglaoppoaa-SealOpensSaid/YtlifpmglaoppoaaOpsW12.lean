/- The walk of SealOpens. -/
import Derived.Test.YtlifpmglaoppoaaQ12P8
import Derived.Test.YtlifpmglaoppoaaQ12P4
import Derived.Test.YtlifpmglaoppoaaEqH
import Derived.Test.YtlifpmglaoppoaaRefN0
import Derived.Test.YtlifpmglaoppoaaRegB
set_option linter.unusedVariables false
set_option linter.unusedSimpArgs false
namespace Go.Proofs.Ytlifpmglaoppoaa
open Go.RowKit
open Go.Proofs.PlainAes
open Go.Proofs.PlainSha
open Go.Proofs.PlainSeal

section
variable {P : Program} {ops : Array Oper} {Q : Exit → Act → World → Prop} {S : World → Prop} {md : Region.Mode}
theorem takeH_buildV {i : Nat} {o : Oper} {fuel : Nat} {listed : Array Bool} {a : Act} {w : World} (hi : ops[i]? = some o) (hs : Region.noSelect ops = true) (hf : Region.free md ops listed i = true) (hr : (Region.ready md ops listed).contains i = true)
    (hQ : ∀ c a w v, Q (.panic c) (a.put o.dst v) w → Q (.panic c) a w) (hw : Region.wanted o (yielded ops a.tmps) = true) (t : TypeId) (parts : Array (Nat × Operand)) (ho : o.op = .build t parts) (ps : List (Nat × Value)) (hps : parts.toList.map (fun x => (x.1, a.eval x.2)) = ps) (L : List Value)
    (hb : P.built t ps = some L.toArray) (hH : S w) (h : wpAnyH P md ops Q S fuel (listed.setIfInBounds i true) (a.put o.dst (.agg L.toArray)) w) : wpAnyH P md ops Q S (fuel + 1) listed a w :=
  takeH_S hi hs hf hr hQ hw _ (fun w _ => by
    have e : P.built t (parts.map fun (i, x) => (i, a.eval x)).toList = some L.toArray := by
      rw [Array.toList_map, ← hb, ← hps]
    unfold execOp
    simp only [ho, Sem.run_bind, run_build w t _ _ e, Result.andThen_ok, Sem.run_pure]) hH h
end
theorem built_rkeyO (x : List Nat) (hx : x.length = 32) : Try.prog.built 31 [(0, .agg (bv x).toArray)] = some (bv (x ++ zeros 32)).toArray := by
  have hz : (Try.prog.info? 31).bind (·.zero) = some (.agg (bv (zeros 64)).toArray) := by kernel_rfl
  cases hi : Try.prog.info? 31 with
  | none => rw [hi] at hz; cases hz
  | some it =>
    rw [hi] at hz
    rw [built_fst (n := 32) (z := bv (zeros 64)) (z2 := bv (zeros 32)) (r := [(32, 32)]) hi Try.underlying31 hz (by rfl) (by simp) (by kernel_rfl) (bv x) (by simp [hx]), bv_app]
theorem same12o (va vb : Value) (l : List Nat) (w : World) (ha : Sl w va (bv l)) (hb : Sl w vb (bv l)) (hl : ∀ b ∈ l, b < 256) :
    Calls Try.prog 16 #[va, vb] w fun e w' => e = .returned (.bool true) ∧ w = w' :=
  (same_any va vb l l w ha hb hl hl).mono fun e w' h => ⟨by rw [h.1, decide_eq_true rfl], h.2⟩
theorem arr32o : ArrTy Try.prog 24 32 := ⟨_, Try.underlying24, rfl, by kernel_rfl⟩
/-- The argument's cells. -/
def opndC (k : List Nat) (a b : Nat) (s : List Nat) (v : Value) (y : Bool) : List Value := bv k ++ (pcells a b s ++ ([v, .bool y] : List Value))
theorem opndS {w : World} {g t : Nat} {k : List Nat} {a b : Nat} {s : List Nat} {v : Value} {y : Bool} (hk : k.length = 32) (hs : s.length = 32) (h : Blk w g t (opndC k a b s v y)) :
    w.rangeAt g 0 (bv k) ∧ w.rangeAt g 32 (pcells a b s) ∧ w.cell? ⟨g, 66, none⟩ = some v ∧ w.cell? ⟨g, 67, none⟩ = some (.bool y) := by
  have hl : (bv k).length = 32 := by simp [hk]
  have hp : (pcells a b s).length = 34 := by simp [hs]
  have hc : ∀ j, (opndC k a b s v y)[32 + j]? = (pcells a b s ++ ([v, .bool y] : List Value))[j]? := fun j => by
    unfold opndC
    rw [List.getElem?_append_right (by omega), hl, Nat.add_sub_cancel_left]
  have hc2 : ∀ j, (opndC k a b s v y)[32 + (34 + j)]? = ([v, .bool y] : List Value)[j]? := fun j => by
    rw [hc, List.getElem?_append_right (by omega), hp, Nat.add_sub_cancel_left]
  refine ⟨?_, ?_, (h.cell 66).trans (hc2 0), (h.cell 67).trans (hc2 1)⟩
  · intro j v hv
    rw [h.cell, Nat.zero_add, opndC, List.getElem?_append_left (List.getElem?_eq_some_iff.1 hv).1]
    exact hv
  · intro j v hv
    rw [h.cell, hc, List.getElem?_append_left (List.getElem?_eq_some_iff.1 hv).1]
    exact hv
theorem put_sum (a b : Nat) (s D : List Nat) (hs : s.length = 32) (hD : D.length = 32) : putL (pcells a b s) 2 (bv D) = pcells a b D := by
  have h : (pcells a b s).drop (2 + (bv D).length) = [] := List.drop_of_length_le (by simp [hs, hD])
  unfold putL
  rw [h, List.append_nil]
  rfl
theorem pcr {w : World} {g t a b : Nat} {s : List Nat} (h : Blk w g t (pcells a b s)) : w.rangeAt g 0 (pcells a b s) := fun j v hv => by rw [h.cell, Nat.zero_add]; exact hv
theorem kcr {w : World} {g t : Nat} {k : List Nat} (h : Blk w g t (bv k)) : w.rangeAt g 0 (bv k) := fun j v hv => by rw [h.cell, Nat.zero_add]; exact hv
theorem fldO0 (g : Nat) (w : World) : (Instr.fieldAt 52 (.pointer (some ⟨g, 0, none⟩)) 0).run Try.prog w = .ok (.pointer (some ⟨g, 0, none⟩)) w := by kernel_rfl
theorem fldO1 (g : Nat) (w : World) : (Instr.fieldAt 52 (.pointer (some ⟨g, 0, none⟩)) 1).run Try.prog w = .ok (.pointer (some ⟨g, 32, none⟩)) w := by kernel_rfl
theorem fldO2 (g : Nat) (w : World) : (Instr.fieldAt 52 (.pointer (some ⟨g, 0, none⟩)) 2).run Try.prog w = .ok (.pointer (some ⟨g, 66, none⟩)) w := by kernel_rfl
theorem fldO3 (g : Nat) (w : World) : (Instr.fieldAt 52 (.pointer (some ⟨g, 0, none⟩)) 3).run Try.prog w = .ok (.pointer (some ⟨g, 67, none⟩)) w := by kernel_rfl
namespace w_SealOpens
set_option maxRecDepth 100000 in
set_option maxHeartbeats 8000000 in
theorem core (k : List Nat) (a b : Nat) (s : List Nat) (A : Option Addr) (n c : Nat) (y : Bool) (l : List Nat) (hk : k.length = 32) (bk : Byt k) (hs32 : s.length = 32) (hb : (b : Int) ≤ 18446744073709551615) (ha : (a : Int) ≤ 4294967295) (hn : n = l.length) (hI : (n : Int) ≤ 140737488351232) (bl : Byt l) (W : World) (hs : Sl W (.slice A n c) (bv l)) :
    Calls Try.prog 5 #[.agg (opndC k a b s (.slice A n c) y).toArray] W fun e w' => e = .returned (.bool true) ∧ Below W.heap.size W w' := by
  have hox := Lib.hid (fun (s : List Nat) (hsl : s.length = 32) w hs => open_all A n c k (zeros 32) l s b a w hn hs hk rfl bk bl hsl hb ha)
  have hoy := Lib.hid (fun (s : List Nat) (hsl : s.length = 32) w hs => ropen_all A n c k (zeros 32) l s b a w hn hs hk rfl bk bl hsl hb ha)
  have hfx := Lib.hid (fun (s : List Nat) (hsl : s.length = 32) w hs => fits_all A n c l s b a w hn hs bl hsl)
  have hfy := Lib.hid (fun (s : List Nat) (hsl : s.length = 32) w hs => rfits_all A n c l s b a w hn hs bl hsl)
  have hsum := Lib.hid (fun (hl : (l.length : Int) ≤ 549755813888) w (h : Sl w (.slice A n c) (bv l)) => shasum_any l _ w h bl hl)
  have hnl := Lib.hid hn
  have hsD := Lib.hid (shaL_len l)
  have hso := Lib.hid (fun (s : List Nat) va vb w ha hb => same12o va vb (opL k b a l s) w ha hb (opL_byt bk b a bl s))
  have htb : Hid (∀ w, Calls Try.prog 13 #[] w (RetA (tbl box) w)) := fun w => rtable_any w
  have hal := Lib.hid (fun w => alive12 w)
  have hkl := Lib.hid (show (bv k).length = 32 by simp [hk])
  have hbr := Lib.hid (built_rkeyO k hk)
  have hbs := Lib.hid (built_key1 k hk)
  have hs32' := Lib.hid hs32
  have hps := Lib.hid (show (pcells a b s).length = 34 by simp [hs32])
  have hpD := Lib.hid (show (pcells a b (shaL l)).length = 34 by simp)
  have hDl := Lib.hid (show (bv (shaL l)).length = 32 by rw [bv_length]; exact shaL_len l)
  have hput := Lib.hid (put_sum a b s (shaL l) hs32 (shaL_len l))
  have hOs : Hid (∀ (w : World) (g t : Nat), Blk w g t (opndC k a b s (.slice A n c) y) → w.rangeAt g 0 (bv k) ∧ w.rangeAt g 32 (pcells a b s) ∧ w.cell? ⟨g, 66, none⟩ = some (.slice A n c) ∧ w.cell? ⟨g, 67, none⟩ = some (.bool y)) := fun w g t h => opndS hk hs32 h
  clear hk bk bl hb ha hn hs32
  generalize hSD : shaL l = D at *
  clear hSD
  have q0 := Blk.new_at (w := W) (n := W.heap.size) (t := 52) (cs := (opndC k a b s (.slice A n c) y).toArray) rfl rfl
  have hB0 : Below W.heap.size W (W.alloc (.cells (opndC k a b s (.slice A n c) y).toArray 52)) := (Below.refl _ _).alloc (Nat.le_refl _) _
  generalize opndC k a b s (.slice A n c) y = CS at *
  replace q0 := Lib.hid q0
  replace hB0 := Lib.hid hB0
  have hs0 := Lib.hid hs
  clear hs
  by_cases hg : 600 < (n : Int)
  · go_enter Try.func5, Try.ntmps5
    go_wp2_with (first
      | (go_at_call 10; refine (hal.out _).mono ?_; rintro e w1 ⟨rfl, hB1⟩)
      | (go_not_at_region 3; go_in))
    have q1 := Lib.hid (q0.out.keep hB1)
    have hW1 := Lib.hid (below_call hB0.out hB0.out.size hB1)
    clear hB1
    refine held_drew2 (S := fun w' => Below w1.heap.size w1 w') #[false, false, false, false, false, false, false, false, false, false, false, false, false, false] (by kernel_rfl) (by kernel_rfl) ((Below.refl _ _).drew) (fun hH => ?_)
    refine takeH_field (o := ⟨some 13, _, _, _, _, _⟩) (i := 0) rfl (by kernel_rfl) (by kernel_rfl) (by kernel_rfl) (fun _ _ _ _ h => h) rfl 52 (.tmp 1) 0 rfl _ 0 rfl (fun w => fldO0 _ w) hH ?_
    simp only [Act.put, List.setIfInBounds_toArray, List.set_cons_zero, List.set_cons_succ, Nat.zero_add, decide_true, beq_self_eq_true]
    refine takeH_load (o := ⟨some 14, _, _, _, _, _⟩) (i := 1) rfl (by kernel_rfl) (by kernel_rfl) (by kernel_rfl) (fun _ _ _ _ h => h) rfl 24 (.tmp 13) rfl 32 arr32o _ _ rfl (bv k) hkl.out (fun w h => (hOs.out _ _ _ (q1.out.keep h)).1) hH ?_
    simp only [Act.put, List.setIfInBounds_toArray, List.set_cons_zero, List.set_cons_succ, Nat.zero_add, decide_true, beq_self_eq_true]
    refine takeH_field (o := ⟨some 15, _, _, _, _, _⟩) (i := 2) rfl (by kernel_rfl) (by kernel_rfl) (by kernel_rfl) (fun _ _ _ _ h => h) rfl 52 (.tmp 1) 1 rfl _ 32 rfl (fun w => fldO1 _ w) hH ?_
    simp only [Act.put, List.setIfInBounds_toArray, List.set_cons_zero, List.set_cons_succ, Nat.zero_add, decide_true, beq_self_eq_true]
    refine takeH_load (o := ⟨some 16, _, _, _, _, _⟩) (i := 3) rfl (by kernel_rfl) (by kernel_rfl) (by kernel_rfl) (fun _ _ _ _ h => h) rfl 41 (.tmp 15) rfl 34 arrPt _ _ rfl (pcells a b s) hps.out (fun w h => (hOs.out _ _ _ (q1.out.keep h)).2.1) hH ?_
    simp only [Act.put, List.setIfInBounds_toArray, List.set_cons_zero, List.set_cons_succ, Nat.zero_add, decide_true, beq_self_eq_true]
    refine takeH_field (o := ⟨some 17, _, _, _, _, _⟩) (i := 4) rfl (by kernel_rfl) (by kernel_rfl) (by kernel_rfl) (fun _ _ _ _ h => h) rfl 52 (.tmp 1) 2 rfl _ 66 rfl (fun w => fldO2 _ w) hH ?_
    simp only [Act.put, List.setIfInBounds_toArray, List.set_cons_zero, List.set_cons_succ, Nat.zero_add, decide_true, beq_self_eq_true]
    refine takeH_cell (o := ⟨some 18, _, _, _, _, _⟩) (i := 5) rfl (by kernel_rfl) (by kernel_rfl) (by kernel_rfl) (fun _ _ _ _ h => h) rfl 22 (.tmp 17) rfl Try.underlying22 rfl _ 66 rfl (.slice A n c) (fun w h => (hOs.out _ _ _ (q1.out.keep h)).2.2.1) hH ?_
    simp only [Act.put, List.setIfInBounds_toArray, List.set_cons_zero, List.set_cons_succ, Nat.zero_add, decide_true, beq_self_eq_true]
    refine takeH_field (o := ⟨some 19, _, _, _, _, _⟩) (i := 6) rfl (by kernel_rfl) (by kernel_rfl) (by kernel_rfl) (fun _ _ _ _ h => h) rfl 52 (.tmp 1) 3 rfl _ 67 rfl (fun w => fldO3 _ w) hH ?_
    simp only [Act.put, List.setIfInBounds_toArray, List.set_cons_zero, List.set_cons_succ, Nat.zero_add, decide_true, beq_self_eq_true]
    refine takeH_cell (o := ⟨some 20, _, _, _, _, _⟩) (i := 7) rfl (by kernel_rfl) (by kernel_rfl) (by kernel_rfl) (fun _ _ _ _ h => h) rfl 4 (.tmp 19) rfl Try.underlying4 rfl _ 67 rfl (.bool y) (fun w h => (hOs.out _ _ _ (q1.out.keep h)).2.2.2) hH ?_
    simp only [Act.put, List.setIfInBounds_toArray, List.set_cons_zero, List.set_cons_succ, Nat.zero_add, decide_true, beq_self_eq_true]
    obtain ⟨g3, -⟩ : ∃ g : Nat, g = 0 := ⟨_, rfl⟩
    obtain ⟨g4, -⟩ : ∃ g : Nat, g = 0 := ⟨_, rfl⟩
    have hD0 : Below w1.heap.size w1 w1.drew := (Below.refl _ _).drew
    apply meet3 (fun (g3 g4 : Nat) (wX : World) => Below w1.heap.size w1 wX ∧ w1.heap.size ≤ g3 ∧ w1.heap.size ≤ g4 ∧ g3 ≠ g4 ∧ Blk wX g3 24 (bv (zeros 32)) ∧ Blk wX g4 41 (pcells 0 0 (zeros 32)))
    · intro key
      refine wpAnyH_ready (rs := [8, 9]) (by kernel_rfl) (by simp) ?_
      refine AllReadyH.cons rfl (fun K1 hK1 => ?_) (AllReadyH.cons rfl (fun K1 hK1 => ?_) AllReadyH.nil)
      · rw [if_pos (by rfl)]
        refine wp_allocA 24 rfl (bv (zeros 32)) (by kernel_rfl) ?_
        intro w2 k2 hK2
        have hB2 : Below w1.heap.size w1 w2 := hD0.trans (hK2.below hD0.size (by simp))
        have ge3 : w1.heap.size ≤ w1.drew.heap.size := hD0.size
        refine hK1.out _ _ hB2 (fun hH => ?_)
        clear hK1 K1 hK2
        simp only [Act.put, List.getElem_toArray, List.getElem_cons_succ, List.getElem_cons_zero, List.setIfInBounds_toArray, List.set_cons_zero, List.set_cons_succ, Nat.zero_add]
        have lt3 : w1.drew.heap.size < w2.heap.size := k2.lt
        generalize w1.drew.heap.size = g3 at *
        refine wpAnyH_ready (rs := [9]) (by kernel_rfl) (by simp) ?_
        refine AllReadyH.cons rfl (fun K1 hK1 => ?_) AllReadyH.nil
        rw [if_pos (by rfl)]
        refine wp_allocA 41 rfl (pcells 0 0 (zeros 32)) pt_zero ?_
        intro w3 p3 hK2
        have hB3 : Below w1.heap.size w1 w3 := hB2.trans (hK2.below hB2.size (by simp))
        have ge4 : w1.heap.size ≤ w2.heap.size := hB2.size
        replace k2 := k2.keeps hK2 (by simp)
        refine hK1.out _ _ hB3 (fun hH => ?_)
        clear hK1 K1 hK2
        simp only [Act.put, List.getElem_toArray, List.getElem_cons_succ, List.getElem_cons_zero, List.setIfInBounds_toArray, List.set_cons_zero, List.set_cons_succ, Nat.zero_add]
        generalize w2.heap.size = g4 at *
        exact key g3 g4 w3 ⟨hB3, ge3, ge4, by omega, k2, p3⟩
      · rw [if_pos (by rfl)]
        refine wp_allocA 41 rfl (pcells 0 0 (zeros 32)) pt_zero ?_
        intro w2 p2 hK2
        have hB2 : Below w1.heap.size w1 w2 := hD0.trans (hK2.below hD0.size (by simp))
        have ge4 : w1.heap.size ≤ w1.drew.heap.size := hD0.size
        refine hK1.out _ _ hB2 (fun hH => ?_)
        clear hK1 K1 hK2
        simp only [Act.put, List.getElem_toArray, List.getElem_cons_succ, List.getElem_cons_zero, List.setIfInBounds_toArray, List.set_cons_zero, List.set_cons_succ, Nat.zero_add]
        have lt4 : w1.drew.heap.size < w2.heap.size := p2.lt
        generalize w1.drew.heap.size = g4 at *
        refine wpAnyH_ready (rs := [8]) (by kernel_rfl) (by simp) ?_
        refine AllReadyH.cons rfl (fun K1 hK1 => ?_) AllReadyH.nil
        rw [if_pos (by rfl)]
        refine wp_allocA 24 rfl (bv (zeros 32)) (by kernel_rfl) ?_
        intro w3 k3 hK2
        have hB3 : Below w1.heap.size w1 w3 := hB2.trans (hK2.below hB2.size (by simp))
        have ge3 : w1.heap.size ≤ w2.heap.size := hB2.size
        replace p2 := p2.keeps hK2 (by simp)
        refine hK1.out _ _ hB3 (fun hH => ?_)
        clear hK1 K1 hK2
        simp only [Act.put, List.getElem_toArray, List.getElem_cons_succ, List.getElem_cons_zero, List.setIfInBounds_toArray, List.set_cons_zero, List.set_cons_succ, Nat.zero_add]
        generalize w2.heap.size = g3 at *
        exact key g3 g4 w3 ⟨hB3, ge3, ge4, by omega, k3, p2⟩
    · intro g3 g4 wX hF
      obtain ⟨hB3, ge3, ge4, hne, k2, p2⟩ := hF
      have hH := hB3
      refine wpAnyH_ready (rs := [10]) (by kernel_rfl) (by simp) ?_
      refine AllReadyH.cons rfl (fun K1 hK1 => ?_) AllReadyH.nil
      rw [if_pos (by rfl)]
      refine wp_storeA 24 (.tmp 3) (.tmp 14) rfl 32 arr32o _ _ rfl (bv k) rfl 24 _ k2 hkl.out (by simp) (ones_bv _) ?_
      intro w4 k3 hK3
      rw [putL_all (by rw [hkl.out]; simp)] at k3
      have hB4 : Below w1.heap.size w1 w4 := hB3.trans (hK3.below hB3.size (by intro b hb; simp only [List.mem_singleton] at hb; subst hb; exact ge3))
      replace p2 := p2.keeps hK3 (by simp; omega)
      refine hK1.out _ _ hB4 (fun hH => ?_)
      clear hK1 K1 hK3 hB3 k2
      simp only [Act.put, List.getElem_toArray, List.getElem_cons_succ, List.getElem_cons_zero, List.setIfInBounds_toArray, List.set_cons_zero, List.set_cons_succ, Nat.zero_add]
      refine wpAnyH_ready (rs := [11]) (by kernel_rfl) (by simp) ?_
      refine AllReadyH.cons rfl (fun K1 hK1 => ?_) AllReadyH.nil
      rw [if_pos (by rfl)]
      refine wp_storeA 41 (.tmp 4) (.tmp 16) rfl 34 arrPt _ _ rfl (pcells a b s) rfl 41 _ p2 hps.out (by simp) (pcells_ones _ _ _) ?_
      intro w5 p3 hK3
      rw [putL_all (by rw [hps.out]; rfl)] at p3
      have hB5 : Below w1.heap.size w1 w5 := hB4.trans (hK3.below hB4.size (by intro b hb; simp only [List.mem_singleton] at hb; subst hb; exact ge4))
      replace k3 := k3.keeps hK3 (by simp; omega)
      refine hK1.out _ _ hB5 (fun hH => ?_)
      clear hK1 K1 hK3 hB4 p2
      simp only [Act.put, List.getElem_toArray, List.getElem_cons_succ, List.getElem_cons_zero, List.setIfInBounds_toArray, List.set_cons_zero, List.set_cons_succ, Nat.zero_add]
      refine takeH_assign (o := ⟨some 5, _, _, _, _, _⟩) (i := 12) rfl (by kernel_rfl) (by kernel_rfl) (by kernel_rfl) (fun _ _ _ _ h => h) rfl (.tmp 18) rfl (.slice A n c) rfl hH ?_
      simp only [Act.put, List.setIfInBounds_toArray, List.set_cons_zero, List.set_cons_succ, Nat.zero_add, decide_true, beq_self_eq_true]
      refine takeH_assign (o := ⟨some 6, _, _, _, _, _⟩) (i := 13) rfl (by kernel_rfl) (by kernel_rfl) (by kernel_rfl) (fun _ _ _ _ h => h) rfl (.tmp 20) rfl (.bool y) rfl hH ?_
      simp only [Act.put, List.setIfInBounds_toArray, List.set_cons_zero, List.set_cons_succ, Nat.zero_add, decide_true, beq_self_eq_true]
      refine wpAnyH_done (by kernel_rfl) ?_ _
      clear hH
      have hW5 := Lib.hid (below_call hW1.out hW1.out.size hB5)
      have ge4' := Lib.hid (Nat.le_trans hW1.out.size ge4)
      have hne' := Lib.hid hne
      clear hB5 hne ge3 ge4
      have hs5 := hs0.out.keep hW5.out
      go_wp2
      go_ret
      exact ⟨rfl, hW5.out⟩
  · cases y
    · go_enter Try.func5, Try.ntmps5
      go_wp2_with (first
        | (go_at_call 10; refine (hal.out _).mono ?_; rintro e w1 ⟨rfl, hB1⟩)
        | (go_not_at_region 3; go_in))
      have q1 := Lib.hid (q0.out.keep hB1)
      have hW1 := Lib.hid (below_call hB0.out hB0.out.size hB1)
      clear hB1
      refine held_drew2 (S := fun w' => Below w1.heap.size w1 w') #[false, false, false, false, false, false, false, false, false, false, false, false, false, false] (by kernel_rfl) (by kernel_rfl) ((Below.refl _ _).drew) (fun hH => ?_)
      refine takeH_field (o := ⟨some 13, _, _, _, _, _⟩) (i := 0) rfl (by kernel_rfl) (by kernel_rfl) (by kernel_rfl) (fun _ _ _ _ h => h) rfl 52 (.tmp 1) 0 rfl _ 0 rfl (fun w => fldO0 _ w) hH ?_
      simp only [Act.put, List.setIfInBounds_toArray, List.set_cons_zero, List.set_cons_succ, Nat.zero_add, decide_true, beq_self_eq_true]
      refine takeH_load (o := ⟨some 14, _, _, _, _, _⟩) (i := 1) rfl (by kernel_rfl) (by kernel_rfl) (by kernel_rfl) (fun _ _ _ _ h => h) rfl 24 (.tmp 13) rfl 32 arr32o _ _ rfl (bv k) hkl.out (fun w h => (hOs.out _ _ _ (q1.out.keep h)).1) hH ?_
      simp only [Act.put, List.setIfInBounds_toArray, List.set_cons_zero, List.set_cons_succ, Nat.zero_add, decide_true, beq_self_eq_true]
      refine takeH_field (o := ⟨some 15, _, _, _, _, _⟩) (i := 2) rfl (by kernel_rfl) (by kernel_rfl) (by kernel_rfl) (fun _ _ _ _ h => h) rfl 52 (.tmp 1) 1 rfl _ 32 rfl (fun w => fldO1 _ w) hH ?_
      simp only [Act.put, List.setIfInBounds_toArray, List.set_cons_zero, List.set_cons_succ, Nat.zero_add, decide_true, beq_self_eq_true]
      refine takeH_load (o := ⟨some 16, _, _, _, _, _⟩) (i := 3) rfl (by kernel_rfl) (by kernel_rfl) (by kernel_rfl) (fun _ _ _ _ h => h) rfl 41 (.tmp 15) rfl 34 arrPt _ _ rfl (pcells a b s) hps.out (fun w h => (hOs.out _ _ _ (q1.out.keep h)).2.1) hH ?_
      simp only [Act.put, List.setIfInBounds_toArray, List.set_cons_zero, List.set_cons_succ, Nat.zero_add, decide_true, beq_self_eq_true]
      refine takeH_field (o := ⟨some 17, _, _, _, _, _⟩) (i := 4) rfl (by kernel_rfl) (by kernel_rfl) (by kernel_rfl) (fun _ _ _ _ h => h) rfl 52 (.tmp 1) 2 rfl _ 66 rfl (fun w => fldO2 _ w) hH ?_
      simp only [Act.put, List.setIfInBounds_toArray, List.set_cons_zero, List.set_cons_succ, Nat.zero_add, decide_true, beq_self_eq_true]
      refine takeH_cell (o := ⟨some 18, _, _, _, _, _⟩) (i := 5) rfl (by kernel_rfl) (by kernel_rfl) (by kernel_rfl) (fun _ _ _ _ h => h) rfl 22 (.tmp 17) rfl Try.underlying22 rfl _ 66 rfl (.slice A n c) (fun w h => (hOs.out _ _ _ (q1.out.keep h)).2.2.1) hH ?_
      simp only [Act.put, List.setIfInBounds_toArray, List.set_cons_zero, List.set_cons_succ, Nat.zero_add, decide_true, beq_self_eq_true]
      refine takeH_field (o := ⟨some 19, _, _, _, _, _⟩) (i := 6) rfl (by kernel_rfl) (by kernel_rfl) (by kernel_rfl) (fun _ _ _ _ h => h) rfl 52 (.tmp 1) 3 rfl _ 67 rfl (fun w => fldO3 _ w) hH ?_
      simp only [Act.put, List.setIfInBounds_toArray, List.set_cons_zero, List.set_cons_succ, Nat.zero_add, decide_true, beq_self_eq_true]
      refine takeH_cell (o := ⟨some 20, _, _, _, _, _⟩) (i := 7) rfl (by kernel_rfl) (by kernel_rfl) (by kernel_rfl) (fun _ _ _ _ h => h) rfl 4 (.tmp 19) rfl Try.underlying4 rfl _ 67 rfl (.bool false) (fun w h => (hOs.out _ _ _ (q1.out.keep h)).2.2.2) hH ?_
      simp only [Act.put, List.setIfInBounds_toArray, List.set_cons_zero, List.set_cons_succ, Nat.zero_add, decide_true, beq_self_eq_true]
      obtain ⟨g3, -⟩ : ∃ g : Nat, g = 0 := ⟨_, rfl⟩
      obtain ⟨g4, -⟩ : ∃ g : Nat, g = 0 := ⟨_, rfl⟩
      have hD0 : Below w1.heap.size w1 w1.drew := (Below.refl _ _).drew
      apply meet3 (fun (g3 g4 : Nat) (wX : World) => Below w1.heap.size w1 wX ∧ w1.heap.size ≤ g3 ∧ w1.heap.size ≤ g4 ∧ g3 ≠ g4 ∧ Blk wX g3 24 (bv (zeros 32)) ∧ Blk wX g4 41 (pcells 0 0 (zeros 32)))
      · intro key
        refine wpAnyH_ready (rs := [8, 9]) (by kernel_rfl) (by simp) ?_
        refine AllReadyH.cons rfl (fun K1 hK1 => ?_) (AllReadyH.cons rfl (fun K1 hK1 => ?_) AllReadyH.nil)
        · rw [if_pos (by rfl)]
          refine wp_allocA 24 rfl (bv (zeros 32)) (by kernel_rfl) ?_
          intro w2 k2 hK2
          have hB2 : Below w1.heap.size w1 w2 := hD0.trans (hK2.below hD0.size (by simp))
          have ge3 : w1.heap.size ≤ w1.drew.heap.size := hD0.size
          refine hK1.out _ _ hB2 (fun hH => ?_)
          clear hK1 K1 hK2
          simp only [Act.put, List.getElem_toArray, List.getElem_cons_succ, List.getElem_cons_zero, List.setIfInBounds_toArray, List.set_cons_zero, List.set_cons_succ, Nat.zero_add]
          have lt3 : w1.drew.heap.size < w2.heap.size := k2.lt
          generalize w1.drew.heap.size = g3 at *
          refine wpAnyH_ready (rs := [9]) (by kernel_rfl) (by simp) ?_
          refine AllReadyH.cons rfl (fun K1 hK1 => ?_) AllReadyH.nil
          rw [if_pos (by rfl)]
          refine wp_allocA 41 rfl (pcells 0 0 (zeros 32)) pt_zero ?_
          intro w3 p3 hK2
          have hB3 : Below w1.heap.size w1 w3 := hB2.trans (hK2.below hB2.size (by simp))
          have ge4 : w1.heap.size ≤ w2.heap.size := hB2.size
          replace k2 := k2.keeps hK2 (by simp)
          refine hK1.out _ _ hB3 (fun hH => ?_)
          clear hK1 K1 hK2
          simp only [Act.put, List.getElem_toArray, List.getElem_cons_succ, List.getElem_cons_zero, List.setIfInBounds_toArray, List.set_cons_zero, List.set_cons_succ, Nat.zero_add]
          generalize w2.heap.size = g4 at *
          exact key g3 g4 w3 ⟨hB3, ge3, ge4, by omega, k2, p3⟩
        · rw [if_pos (by rfl)]
          refine wp_allocA 41 rfl (pcells 0 0 (zeros 32)) pt_zero ?_
          intro w2 p2 hK2
          have hB2 : Below w1.heap.size w1 w2 := hD0.trans (hK2.below hD0.size (by simp))
          have ge4 : w1.heap.size ≤ w1.drew.heap.size := hD0.size
          refine hK1.out _ _ hB2 (fun hH => ?_)
          clear hK1 K1 hK2
          simp only [Act.put, List.getElem_toArray, List.getElem_cons_succ, List.getElem_cons_zero, List.setIfInBounds_toArray, List.set_cons_zero, List.set_cons_succ, Nat.zero_add]
          have lt4 : w1.drew.heap.size < w2.heap.size := p2.lt
          generalize w1.drew.heap.size = g4 at *
          refine wpAnyH_ready (rs := [8]) (by kernel_rfl) (by simp) ?_
          refine AllReadyH.cons rfl (fun K1 hK1 => ?_) AllReadyH.nil
          rw [if_pos (by rfl)]
          refine wp_allocA 24 rfl (bv (zeros 32)) (by kernel_rfl) ?_
          intro w3 k3 hK2
          have hB3 : Below w1.heap.size w1 w3 := hB2.trans (hK2.below hB2.size (by simp))
          have ge3 : w1.heap.size ≤ w2.heap.size := hB2.size
          replace p2 := p2.keeps hK2 (by simp)
          refine hK1.out _ _ hB3 (fun hH => ?_)
          clear hK1 K1 hK2
          simp only [Act.put, List.getElem_toArray, List.getElem_cons_succ, List.getElem_cons_zero, List.setIfInBounds_toArray, List.set_cons_zero, List.set_cons_succ, Nat.zero_add]
          generalize w2.heap.size = g3 at *
          exact key g3 g4 w3 ⟨hB3, ge3, ge4, by omega, k3, p2⟩
      · intro g3 g4 wX hF
        obtain ⟨hB3, ge3, ge4, hne, k2, p2⟩ := hF
        have hH := hB3
        refine wpAnyH_ready (rs := [10]) (by kernel_rfl) (by simp) ?_
        refine AllReadyH.cons rfl (fun K1 hK1 => ?_) AllReadyH.nil
        rw [if_pos (by rfl)]
        refine wp_storeA 24 (.tmp 3) (.tmp 14) rfl 32 arr32o _ _ rfl (bv k) rfl 24 _ k2 hkl.out (by simp) (ones_bv _) ?_
        intro w4 k3 hK3
        rw [putL_all (by rw [hkl.out]; simp)] at k3
        have hB4 : Below w1.heap.size w1 w4 := hB3.trans (hK3.below hB3.size (by intro b hb; simp only [List.mem_singleton] at hb; subst hb; exact ge3))
        replace p2 := p2.keeps hK3 (by simp; omega)
        refine hK1.out _ _ hB4 (fun hH => ?_)
        clear hK1 K1 hK3 hB3 k2
        simp only [Act.put, List.getElem_toArray, List.getElem_cons_succ, List.getElem_cons_zero, List.setIfInBounds_toArray, List.set_cons_zero, List.set_cons_succ, Nat.zero_add]
        refine wpAnyH_ready (rs := [11]) (by kernel_rfl) (by simp) ?_
        refine AllReadyH.cons rfl (fun K1 hK1 => ?_) AllReadyH.nil
        rw [if_pos (by rfl)]
        refine wp_storeA 41 (.tmp 4) (.tmp 16) rfl 34 arrPt _ _ rfl (pcells a b s) rfl 41 _ p2 hps.out (by simp) (pcells_ones _ _ _) ?_
        intro w5 p3 hK3
        rw [putL_all (by rw [hps.out]; rfl)] at p3
        have hB5 : Below w1.heap.size w1 w5 := hB4.trans (hK3.below hB4.size (by intro b hb; simp only [List.mem_singleton] at hb; subst hb; exact ge4))
        replace k3 := k3.keeps hK3 (by simp; omega)
        refine hK1.out _ _ hB5 (fun hH => ?_)
        clear hK1 K1 hK3 hB4 p2
        simp only [Act.put, List.getElem_toArray, List.getElem_cons_succ, List.getElem_cons_zero, List.setIfInBounds_toArray, List.set_cons_zero, List.set_cons_succ, Nat.zero_add]
        refine takeH_assign (o := ⟨some 5, _, _, _, _, _⟩) (i := 12) rfl (by kernel_rfl) (by kernel_rfl) (by kernel_rfl) (fun _ _ _ _ h => h) rfl (.tmp 18) rfl (.slice A n c) rfl hH ?_
        simp only [Act.put, List.setIfInBounds_toArray, List.set_cons_zero, List.set_cons_succ, Nat.zero_add, decide_true, beq_self_eq_true]
        refine takeH_assign (o := ⟨some 6, _, _, _, _, _⟩) (i := 13) rfl (by kernel_rfl) (by kernel_rfl) (by kernel_rfl) (fun _ _ _ _ h => h) rfl (.tmp 20) rfl (.bool false) rfl hH ?_
        simp only [Act.put, List.setIfInBounds_toArray, List.set_cons_zero, List.set_cons_succ, Nat.zero_add, decide_true, beq_self_eq_true]
        refine wpAnyH_done (by kernel_rfl) ?_ _
        clear hH
        have hW5 := Lib.hid (below_call hW1.out hW1.out.size hB5)
        have ge4' := Lib.hid (Nat.le_trans hW1.out.size ge4)
        have hne' := Lib.hid hne
        clear hB5 hne ge3 ge4
        have hs5 := hs0.out.keep hW5.out
        have p7 := p3
        have hW7 := hW5
        have hs7 := hs5
        clear p3 hW5 hs5
        have hx := Lib.hid (hox.out s hs32'.out)
        have hy := Lib.hid (hoy.out s hs32'.out)
        have hf := Lib.hid (hfx.out s hs32'.out)
        have hfr := Lib.hid (hfy.out s hs32'.out)
        have hsm := Lib.hid (hso.out s)
        generalize opL k b a l s = Lo at *
        generalize opE l s = co at *
        generalize fitB l s = yo at *
        go_wp2_with (first
          | refine wpList_loadW rfl 24 (.tmp 3) rfl 32 arr32o _ rfl 24 _ k3 hkl.out ?_
          | refine wpList_loadW rfl 41 (.tmp 4) rfl 34 arrPt _ rfl 41 _ p7 hps.out ?_
          | refine wpList_buildV rfl 28 _ rfl _ rfl (bv (k ++ zeros 32)) hbs.out ?_
          | (go_at_call 17; refine (hx.out _ hs7).mono ?_; rintro e w8 ⟨v1, rfl, s1, hBd⟩)
          | (go_not_at_region 9; go_in))
        replace k3 := Lib.hid (k3.keep hBd)
        replace p7 := Lib.hid (p7.keep hBd)
        have hW8 := Lib.hid (below_call hW7.out hW7.out.size hBd)
        replace s1 := Lib.hid s1
        have hs8 := Lib.hid (hs0.out.keep hW8.out)
        clear hBd hW7 hs7
        refine wp_region_held_drew (S := fun w' => Below w8.heap.size w8 w') (by kernel_rfl) ((Below.refl _ _).drew) (fun hH => ?_)
        have hD8 : Below w8.heap.size w8 w8.drew := (Below.refl _ _).drew
        refine takeH_load (o := ⟨some 38, _, _, _, _, _⟩) (i := 1) rfl (by kernel_rfl) (by kernel_rfl) (by kernel_rfl) (fun _ _ _ _ h => h) rfl 24 (.tmp 3) rfl 32 arr32o _ _ rfl (bv k) hkl.out (fun w h => kcr (k3.out.keep h)) hH ?_
        simp only [Act.put, List.setIfInBounds_toArray, List.set_cons_zero, List.set_cons_succ, Nat.zero_add, decide_true, beq_self_eq_true]
        refine takeH_buildV (o := ⟨some 39, _, _, _, _, _⟩) (i := 2) rfl (by kernel_rfl) (by kernel_rfl) (by kernel_rfl) (fun _ _ _ _ h => h) rfl 31 _ rfl _ rfl (bv (k ++ zeros 32)) hbr.out hH ?_
        simp only [Act.put, List.setIfInBounds_toArray, List.set_cons_zero, List.set_cons_succ, Nat.zero_add, decide_true, beq_self_eq_true]
        refine takeH_load (o := ⟨some 40, _, _, _, _, _⟩) (i := 3) rfl (by kernel_rfl) (by kernel_rfl) (by kernel_rfl) (fun _ _ _ _ h => h) rfl 41 (.tmp 4) rfl 34 arrPt _ _ rfl (pcells a b s) hps.out (fun w h => pcr (p7.out.keep h)) hH ?_
        simp only [Act.put, List.setIfInBounds_toArray, List.set_cons_zero, List.set_cons_succ, Nat.zero_add, decide_true, beq_self_eq_true]
        refine takeH_move (o := ⟨some 41, _, _, _, _, _⟩) (i := 4) rfl (by kernel_rfl) (by kernel_rfl) (by kernel_rfl) (fun _ _ _ _ h => h) rfl (.tmp 5) rfl (.slice A n c) rfl hH ?_
        simp only [Act.put, List.setIfInBounds_toArray, List.set_cons_zero, List.set_cons_succ, Nat.zero_add, decide_true, beq_self_eq_true]
        refine wpAnyH_ready (rs := [0]) (by kernel_rfl) (by simp) ?_
        refine AllReadyH.cons rfl (fun K1 hK1 => ?_) AllReadyH.nil
        rw [if_pos (by rfl)]
        go_wp2_with fail
        refine (htb.out _).mono ?_
        rintro e wa ⟨rfl, hBa⟩
        have hA1 := below_call hD8 hD8.size hBa
        refine hK1.out _ _ hA1 (fun hH => ?_)
        clear hK1 K1 hBa
        refine wpAnyH_ready (rs := [5]) (by kernel_rfl) (by simp) ?_
        refine AllReadyH.cons rfl (fun K1 hK1 => ?_) AllReadyH.nil
        rw [if_pos (by rfl)]
        go_wp2_with fail
        refine (hy.out _ (hs8.out.keep hA1)).mono ?_
        rintro e w9 ⟨v2, rfl, s2, hBa⟩
        have hA2 := below_call hA1 hA1.size hBa
        replace s2 := Lib.hid s2
        refine hK1.out _ _ hA2 (fun hH => ?_)
        clear hK1 K1 hBa
        refine takeH_move (o := ⟨some 36, _, _, _, _, _⟩) (i := 6) rfl (by kernel_rfl) (by kernel_rfl) (by kernel_rfl) (fun _ _ _ _ h => h) rfl (.tmp 42) rfl (.tuple #[v2, .int .i64 co]) rfl hH ?_
        simp only [Act.put, List.setIfInBounds_toArray, List.set_cons_zero, List.set_cons_succ, Nat.zero_add, decide_true, beq_self_eq_true]
        refine takeH_S (o := ⟨some 43, _, _, _, _, _⟩) (i := 7) rfl (by kernel_rfl) (by kernel_rfl) (by kernel_rfl) (fun _ _ _ _ h => h) rfl v2 (fun w _ => by go_simp) hH ?_
        simp only [Act.put, List.setIfInBounds_toArray, List.set_cons_zero, List.set_cons_succ, Nat.zero_add, decide_true, beq_self_eq_true]
        refine takeH_S (o := ⟨some 44, _, _, _, _, _⟩) (i := 8) rfl (by kernel_rfl) (by kernel_rfl) (by kernel_rfl) (fun _ _ _ _ h => h) rfl (.int .i64 co) (fun w _ => by go_simp) hH ?_
        simp only [Act.put, List.setIfInBounds_toArray, List.set_cons_zero, List.set_cons_succ, Nat.zero_add, decide_true, beq_self_eq_true]
        refine takeH_assign (o := ⟨some 9, _, _, _, _, _⟩) (i := 9) rfl (by kernel_rfl) (by kernel_rfl) (by kernel_rfl) (fun _ _ _ _ h => h) rfl (.tmp 43) rfl v2 rfl hH ?_
        simp only [Act.put, List.setIfInBounds_toArray, List.set_cons_zero, List.set_cons_succ, Nat.zero_add, decide_true, beq_self_eq_true]
        refine takeH_assign (o := ⟨some 10, _, _, _, _, _⟩) (i := 10) rfl (by kernel_rfl) (by kernel_rfl) (by kernel_rfl) (fun _ _ _ _ h => h) rfl (.tmp 44) rfl (.int .i64 co) rfl hH ?_
        simp only [Act.put, List.setIfInBounds_toArray, List.set_cons_zero, List.set_cons_succ, Nat.zero_add, decide_true, beq_self_eq_true]
        refine wpAnyH_done (by kernel_rfl) ?_ _
        replace p7 := Lib.hid (p7.out.keep hA2)
        have hW9 := Lib.hid (below_call hW8.out hW8.out.size hA2)
        replace s1 := Lib.hid (s1.out.keep hA2)
        have hs9 := Lib.hid (hs0.out.keep hW9.out)
        clear hA1 hA2 hD8 hH hW8 hs8 k3
        go_wp2_with (first | (go_not_at_region 10; go_in))
        refine wp_region_held_drew (S := fun w' => Below w9.heap.size w9 w') (by kernel_rfl) ((Below.refl _ _).drew) (fun hH => ?_)
        have hD9 : Below w9.heap.size w9 w9.drew := (Below.refl _ _).drew
        refine takeH_load (o := ⟨some 45, _, _, _, _, _⟩) (i := 0) rfl (by kernel_rfl) (by kernel_rfl) (by kernel_rfl) (fun _ _ _ _ h => h) rfl 41 (.tmp 4) rfl 34 arrPt _ _ rfl (pcells a b s) hps.out (fun w h => pcr (p7.out.keep h)) hH ?_
        simp only [Act.put, List.setIfInBounds_toArray, List.set_cons_zero, List.set_cons_succ, Nat.zero_add, decide_true, beq_self_eq_true]
        refine takeH_move (o := ⟨some 46, _, _, _, _, _⟩) (i := 1) rfl (by kernel_rfl) (by kernel_rfl) (by kernel_rfl) (fun _ _ _ _ h => h) rfl (.tmp 5) rfl (.slice A n c) rfl hH ?_
        simp only [Act.put, List.setIfInBounds_toArray, List.set_cons_zero, List.set_cons_succ, Nat.zero_add, decide_true, beq_self_eq_true]
        refine takeH_load (o := ⟨some 48, _, _, _, _, _⟩) (i := 3) rfl (by kernel_rfl) (by kernel_rfl) (by kernel_rfl) (fun _ _ _ _ h => h) rfl 41 (.tmp 4) rfl 34 arrPt _ _ rfl (pcells a b s) hps.out (fun w h => pcr (p7.out.keep h)) hH ?_
        simp only [Act.put, List.setIfInBounds_toArray, List.set_cons_zero, List.set_cons_succ, Nat.zero_add, decide_true, beq_self_eq_true]
        refine takeH_move (o := ⟨some 49, _, _, _, _, _⟩) (i := 4) rfl (by kernel_rfl) (by kernel_rfl) (by kernel_rfl) (fun _ _ _ _ h => h) rfl (.tmp 5) rfl (.slice A n c) rfl hH ?_
        simp only [Act.put, List.setIfInBounds_toArray, List.set_cons_zero, List.set_cons_succ, Nat.zero_add, decide_true, beq_self_eq_true]
        refine wpAnyH_ready (rs := [2]) (by kernel_rfl) (by simp) ?_
        refine AllReadyH.cons rfl (fun K1 hK1 => ?_) AllReadyH.nil
        rw [if_pos (by rfl)]
        go_wp2_with fail
        refine (hf.out _ (hs9.out.keep hD9)).mono ?_
        rintro e wb ⟨rfl, hBa⟩
        have hA3 := below_call hD9 hD9.size hBa
        refine hK1.out _ _ hA3 (fun hH => ?_)
        clear hK1 K1 hBa
        refine wpAnyH_ready (rs := [5]) (by kernel_rfl) (by simp) ?_
        refine AllReadyH.cons rfl (fun K1 hK1 => ?_) AllReadyH.nil
        rw [if_pos (by rfl)]
        go_wp2_with fail
        refine (hfr.out _ (hs9.out.keep hA3)).mono ?_
        rintro e wc ⟨rfl, hBa⟩
        have hA4 := below_call hA3 hA3.size hBa
        refine hK1.out _ _ hA4 (fun hH => ?_)
        clear hK1 K1 hBa
        refine takeH_eqBool (o := ⟨some 51, _, _, _, _, _⟩) (i := 6) rfl (by kernel_rfl) (by kernel_rfl) (by kernel_rfl) (fun _ _ _ _ h => h) rfl 4 4 (.tmp 47) (.tmp 50) rfl Try.underlying4 yo yo rfl rfl hH ?_
        simp only [Act.put, List.setIfInBounds_toArray, List.set_cons_zero, List.set_cons_succ, Nat.zero_add, decide_true, beq_self_eq_true]
        refine takeH_move (o := ⟨some 52, _, _, _, _, _⟩) (i := 7) rfl (by kernel_rfl) (by kernel_rfl) (by kernel_rfl) (fun _ _ _ _ h => h) rfl (.tmp 51) rfl (.bool true) rfl hH ?_
        simp only [Act.put, List.setIfInBounds_toArray, List.set_cons_zero, List.set_cons_succ, Nat.zero_add, decide_true, beq_self_eq_true]
        refine takeH_move (o := ⟨some 53, _, _, _, _, _⟩) (i := 8) rfl (by kernel_rfl) (by kernel_rfl) (by kernel_rfl) (fun _ _ _ _ h => h) rfl (.tmp 7) rfl v1 rfl hH ?_
        simp only [Act.put, List.setIfInBounds_toArray, List.set_cons_zero, List.set_cons_succ, Nat.zero_add, decide_true, beq_self_eq_true]
        refine takeH_move (o := ⟨some 54, _, _, _, _, _⟩) (i := 9) rfl (by kernel_rfl) (by kernel_rfl) (by kernel_rfl) (fun _ _ _ _ h => h) rfl (.tmp 9) rfl v2 rfl hH ?_
        simp only [Act.put, List.setIfInBounds_toArray, List.set_cons_zero, List.set_cons_succ, Nat.zero_add, decide_true, beq_self_eq_true]
        have hss := Lib.hid (hsm.out v1 v2 wc (s1.out.keep hA4) (s2.out.keep hA4))
        refine wpAnyH_ready (rs := [10]) (by kernel_rfl) (by simp) ?_
        refine AllReadyH.cons rfl (fun K1 hK1 => ?_) AllReadyH.nil
        rw [if_pos (by rfl)]
        go_wp2_with fail
        refine hss.out.mono ?_
        rintro e wz ⟨rfl, rfl⟩
        refine hK1.out _ _ hA4 (fun hH => ?_)
        clear hK1 K1
        refine takeH_pick (o := ⟨some 56, _, _, _, _, _⟩) (i := 11) rfl (by kernel_rfl) (by kernel_rfl) (by kernel_rfl) (fun _ _ _ _ h => h) rfl (.tmp 52) (.tmp 55) (.const (.bool false)) rfl true rfl _ rfl hH ?_
        simp only [Act.put, List.setIfInBounds_toArray, List.set_cons_zero, List.set_cons_succ, Nat.zero_add, decide_true, beq_self_eq_true]
        refine takeH_move (o := ⟨some 57, _, _, _, _, _⟩) (i := 12) rfl (by kernel_rfl) (by kernel_rfl) (by kernel_rfl) (fun _ _ _ _ h => h) rfl (.tmp 56) rfl (.bool true) rfl hH ?_
        simp only [Act.put, List.setIfInBounds_toArray, List.set_cons_zero, List.set_cons_succ, Nat.zero_add, decide_true, beq_self_eq_true]
        refine takeH_move (o := ⟨some 58, _, _, _, _, _⟩) (i := 13) rfl (by kernel_rfl) (by kernel_rfl) (by kernel_rfl) (fun _ _ _ _ h => h) rfl (.tmp 8) rfl (.int .i64 co) rfl hH ?_
        simp only [Act.put, List.setIfInBounds_toArray, List.set_cons_zero, List.set_cons_succ, Nat.zero_add, decide_true, beq_self_eq_true]
        refine takeH_move (o := ⟨some 59, _, _, _, _, _⟩) (i := 14) rfl (by kernel_rfl) (by kernel_rfl) (by kernel_rfl) (fun _ _ _ _ h => h) rfl (.tmp 10) rfl (.int .i64 co) rfl hH ?_
        simp only [Act.put, List.setIfInBounds_toArray, List.set_cons_zero, List.set_cons_succ, Nat.zero_add, decide_true, beq_self_eq_true]
        refine takeH_eqInt (o := ⟨some 60, _, _, _, _, _⟩) (i := 15) rfl (by kernel_rfl) (by kernel_rfl) (by kernel_rfl) (fun _ _ _ _ h => h) rfl 42 42 .i64 (.tmp 58) (.tmp 59) rfl Try.underlying42 co co rfl rfl rfl hH ?_
        simp only [Act.put, List.setIfInBounds_toArray, List.set_cons_zero, List.set_cons_succ, Nat.zero_add, decide_true, beq_self_eq_true]
        refine takeH_pick (o := ⟨some 61, _, _, _, _, _⟩) (i := 16) rfl (by kernel_rfl) (by kernel_rfl) (by kernel_rfl) (fun _ _ _ _ h => h) rfl (.tmp 57) (.tmp 60) (.const (.bool false)) rfl true rfl _ rfl hH ?_
        simp only [Act.put, List.setIfInBounds_toArray, List.set_cons_zero, List.set_cons_succ, Nat.zero_add, decide_true, beq_self_eq_true]
        refine takeH_assign (o := ⟨some 2, _, _, _, _, _⟩) (i := 17) rfl (by kernel_rfl) (by kernel_rfl) (by kernel_rfl) (fun _ _ _ _ h => h) rfl (.tmp 61) rfl (.bool true) rfl hH ?_
        simp only [Act.put, List.setIfInBounds_toArray, List.set_cons_zero, List.set_cons_succ, Nat.zero_add, decide_true, beq_self_eq_true]
        refine wpAnyH_done (by kernel_rfl) ?_ _
        have hWf := Lib.hid (below_call hW9.out hW9.out.size hA4)
        go_wp2
        go_ret
        exact ⟨rfl, hWf.out⟩
    · go_enter Try.func5, Try.ntmps5
      go_wp2_with (first
        | (go_at_call 10; refine (hal.out _).mono ?_; rintro e w1 ⟨rfl, hB1⟩)
        | (go_not_at_region 3; go_in))
      have q1 := Lib.hid (q0.out.keep hB1)
      have hW1 := Lib.hid (below_call hB0.out hB0.out.size hB1)
      clear hB1
      refine held_drew2 (S := fun w' => Below w1.heap.size w1 w') #[false, false, false, false, false, false, false, false, false, false, false, false, false, false] (by kernel_rfl) (by kernel_rfl) ((Below.refl _ _).drew) (fun hH => ?_)
      refine takeH_field (o := ⟨some 13, _, _, _, _, _⟩) (i := 0) rfl (by kernel_rfl) (by kernel_rfl) (by kernel_rfl) (fun _ _ _ _ h => h) rfl 52 (.tmp 1) 0 rfl _ 0 rfl (fun w => fldO0 _ w) hH ?_
      simp only [Act.put, List.setIfInBounds_toArray, List.set_cons_zero, List.set_cons_succ, Nat.zero_add, decide_true, beq_self_eq_true]
      refine takeH_load (o := ⟨some 14, _, _, _, _, _⟩) (i := 1) rfl (by kernel_rfl) (by kernel_rfl) (by kernel_rfl) (fun _ _ _ _ h => h) rfl 24 (.tmp 13) rfl 32 arr32o _ _ rfl (bv k) hkl.out (fun w h => (hOs.out _ _ _ (q1.out.keep h)).1) hH ?_
      simp only [Act.put, List.setIfInBounds_toArray, List.set_cons_zero, List.set_cons_succ, Nat.zero_add, decide_true, beq_self_eq_true]
      refine takeH_field (o := ⟨some 15, _, _, _, _, _⟩) (i := 2) rfl (by kernel_rfl) (by kernel_rfl) (by kernel_rfl) (fun _ _ _ _ h => h) rfl 52 (.tmp 1) 1 rfl _ 32 rfl (fun w => fldO1 _ w) hH ?_
      simp only [Act.put, List.setIfInBounds_toArray, List.set_cons_zero, List.set_cons_succ, Nat.zero_add, decide_true, beq_self_eq_true]
      refine takeH_load (o := ⟨some 16, _, _, _, _, _⟩) (i := 3) rfl (by kernel_rfl) (by kernel_rfl) (by kernel_rfl) (fun _ _ _ _ h => h) rfl 41 (.tmp 15) rfl 34 arrPt _ _ rfl (pcells a b s) hps.out (fun w h => (hOs.out _ _ _ (q1.out.keep h)).2.1) hH ?_
      simp only [Act.put, List.setIfInBounds_toArray, List.set_cons_zero, List.set_cons_succ, Nat.zero_add, decide_true, beq_self_eq_true]
      refine takeH_field (o := ⟨some 17, _, _, _, _, _⟩) (i := 4) rfl (by kernel_rfl) (by kernel_rfl) (by kernel_rfl) (fun _ _ _ _ h => h) rfl 52 (.tmp 1) 2 rfl _ 66 rfl (fun w => fldO2 _ w) hH ?_
      simp only [Act.put, List.setIfInBounds_toArray, List.set_cons_zero, List.set_cons_succ, Nat.zero_add, decide_true, beq_self_eq_true]
      refine takeH_cell (o := ⟨some 18, _, _, _, _, _⟩) (i := 5) rfl (by kernel_rfl) (by kernel_rfl) (by kernel_rfl) (fun _ _ _ _ h => h) rfl 22 (.tmp 17) rfl Try.underlying22 rfl _ 66 rfl (.slice A n c) (fun w h => (hOs.out _ _ _ (q1.out.keep h)).2.2.1) hH ?_
      simp only [Act.put, List.setIfInBounds_toArray, List.set_cons_zero, List.set_cons_succ, Nat.zero_add, decide_true, beq_self_eq_true]
      refine takeH_field (o := ⟨some 19, _, _, _, _, _⟩) (i := 6) rfl (by kernel_rfl) (by kernel_rfl) (by kernel_rfl) (fun _ _ _ _ h => h) rfl 52 (.tmp 1) 3 rfl _ 67 rfl (fun w => fldO3 _ w) hH ?_
      simp only [Act.put, List.setIfInBounds_toArray, List.set_cons_zero, List.set_cons_succ, Nat.zero_add, decide_true, beq_self_eq_true]
      refine takeH_cell (o := ⟨some 20, _, _, _, _, _⟩) (i := 7) rfl (by kernel_rfl) (by kernel_rfl) (by kernel_rfl) (fun _ _ _ _ h => h) rfl 4 (.tmp 19) rfl Try.underlying4 rfl _ 67 rfl (.bool true) (fun w h => (hOs.out _ _ _ (q1.out.keep h)).2.2.2) hH ?_
      simp only [Act.put, List.setIfInBounds_toArray, List.set_cons_zero, List.set_cons_succ, Nat.zero_add, decide_true, beq_self_eq_true]
      obtain ⟨g3, -⟩ : ∃ g : Nat, g = 0 := ⟨_, rfl⟩
      obtain ⟨g4, -⟩ : ∃ g : Nat, g = 0 := ⟨_, rfl⟩
      have hD0 : Below w1.heap.size w1 w1.drew := (Below.refl _ _).drew
      apply meet3 (fun (g3 g4 : Nat) (wX : World) => Below w1.heap.size w1 wX ∧ w1.heap.size ≤ g3 ∧ w1.heap.size ≤ g4 ∧ g3 ≠ g4 ∧ Blk wX g3 24 (bv (zeros 32)) ∧ Blk wX g4 41 (pcells 0 0 (zeros 32)))
      · intro key
        refine wpAnyH_ready (rs := [8, 9]) (by kernel_rfl) (by simp) ?_
        refine AllReadyH.cons rfl (fun K1 hK1 => ?_) (AllReadyH.cons rfl (fun K1 hK1 => ?_) AllReadyH.nil)
        · rw [if_pos (by rfl)]
          refine wp_allocA 24 rfl (bv (zeros 32)) (by kernel_rfl) ?_
          intro w2 k2 hK2
          have hB2 : Below w1.heap.size w1 w2 := hD0.trans (hK2.below hD0.size (by simp))
          have ge3 : w1.heap.size ≤ w1.drew.heap.size := hD0.size
          refine hK1.out _ _ hB2 (fun hH => ?_)
          clear hK1 K1 hK2
          simp only [Act.put, List.getElem_toArray, List.getElem_cons_succ, List.getElem_cons_zero, List.setIfInBounds_toArray, List.set_cons_zero, List.set_cons_succ, Nat.zero_add]
          have lt3 : w1.drew.heap.size < w2.heap.size := k2.lt
          generalize w1.drew.heap.size = g3 at *
          refine wpAnyH_ready (rs := [9]) (by kernel_rfl) (by simp) ?_
          refine AllReadyH.cons rfl (fun K1 hK1 => ?_) AllReadyH.nil
          rw [if_pos (by rfl)]
          refine wp_allocA 41 rfl (pcells 0 0 (zeros 32)) pt_zero ?_
          intro w3 p3 hK2
          have hB3 : Below w1.heap.size w1 w3 := hB2.trans (hK2.below hB2.size (by simp))
          have ge4 : w1.heap.size ≤ w2.heap.size := hB2.size
          replace k2 := k2.keeps hK2 (by simp)
          refine hK1.out _ _ hB3 (fun hH => ?_)
          clear hK1 K1 hK2
          simp only [Act.put, List.getElem_toArray, List.getElem_cons_succ, List.getElem_cons_zero, List.setIfInBounds_toArray, List.set_cons_zero, List.set_cons_succ, Nat.zero_add]
          generalize w2.heap.size = g4 at *
          exact key g3 g4 w3 ⟨hB3, ge3, ge4, by omega, k2, p3⟩
        · rw [if_pos (by rfl)]
          refine wp_allocA 41 rfl (pcells 0 0 (zeros 32)) pt_zero ?_
          intro w2 p2 hK2
          have hB2 : Below w1.heap.size w1 w2 := hD0.trans (hK2.below hD0.size (by simp))
          have ge4 : w1.heap.size ≤ w1.drew.heap.size := hD0.size
          refine hK1.out _ _ hB2 (fun hH => ?_)
          clear hK1 K1 hK2
          simp only [Act.put, List.getElem_toArray, List.getElem_cons_succ, List.getElem_cons_zero, List.setIfInBounds_toArray, List.set_cons_zero, List.set_cons_succ, Nat.zero_add]
          have lt4 : w1.drew.heap.size < w2.heap.size := p2.lt
          generalize w1.drew.heap.size = g4 at *
          refine wpAnyH_ready (rs := [8]) (by kernel_rfl) (by simp) ?_
          refine AllReadyH.cons rfl (fun K1 hK1 => ?_) AllReadyH.nil
          rw [if_pos (by rfl)]
          refine wp_allocA 24 rfl (bv (zeros 32)) (by kernel_rfl) ?_
          intro w3 k3 hK2
          have hB3 : Below w1.heap.size w1 w3 := hB2.trans (hK2.below hB2.size (by simp))
          have ge3 : w1.heap.size ≤ w2.heap.size := hB2.size
          replace p2 := p2.keeps hK2 (by simp)
          refine hK1.out _ _ hB3 (fun hH => ?_)
          clear hK1 K1 hK2
          simp only [Act.put, List.getElem_toArray, List.getElem_cons_succ, List.getElem_cons_zero, List.setIfInBounds_toArray, List.set_cons_zero, List.set_cons_succ, Nat.zero_add]
          generalize w2.heap.size = g3 at *
          exact key g3 g4 w3 ⟨hB3, ge3, ge4, by omega, k3, p2⟩
      · intro g3 g4 wX hF
        obtain ⟨hB3, ge3, ge4, hne, k2, p2⟩ := hF
        have hH := hB3
        refine wpAnyH_ready (rs := [10]) (by kernel_rfl) (by simp) ?_
        refine AllReadyH.cons rfl (fun K1 hK1 => ?_) AllReadyH.nil
        rw [if_pos (by rfl)]
        refine wp_storeA 24 (.tmp 3) (.tmp 14) rfl 32 arr32o _ _ rfl (bv k) rfl 24 _ k2 hkl.out (by simp) (ones_bv _) ?_
        intro w4 k3 hK3
        rw [putL_all (by rw [hkl.out]; simp)] at k3
        have hB4 : Below w1.heap.size w1 w4 := hB3.trans (hK3.below hB3.size (by intro b hb; simp only [List.mem_singleton] at hb; subst hb; exact ge3))
        replace p2 := p2.keeps hK3 (by simp; omega)
        refine hK1.out _ _ hB4 (fun hH => ?_)
        clear hK1 K1 hK3 hB3 k2
        simp only [Act.put, List.getElem_toArray, List.getElem_cons_succ, List.getElem_cons_zero, List.setIfInBounds_toArray, List.set_cons_zero, List.set_cons_succ, Nat.zero_add]
        refine wpAnyH_ready (rs := [11]) (by kernel_rfl) (by simp) ?_
        refine AllReadyH.cons rfl (fun K1 hK1 => ?_) AllReadyH.nil
        rw [if_pos (by rfl)]
        refine wp_storeA 41 (.tmp 4) (.tmp 16) rfl 34 arrPt _ _ rfl (pcells a b s) rfl 41 _ p2 hps.out (by simp) (pcells_ones _ _ _) ?_
        intro w5 p3 hK3
        rw [putL_all (by rw [hps.out]; rfl)] at p3
        have hB5 : Below w1.heap.size w1 w5 := hB4.trans (hK3.below hB4.size (by intro b hb; simp only [List.mem_singleton] at hb; subst hb; exact ge4))
        replace k3 := k3.keeps hK3 (by simp; omega)
        refine hK1.out _ _ hB5 (fun hH => ?_)
        clear hK1 K1 hK3 hB4 p2
        simp only [Act.put, List.getElem_toArray, List.getElem_cons_succ, List.getElem_cons_zero, List.setIfInBounds_toArray, List.set_cons_zero, List.set_cons_succ, Nat.zero_add]
        refine takeH_assign (o := ⟨some 5, _, _, _, _, _⟩) (i := 12) rfl (by kernel_rfl) (by kernel_rfl) (by kernel_rfl) (fun _ _ _ _ h => h) rfl (.tmp 18) rfl (.slice A n c) rfl hH ?_
        simp only [Act.put, List.setIfInBounds_toArray, List.set_cons_zero, List.set_cons_succ, Nat.zero_add, decide_true, beq_self_eq_true]
        refine takeH_assign (o := ⟨some 6, _, _, _, _, _⟩) (i := 13) rfl (by kernel_rfl) (by kernel_rfl) (by kernel_rfl) (fun _ _ _ _ h => h) rfl (.tmp 20) rfl (.bool true) rfl hH ?_
        simp only [Act.put, List.setIfInBounds_toArray, List.set_cons_zero, List.set_cons_succ, Nat.zero_add, decide_true, beq_self_eq_true]
        refine wpAnyH_done (by kernel_rfl) ?_ _
        clear hH
        have hW5 := Lib.hid (below_call hW1.out hW1.out.size hB5)
        have ge4' := Lib.hid (Nat.le_trans hW1.out.size ge4)
        have hne' := Lib.hid hne
        clear hB5 hne ge3 ge4
        have hs5 := hs0.out.keep hW5.out
        have hl6 : Hid ((l.length : Int) ≤ 549755813888) := by show _ ≤ _; have := hnl.out; omega
        go_wp2_with (first
          | (go_at_call 19; refine (hsum.out hl6.out _ hs5).mono ?_; rintro e w6 ⟨rfl, hBc⟩; replace k3 := k3.keep hBc; replace p3 := p3.keep hBc)
          | refine wpList_storeA rfl 26 (.tmp 27) (.tmp 26) rfl 32 arrH g4 2 rfl (bv D) rfl 41 _ p3 hDl.out (by rw [hps.out]; decide) (ones_bv _) ?_)
        intro w7 p7 hK7
        rw [hput.out] at p7
        replace k3 := k3.keeps hK7 (by simp; have := hne'.out; omega)
        have hW6 := below_call hW5.out hW5.out.size hBc
        have hW7 := Lib.hid (hW6.trans (hK7.below hW6.size (by intro b hb; simp only [List.mem_singleton] at hb; subst hb; exact ge4'.out)))
        clear hK7 hBc hW6 p3 hW5 hs5
        have hs7 := hs0.out.keep hW7.out
        have hx := Lib.hid (hox.out D hsD.out)
        have hy := Lib.hid (hoy.out D hsD.out)
        have hf := Lib.hid (hfx.out D hsD.out)
        have hfr := Lib.hid (hfy.out D hsD.out)
        have hsm := Lib.hid (hso.out D)
        generalize opL k b a l D = Lo at *
        generalize opE l D = co at *
        generalize fitB l D = yo at *
        go_wp2_with (first
          | refine wpList_loadW rfl 24 (.tmp 3) rfl 32 arr32o _ rfl 24 _ k3 hkl.out ?_
          | refine wpList_loadW rfl 41 (.tmp 4) rfl 34 arrPt _ rfl 41 _ p7 hpD.out ?_
          | refine wpList_buildV rfl 28 _ rfl _ rfl (bv (k ++ zeros 32)) hbs.out ?_
          | (go_at_call 17; refine (hx.out _ hs7).mono ?_; rintro e w8 ⟨v1, rfl, s1, hBd⟩)
          | (go_not_at_region 9; go_in))
        replace k3 := Lib.hid (k3.keep hBd)
        replace p7 := Lib.hid (p7.keep hBd)
        have hW8 := Lib.hid (below_call hW7.out hW7.out.size hBd)
        replace s1 := Lib.hid s1
        have hs8 := Lib.hid (hs0.out.keep hW8.out)
        clear hBd hW7 hs7
        refine wp_region_held_drew (S := fun w' => Below w8.heap.size w8 w') (by kernel_rfl) ((Below.refl _ _).drew) (fun hH => ?_)
        have hD8 : Below w8.heap.size w8 w8.drew := (Below.refl _ _).drew
        refine takeH_load (o := ⟨some 38, _, _, _, _, _⟩) (i := 1) rfl (by kernel_rfl) (by kernel_rfl) (by kernel_rfl) (fun _ _ _ _ h => h) rfl 24 (.tmp 3) rfl 32 arr32o _ _ rfl (bv k) hkl.out (fun w h => kcr (k3.out.keep h)) hH ?_
        simp only [Act.put, List.setIfInBounds_toArray, List.set_cons_zero, List.set_cons_succ, Nat.zero_add, decide_true, beq_self_eq_true]
        refine takeH_buildV (o := ⟨some 39, _, _, _, _, _⟩) (i := 2) rfl (by kernel_rfl) (by kernel_rfl) (by kernel_rfl) (fun _ _ _ _ h => h) rfl 31 _ rfl _ rfl (bv (k ++ zeros 32)) hbr.out hH ?_
        simp only [Act.put, List.setIfInBounds_toArray, List.set_cons_zero, List.set_cons_succ, Nat.zero_add, decide_true, beq_self_eq_true]
        refine takeH_load (o := ⟨some 40, _, _, _, _, _⟩) (i := 3) rfl (by kernel_rfl) (by kernel_rfl) (by kernel_rfl) (fun _ _ _ _ h => h) rfl 41 (.tmp 4) rfl 34 arrPt _ _ rfl (pcells a b D) hpD.out (fun w h => pcr (p7.out.keep h)) hH ?_
        simp only [Act.put, List.setIfInBounds_toArray, List.set_cons_zero, List.set_cons_succ, Nat.zero_add, decide_true, beq_self_eq_true]
        refine takeH_move (o := ⟨some 41, _, _, _, _, _⟩) (i := 4) rfl (by kernel_rfl) (by kernel_rfl) (by kernel_rfl) (fun _ _ _ _ h => h) rfl (.tmp 5) rfl (.slice A n c) rfl hH ?_
        simp only [Act.put, List.setIfInBounds_toArray, List.set_cons_zero, List.set_cons_succ, Nat.zero_add, decide_true, beq_self_eq_true]
        refine wpAnyH_ready (rs := [0]) (by kernel_rfl) (by simp) ?_
        refine AllReadyH.cons rfl (fun K1 hK1 => ?_) AllReadyH.nil
        rw [if_pos (by rfl)]
        go_wp2_with fail
        refine (htb.out _).mono ?_
        rintro e wa ⟨rfl, hBa⟩
        have hA1 := below_call hD8 hD8.size hBa
        refine hK1.out _ _ hA1 (fun hH => ?_)
        clear hK1 K1 hBa
        refine wpAnyH_ready (rs := [5]) (by kernel_rfl) (by simp) ?_
        refine AllReadyH.cons rfl (fun K1 hK1 => ?_) AllReadyH.nil
        rw [if_pos (by rfl)]
        go_wp2_with fail
        refine (hy.out _ (hs8.out.keep hA1)).mono ?_
        rintro e w9 ⟨v2, rfl, s2, hBa⟩
        have hA2 := below_call hA1 hA1.size hBa
        replace s2 := Lib.hid s2
        refine hK1.out _ _ hA2 (fun hH => ?_)
        clear hK1 K1 hBa
        refine takeH_move (o := ⟨some 36, _, _, _, _, _⟩) (i := 6) rfl (by kernel_rfl) (by kernel_rfl) (by kernel_rfl) (fun _ _ _ _ h => h) rfl (.tmp 42) rfl (.tuple #[v2, .int .i64 co]) rfl hH ?_
        simp only [Act.put, List.setIfInBounds_toArray, List.set_cons_zero, List.set_cons_succ, Nat.zero_add, decide_true, beq_self_eq_true]
        refine takeH_S (o := ⟨some 43, _, _, _, _, _⟩) (i := 7) rfl (by kernel_rfl) (by kernel_rfl) (by kernel_rfl) (fun _ _ _ _ h => h) rfl v2 (fun w _ => by go_simp) hH ?_
        simp only [Act.put, List.setIfInBounds_toArray, List.set_cons_zero, List.set_cons_succ, Nat.zero_add, decide_true, beq_self_eq_true]
        refine takeH_S (o := ⟨some 44, _, _, _, _, _⟩) (i := 8) rfl (by kernel_rfl) (by kernel_rfl) (by kernel_rfl) (fun _ _ _ _ h => h) rfl (.int .i64 co) (fun w _ => by go_simp) hH ?_
        simp only [Act.put, List.setIfInBounds_toArray, List.set_cons_zero, List.set_cons_succ, Nat.zero_add, decide_true, beq_self_eq_true]
        refine takeH_assign (o := ⟨some 9, _, _, _, _, _⟩) (i := 9) rfl (by kernel_rfl) (by kernel_rfl) (by kernel_rfl) (fun _ _ _ _ h => h) rfl (.tmp 43) rfl v2 rfl hH ?_
        simp only [Act.put, List.setIfInBounds_toArray, List.set_cons_zero, List.set_cons_succ, Nat.zero_add, decide_true, beq_self_eq_true]
        refine takeH_assign (o := ⟨some 10, _, _, _, _, _⟩) (i := 10) rfl (by kernel_rfl) (by kernel_rfl) (by kernel_rfl) (fun _ _ _ _ h => h) rfl (.tmp 44) rfl (.int .i64 co) rfl hH ?_
        simp only [Act.put, List.setIfInBounds_toArray, List.set_cons_zero, List.set_cons_succ, Nat.zero_add, decide_true, beq_self_eq_true]
        refine wpAnyH_done (by kernel_rfl) ?_ _
        replace p7 := Lib.hid (p7.out.keep hA2)
        have hW9 := Lib.hid (below_call hW8.out hW8.out.size hA2)
        replace s1 := Lib.hid (s1.out.keep hA2)
        have hs9 := Lib.hid (hs0.out.keep hW9.out)
        clear hA1 hA2 hD8 hH hW8 hs8 k3
        go_wp2_with (first | (go_not_at_region 10; go_in))
        refine wp_region_held_drew (S := fun w' => Below w9.heap.size w9 w') (by kernel_rfl) ((Below.refl _ _).drew) (fun hH => ?_)
        have hD9 : Below w9.heap.size w9 w9.drew := (Below.refl _ _).drew
        refine takeH_load (o := ⟨some 45, _, _, _, _, _⟩) (i := 0) rfl (by kernel_rfl) (by kernel_rfl) (by kernel_rfl) (fun _ _ _ _ h => h) rfl 41 (.tmp 4) rfl 34 arrPt _ _ rfl (pcells a b D) hpD.out (fun w h => pcr (p7.out.keep h)) hH ?_
        simp only [Act.put, List.setIfInBounds_toArray, List.set_cons_zero, List.set_cons_succ, Nat.zero_add, decide_true, beq_self_eq_true]
        refine takeH_move (o := ⟨some 46, _, _, _, _, _⟩) (i := 1) rfl (by kernel_rfl) (by kernel_rfl) (by kernel_rfl) (fun _ _ _ _ h => h) rfl (.tmp 5) rfl (.slice A n c) rfl hH ?_
        simp only [Act.put, List.setIfInBounds_toArray, List.set_cons_zero, List.set_cons_succ, Nat.zero_add, decide_true, beq_self_eq_true]
        refine takeH_load (o := ⟨some 48, _, _, _, _, _⟩) (i := 3) rfl (by kernel_rfl) (by kernel_rfl) (by kernel_rfl) (fun _ _ _ _ h => h) rfl 41 (.tmp 4) rfl 34 arrPt _ _ rfl (pcells a b D) hpD.out (fun w h => pcr (p7.out.keep h)) hH ?_
        simp only [Act.put, List.setIfInBounds_toArray, List.set_cons_zero, List.set_cons_succ, Nat.zero_add, decide_true, beq_self_eq_true]
        refine takeH_move (o := ⟨some 49, _, _, _, _, _⟩) (i := 4) rfl (by kernel_rfl) (by kernel_rfl) (by kernel_rfl) (fun _ _ _ _ h => h) rfl (.tmp 5) rfl (.slice A n c) rfl hH ?_
        simp only [Act.put, List.setIfInBounds_toArray, List.set_cons_zero, List.set_cons_succ, Nat.zero_add, decide_true, beq_self_eq_true]
        refine wpAnyH_ready (rs := [2]) (by kernel_rfl) (by simp) ?_
        refine AllReadyH.cons rfl (fun K1 hK1 => ?_) AllReadyH.nil
        rw [if_pos (by rfl)]
        go_wp2_with fail
        refine (hf.out _ (hs9.out.keep hD9)).mono ?_
        rintro e wb ⟨rfl, hBa⟩
        have hA3 := below_call hD9 hD9.size hBa
        refine hK1.out _ _ hA3 (fun hH => ?_)
        clear hK1 K1 hBa
        refine wpAnyH_ready (rs := [5]) (by kernel_rfl) (by simp) ?_
        refine AllReadyH.cons rfl (fun K1 hK1 => ?_) AllReadyH.nil
        rw [if_pos (by rfl)]
        go_wp2_with fail
        refine (hfr.out _ (hs9.out.keep hA3)).mono ?_
        rintro e wc ⟨rfl, hBa⟩
        have hA4 := below_call hA3 hA3.size hBa
        refine hK1.out _ _ hA4 (fun hH => ?_)
        clear hK1 K1 hBa
        refine takeH_eqBool (o := ⟨some 51, _, _, _, _, _⟩) (i := 6) rfl (by kernel_rfl) (by kernel_rfl) (by kernel_rfl) (fun _ _ _ _ h => h) rfl 4 4 (.tmp 47) (.tmp 50) rfl Try.underlying4 yo yo rfl rfl hH ?_
        simp only [Act.put, List.setIfInBounds_toArray, List.set_cons_zero, List.set_cons_succ, Nat.zero_add, decide_true, beq_self_eq_true]
        refine takeH_move (o := ⟨some 52, _, _, _, _, _⟩) (i := 7) rfl (by kernel_rfl) (by kernel_rfl) (by kernel_rfl) (fun _ _ _ _ h => h) rfl (.tmp 51) rfl (.bool true) rfl hH ?_
        simp only [Act.put, List.setIfInBounds_toArray, List.set_cons_zero, List.set_cons_succ, Nat.zero_add, decide_true, beq_self_eq_true]
        refine takeH_move (o := ⟨some 53, _, _, _, _, _⟩) (i := 8) rfl (by kernel_rfl) (by kernel_rfl) (by kernel_rfl) (fun _ _ _ _ h => h) rfl (.tmp 7) rfl v1 rfl hH ?_
        simp only [Act.put, List.setIfInBounds_toArray, List.set_cons_zero, List.set_cons_succ, Nat.zero_add, decide_true, beq_self_eq_true]
        refine takeH_move (o := ⟨some 54, _, _, _, _, _⟩) (i := 9) rfl (by kernel_rfl) (by kernel_rfl) (by kernel_rfl) (fun _ _ _ _ h => h) rfl (.tmp 9) rfl v2 rfl hH ?_
        simp only [Act.put, List.setIfInBounds_toArray, List.set_cons_zero, List.set_cons_succ, Nat.zero_add, decide_true, beq_self_eq_true]
        have hss := Lib.hid (hsm.out v1 v2 wc (s1.out.keep hA4) (s2.out.keep hA4))
        refine wpAnyH_ready (rs := [10]) (by kernel_rfl) (by simp) ?_
        refine AllReadyH.cons rfl (fun K1 hK1 => ?_) AllReadyH.nil
        rw [if_pos (by rfl)]
        go_wp2_with fail
        refine hss.out.mono ?_
        rintro e wz ⟨rfl, rfl⟩
        refine hK1.out _ _ hA4 (fun hH => ?_)
        clear hK1 K1
        refine takeH_pick (o := ⟨some 56, _, _, _, _, _⟩) (i := 11) rfl (by kernel_rfl) (by kernel_rfl) (by kernel_rfl) (fun _ _ _ _ h => h) rfl (.tmp 52) (.tmp 55) (.const (.bool false)) rfl true rfl _ rfl hH ?_
        simp only [Act.put, List.setIfInBounds_toArray, List.set_cons_zero, List.set_cons_succ, Nat.zero_add, decide_true, beq_self_eq_true]
        refine takeH_move (o := ⟨some 57, _, _, _, _, _⟩) (i := 12) rfl (by kernel_rfl) (by kernel_rfl) (by kernel_rfl) (fun _ _ _ _ h => h) rfl (.tmp 56) rfl (.bool true) rfl hH ?_
        simp only [Act.put, List.setIfInBounds_toArray, List.set_cons_zero, List.set_cons_succ, Nat.zero_add, decide_true, beq_self_eq_true]
        refine takeH_move (o := ⟨some 58, _, _, _, _, _⟩) (i := 13) rfl (by kernel_rfl) (by kernel_rfl) (by kernel_rfl) (fun _ _ _ _ h => h) rfl (.tmp 8) rfl (.int .i64 co) rfl hH ?_
        simp only [Act.put, List.setIfInBounds_toArray, List.set_cons_zero, List.set_cons_succ, Nat.zero_add, decide_true, beq_self_eq_true]
        refine takeH_move (o := ⟨some 59, _, _, _, _, _⟩) (i := 14) rfl (by kernel_rfl) (by kernel_rfl) (by kernel_rfl) (fun _ _ _ _ h => h) rfl (.tmp 10) rfl (.int .i64 co) rfl hH ?_
        simp only [Act.put, List.setIfInBounds_toArray, List.set_cons_zero, List.set_cons_succ, Nat.zero_add, decide_true, beq_self_eq_true]
        refine takeH_eqInt (o := ⟨some 60, _, _, _, _, _⟩) (i := 15) rfl (by kernel_rfl) (by kernel_rfl) (by kernel_rfl) (fun _ _ _ _ h => h) rfl 42 42 .i64 (.tmp 58) (.tmp 59) rfl Try.underlying42 co co rfl rfl rfl hH ?_
        simp only [Act.put, List.setIfInBounds_toArray, List.set_cons_zero, List.set_cons_succ, Nat.zero_add, decide_true, beq_self_eq_true]
        refine takeH_pick (o := ⟨some 61, _, _, _, _, _⟩) (i := 16) rfl (by kernel_rfl) (by kernel_rfl) (by kernel_rfl) (fun _ _ _ _ h => h) rfl (.tmp 57) (.tmp 60) (.const (.bool false)) rfl true rfl _ rfl hH ?_
        simp only [Act.put, List.setIfInBounds_toArray, List.set_cons_zero, List.set_cons_succ, Nat.zero_add, decide_true, beq_self_eq_true]
        refine takeH_assign (o := ⟨some 2, _, _, _, _, _⟩) (i := 17) rfl (by kernel_rfl) (by kernel_rfl) (by kernel_rfl) (fun _ _ _ _ h => h) rfl (.tmp 61) rfl (.bool true) rfl hH ?_
        simp only [Act.put, List.setIfInBounds_toArray, List.set_cons_zero, List.set_cons_succ, Nat.zero_add, decide_true, beq_self_eq_true]
        refine wpAnyH_done (by kernel_rfl) ?_ _
        have hWf := Lib.hid (below_call hW9.out hW9.out.size hA4)
        go_wp2
        go_ret
        exact ⟨rfl, hWf.out⟩
theorem walk (k : List Nat) (a b : Nat) (s : List Nat) (A : Option Addr) (n c : Nat) (y : Bool) (l : List Nat) (W : World) (hk : k.length = 32) (bk : Byt k) (hs32 : s.length = 32) (hb : (b : Int) ≤ 18446744073709551615) (ha : (a : Int) ≤ 4294967295) (hs : Sl W (.slice A n c) (bv l)) (bl : Byt l) (hn : n = l.length) (hI : (n : Int) ≤ 140737488351232) :
    Calls Try.prog 5 #[.agg (bv k ++ (pcells a b s ++ ([.slice A n c, .bool y] : List Value))).toArray] W fun e w' => e = .returned (.bool true) ∧ Below W.heap.size W w' :=
  core k a b s A n c y l hk bk hs32 hb ha hn hI bl W hs
end w_SealOpens
end Go.Proofs.Ytlifpmglaoppoaa
