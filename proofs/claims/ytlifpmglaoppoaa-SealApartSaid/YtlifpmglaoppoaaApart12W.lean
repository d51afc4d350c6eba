/- The walk of SealApart. -/
import Derived.Test.YtlifpmglaoppoaaQ12P4
import Derived.Test.YtlifpmglaoppoaaPtE
import Derived.Test.YtlifpmglaoppoaaApartP
import Derived.Test.YtlifpmglaoppoaaEqH
import Derived.Deep.DeepCutAuto
set_option linter.unusedVariables false
set_option linter.unusedSimpArgs false
namespace Go.Proofs.Ytlifpmglaoppoaa.w_SealApart
open Go.RowKit
open Go.Proofs.PlainAes
open Go.Proofs.PlainSha
open Go.Proofs.PlainMac
open Go.Proofs.PlainSeal

theorem arr24 : ArrTy Try.prog 24 32 := ⟨_, Try.underlying24, rfl, by kernel_rfl⟩
theorem bytB12 : ByteArr Try.prog 72 16 := ⟨⟨_, Try.underlying72, Try.underlying5, by kernel_rfl⟩, by kernel_rfl⟩
theorem fldW0 (g : Nat) (w : World) : (Instr.fieldAt 70 (.pointer (some ⟨g, 0, none⟩)) 0).run Try.prog w = .ok (.pointer (some ⟨g, 0, none⟩)) w := by kernel_rfl
theorem fldW1 (g : Nat) (w : World) : (Instr.fieldAt 70 (.pointer (some ⟨g, 0, none⟩)) 1).run Try.prog w = .ok (.pointer (some ⟨g, 32, none⟩)) w := by kernel_rfl
theorem fldW2 (g : Nat) (w : World) : (Instr.fieldAt 70 (.pointer (some ⟨g, 0, none⟩)) 2).run Try.prog w = .ok (.pointer (some ⟨g, 33, none⟩)) w := by kernel_rfl
theorem fldW3 (g : Nat) (w : World) : (Instr.fieldAt 70 (.pointer (some ⟨g, 0, none⟩)) 3).run Try.prog w = .ok (.pointer (some ⟨g, 34, none⟩)) w := by kernel_rfl
theorem fldW4 (g : Nat) (w : World) : (Instr.fieldAt 70 (.pointer (some ⟨g, 0, none⟩)) 4).run Try.prog w = .ok (.pointer (some ⟨g, 35, none⟩)) w := by kernel_rfl
theorem takeH_neqB {P : Program} {ops : Array Oper} {o : Oper} {a : Act} {w : World} {Q : Exit → Act → World → Prop} {S : World → Prop} {md : Region.Mode} {i : Nat} {fuel : Nat} {listed : Array Bool} (hi : ops[i]? = some o) (hs : Region.noSelect ops = true) (hf : Region.free md ops listed i = true) (hr : (Region.ready md ops listed).contains i = true)
    (hQ : ∀ c a w v, Q (.panic c) (a.put o.dst v) w → Q (.panic c) a w) (hw : Region.wanted o (yielded ops a.tmps) = true) (t : TypeId) (x y : Operand) (u : Nat) (ho : o.op = .binOp .neq t x y u) (n : Nat) (hB : ByteArr P t n) (l m : List Nat) (hx : a.eval x = .agg (bv l).toArray) (hy : a.eval y = .agg (bv m).toArray) (hl : l.length = n) (hm : m.length = n)
    (hH : S w) (h : wpAnyH P md ops Q S fuel (listed.setIfInBounds i true) (a.put o.dst (.bool (!decide (l = m)))) w) : wpAnyH P md ops Q S (fuel + 1) listed a w :=
  wpAnyH_take hi hs hf hr (fun c a w => hQ c a w _) (.inl ⟨hw, fun w _ => by
    obtain ⟨⟨e, hu, he, hs⟩, hg⟩ := hB
    unfold execOp
    simp only [ho, hx, hy, Sem.run_bind, run_eqGuard_agg w _ t x y _ _ hg, run_neq_bytes hu he hs hl hm, Result.andThen_ok, Sem.run_pure]⟩) hH h
theorem strS {w : World} {g t : Nat} {k : List Nat} {va vb vc vd : Value} (hk : k.length = 32) (h : Blk w g t (bv k ++ [va, vb, vc, vd])) : w.rangeAt g 0 (bv k) ∧ w.cell? ⟨g, 32, none⟩ = some va ∧ w.cell? ⟨g, 33, none⟩ = some vb ∧ w.cell? ⟨g, 34, none⟩ = some vc ∧ w.cell? ⟨g, 35, none⟩ = some vd := by
  have hkl : (bv k).length = 32 := by simp [hk]
  refine ⟨fun j v hv => ?_, ?_, ?_, ?_, ?_⟩
  · rw [h.cell, Nat.zero_add, List.getElem?_append_left (List.getElem?_eq_some_iff.1 hv).1, hv]
  all_goals (rw [h.cell, List.getElem?_append_right (by omega), hkl]; rfl)
theorem kSl {w : World} {g t : Nat} {k : List Nat} (h : Blk w g t (bv k)) (hk : k.length = 32) : Sl w (.slice (some ⟨g, 0, none⟩) 32 32) (bv k) := by
  have := Sl.of_blk (n := 32) (c := 32) h (Nat.le_refl _) (by simp [hk]) (by unfold maxLen; omega)
  rwa [List.take_of_length_le (by simp [hk])] at this
theorem slRange {w : World} {g n c : Nat} {X : List Nat} (h : Sl w (.slice (some ⟨g, 0, none⟩) n c) (bv X)) : w.rangeAt g 0 (bv (X.take 16)) := by
  intro j v hv
  rw [bv_get, List.getElem?_take] at hv
  by_cases hj : j < 16
  · rw [if_pos hj, ← bv_get] at hv
    obtain ⟨g', o', e, hc⟩ := h.at_ hv
    injection e with e
    injection e with e1 e2
    subst e1 e2
    exact hc
  · rw [if_neg hj] at hv; cases hv
theorem arrAt (A : Option Addr) (c : Nat) (w : World) : (Instr.arrayAt 72 (.slice A 16 c)).run Try.prog w = .ok (.pointer A) w := by
  simp [Instr.arrayAt, Sem.run_bind, run_underlying Try.underlying72, Result.andThen]
theorem hbz (w : World) : (Instr.build 72 #[]).run Try.prog w = .ok (.agg (bv (zeros 16)).toArray) w := by kernel_rfl
set_option maxRecDepth 100000 in
theorem field_enc (E M : List Nat) (hE : E.length = 32) (w : World) : (Instr.field 28 (.agg (bv (E ++ M)).toArray) 0).run Try.prog w = .ok (.agg (bv E).toArray) w := by
  have p := part_arr (P := Try.prog) (e := 25) arrK (cs := (bv (E ++ M)).toArray) (i := 0) (L := bv E) (by
    simp [List.extract_toArray, List.extract_eq_take_drop, bv_app, hE]) w
  generalize (bv (E ++ M)).toArray = X at *
  unfold Instr.field
  rw [Sem.run_bind, run_underlying Try.underlying28 w]
  simp only [Result.andThen_ok]
  show (((asAgg (.agg X)).run Try.prog w).andThen fun a w' => (part 25 a 0).run Try.prog w') = _
  simp only [asAgg, Sem.run_pure, Result.andThen_ok]
  exact p
set_option maxRecDepth 100000 in
set_option maxHeartbeats 4000000 in
theorem core (a b c d : Nat) (k : List Nat) (W : World) (hk : k.length = 32) (bk : Byt k) (ha : (a : Int) ≤ 4294967295) (hb : (b : Int) ≤ 4294967295) (hc : (c : Int) ≤ 65535) (hd : (d : Int) ≤ 65535) :
    Calls Try.prog 9 #[.agg (bv k ++ ([.int .u32 (a : Int), .int .u32 (b : Int), .int .u16 (c : Int), .int .u16 (d : Int)] : List Value)).toArray] W fun e w' => e = .returned (.bool true) ∧ Below W.heap.size W w' := by
  obtain ⟨m, hm⟩ : ∃ m, m = a + 1 := ⟨_, rfl⟩
  obtain ⟨n, hn⟩ : ∃ n, n = b + 1 := ⟨_, rfl⟩
  obtain ⟨p, hp⟩ : ∃ p, p = 2 + c % 4000 := ⟨_, rfl⟩
  obtain ⟨o, ho⟩ : ∃ o, o = 2 + d % 4000 := ⟨_, rfl⟩
  have Bm : (m : Int) ≤ 4294967296 ∧ 1 ≤ (m : Int) := by omega
  have Bn : (n : Int) ≤ 4294967296 ∧ 1 ≤ (n : Int) := by omega
  have Bp : (p : Int) ≤ 4095 ∧ 2 ≤ (p : Int) := by omega
  have Bo : (o : Int) ≤ 4095 ∧ 2 ≤ (o : Int) := by omega
  have bnil : Byt [] := fun x h => absurd h (by simp)
  have hal := Lib.hid (fun w => alive12 w)
  have hbn := Lib.hid (fun w => block12 (.slice none 0 0) [] w (Sl.nil_ w) bnil (by decide))
  have hsX := Lib.hid (fun v w h => sealed_blk v k (zeros 32) [] m p w h hk (by simp) bk bnil (by omega) Bm.2 Bp.1 Bp.2)
  have hsY := Lib.hid (fun v w h => sealed_blk v k (zeros 32) [] n o w h hk (by simp) bk bnil (by omega) Bn.2 Bo.1 Bo.2)
  have hU := first16 k m p hk
  have hV := first16 k n o hk
  have hopn := Lib.hid (fun w => open_any k (sblk k (nonceL m p) 0) w hk bk (sblk_len12 k m p hk) (sblk_byt12 k m p bk))
  rw [open_first k m p hk bk] at hopn
  have hNe : Hid ((!decide (nblk (nonceL m p) 0 = zeros 16)) = true) := by
    show (!decide _) = true
    rw [decide_eq_false (show ¬ nblk (nonceL m p) 0 = zeros 16 from nblk_ne (m := m) p (by omega) (by omega))]; rfl
  have hNl : Hid ((nblk (nonceL m p) 0).length = 16) := by show _ = _; simp [nblk]
  have hiff : Hid (sblk k (nonceL m p) 0 = sblk k (nonceL n o) 0 → m = n ∧ p = o) := first_iff k hk bk (by omega) (by omega) (by omega) (by omega)
  have hfwd : Hid (m = n → p = o → sblk k (nonceL m p) 0 = sblk k (nonceL n o) 0) := fun h1 h2 => by rw [h1, h2]
  have hUl1 := Lib.hid (sblk_len12 k m p hk)
  have hVl1 := Lib.hid (sblk_len12 k n o hk)
  have hUl := Lib.hid (show (bv (sblk k (nonceL m p) 0)).length = 16 by rw [bv_length]; exact hUl1.out)
  have hVl := Lib.hid (show (bv (sblk k (nonceL n o) 0)).length = 16 by rw [bv_length]; exact hVl1.out)
  have hp1 := Lib.hid (show (pcells p m (shaL (sealL k m p (blkL [])))).length = 34 by simp)
  have hp2 := Lib.hid (show (pcells o n (shaL (sealL k n o (blkL [])))).length = 34 by simp)
  have hmd0 := fun v w (h : Sl w v (bv k)) => derive_any v k encL w h bk encL_byt (by omega) (by decide)
  change ∀ v w h, Calls _ _ _ w (RetH (keyE k) w) at hmd0
  rw [← enc_str] at hmd0
  have hmd := Lib.hid hmd0
  have hder := Lib.hid (fun v w h => derive_keys v k w h bk (by omega))
  have hfld := Lib.hid (fun w => field_enc (keyE k) (keyM k) (keyE_length k) w)
  have hEl := Lib.hid (keyE_length k)
  have hb1 := Lib.hid (built_key1 k hk)
  have hkl := Lib.hid (show (bv k).length = 32 by simp [hk])
  have hkl1 := Lib.hid hk
  have hKl := Lib.hid (show (bv (k ++ zeros 32)).length = 64 by simp [hk])
  have hUX : Hid (∀ w g c, Sl w (.slice (some ⟨g, 0, none⟩) 512 c) (bv (sealL k m p (blkL []))) → w.rangeAt g 0 (bv (sblk k (nonceL m p) 0))) := fun w g c h => hU ▸ slRange h
  have hVY : Hid (∀ w g c, Sl w (.slice (some ⟨g, 0, none⟩) 512 c) (bv (sealL k n o (blkL []))) → w.rangeAt g 0 (bv (sblk k (nonceL n o) 0))) := fun w g c h => hV ▸ slRange h
  clear hmd0 hU hV hk bk bnil
  generalize sblk k (nonceL m p) 0 = U at *
  generalize sblk k (nonceL n o) 0 = V at *
  generalize nblk (nonceL m p) 0 = NB at *
  generalize shaL (sealL k m p (blkL [])) = S1 at *
  generalize shaL (sealL k n o (blkL [])) = S2 at *
  generalize sealL k m p (blkL []) = X at *
  generalize sealL k n o (blkL []) = Y at *
  generalize keyE k = E at *
  generalize keyM k = M at *
  go_enter Try.func9, Try.ntmps9
  go_wp2_with fail
  refine (hal.out _).mono ?_
  rintro e w1 ⟨rfl, hB1⟩
  have h1 : Blk (W.alloc (.cells (bv k ++ ([.int .u32 (a : Int), .int .u32 (b : Int), .int .u16 (c : Int), .int .u16 (d : Int)] : List Value)).toArray 70)) W.heap.size 70 (bv k ++ [.int .u32 (a : Int), .int .u32 (b : Int), .int .u16 (c : Int), .int .u16 (d : Int)]) := Blk.new_at rfl rfl
  have hB : Below W.heap.size W (W.alloc (.cells (bv k ++ ([.int .u32 (a : Int), .int .u32 (b : Int), .int .u16 (c : Int), .int .u16 (d : Int)] : List Value)).toArray 70)) := (Below.refl _ _).alloc (Nat.le_refl _) _
  replace h1 := h1.keep hB1
  replace hB := below_call hB hB.size hB1
  clear hB1
  have hS := Lib.hid (fun w (h : Below w1.heap.size w1 w) => strS hkl1.out (h1.keep h))
  clear h1
  go_upto_region 3 with fail
  refine wp_region_held_drew (S := fun w' => Below w1.heap.size w1 w') (by kernel_rfl) ((Below.refl _ _).drew) (fun hH => ?_)
  refine takeH_field (o := ⟨some 23, _, _, _, _, _⟩) (i := 0) rfl (by kernel_rfl) (by kernel_rfl) (by kernel_rfl) (fun _ _ _ _ h => h) rfl 70 (.tmp 1) 0 rfl W.heap.size 0 rfl (fun w => fldW0 _ w) hH ?_
  simp only [Act.put, List.setIfInBounds_toArray, List.set_cons_zero, List.set_cons_succ, Nat.zero_add, decide_true, beq_self_eq_true]
  refine takeH_load (o := ⟨some 24, _, _, _, _, _⟩) (i := 1) rfl (by kernel_rfl) (by kernel_rfl) (by kernel_rfl) (fun _ _ _ _ h => h) rfl 24 (.tmp 23) rfl 32 arr24 W.heap.size 0 rfl (bv k) hkl.out (fun w h => (hS.out w h).1) hH ?_
  simp only [Act.put, List.setIfInBounds_toArray, List.set_cons_zero, List.set_cons_succ, Nat.zero_add, decide_true, beq_self_eq_true]
  refine takeH_field (o := ⟨some 25, _, _, _, _, _⟩) (i := 2) rfl (by kernel_rfl) (by kernel_rfl) (by kernel_rfl) (fun _ _ _ _ h => h) rfl 70 (.tmp 1) 1 rfl W.heap.size 32 rfl (fun w => fldW1 _ w) hH ?_
  simp only [Act.put, List.setIfInBounds_toArray, List.set_cons_zero, List.set_cons_succ, Nat.zero_add, decide_true, beq_self_eq_true]
  refine takeH_cell (o := ⟨some 26, _, _, _, _, _⟩) (i := 3) rfl (by kernel_rfl) (by kernel_rfl) (by kernel_rfl) (fun _ _ _ _ h => h) rfl 35 (.tmp 25) rfl Try.underlying35 rfl W.heap.size 32 rfl (.int .u32 (a : Int)) (fun w h => (hS.out w h).2.1) hH ?_
  simp only [Act.put, List.setIfInBounds_toArray, List.set_cons_zero, List.set_cons_succ, Nat.zero_add, decide_true, beq_self_eq_true]
  refine takeH_field (o := ⟨some 27, _, _, _, _, _⟩) (i := 4) rfl (by kernel_rfl) (by kernel_rfl) (by kernel_rfl) (fun _ _ _ _ h => h) rfl 70 (.tmp 1) 2 rfl W.heap.size 33 rfl (fun w => fldW2 _ w) hH ?_
  simp only [Act.put, List.setIfInBounds_toArray, List.set_cons_zero, List.set_cons_succ, Nat.zero_add, decide_true, beq_self_eq_true]
  refine takeH_cell (o := ⟨some 28, _, _, _, _, _⟩) (i := 5) rfl (by kernel_rfl) (by kernel_rfl) (by kernel_rfl) (fun _ _ _ _ h => h) rfl 35 (.tmp 27) rfl Try.underlying35 rfl W.heap.size 33 rfl (.int .u32 (b : Int)) (fun w h => (hS.out w h).2.2.1) hH ?_
  simp only [Act.put, List.setIfInBounds_toArray, List.set_cons_zero, List.set_cons_succ, Nat.zero_add, decide_true, beq_self_eq_true]
  refine takeH_field (o := ⟨some 29, _, _, _, _, _⟩) (i := 6) rfl (by kernel_rfl) (by kernel_rfl) (by kernel_rfl) (fun _ _ _ _ h => h) rfl 70 (.tmp 1) 3 rfl W.heap.size 34 rfl (fun w => fldW3 _ w) hH ?_
  simp only [Act.put, List.setIfInBounds_toArray, List.set_cons_zero, List.set_cons_succ, Nat.zero_add, decide_true, beq_self_eq_true]
  refine takeH_cell (o := ⟨some 30, _, _, _, _, _⟩) (i := 7) rfl (by kernel_rfl) (by kernel_rfl) (by kernel_rfl) (fun _ _ _ _ h => h) rfl 56 (.tmp 29) rfl Try.underlying56 rfl W.heap.size 34 rfl (.int .u16 (c : Int)) (fun w h => (hS.out w h).2.2.2.1) hH ?_
  simp only [Act.put, List.setIfInBounds_toArray, List.set_cons_zero, List.set_cons_succ, Nat.zero_add, decide_true, beq_self_eq_true]
  refine takeH_field (o := ⟨some 31, _, _, _, _, _⟩) (i := 8) rfl (by kernel_rfl) (by kernel_rfl) (by kernel_rfl) (fun _ _ _ _ h => h) rfl 70 (.tmp 1) 4 rfl W.heap.size 35 rfl (fun w => fldW4 _ w) hH ?_
  simp only [Act.put, List.setIfInBounds_toArray, List.set_cons_zero, List.set_cons_succ, Nat.zero_add, decide_true, beq_self_eq_true]
  refine takeH_cell (o := ⟨some 32, _, _, _, _, _⟩) (i := 9) rfl (by kernel_rfl) (by kernel_rfl) (by kernel_rfl) (fun _ _ _ _ h => h) rfl 56 (.tmp 31) rfl Try.underlying56 rfl W.heap.size 35 rfl (.int .u16 (d : Int)) (fun w h => (hS.out w h).2.2.2.2) hH ?_
  simp only [Act.put, List.setIfInBounds_toArray, List.set_cons_zero, List.set_cons_succ, Nat.zero_add, decide_true, beq_self_eq_true]
  refine wpAnyH_ready (rs := [10]) (by kernel_rfl) (by simp) ?_
  refine AllReadyH.cons rfl (fun K1 hK1 => ?_) AllReadyH.nil
  go_simp
  have h3 : Blk (w1.drew.alloc (.cells (bv (zeros 32)).toArray 24)) w1.heap.size 24 (bv (zeros 32)) := Blk.new_at rfl rfl
  refine hK1.out _ _ (hH.alloc hH.size _) (fun hH => ?_)
  clear hK1 K1
  refine wpAnyH_ready (rs := [11]) (by kernel_rfl) (by simp) ?_
  refine AllReadyH.cons rfl (fun K1 hK1 => ?_) AllReadyH.nil
  rw [if_pos (by rfl)]
  refine wp_storeA 24 (.tmp 3) (.tmp 24) rfl 32 arr24 _ _ rfl (bv k) rfl 24 _ h3 hkl.out (by simp) (ones_bv _) ?_
  intro w3 h3b hK3
  simp only [Act.put, List.getElem_toArray, List.getElem_cons_succ, List.getElem_cons_zero, List.setIfInBounds_toArray, List.set_cons_zero, List.set_cons_succ, Nat.zero_add]
  rw [putL_all (by rw [hkl.out]; simp)] at h3b
  refine hK1.out _ _ (hH.trans (hK3.below hH.size (by simp))) (fun hH => ?_)
  clear hK1 K1 h3 hK3
  refine takeH_assign (o := ⟨some 4, _, _, _, _, _⟩) (i := 12) rfl (by kernel_rfl) (by kernel_rfl) (by kernel_rfl) (fun _ _ _ _ h => h) rfl (.tmp 26) rfl (.int .u32 (a : Int)) rfl hH ?_
  simp only [Act.put, List.setIfInBounds_toArray, List.set_cons_zero, List.set_cons_succ, Nat.zero_add, decide_true, beq_self_eq_true]
  refine takeH_assign (o := ⟨some 5, _, _, _, _, _⟩) (i := 13) rfl (by kernel_rfl) (by kernel_rfl) (by kernel_rfl) (fun _ _ _ _ h => h) rfl (.tmp 28) rfl (.int .u32 (b : Int)) rfl hH ?_
  simp only [Act.put, List.setIfInBounds_toArray, List.set_cons_zero, List.set_cons_succ, Nat.zero_add, decide_true, beq_self_eq_true]
  refine takeH_assign (o := ⟨some 6, _, _, _, _, _⟩) (i := 14) rfl (by kernel_rfl) (by kernel_rfl) (by kernel_rfl) (fun _ _ _ _ h => h) rfl (.tmp 30) rfl (.int .u16 (c : Int)) rfl hH ?_
  simp only [Act.put, List.setIfInBounds_toArray, List.set_cons_zero, List.set_cons_succ, Nat.zero_add, decide_true, beq_self_eq_true]
  refine takeH_assign (o := ⟨some 7, _, _, _, _, _⟩) (i := 15) rfl (by kernel_rfl) (by kernel_rfl) (by kernel_rfl) (fun _ _ _ _ h => h) rfl (.tmp 32) rfl (.int .u16 (d : Int)) rfl hH ?_
  simp only [Act.put, List.setIfInBounds_toArray, List.set_cons_zero, List.set_cons_succ, Nat.zero_add, decide_true, beq_self_eq_true]
  refine wpAnyH_done (by kernel_rfl) ?_ _
  replace hB := below_call hB hB.size hH
  clear hH hS
  have h3 := h3b
  clear h3b
  have hg3l := Lib.hid h3.lt
  generalize w1.heap.size = g3 at *
  obtain ⟨r, hr⟩ : ∃ r, Hid (r = c % 4000) := ⟨_, rfl⟩
  obtain ⟨s, hs⟩ : ∃ s, Hid (s = d % 4000) := ⟨_, rfl⟩
  have q1 : Int.tmod (c : Int) 4000 = (r : Int) := by rw [hr.out, Int.tmod_eq_emod_of_nonneg (by omega)]; omega
  have q1' : (c : Int) % 4000 = (r : Int) := by rw [hr.out]; omega
  have q2 : (2 : Int) + (r : Int) = (p : Int) := by have := hr.out; omega
  have q3 : IntKind.u32.wrap (p : Int) = (p : Int) := by rw [IntKind.wrap_u32]; omega
  have t1 : Int.tmod (d : Int) 4000 = (s : Int) := by rw [hs.out, Int.tmod_eq_emod_of_nonneg (by omega)]; omega
  have t1' : (d : Int) % 4000 = (s : Int) := by rw [hs.out]; omega
  have t2 : (2 : Int) + (s : Int) = (o : Int) := by have := hs.out; omega
  have t3 : IntKind.u32.wrap (o : Int) = (o : Int) := by rw [IntKind.wrap_u32]; omega
  have q4 : (a : Int) + 1 = (m : Int) := by omega
  have q5 : IntKind.u64.wrap (m : Int) = (m : Int) := by rw [IntKind.wrap_u64]; omega
  have t4 : (b : Int) + 1 = (n : Int) := by omega
  have t5 : IntKind.u64.wrap (n : Int) = (n : Int) := by rw [IntKind.wrap_u64]; omega
  clear hm hn hp ho Bm Bn Bp Bo
  have hg9 := Lib.hid hB.size
  go_wp2_with (first
    | refine wpList_loadW rfl 24 (.tmp 3) rfl 32 arr24 _ rfl 24 _ h3 hkl.out ?_
    | refine wpList_buildV rfl 28 _ rfl _ rfl (bv (k ++ zeros 32)) hb1.out ?_
    | refine wpList_allocA rfl 28 rfl (bv (zeros 64)) ks_zero ?_)
  intro w4 h9 hK4 hz4
  replace hB := hB.trans (hK4.below hB.size (by simp))
  replace h3 := h3.keeps hK4 (by simp)
  clear hK4 hz4
  generalize w3.heap.size = g9 at *
  go_wp2_with (refine wpList_storeW rfl 28 (.tmp 12) (.tmp 48) rfl 64 arrKs _ rfl (bv (k ++ zeros 32)) rfl 28 _ h9 hKl.out (by simp) (ones_bv _) ?_)
  intro wr h9b hK5
  replace h9 := h9b
  replace h3 := h3.keeps hK5 (by simp; have := hg3l.out; omega)
  replace hB := hB.trans (hK5.below hB.size (by intro b hb; simp only [List.mem_singleton] at hb; subst hb; exact hg9.out))
  clear hK5 h9b hg9 hg3l q1 q1' q2 q3 q4 q5 t1 t1' t2 t3 t4 t5 hr hs
  go_upto_region 7 with fail
  go_cut [13, 14, 15] (fun s2 s3 s4 wx => ∃ (Av : Option Addr) (cv g3 : Nat), s2 = .slice Av 512 cv ∧ s3 = .pointer (some ⟨g3, 0, none⟩) ∧ s4 = .int .i64 0 ∧ Blk wx g3 41 (pcells p m S1) ∧ wx.ownsRow wr.heap.size 5 1 (.slice Av 512 cv) 512 (bv X) ∧ Below wr.heap.size wr wx ∧ wr.heap.size ≤ g3 ∧ ∀ k, (Value.slice Av 512 cv).ownBlock = some k → k ≠ g3)
  case first =>
    refine wp_region_held_drew (S := fun w' => Below wr.heap.size wr w') (by kernel_rfl) ((Below.refl _ _).drew) (fun hH => ?_)
    refine takeH_load (o := ⟨some 50, _, _, _, _, _⟩) (i := 0) rfl (by kernel_rfl) (by kernel_rfl) (by kernel_rfl) (fun _ _ _ _ h => h) rfl 28 (.tmp 12) rfl 64 arrKs g9 0 rfl (bv (k ++ zeros 32)) hKl.out (fun w h => hSS (h9.keep h) hKl.out) hH ?_
    simp only [Act.put, List.setIfInBounds_toArray, List.set_cons_zero, List.set_cons_succ, Nat.zero_add, decide_true, beq_self_eq_true]
    refine takeH_move (o := ⟨some 51, _, _, _, _, _⟩) (i := 1) rfl (by kernel_rfl) (by kernel_rfl) (by kernel_rfl) (fun _ _ _ _ h => h) rfl (.tmp 8) rfl (.int .u64 (m : Int)) rfl hH ?_
    simp only [Act.put, List.setIfInBounds_toArray, List.set_cons_zero, List.set_cons_succ, Nat.zero_add, decide_true, beq_self_eq_true]
    refine takeH_move (o := ⟨some 52, _, _, _, _, _⟩) (i := 2) rfl (by kernel_rfl) (by kernel_rfl) (by kernel_rfl) (fun _ _ _ _ h => h) rfl (.tmp 10) rfl (.int .u32 (p : Int)) rfl hH ?_
    simp only [Act.put, List.setIfInBounds_toArray, List.set_cons_zero, List.set_cons_succ, Nat.zero_add, decide_true, beq_self_eq_true]
    refine wpAnyH_ready (rs := [3, 9]) (by kernel_rfl) (by simp) ?_
    refine AllReadyH.cons rfl (fun K1 hK1 => ?_) (AllReadyH.cons rfl (fun K1 hK1 => ?_) AllReadyH.nil)
    · rw [if_pos (by rfl)]
      go_wp2_with fail
      refine (hbn.out _).mono ?_
      rintro e w1 ⟨gb2, rfl, -, hk3, hBa⟩
      refine hK1.out _ _ (below_call hH hH.size hBa) (fun hH => ?_)
      clear hK1 K1 hBa
      refine wpAnyH_ready (rs := [4, 9]) (by kernel_rfl) (by simp) ?_
      refine AllReadyH.cons rfl (fun K1 hK1 => ?_) (AllReadyH.cons rfl (fun K1 hK1 => ?_) AllReadyH.nil)
      · rw [if_pos (by rfl)]
        go_wp2_with fail
        refine (hsX.out _ _ (blk_sl hk3 (blkL_length _))).mono ?_
        rintro e w4 ⟨A7, c8, rfl, oc6, hBa⟩
        have oc5 := Lib.hid (ownsRow_mono oc6 hH.size)
        refine hK1.out _ _ (below_call hH hH.size hBa) (fun hH => ?_)
        clear hK1 K1 hBa oc6
        refine takeH_move (o := ⟨some 49, _, _, _, _, _⟩) (i := 5) rfl (by kernel_rfl) (by kernel_rfl) (by kernel_rfl) (fun _ _ _ _ h => h) rfl (.tmp 54) rfl (.tuple #[(.slice A7 512 c8), .agg (pcells p m S1).toArray, .int .i64 0]) rfl hH ?_
        simp only [Act.put, List.setIfInBounds_toArray, List.set_cons_zero, List.set_cons_succ, Nat.zero_add, decide_true, beq_self_eq_true]
        refine takeH_S (o := ⟨some 55, _, _, _, _, _⟩) (i := 6) rfl (by kernel_rfl) (by kernel_rfl) (by kernel_rfl) (fun _ _ _ _ h => h) rfl (.slice A7 512 c8) (fun w _ => by go_simp) hH ?_
        simp only [Act.put, List.setIfInBounds_toArray, List.set_cons_zero, List.set_cons_succ, Nat.zero_add, decide_true, beq_self_eq_true]
        refine takeH_S (o := ⟨some 56, _, _, _, _, _⟩) (i := 7) rfl (by kernel_rfl) (by kernel_rfl) (by kernel_rfl) (fun _ _ _ _ h => h) rfl (.agg (pcells p m S1).toArray) (fun w _ => by go_simp) hH ?_
        simp only [Act.put, List.setIfInBounds_toArray, List.set_cons_zero, List.set_cons_succ, Nat.zero_add, decide_true, beq_self_eq_true]
        refine takeH_S (o := ⟨some 57, _, _, _, _, _⟩) (i := 8) rfl (by kernel_rfl) (by kernel_rfl) (by kernel_rfl) (fun _ _ _ _ h => h) rfl (.int .i64 0) (fun w _ => by go_simp) hH ?_
        simp only [Act.put, List.setIfInBounds_toArray, List.set_cons_zero, List.set_cons_succ, Nat.zero_add, decide_true, beq_self_eq_true]
        refine wpAnyH_ready (rs := [9]) (by kernel_rfl) (by simp) ?_
        refine AllReadyH.cons rfl (fun K1 hK1 => ?_) AllReadyH.nil
        · go_simp
          have q0 : w4.heap.size = w4.heap.size := by rfl
          have q : w4.heap.size = w4.heap.size := q0
          have hb9 : Blk (w4.alloc (.cells (pcells 0 0 (zeros 32)).toArray 41)) w4.heap.size 41 (pcells 0 0 (zeros 32)) := by rw [← q0]; exact Blk.new_at (w := w4) rfl rfl
          have ne11 := Lib.hid (own_ne2 oc5.out (g := w4.heap.size) (by rw [← q]; exact Nat.le_refl _))
          have oc10 := Lib.hid (oc5.out.alloc (.cells (pcells 0 0 (zeros 32)).toArray 41))
          have ge12 : Hid (wr.heap.size ≤ w4.heap.size) := by show _ ≤ _; rw [← q]; exact hH.size
          refine hK1.out _ _ (hH.alloc hH.size (.cells (pcells 0 0 (zeros 32)).toArray 41)) (fun hH => ?_)
          clear hK1 K1 q q0
          refine takeH_assign (o := ⟨some 13, _, _, _, _, _⟩) (i := 10) rfl (by kernel_rfl) (by kernel_rfl) (by kernel_rfl) (fun _ _ _ _ h => h) rfl (.tmp 55) rfl (.slice A7 512 c8) rfl hH ?_
          simp only [Act.put, List.setIfInBounds_toArray, List.set_cons_zero, List.set_cons_succ, Nat.zero_add, decide_true, beq_self_eq_true]
          refine wpAnyH_ready (rs := [11]) (by kernel_rfl) (by simp) ?_
          refine AllReadyH.cons rfl (fun K1 hK1 => ?_) AllReadyH.nil
          · rw [if_pos (by rfl)]
            refine wp_storeA 41 (.tmp 14) (.tmp 56) rfl 34 arrPt _ _ rfl (pcells p m S1) rfl 41 _ hb9 hp1.out (by simp) (pcells_ones _ _ _) ?_
            intro w13 hb14 hKb
            simp only [Act.put, List.getElem_toArray, List.getElem_cons_succ, List.getElem_cons_zero, List.setIfInBounds_toArray, List.set_cons_zero, List.set_cons_succ, Nat.zero_add]
            rw [putL_all (by rw [hp1.out]; simp)] at hb14
            have oc15 := Lib.hid (own_keeps oc10.out hKb (fun k _ hk hm => ne11.out k hk (by simpa using hm)))
            refine hK1.out _ _ (hH.trans (hKb.below hH.size (by intro b hb; simp only [List.mem_singleton] at hb; subst hb; exact ge12.out))) (fun hH => ?_)
            clear hK1 K1 hKb
            refine takeH_assign (o := ⟨some 15, _, _, _, _, _⟩) (i := 12) rfl (by kernel_rfl) (by kernel_rfl) (by kernel_rfl) (fun _ _ _ _ h => h) rfl (.tmp 57) rfl (.int .i64 0) rfl hH ?_
            simp only [Act.put, List.setIfInBounds_toArray, List.set_cons_zero, List.set_cons_succ, Nat.zero_add, decide_true, beq_self_eq_true]
            refine wpAnyH_done (by kernel_rfl) ?_ _
            go_wp2_with fail
            go_meet
            exact ⟨_, _, _, rfl, rfl, rfl, hb14, oc15.out, hH, ge12.out, ne11.out⟩
      · go_simp
        have q0 : w1.heap.size = w1.heap.size := by rfl
        have q : w1.heap.size = w1.heap.size := q0
        have hb16 : Blk (w1.alloc (.cells (pcells 0 0 (zeros 32)).toArray 41)) w1.heap.size 41 (pcells 0 0 (zeros 32)) := by rw [← q0]; exact Blk.new_at (w := w1) rfl rfl
        have hb17 := hk3.alloc (.cells (pcells 0 0 (zeros 32)).toArray 41)
        have ge18 : Hid (wr.heap.size ≤ w1.heap.size) := by show _ ≤ _; rw [← q]; exact hH.size
        refine hK1.out _ _ (hH.alloc hH.size (.cells (pcells 0 0 (zeros 32)).toArray 41)) (fun hH => ?_)
        clear hK1 K1 q q0
        refine wpAnyH_ready (rs := [4]) (by kernel_rfl) (by simp) ?_
        refine AllReadyH.cons rfl (fun K1 hK1 => ?_) AllReadyH.nil
        · rw [if_pos (by rfl)]
          go_wp2_with fail
          refine (hsX.out _ _ (blk_sl hb17 (blkL_length _))).mono ?_
          rintro e w19 ⟨A22, c23, rfl, oc21, hBa⟩
          have ne25 := Lib.hid (own_ne oc21 hb16.lt)
          have hb24 := hb16.keep hBa
          have oc20 := Lib.hid (ownsRow_mono oc21 hH.size)
          refine hK1.out _ _ (below_call hH hH.size hBa) (fun hH => ?_)
          clear hK1 K1 hBa oc21
          refine takeH_move (o := ⟨some 49, _, _, _, _, _⟩) (i := 5) rfl (by kernel_rfl) (by kernel_rfl) (by kernel_rfl) (fun _ _ _ _ h => h) rfl (.tmp 54) rfl (.tuple #[(.slice A22 512 c23), .agg (pcells p m S1).toArray, .int .i64 0]) rfl hH ?_
          simp only [Act.put, List.setIfInBounds_toArray, List.set_cons_zero, List.set_cons_succ, Nat.zero_add, decide_true, beq_self_eq_true]
          refine takeH_S (o := ⟨some 55, _, _, _, _, _⟩) (i := 6) rfl (by kernel_rfl) (by kernel_rfl) (by kernel_rfl) (fun _ _ _ _ h => h) rfl (.slice A22 512 c23) (fun w _ => by go_simp) hH ?_
          simp only [Act.put, List.setIfInBounds_toArray, List.set_cons_zero, List.set_cons_succ, Nat.zero_add, decide_true, beq_self_eq_true]
          refine takeH_S (o := ⟨some 56, _, _, _, _, _⟩) (i := 7) rfl (by kernel_rfl) (by kernel_rfl) (by kernel_rfl) (fun _ _ _ _ h => h) rfl (.agg (pcells p m S1).toArray) (fun w _ => by go_simp) hH ?_
          simp only [Act.put, List.setIfInBounds_toArray, List.set_cons_zero, List.set_cons_succ, Nat.zero_add, decide_true, beq_self_eq_true]
          refine takeH_S (o := ⟨some 57, _, _, _, _, _⟩) (i := 8) rfl (by kernel_rfl) (by kernel_rfl) (by kernel_rfl) (fun _ _ _ _ h => h) rfl (.int .i64 0) (fun w _ => by go_simp) hH ?_
          simp only [Act.put, List.setIfInBounds_toArray, List.set_cons_zero, List.set_cons_succ, Nat.zero_add, decide_true, beq_self_eq_true]
          refine takeH_assign (o := ⟨some 13, _, _, _, _, _⟩) (i := 10) rfl (by kernel_rfl) (by kernel_rfl) (by kernel_rfl) (fun _ _ _ _ h => h) rfl (.tmp 55) rfl (.slice A22 512 c23) rfl hH ?_
          simp only [Act.put, List.setIfInBounds_toArray, List.set_cons_zero, List.set_cons_succ, Nat.zero_add, decide_true, beq_self_eq_true]
          refine wpAnyH_ready (rs := [11]) (by kernel_rfl) (by simp) ?_
          refine AllReadyH.cons rfl (fun K1 hK1 => ?_) AllReadyH.nil
          · rw [if_pos (by rfl)]
            refine wp_storeA 41 (.tmp 14) (.tmp 56) rfl 34 arrPt _ _ rfl (pcells p m S1) rfl 41 _ hb24 hp1.out (by simp) (pcells_ones _ _ _) ?_
            intro w26 hb27 hKb
            simp only [Act.put, List.getElem_toArray, List.getElem_cons_succ, List.getElem_cons_zero, List.setIfInBounds_toArray, List.set_cons_zero, List.set_cons_succ, Nat.zero_add]
            rw [putL_all (by rw [hp1.out]; simp)] at hb27
            have oc28 := Lib.hid (own_keeps oc20.out hKb (fun k _ hk hm => ne25.out k hk (by simpa using hm)))
            refine hK1.out _ _ (hH.trans (hKb.below hH.size (by intro b hb; simp only [List.mem_singleton] at hb; subst hb; exact ge18.out))) (fun hH => ?_)
            clear hK1 K1 hKb
            refine takeH_assign (o := ⟨some 15, _, _, _, _, _⟩) (i := 12) rfl (by kernel_rfl) (by kernel_rfl) (by kernel_rfl) (fun _ _ _ _ h => h) rfl (.tmp 57) rfl (.int .i64 0) rfl hH ?_
            simp only [Act.put, List.setIfInBounds_toArray, List.set_cons_zero, List.set_cons_succ, Nat.zero_add, decide_true, beq_self_eq_true]
            refine wpAnyH_done (by kernel_rfl) ?_ _
            go_wp2_with fail
            go_meet
            exact ⟨_, _, _, rfl, rfl, rfl, hb27, oc28.out, hH, ge18.out, ne25.out⟩
    · go_simp
      have q0 : wr.heap.size = wr.heap.size := by rfl
      have q : wr.drew.heap.size = wr.heap.size := q0
      have hb29 : Blk (wr.alloc (.cells (pcells 0 0 (zeros 32)).toArray 41)).drew wr.heap.size 41 (pcells 0 0 (zeros 32)) := by rw [← q0]; exact Blk.new_at (w := wr) rfl rfl
      have ge30 : Hid (wr.heap.size ≤ wr.heap.size) := by show _ ≤ _; rw [← q]; exact hH.size
      refine hK1.out _ _ (hH.alloc hH.size (.cells (pcells 0 0 (zeros 32)).toArray 41)) (fun hH => ?_)
      clear hK1 K1 q q0
      refine wpAnyH_ready (rs := [3]) (by kernel_rfl) (by simp) ?_
      refine AllReadyH.cons rfl (fun K1 hK1 => ?_) AllReadyH.nil
      · rw [if_pos (by rfl)]
        go_wp2_with fail
        refine (hbn.out _).mono ?_
        rintro e w31 ⟨gb32, rfl, -, hk33, hBa⟩
        have hb34 := hb29.keep hBa
        refine hK1.out _ _ (below_call hH hH.size hBa) (fun hH => ?_)
        clear hK1 K1 hBa
        refine wpAnyH_ready (rs := [4]) (by kernel_rfl) (by simp) ?_
        refine AllReadyH.cons rfl (fun K1 hK1 => ?_) AllReadyH.nil
        · rw [if_pos (by rfl)]
          go_wp2_with fail
          refine (hsX.out _ _ (blk_sl hk33 (blkL_length _))).mono ?_
          rintro e w35 ⟨A38, c39, rfl, oc37, hBa⟩
          have ne41 := Lib.hid (own_ne oc37 hb34.lt)
          have hb40 := hb34.keep hBa
          have oc36 := Lib.hid (ownsRow_mono oc37 hH.size)
          refine hK1.out _ _ (below_call hH hH.size hBa) (fun hH => ?_)
          clear hK1 K1 hBa oc37
          refine takeH_move (o := ⟨some 49, _, _, _, _, _⟩) (i := 5) rfl (by kernel_rfl) (by kernel_rfl) (by kernel_rfl) (fun _ _ _ _ h => h) rfl (.tmp 54) rfl (.tuple #[(.slice A38 512 c39), .agg (pcells p m S1).toArray, .int .i64 0]) rfl hH ?_
          simp only [Act.put, List.setIfInBounds_toArray, List.set_cons_zero, List.set_cons_succ, Nat.zero_add, decide_true, beq_self_eq_true]
          refine takeH_S (o := ⟨some 55, _, _, _, _, _⟩) (i := 6) rfl (by kernel_rfl) (by kernel_rfl) (by kernel_rfl) (fun _ _ _ _ h => h) rfl (.slice A38 512 c39) (fun w _ => by go_simp) hH ?_
          simp only [Act.put, List.setIfInBounds_toArray, List.set_cons_zero, List.set_cons_succ, Nat.zero_add, decide_true, beq_self_eq_true]
          refine takeH_S (o := ⟨some 56, _, _, _, _, _⟩) (i := 7) rfl (by kernel_rfl) (by kernel_rfl) (by kernel_rfl) (fun _ _ _ _ h => h) rfl (.agg (pcells p m S1).toArray) (fun w _ => by go_simp) hH ?_
          simp only [Act.put, List.setIfInBounds_toArray, List.set_cons_zero, List.set_cons_succ, Nat.zero_add, decide_true, beq_self_eq_true]
          refine takeH_S (o := ⟨some 57, _, _, _, _, _⟩) (i := 8) rfl (by kernel_rfl) (by kernel_rfl) (by kernel_rfl) (fun _ _ _ _ h => h) rfl (.int .i64 0) (fun w _ => by go_simp) hH ?_
          simp only [Act.put, List.setIfInBounds_toArray, List.set_cons_zero, List.set_cons_succ, Nat.zero_add, decide_true, beq_self_eq_true]
          refine takeH_assign (o := ⟨some 13, _, _, _, _, _⟩) (i := 10) rfl (by kernel_rfl) (by kernel_rfl) (by kernel_rfl) (fun _ _ _ _ h => h) rfl (.tmp 55) rfl (.slice A38 512 c39) rfl hH ?_
          simp only [Act.put, List.setIfInBounds_toArray, List.set_cons_zero, List.set_cons_succ, Nat.zero_add, decide_true, beq_self_eq_true]
          refine wpAnyH_ready (rs := [11]) (by kernel_rfl) (by simp) ?_
          refine AllReadyH.cons rfl (fun K1 hK1 => ?_) AllReadyH.nil
          · rw [if_pos (by rfl)]
            refine wp_storeA 41 (.tmp 14) (.tmp 56) rfl 34 arrPt _ _ rfl (pcells p m S1) rfl 41 _ hb40 hp1.out (by simp) (pcells_ones _ _ _) ?_
            intro w42 hb43 hKb
            simp only [Act.put, List.getElem_toArray, List.getElem_cons_succ, List.getElem_cons_zero, List.setIfInBounds_toArray, List.set_cons_zero, List.set_cons_succ, Nat.zero_add]
            rw [putL_all (by rw [hp1.out]; simp)] at hb43
            have oc44 := Lib.hid (own_keeps oc36.out hKb (fun k _ hk hm => ne41.out k hk (by simpa using hm)))
            refine hK1.out _ _ (hH.trans (hKb.below hH.size (by intro b hb; simp only [List.mem_singleton] at hb; subst hb; exact ge30.out))) (fun hH => ?_)
            clear hK1 K1 hKb
            refine takeH_assign (o := ⟨some 15, _, _, _, _, _⟩) (i := 12) rfl (by kernel_rfl) (by kernel_rfl) (by kernel_rfl) (fun _ _ _ _ h => h) rfl (.tmp 57) rfl (.int .i64 0) rfl hH ?_
            simp only [Act.put, List.setIfInBounds_toArray, List.set_cons_zero, List.set_cons_succ, Nat.zero_add, decide_true, beq_self_eq_true]
            refine wpAnyH_done (by kernel_rfl) ?_ _
            go_wp2_with fail
            go_meet
            exact ⟨_, _, _, rfl, rfl, rfl, hb43, oc44.out, hH, ge30.out, ne41.out⟩
  case rest =>
  rename World => wz
  obtain ⟨AX, cX, gX, rfl, rfl, rfl, -, oX, hBr, -, -⟩ := hcut
  obtain ⟨A, C, e, hcX, -, hA⟩ := own_shape oX
  injection e with e1 e2 e3
  subst e3
  obtain ⟨bX, rfl, -⟩ := hA (by decide)
  subst e1
  clear e2 hA
  replace oX := Lib.hid (Sl.of_own oX)
  replace hB := below_call hB hB.size hBr
  replace h9 := h9.keep hBr
  replace h3 := h3.keep hBr
  clear hBr
  rename World => wr
  go_upto_region 8 with fail
  go_cut [16, 17, 18] (fun s2 s3 s4 wx => ∃ (Av : Option Addr) (cv g3 : Nat), s2 = .slice Av 512 cv ∧ s3 = .pointer (some ⟨g3, 0, none⟩) ∧ s4 = .int .i64 0 ∧ Blk wx g3 41 (pcells o n S2) ∧ wx.ownsRow wr.heap.size 5 1 (.slice Av 512 cv) 512 (bv Y) ∧ Below wr.heap.size wr wx ∧ wr.heap.size ≤ g3 ∧ ∀ k, (Value.slice Av 512 cv).ownBlock = some k → k ≠ g3)
  case first =>
    refine wp_region_held_drew (S := fun w' => Below wr.heap.size wr w') (by kernel_rfl) ((Below.refl _ _).drew) (fun hH => ?_)
    refine takeH_load (o := ⟨some 59, _, _, _, _, _⟩) (i := 0) rfl (by kernel_rfl) (by kernel_rfl) (by kernel_rfl) (fun _ _ _ _ h => h) rfl 28 (.tmp 12) rfl 64 arrKs g9 0 rfl (bv (k ++ zeros 32)) hKl.out (fun w h => hSS (h9.keep h) hKl.out) hH ?_
    simp only [Act.put, List.setIfInBounds_toArray, List.set_cons_zero, List.set_cons_succ, Nat.zero_add, decide_true, beq_self_eq_true]
    refine takeH_move (o := ⟨some 60, _, _, _, _, _⟩) (i := 1) rfl (by kernel_rfl) (by kernel_rfl) (by kernel_rfl) (fun _ _ _ _ h => h) rfl (.tmp 9) rfl (.int .u64 (n : Int)) rfl hH ?_
    simp only [Act.put, List.setIfInBounds_toArray, List.set_cons_zero, List.set_cons_succ, Nat.zero_add, decide_true, beq_self_eq_true]
    refine takeH_move (o := ⟨some 61, _, _, _, _, _⟩) (i := 2) rfl (by kernel_rfl) (by kernel_rfl) (by kernel_rfl) (fun _ _ _ _ h => h) rfl (.tmp 11) rfl (.int .u32 (o : Int)) rfl hH ?_
    simp only [Act.put, List.setIfInBounds_toArray, List.set_cons_zero, List.set_cons_succ, Nat.zero_add, decide_true, beq_self_eq_true]
    refine wpAnyH_ready (rs := [3, 9]) (by kernel_rfl) (by simp) ?_
    refine AllReadyH.cons rfl (fun K1 hK1 => ?_) (AllReadyH.cons rfl (fun K1 hK1 => ?_) AllReadyH.nil)
    · rw [if_pos (by rfl)]
      go_wp2_with fail
      refine (hbn.out _).mono ?_
      rintro e w45 ⟨gb46, rfl, -, hk47, hBa⟩
      refine hK1.out _ _ (below_call hH hH.size hBa) (fun hH => ?_)
      clear hK1 K1 hBa
      refine wpAnyH_ready (rs := [4, 9]) (by kernel_rfl) (by simp) ?_
      refine AllReadyH.cons rfl (fun K1 hK1 => ?_) (AllReadyH.cons rfl (fun K1 hK1 => ?_) AllReadyH.nil)
      · rw [if_pos (by rfl)]
        go_wp2_with fail
        refine (hsY.out _ _ (blk_sl hk47 (blkL_length _))).mono ?_
        rintro e w48 ⟨A51, c52, rfl, oc50, hBa⟩
        have oc49 := Lib.hid (ownsRow_mono oc50 hH.size)
        refine hK1.out _ _ (below_call hH hH.size hBa) (fun hH => ?_)
        clear hK1 K1 hBa oc50
        refine takeH_move (o := ⟨some 58, _, _, _, _, _⟩) (i := 5) rfl (by kernel_rfl) (by kernel_rfl) (by kernel_rfl) (fun _ _ _ _ h => h) rfl (.tmp 63) rfl (.tuple #[(.slice A51 512 c52), .agg (pcells o n S2).toArray, .int .i64 0]) rfl hH ?_
        simp only [Act.put, List.setIfInBounds_toArray, List.set_cons_zero, List.set_cons_succ, Nat.zero_add, decide_true, beq_self_eq_true]
        refine takeH_S (o := ⟨some 64, _, _, _, _, _⟩) (i := 6) rfl (by kernel_rfl) (by kernel_rfl) (by kernel_rfl) (fun _ _ _ _ h => h) rfl (.slice A51 512 c52) (fun w _ => by go_simp) hH ?_
        simp only [Act.put, List.setIfInBounds_toArray, List.set_cons_zero, List.set_cons_succ, Nat.zero_add, decide_true, beq_self_eq_true]
        refine takeH_S (o := ⟨some 65, _, _, _, _, _⟩) (i := 7) rfl (by kernel_rfl) (by kernel_rfl) (by kernel_rfl) (fun _ _ _ _ h => h) rfl (.agg (pcells o n S2).toArray) (fun w _ => by go_simp) hH ?_
        simp only [Act.put, List.setIfInBounds_toArray, List.set_cons_zero, List.set_cons_succ, Nat.zero_add, decide_true, beq_self_eq_true]
        refine takeH_S (o := ⟨some 66, _, _, _, _, _⟩) (i := 8) rfl (by kernel_rfl) (by kernel_rfl) (by kernel_rfl) (fun _ _ _ _ h => h) rfl (.int .i64 0) (fun w _ => by go_simp) hH ?_
        simp only [Act.put, List.setIfInBounds_toArray, List.set_cons_zero, List.set_cons_succ, Nat.zero_add, decide_true, beq_self_eq_true]
        refine wpAnyH_ready (rs := [9]) (by kernel_rfl) (by simp) ?_
        refine AllReadyH.cons rfl (fun K1 hK1 => ?_) AllReadyH.nil
        · go_simp
          have q0 : w48.heap.size = w48.heap.size := by rfl
          have q : w48.heap.size = w48.heap.size := q0
          have hb53 : Blk (w48.alloc (.cells (pcells 0 0 (zeros 32)).toArray 41)) w48.heap.size 41 (pcells 0 0 (zeros 32)) := by rw [← q0]; exact Blk.new_at (w := w48) rfl rfl
          have ne55 := Lib.hid (own_ne2 oc49.out (g := w48.heap.size) (by rw [← q]; exact Nat.le_refl _))
          have oc54 := Lib.hid (oc49.out.alloc (.cells (pcells 0 0 (zeros 32)).toArray 41))
          have ge56 : Hid (wr.heap.size ≤ w48.heap.size) := by show _ ≤ _; rw [← q]; exact hH.size
          refine hK1.out _ _ (hH.alloc hH.size (.cells (pcells 0 0 (zeros 32)).toArray 41)) (fun hH => ?_)
          clear hK1 K1 q q0
          refine takeH_assign (o := ⟨some 16, _, _, _, _, _⟩) (i := 10) rfl (by kernel_rfl) (by kernel_rfl) (by kernel_rfl) (fun _ _ _ _ h => h) rfl (.tmp 64) rfl (.slice A51 512 c52) rfl hH ?_
          simp only [Act.put, List.setIfInBounds_toArray, List.set_cons_zero, List.set_cons_succ, Nat.zero_add, decide_true, beq_self_eq_true]
          refine wpAnyH_ready (rs := [11]) (by kernel_rfl) (by simp) ?_
          refine AllReadyH.cons rfl (fun K1 hK1 => ?_) AllReadyH.nil
          · rw [if_pos (by rfl)]
            refine wp_storeA 41 (.tmp 17) (.tmp 65) rfl 34 arrPt _ _ rfl (pcells o n S2) rfl 41 _ hb53 hp2.out (by simp) (pcells_ones _ _ _) ?_
            intro w57 hb58 hKb
            simp only [Act.put, List.getElem_toArray, List.getElem_cons_succ, List.getElem_cons_zero, List.setIfInBounds_toArray, List.set_cons_zero, List.set_cons_succ, Nat.zero_add]
            rw [putL_all (by rw [hp2.out]; simp)] at hb58
            have oc59 := Lib.hid (own_keeps oc54.out hKb (fun k _ hk hm => ne55.out k hk (by simpa using hm)))
            refine hK1.out _ _ (hH.trans (hKb.below hH.size (by intro b hb; simp only [List.mem_singleton] at hb; subst hb; exact ge56.out))) (fun hH => ?_)
            clear hK1 K1 hKb
            refine takeH_assign (o := ⟨some 18, _, _, _, _, _⟩) (i := 12) rfl (by kernel_rfl) (by kernel_rfl) (by kernel_rfl) (fun _ _ _ _ h => h) rfl (.tmp 66) rfl (.int .i64 0) rfl hH ?_
            simp only [Act.put, List.setIfInBounds_toArray, List.set_cons_zero, List.set_cons_succ, Nat.zero_add, decide_true, beq_self_eq_true]
            refine wpAnyH_done (by kernel_rfl) ?_ _
            go_wp2_with fail
            go_meet
            exact ⟨_, _, _, rfl, rfl, rfl, hb58, oc59.out, hH, ge56.out, ne55.out⟩
      · go_simp
        have q0 : w45.heap.size = w45.heap.size := by rfl
        have q : w45.heap.size = w45.heap.size := q0
        have hb60 : Blk (w45.alloc (.cells (pcells 0 0 (zeros 32)).toArray 41)) w45.heap.size 41 (pcells 0 0 (zeros 32)) := by rw [← q0]; exact Blk.new_at (w := w45) rfl rfl
        have hb61 := hk47.alloc (.cells (pcells 0 0 (zeros 32)).toArray 41)
        have ge62 : Hid (wr.heap.size ≤ w45.heap.size) := by show _ ≤ _; rw [← q]; exact hH.size
        refine hK1.out _ _ (hH.alloc hH.size (.cells (pcells 0 0 (zeros 32)).toArray 41)) (fun hH => ?_)
        clear hK1 K1 q q0
        refine wpAnyH_ready (rs := [4]) (by kernel_rfl) (by simp) ?_
        refine AllReadyH.cons rfl (fun K1 hK1 => ?_) AllReadyH.nil
        · rw [if_pos (by rfl)]
          go_wp2_with fail
          refine (hsY.out _ _ (blk_sl hb61 (blkL_length _))).mono ?_
          rintro e w63 ⟨A66, c67, rfl, oc65, hBa⟩
          have ne69 := Lib.hid (own_ne oc65 hb60.lt)
          have hb68 := hb60.keep hBa
          have oc64 := Lib.hid (ownsRow_mono oc65 hH.size)
          refine hK1.out _ _ (below_call hH hH.size hBa) (fun hH => ?_)
          clear hK1 K1 hBa oc65
          refine takeH_move (o := ⟨some 58, _, _, _, _, _⟩) (i := 5) rfl (by kernel_rfl) (by kernel_rfl) (by kernel_rfl) (fun _ _ _ _ h => h) rfl (.tmp 63) rfl (.tuple #[(.slice A66 512 c67), .agg (pcells o n S2).toArray, .int .i64 0]) rfl hH ?_
          simp only [Act.put, List.setIfInBounds_toArray, List.set_cons_zero, List.set_cons_succ, Nat.zero_add, decide_true, beq_self_eq_true]
          refine takeH_S (o := ⟨some 64, _, _, _, _, _⟩) (i := 6) rfl (by kernel_rfl) (by kernel_rfl) (by kernel_rfl) (fun _ _ _ _ h => h) rfl (.slice A66 512 c67) (fun w _ => by go_simp) hH ?_
          simp only [Act.put, List.setIfInBounds_toArray, List.set_cons_zero, List.set_cons_succ, Nat.zero_add, decide_true, beq_self_eq_true]
          refine takeH_S (o := ⟨some 65, _, _, _, _, _⟩) (i := 7) rfl (by kernel_rfl) (by kernel_rfl) (by kernel_rfl) (fun _ _ _ _ h => h) rfl (.agg (pcells o n S2).toArray) (fun w _ => by go_simp) hH ?_
          simp only [Act.put, List.setIfInBounds_toArray, List.set_cons_zero, List.set_cons_succ, Nat.zero_add, decide_true, beq_self_eq_true]
          refine takeH_S (o := ⟨some 66, _, _, _, _, _⟩) (i := 8) rfl (by kernel_rfl) (by kernel_rfl) (by kernel_rfl) (fun _ _ _ _ h => h) rfl (.int .i64 0) (fun w _ => by go_simp) hH ?_
          simp only [Act.put, List.setIfInBounds_toArray, List.set_cons_zero, List.set_cons_succ, Nat.zero_add, decide_true, beq_self_eq_true]
          refine takeH_assign (o := ⟨some 16, _, _, _, _, _⟩) (i := 10) rfl (by kernel_rfl) (by kernel_rfl) (by kernel_rfl) (fun _ _ _ _ h => h) rfl (.tmp 64) rfl (.slice A66 512 c67) rfl hH ?_
          simp only [Act.put, List.setIfInBounds_toArray, List.set_cons_zero, List.set_cons_succ, Nat.zero_add, decide_true, beq_self_eq_true]
          refine wpAnyH_ready (rs := [11]) (by kernel_rfl) (by simp) ?_
          refine AllReadyH.cons rfl (fun K1 hK1 => ?_) AllReadyH.nil
          · rw [if_pos (by rfl)]
            refine wp_storeA 41 (.tmp 17) (.tmp 65) rfl 34 arrPt _ _ rfl (pcells o n S2) rfl 41 _ hb68 hp2.out (by simp) (pcells_ones _ _ _) ?_
            intro w70 hb71 hKb
            simp only [Act.put, List.getElem_toArray, List.getElem_cons_succ, List.getElem_cons_zero, List.setIfInBounds_toArray, List.set_cons_zero, List.set_cons_succ, Nat.zero_add]
            rw [putL_all (by rw [hp2.out]; simp)] at hb71
            have oc72 := Lib.hid (own_keeps oc64.out hKb (fun k _ hk hm => ne69.out k hk (by simpa using hm)))
            refine hK1.out _ _ (hH.trans (hKb.below hH.size (by intro b hb; simp only [List.mem_singleton] at hb; subst hb; exact ge62.out))) (fun hH => ?_)
            clear hK1 K1 hKb
            refine takeH_assign (o := ⟨some 18, _, _, _, _, _⟩) (i := 12) rfl (by kernel_rfl) (by kernel_rfl) (by kernel_rfl) (fun _ _ _ _ h => h) rfl (.tmp 66) rfl (.int .i64 0) rfl hH ?_
            simp only [Act.put, List.setIfInBounds_toArray, List.set_cons_zero, List.set_cons_succ, Nat.zero_add, decide_true, beq_self_eq_true]
            refine wpAnyH_done (by kernel_rfl) ?_ _
            go_wp2_with fail
            go_meet
            exact ⟨_, _, _, rfl, rfl, rfl, hb71, oc72.out, hH, ge62.out, ne69.out⟩
    · go_simp
      have q0 : wr.heap.size = wr.heap.size := by rfl
      have q : wr.drew.heap.size = wr.heap.size := q0
      have hb73 : Blk (wr.alloc (.cells (pcells 0 0 (zeros 32)).toArray 41)).drew wr.heap.size 41 (pcells 0 0 (zeros 32)) := by rw [← q0]; exact Blk.new_at (w := wr) rfl rfl
      have ge74 : Hid (wr.heap.size ≤ wr.heap.size) := by show _ ≤ _; rw [← q]; exact hH.size
      refine hK1.out _ _ (hH.alloc hH.size (.cells (pcells 0 0 (zeros 32)).toArray 41)) (fun hH => ?_)
      clear hK1 K1 q q0
      refine wpAnyH_ready (rs := [3]) (by kernel_rfl) (by simp) ?_
      refine AllReadyH.cons rfl (fun K1 hK1 => ?_) AllReadyH.nil
      · rw [if_pos (by rfl)]
        go_wp2_with fail
        refine (hbn.out _).mono ?_
        rintro e w75 ⟨gb76, rfl, -, hk77, hBa⟩
        have hb78 := hb73.keep hBa
        refine hK1.out _ _ (below_call hH hH.size hBa) (fun hH => ?_)
        clear hK1 K1 hBa
        refine wpAnyH_ready (rs := [4]) (by kernel_rfl) (by simp) ?_
        refine AllReadyH.cons rfl (fun K1 hK1 => ?_) AllReadyH.nil
        · rw [if_pos (by rfl)]
          go_wp2_with fail
          refine (hsY.out _ _ (blk_sl hk77 (blkL_length _))).mono ?_
          rintro e w79 ⟨A82, c83, rfl, oc81, hBa⟩
          have ne85 := Lib.hid (own_ne oc81 hb78.lt)
          have hb84 := hb78.keep hBa
          have oc80 := Lib.hid (ownsRow_mono oc81 hH.size)
          refine hK1.out _ _ (below_call hH hH.size hBa) (fun hH => ?_)
          clear hK1 K1 hBa oc81
          refine takeH_move (o := ⟨some 58, _, _, _, _, _⟩) (i := 5) rfl (by kernel_rfl) (by kernel_rfl) (by kernel_rfl) (fun _ _ _ _ h => h) rfl (.tmp 63) rfl (.tuple #[(.slice A82 512 c83), .agg (pcells o n S2).toArray, .int .i64 0]) rfl hH ?_
          simp only [Act.put, List.setIfInBounds_toArray, List.set_cons_zero, List.set_cons_succ, Nat.zero_add, decide_true, beq_self_eq_true]
          refine takeH_S (o := ⟨some 64, _, _, _, _, _⟩) (i := 6) rfl (by kernel_rfl) (by kernel_rfl) (by kernel_rfl) (fun _ _ _ _ h => h) rfl (.slice A82 512 c83) (fun w _ => by go_simp) hH ?_
          simp only [Act.put, List.setIfInBounds_toArray, List.set_cons_zero, List.set_cons_succ, Nat.zero_add, decide_true, beq_self_eq_true]
          refine takeH_S (o := ⟨some 65, _, _, _, _, _⟩) (i := 7) rfl (by kernel_rfl) (by kernel_rfl) (by kernel_rfl) (fun _ _ _ _ h => h) rfl (.agg (pcells o n S2).toArray) (fun w _ => by go_simp) hH ?_
          simp only [Act.put, List.setIfInBounds_toArray, List.set_cons_zero, List.set_cons_succ, Nat.zero_add, decide_true, beq_self_eq_true]
          refine takeH_S (o := ⟨some 66, _, _, _, _, _⟩) (i := 8) rfl (by kernel_rfl) (by kernel_rfl) (by kernel_rfl) (fun _ _ _ _ h => h) rfl (.int .i64 0) (fun w _ => by go_simp) hH ?_
          simp only [Act.put, List.setIfInBounds_toArray, List.set_cons_zero, List.set_cons_succ, Nat.zero_add, decide_true, beq_self_eq_true]
          refine takeH_assign (o := ⟨some 16, _, _, _, _, _⟩) (i := 10) rfl (by kernel_rfl) (by kernel_rfl) (by kernel_rfl) (fun _ _ _ _ h => h) rfl (.tmp 64) rfl (.slice A82 512 c83) rfl hH ?_
          simp only [Act.put, List.setIfInBounds_toArray, List.set_cons_zero, List.set_cons_succ, Nat.zero_add, decide_true, beq_self_eq_true]
          refine wpAnyH_ready (rs := [11]) (by kernel_rfl) (by simp) ?_
          refine AllReadyH.cons rfl (fun K1 hK1 => ?_) AllReadyH.nil
          · rw [if_pos (by rfl)]
            refine wp_storeA 41 (.tmp 17) (.tmp 65) rfl 34 arrPt _ _ rfl (pcells o n S2) rfl 41 _ hb84 hp2.out (by simp) (pcells_ones _ _ _) ?_
            intro w86 hb87 hKb
            simp only [Act.put, List.getElem_toArray, List.getElem_cons_succ, List.getElem_cons_zero, List.setIfInBounds_toArray, List.set_cons_zero, List.set_cons_succ, Nat.zero_add]
            rw [putL_all (by rw [hp2.out]; simp)] at hb87
            have oc88 := Lib.hid (own_keeps oc80.out hKb (fun k _ hk hm => ne85.out k hk (by simpa using hm)))
            refine hK1.out _ _ (hH.trans (hKb.below hH.size (by intro b hb; simp only [List.mem_singleton] at hb; subst hb; exact ge74.out))) (fun hH => ?_)
            clear hK1 K1 hKb
            refine takeH_assign (o := ⟨some 18, _, _, _, _, _⟩) (i := 12) rfl (by kernel_rfl) (by kernel_rfl) (by kernel_rfl) (fun _ _ _ _ h => h) rfl (.tmp 66) rfl (.int .i64 0) rfl hH ?_
            simp only [Act.put, List.setIfInBounds_toArray, List.set_cons_zero, List.set_cons_succ, Nat.zero_add, decide_true, beq_self_eq_true]
            refine wpAnyH_done (by kernel_rfl) ?_ _
            go_wp2_with fail
            go_meet
            exact ⟨_, _, _, rfl, rfl, rfl, hb87, oc88.out, hH, ge74.out, ne85.out⟩
  case rest =>
  rename World => wz
  obtain ⟨AY, cY, gY, rfl, rfl, rfl, -, oY, hBr, -, -⟩ := hcut
  obtain ⟨A, C, e, hcY, -, hA⟩ := own_shape oY
  injection e with e1 e2 e3
  subst e3
  obtain ⟨bY, rfl, -⟩ := hA (by decide)
  subst e1
  clear e2 hA
  replace oY := Lib.hid (Sl.of_own oY)
  replace hB := below_call hB hB.size hBr
  replace h9 := h9.keep hBr
  replace h3 := h3.keep hBr
  replace oX := Lib.hid (oX.out.keep hBr)
  clear hBr
  rename World => wr
  clear hsX hsY hbn h9
  have hcX1 : (16 : Int) ≤ (cX : Int) := by omega
  have hcY1 : (16 : Int) ≤ (cY : Int) := by omega
  have hrX := Lib.hid (fun w (h : Below wr.heap.size wr w) => hUX.out w bX cX (oX.out.keep h))
  have hrY := Lib.hid (fun w (h : Below wr.heap.size wr w) => hVY.out w bY cY (oY.out.keep h))
  go_upto_region 11 with fail
  go_cut [19, 20] (fun s2 s3 wx => ∃ gu gv : Nat, s2 = .pointer (some ⟨gu, 0, none⟩) ∧ s3 = .pointer (some ⟨gv, 0, none⟩) ∧ Blk wx gu 72 (bv U) ∧ Blk wx gv 72 (bv V) ∧ Below wr.heap.size wr wx)
  case first =>
    refine wp_region_held_drew (S := fun w' => Below wr.heap.size wr w') (by kernel_rfl) ((Below.refl _ _).drew) (fun hH => ?_)
    refine takeH_move (o := ⟨some 73, _, _, _, _, _⟩) (i := 0) rfl (by kernel_rfl) (by kernel_rfl) (by kernel_rfl) (fun _ _ _ _ h => h) rfl (.tmp 13) rfl (.slice (some ⟨bX, 0, none⟩) 512 cX) rfl hH ?_
    simp only [Act.put, List.setIfInBounds_toArray, List.set_cons_zero, List.set_cons_succ, Nat.zero_add, decide_true, beq_self_eq_true]
    refine takeH_S (o := ⟨some 74, _, _, _, _, _⟩) (i := 1) rfl (by kernel_rfl) (by kernel_rfl) (by kernel_rfl) (fun _ _ _ _ h => h) rfl (.slice (some ⟨bX, 0, none⟩) 16 cX) (fun w _ => by go_simp) hH ?_
    simp only [Act.put, List.setIfInBounds_toArray, List.set_cons_zero, List.set_cons_succ, Nat.zero_add, decide_true, beq_self_eq_true]
    refine takeH_S (o := ⟨some 75, _, _, _, _, _⟩) (i := 2) rfl (by kernel_rfl) (by kernel_rfl) (by kernel_rfl) (fun _ _ _ _ h => h) rfl (.pointer (some ⟨bX, 0, none⟩)) (fun w _ => by have e := arrAt (some ⟨bX, 0, none⟩) cX w; go_simp) hH ?_
    simp only [Act.put, List.setIfInBounds_toArray, List.set_cons_zero, List.set_cons_succ, Nat.zero_add, decide_true, beq_self_eq_true]
    refine takeH_load (o := ⟨some 76, _, _, _, _, _⟩) (i := 3) rfl (by kernel_rfl) (by kernel_rfl) (by kernel_rfl) (fun _ _ _ _ h => h) rfl 72 (.tmp 75) rfl 16 arrB bX 0 rfl (bv U) hUl.out (fun w h => (hrX.out w h)) hH ?_
    simp only [Act.put, List.setIfInBounds_toArray, List.set_cons_zero, List.set_cons_succ, Nat.zero_add, decide_true, beq_self_eq_true]
    refine takeH_move (o := ⟨some 77, _, _, _, _, _⟩) (i := 4) rfl (by kernel_rfl) (by kernel_rfl) (by kernel_rfl) (fun _ _ _ _ h => h) rfl (.tmp 16) rfl (.slice (some ⟨bY, 0, none⟩) 512 cY) rfl hH ?_
    simp only [Act.put, List.setIfInBounds_toArray, List.set_cons_zero, List.set_cons_succ, Nat.zero_add, decide_true, beq_self_eq_true]
    refine takeH_S (o := ⟨some 78, _, _, _, _, _⟩) (i := 5) rfl (by kernel_rfl) (by kernel_rfl) (by kernel_rfl) (fun _ _ _ _ h => h) rfl (.slice (some ⟨bY, 0, none⟩) 16 cY) (fun w _ => by go_simp) hH ?_
    simp only [Act.put, List.setIfInBounds_toArray, List.set_cons_zero, List.set_cons_succ, Nat.zero_add, decide_true, beq_self_eq_true]
    refine takeH_S (o := ⟨some 79, _, _, _, _, _⟩) (i := 6) rfl (by kernel_rfl) (by kernel_rfl) (by kernel_rfl) (fun _ _ _ _ h => h) rfl (.pointer (some ⟨bY, 0, none⟩)) (fun w _ => by have e := arrAt (some ⟨bY, 0, none⟩) cY w; go_simp) hH ?_
    simp only [Act.put, List.setIfInBounds_toArray, List.set_cons_zero, List.set_cons_succ, Nat.zero_add, decide_true, beq_self_eq_true]
    refine takeH_load (o := ⟨some 80, _, _, _, _, _⟩) (i := 7) rfl (by kernel_rfl) (by kernel_rfl) (by kernel_rfl) (fun _ _ _ _ h => h) rfl 72 (.tmp 79) rfl 16 arrB bY 0 rfl (bv V) hVl.out (fun w h => (hrY.out w h)) hH ?_
    simp only [Act.put, List.setIfInBounds_toArray, List.set_cons_zero, List.set_cons_succ, Nat.zero_add, decide_true, beq_self_eq_true]
    refine wpAnyH_ready (rs := [8, 9]) (by kernel_rfl) (by simp) ?_
    refine AllReadyH.cons rfl (fun K1 hK1 => ?_) (AllReadyH.cons rfl (fun K1 hK1 => ?_) AllReadyH.nil)
    · go_simp
      have q0 : wr.heap.size = wr.heap.size := by rfl
      have q : wr.drew.heap.size = wr.heap.size := q0
      have hb1 : Blk (wr.alloc (.cells (bv (zeros 16)).toArray 72)).drew wr.heap.size 72 (bv (zeros 16)) := by rw [← q0]; exact Blk.new_at (w := wr) rfl rfl
      refine hK1.out _ _ (hH.alloc hH.size (.cells (bv (zeros 16)).toArray 72)) (fun hH => ?_)
      clear hK1 K1 q q0
      refine wpAnyH_ready (rs := [9]) (by kernel_rfl) (by simp) ?_
      refine AllReadyH.cons rfl (fun K1 hK1 => ?_) AllReadyH.nil
      go_simp
      have q0 : (wr.alloc (.cells (bv (zeros 16)).toArray 72)).heap.size = (wr.heap.size + 1) := by go_simp
      have q : (wr.alloc (.cells (bv (zeros 16)).toArray 72)).drew.heap.size = (wr.heap.size + 1) := q0
      have hb2 : Blk ((wr.alloc (.cells (bv (zeros 16)).toArray 72)).alloc (.cells (bv (zeros 16)).toArray 72)).drew (wr.heap.size + 1) 72 (bv (zeros 16)) := by rw [← q0]; exact Blk.new_at (w := (wr.alloc (.cells (bv (zeros 16)).toArray 72))) rfl rfl
      have hb1b := hb1.alloc (.cells (bv (zeros 16)).toArray 72)
      refine hK1.out _ _ (hH.alloc hH.size (.cells (bv (zeros 16)).toArray 72)) (fun hH => ?_)
      clear hK1 K1 q q0 hb1
      refine wpAnyH_ready (rs := [10]) (by kernel_rfl) (by simp) ?_
      refine AllReadyH.cons rfl (fun K1 hK1 => ?_) AllReadyH.nil
      rw [if_pos (by rfl)]
      refine wp_storeA 72 (.tmp 19) (.tmp 76) rfl 16 arrB _ _ rfl (bv U) rfl 72 _ hb1b hUl.out (by simp) (ones_bv _) ?_
      intro wd10 hd10 hKd
      simp only [Act.put, List.getElem_toArray, List.getElem_cons_succ, List.getElem_cons_zero, List.setIfInBounds_toArray, List.set_cons_zero, List.set_cons_succ, Nat.zero_add]
      rw [putL_all (by rw [hUl.out]; simp)] at hd10
      have hv2 := hb2.keeps hKd (by simp)
      refine hK1.out _ _ (hH.trans (hKd.below hH.size (by intro b hb; simp only [List.mem_singleton] at hb; subst hb; omega))) (fun hH => ?_)
      clear hK1 K1 hKd
      refine wpAnyH_ready (rs := [11]) (by kernel_rfl) (by simp) ?_
      refine AllReadyH.cons rfl (fun K1 hK1 => ?_) AllReadyH.nil
      rw [if_pos (by rfl)]
      refine wp_storeA 72 (.tmp 20) (.tmp 80) rfl 16 arrB _ _ rfl (bv V) rfl 72 _ hv2 hVl.out (by simp) (ones_bv _) ?_
      intro wd11 hd11 hKd
      simp only [Act.put, List.getElem_toArray, List.getElem_cons_succ, List.getElem_cons_zero, List.setIfInBounds_toArray, List.set_cons_zero, List.set_cons_succ, Nat.zero_add]
      rw [putL_all (by rw [hVl.out]; simp)] at hd11
      have hd10b := hd10.keeps hKd (by simp)
      refine hK1.out _ _ (hH.trans (hKd.below hH.size (by intro b hb; simp only [List.mem_singleton] at hb; subst hb; omega))) (fun hH => ?_)
      clear hK1 K1 hKd
      refine wpAnyH_done (by kernel_rfl) ?_ _
      go_wp2_with fail
      go_meet
      exact ⟨_, _, rfl, rfl, hd10b, hd11, hH⟩
    · go_simp
      have q0 : wr.heap.size = wr.heap.size := by rfl
      have q : wr.drew.heap.size = wr.heap.size := q0
      have hb1 : Blk (wr.alloc (.cells (bv (zeros 16)).toArray 72)).drew wr.heap.size 72 (bv (zeros 16)) := by rw [← q0]; exact Blk.new_at (w := wr) rfl rfl
      refine hK1.out _ _ (hH.alloc hH.size (.cells (bv (zeros 16)).toArray 72)) (fun hH => ?_)
      clear hK1 K1 q q0
      refine wpAnyH_ready (rs := [8]) (by kernel_rfl) (by simp) ?_
      refine AllReadyH.cons rfl (fun K1 hK1 => ?_) AllReadyH.nil
      go_simp
      have q0 : (wr.alloc (.cells (bv (zeros 16)).toArray 72)).heap.size = (wr.heap.size + 1) := by go_simp
      have q : (wr.alloc (.cells (bv (zeros 16)).toArray 72)).drew.heap.size = (wr.heap.size + 1) := q0
      have hb2 : Blk ((wr.alloc (.cells (bv (zeros 16)).toArray 72)).alloc (.cells (bv (zeros 16)).toArray 72)).drew (wr.heap.size + 1) 72 (bv (zeros 16)) := by rw [← q0]; exact Blk.new_at (w := (wr.alloc (.cells (bv (zeros 16)).toArray 72))) rfl rfl
      have hb1b := hb1.alloc (.cells (bv (zeros 16)).toArray 72)
      refine hK1.out _ _ (hH.alloc hH.size (.cells (bv (zeros 16)).toArray 72)) (fun hH => ?_)
      clear hK1 K1 q q0 hb1
      refine wpAnyH_ready (rs := [10]) (by kernel_rfl) (by simp) ?_
      refine AllReadyH.cons rfl (fun K1 hK1 => ?_) AllReadyH.nil
      rw [if_pos (by rfl)]
      refine wp_storeA 72 (.tmp 19) (.tmp 76) rfl 16 arrB _ _ rfl (bv U) rfl 72 _ hb2 hUl.out (by simp) (ones_bv _) ?_
      intro wd10 hd10 hKd
      simp only [Act.put, List.getElem_toArray, List.getElem_cons_succ, List.getElem_cons_zero, List.setIfInBounds_toArray, List.set_cons_zero, List.set_cons_succ, Nat.zero_add]
      rw [putL_all (by rw [hUl.out]; simp)] at hd10
      have hv2 := hb1b.keeps hKd (by simp)
      refine hK1.out _ _ (hH.trans (hKd.below hH.size (by intro b hb; simp only [List.mem_singleton] at hb; subst hb; omega))) (fun hH => ?_)
      clear hK1 K1 hKd
      refine wpAnyH_ready (rs := [11]) (by kernel_rfl) (by simp) ?_
      refine AllReadyH.cons rfl (fun K1 hK1 => ?_) AllReadyH.nil
      rw [if_pos (by rfl)]
      refine wp_storeA 72 (.tmp 20) (.tmp 80) rfl 16 arrB _ _ rfl (bv V) rfl 72 _ hv2 hVl.out (by simp) (ones_bv _) ?_
      intro wd11 hd11 hKd
      simp only [Act.put, List.getElem_toArray, List.getElem_cons_succ, List.getElem_cons_zero, List.setIfInBounds_toArray, List.set_cons_zero, List.set_cons_succ, Nat.zero_add]
      rw [putL_all (by rw [hVl.out]; simp)] at hd11
      have hd10b := hd10.keeps hKd (by simp)
      refine hK1.out _ _ (hH.trans (hKd.below hH.size (by intro b hb; simp only [List.mem_singleton] at hb; subst hb; omega))) (fun hH => ?_)
      clear hK1 K1 hKd
      refine wpAnyH_done (by kernel_rfl) ?_ _
      go_wp2_with fail
      go_meet
      exact ⟨_, _, rfl, rfl, hd10b, hd11, hH⟩
  case rest =>
  rename World => wz
  obtain ⟨gu, gv, rfl, rfl, hu, hv, hBr⟩ := hcut
  replace hB := below_call hB hB.size hBr
  replace h3 := h3.keep hBr
  clear hBr hrX hrY hUX hVY oX oY
  rename World => wr
  by_cases hmn : m = n
  · by_cases hpo : p = o
    · have hUV := Lib.hid (decide_eq_true (hfwd.out hmn hpo))
      have e5 : Hid (((m : Int) == (n : Int)) = true) := by show _ = _; simp [hmn]
      have e9 : Hid (((p : Int) == (o : Int)) = true) := by show _ = _; simp [hpo]
      clear hmn hpo
      go_upto_region 12 with fail
      refine wp_region_held_drew (S := fun w' => Below wr.heap.size wr w') (by kernel_rfl) ((Below.refl _ _).drew) (fun hH => ?_)
      refine takeH_load (o := ⟨some 81, _, _, _, _, _⟩) (i := 0) rfl (by kernel_rfl) (by kernel_rfl) (by kernel_rfl) (fun _ _ _ _ h => h) rfl 72 (.tmp 19) rfl 16 arrB gu 0 rfl (bv U) hUl.out (fun w h => hSS (hu.keep h) hUl.out) hH ?_
      simp only [Act.put, List.setIfInBounds_toArray, List.set_cons_zero, List.set_cons_succ, Nat.zero_add, decide_true, beq_self_eq_true]
      refine takeH_load (o := ⟨some 82, _, _, _, _, _⟩) (i := 1) rfl (by kernel_rfl) (by kernel_rfl) (by kernel_rfl) (fun _ _ _ _ h => h) rfl 72 (.tmp 20) rfl 16 arrB gv 0 rfl (bv V) hVl.out (fun w h => hSS (hv.keep h) hVl.out) hH ?_
      simp only [Act.put, List.setIfInBounds_toArray, List.set_cons_zero, List.set_cons_succ, Nat.zero_add, decide_true, beq_self_eq_true]
      refine takeH_eqlB (o := ⟨some 83, _, _, _, _, _⟩) (i := 2) rfl (by kernel_rfl) (by kernel_rfl) (by kernel_rfl) (fun _ _ _ _ h => h) rfl 72 (.tmp 81) (.tmp 82) 72 rfl 16 bytB12 U V rfl rfl hUl1.out hVl1.out hH ?_
      rw [hUV.out]
      simp only [Act.put, List.setIfInBounds_toArray, List.set_cons_zero, List.set_cons_succ, Nat.zero_add, decide_true, beq_self_eq_true]
      refine takeH_move (o := ⟨some 84, _, _, _, _, _⟩) (i := 3) rfl (by kernel_rfl) (by kernel_rfl) (by kernel_rfl) (fun _ _ _ _ h => h) rfl (.tmp 8) rfl (.int .u64 (m : Int)) rfl hH ?_
      simp only [Act.put, List.setIfInBounds_toArray, List.set_cons_zero, List.set_cons_succ, Nat.zero_add, decide_true, beq_self_eq_true]
      refine takeH_move (o := ⟨some 85, _, _, _, _, _⟩) (i := 4) rfl (by kernel_rfl) (by kernel_rfl) (by kernel_rfl) (fun _ _ _ _ h => h) rfl (.tmp 9) rfl (.int .u64 (n : Int)) rfl hH ?_
      simp only [Act.put, List.setIfInBounds_toArray, List.set_cons_zero, List.set_cons_succ, Nat.zero_add, decide_true, beq_self_eq_true]
      refine takeH_S (o := ⟨some 86, _, _, _, _, _⟩) (i := 5) rfl (by kernel_rfl) (by kernel_rfl) (by kernel_rfl) (fun _ _ _ _ h => h) rfl (.bool true) (fun w _ => by have e := e5.out; go_simp) hH ?_
      simp only [Act.put, List.setIfInBounds_toArray, List.set_cons_zero, List.set_cons_succ, Nat.zero_add, decide_true, beq_self_eq_true]
      refine takeH_move (o := ⟨some 87, _, _, _, _, _⟩) (i := 6) rfl (by kernel_rfl) (by kernel_rfl) (by kernel_rfl) (fun _ _ _ _ h => h) rfl (.tmp 86) rfl (.bool true) rfl hH ?_
      simp only [Act.put, List.setIfInBounds_toArray, List.set_cons_zero, List.set_cons_succ, Nat.zero_add, decide_true, beq_self_eq_true]
      refine takeH_move (o := ⟨some 88, _, _, _, _, _⟩) (i := 7) rfl (by kernel_rfl) (by kernel_rfl) (by kernel_rfl) (fun _ _ _ _ h => h) rfl (.tmp 10) rfl (.int .u32 (p : Int)) rfl hH ?_
      simp only [Act.put, List.setIfInBounds_toArray, List.set_cons_zero, List.set_cons_succ, Nat.zero_add, decide_true, beq_self_eq_true]
      refine takeH_move (o := ⟨some 89, _, _, _, _, _⟩) (i := 8) rfl (by kernel_rfl) (by kernel_rfl) (by kernel_rfl) (fun _ _ _ _ h => h) rfl (.tmp 11) rfl (.int .u32 (o : Int)) rfl hH ?_
      simp only [Act.put, List.setIfInBounds_toArray, List.set_cons_zero, List.set_cons_succ, Nat.zero_add, decide_true, beq_self_eq_true]
      refine takeH_S (o := ⟨some 90, _, _, _, _, _⟩) (i := 9) rfl (by kernel_rfl) (by kernel_rfl) (by kernel_rfl) (fun _ _ _ _ h => h) rfl (.bool true) (fun w _ => by have e := e9.out; go_simp) hH ?_
      simp only [Act.put, List.setIfInBounds_toArray, List.set_cons_zero, List.set_cons_succ, Nat.zero_add, decide_true, beq_self_eq_true]
      refine takeH_pick (o := ⟨some 91, _, _, _, _, _⟩) (i := 10) rfl (by kernel_rfl) (by kernel_rfl) (by kernel_rfl) (fun _ _ _ _ h => h) rfl (.tmp 87) (.tmp 90) (.const (.bool false)) rfl true rfl (.bool true) rfl hH ?_
      simp only [Act.put, List.setIfInBounds_toArray, List.set_cons_zero, List.set_cons_succ, Nat.zero_add, decide_true, beq_self_eq_true]
      refine takeH_eqBool (o := ⟨some 92, _, _, _, _, _⟩) (i := 11) rfl (by kernel_rfl) (by kernel_rfl) (by kernel_rfl) (fun _ _ _ _ h => h) rfl 4 4 (.tmp 83) (.tmp 91) rfl Try.underlying4 true true rfl rfl hH ?_
      rw [show (true == true) = true from rfl]
      simp only [Act.put, List.setIfInBounds_toArray, List.set_cons_zero, List.set_cons_succ, Nat.zero_add, decide_true, beq_self_eq_true]
      refine takeH_move (o := ⟨some 93, _, _, _, _, _⟩) (i := 12) rfl (by kernel_rfl) (by kernel_rfl) (by kernel_rfl) (fun _ _ _ _ h => h) rfl (.tmp 92) rfl (.bool true) rfl hH ?_
      simp only [Act.put, List.setIfInBounds_toArray, List.set_cons_zero, List.set_cons_succ, Nat.zero_add, decide_true, beq_self_eq_true]
      refine takeH_load (o := ⟨some 94, _, _, _, _, _⟩) (i := 13) rfl (by kernel_rfl) (by kernel_rfl) (by kernel_rfl) (fun _ _ _ _ h => h) rfl 24 (.tmp 3) rfl 32 arr24 g3 0 rfl (bv k) hkl.out (fun w h => hSS (h3.keep h) hkl.out) hH ?_
      simp only [Act.put, List.setIfInBounds_toArray, List.set_cons_zero, List.set_cons_succ, Nat.zero_add, decide_true, beq_self_eq_true]
      refine takeH_load (o := ⟨some 95, _, _, _, _, _⟩) (i := 14) rfl (by kernel_rfl) (by kernel_rfl) (by kernel_rfl) (fun _ _ _ _ h => h) rfl 72 (.tmp 19) rfl 16 arrB gu 0 rfl (bv U) hUl.out (fun w h => hSS (hu.keep h) hUl.out) hH ?_
      simp only [Act.put, List.setIfInBounds_toArray, List.set_cons_zero, List.set_cons_succ, Nat.zero_add, decide_true, beq_self_eq_true]
      refine takeH_S (o := ⟨some 97, _, _, _, _, _⟩) (i := 16) rfl (by kernel_rfl) (by kernel_rfl) (by kernel_rfl) (fun _ _ _ _ h => h) rfl (.agg (bv (zeros 16)).toArray) (fun w _ => by go_simp; rfl) hH ?_
      simp only [Act.put, List.setIfInBounds_toArray, List.set_cons_zero, List.set_cons_succ, Nat.zero_add, decide_true, beq_self_eq_true]
      refine wpAnyH_ready (rs := [15]) (by kernel_rfl) (by simp) ?_
      refine AllReadyH.cons rfl (fun K1 hK1 => ?_) AllReadyH.nil
      rw [if_pos (by rfl)]
      go_wp2_with fail
      refine (hopn.out _).mono ?_
      rintro e wa ⟨rfl, hBa⟩
      refine hK1.out _ _ (below_call hH hH.size hBa) (fun hH => ?_)
      clear hK1 K1
      refine takeH_neqB (o := ⟨some 98, _, _, _, _, _⟩) (i := 17) rfl (by kernel_rfl) (by kernel_rfl) (by kernel_rfl) (fun _ _ _ _ h => h) rfl 72 (.tmp 96) (.tmp 97) 72 rfl 16 bytB12 NB (zeros 16) rfl rfl hNl.out (by simp) hH ?_
      rw [hNe.out]
      simp only [Act.put, List.setIfInBounds_toArray, List.set_cons_zero, List.set_cons_succ, Nat.zero_add, decide_true, beq_self_eq_true]
      refine takeH_pick (o := ⟨some 99, _, _, _, _, _⟩) (i := 18) rfl (by kernel_rfl) (by kernel_rfl) (by kernel_rfl) (fun _ _ _ _ h => h) rfl (.tmp 93) (.tmp 98) (.const (.bool false)) rfl true rfl (.bool true) rfl hH ?_
      simp only [Act.put, List.setIfInBounds_toArray, List.set_cons_zero, List.set_cons_succ, Nat.zero_add, decide_true, beq_self_eq_true]
      refine takeH_move (o := ⟨some 100, _, _, _, _, _⟩) (i := 19) rfl (by kernel_rfl) (by kernel_rfl) (by kernel_rfl) (fun _ _ _ _ h => h) rfl (.tmp 99) rfl (.bool true) rfl hH ?_
      simp only [Act.put, List.setIfInBounds_toArray, List.set_cons_zero, List.set_cons_succ, Nat.zero_add, decide_true, beq_self_eq_true]
      refine takeH_S (o := ⟨some 101, _, _, _, _, _⟩) (i := 20) rfl (by kernel_rfl) (by kernel_rfl) (by kernel_rfl) (fun _ _ _ _ h => h) rfl (.slice (some ⟨g3, 0, none⟩) 32 32) (fun w _ => by go_simp) hH ?_
      simp only [Act.put, List.setIfInBounds_toArray, List.set_cons_zero, List.set_cons_succ, Nat.zero_add, decide_true, beq_self_eq_true]
      refine takeH_S (o := ⟨some 103, _, _, _, _, _⟩) (i := 22) rfl (by kernel_rfl) (by kernel_rfl) (by kernel_rfl) (fun _ _ _ _ h => h) rfl (.slice (some ⟨g3, 0, none⟩) 32 32) (fun w _ => by go_simp) hH ?_
      simp only [Act.put, List.setIfInBounds_toArray, List.set_cons_zero, List.set_cons_succ, Nat.zero_add, decide_true, beq_self_eq_true]
      refine wpAnyH_ready (rs := [21]) (by kernel_rfl) (by simp) ?_
      refine AllReadyH.cons rfl (fun K1 hK1 => ?_) AllReadyH.nil
      rw [if_pos (by rfl)]
      go_wp2_with fail
      refine (hmd.out _ _ (kSl (h3.keep hH) hkl1.out)).mono ?_
      rintro e wa ⟨rfl, hBa⟩
      refine hK1.out _ _ (below_call hH hH.size hBa) (fun hH => ?_)
      clear hK1 K1
      refine wpAnyH_ready (rs := [23]) (by kernel_rfl) (by simp) ?_
      refine AllReadyH.cons rfl (fun K1 hK1 => ?_) AllReadyH.nil
      rw [if_pos (by rfl)]
      go_wp2_with fail
      refine (hder.out _ _ (kSl (h3.keep hH) hkl1.out)).mono ?_
      rintro e wa ⟨rfl, hBa⟩
      refine hK1.out _ _ (below_call hH hH.size hBa) (fun hH => ?_)
      clear hK1 K1
      refine takeH_S (o := ⟨some 105, _, _, _, _, _⟩) (i := 24) rfl (by kernel_rfl) (by kernel_rfl) (by kernel_rfl) (fun _ _ _ _ h => h) rfl (.agg (bv E).toArray) (fun w _ => by have e := hfld.out w; go_simp) hH ?_
      simp only [Act.put, List.setIfInBounds_toArray, List.set_cons_zero, List.set_cons_succ, Nat.zero_add, decide_true, beq_self_eq_true]
      refine takeH_eqlB (o := ⟨some 106, _, _, _, _, _⟩) (i := 25) rfl (by kernel_rfl) (by kernel_rfl) (by kernel_rfl) (fun _ _ _ _ h => h) rfl 26 (.tmp 102) (.tmp 105) 26 rfl 32 bytH E E rfl rfl hEl.out hEl.out hH ?_
      rw [decide_eq_true (rfl : E = E)]
      simp only [Act.put, List.setIfInBounds_toArray, List.set_cons_zero, List.set_cons_succ, Nat.zero_add, decide_true, beq_self_eq_true]
      refine takeH_pick (o := ⟨some 107, _, _, _, _, _⟩) (i := 26) rfl (by kernel_rfl) (by kernel_rfl) (by kernel_rfl) (fun _ _ _ _ h => h) rfl (.tmp 100) (.tmp 106) (.const (.bool false)) rfl true rfl (.bool true) rfl hH ?_
      simp only [Act.put, List.setIfInBounds_toArray, List.set_cons_zero, List.set_cons_succ, Nat.zero_add, decide_true, beq_self_eq_true]
      refine takeH_assign (o := ⟨some 2, _, _, _, _, _⟩) (i := 27) rfl (by kernel_rfl) (by kernel_rfl) (by kernel_rfl) (fun _ _ _ _ h => h) rfl (.tmp 107) rfl (.bool true) rfl hH ?_
      simp only [Act.put, List.setIfInBounds_toArray, List.set_cons_zero, List.set_cons_succ, Nat.zero_add, decide_true, beq_self_eq_true]
      refine wpAnyH_done (by kernel_rfl) ?_ _
      replace hB := below_call hB hB.size hH
      clear hH
      go_wp2
      go_ret
      exact ⟨rfl, hB⟩
    · have hUV := Lib.hid (decide_eq_false (fun h => hpo (hiff.out h).2))
      have e5 : Hid (((m : Int) == (n : Int)) = true) := by show _ = _; simp [hmn]
      have e9 : Hid (((p : Int) == (o : Int)) = false) := by show _ = _; simp; omega
      clear hmn hpo
      go_upto_region 12 with fail
      refine wp_region_held_drew (S := fun w' => Below wr.heap.size wr w') (by kernel_rfl) ((Below.refl _ _).drew) (fun hH => ?_)
      refine takeH_load (o := ⟨some 81, _, _, _, _, _⟩) (i := 0) rfl (by kernel_rfl) (by kernel_rfl) (by kernel_rfl) (fun _ _ _ _ h => h) rfl 72 (.tmp 19) rfl 16 arrB gu 0 rfl (bv U) hUl.out (fun w h => hSS (hu.keep h) hUl.out) hH ?_
      simp only [Act.put, List.setIfInBounds_toArray, List.set_cons_zero, List.set_cons_succ, Nat.zero_add, decide_true, beq_self_eq_true]
      refine takeH_load (o := ⟨some 82, _, _, _, _, _⟩) (i := 1) rfl (by kernel_rfl) (by kernel_rfl) (by kernel_rfl) (fun _ _ _ _ h => h) rfl 72 (.tmp 20) rfl 16 arrB gv 0 rfl (bv V) hVl.out (fun w h => hSS (hv.keep h) hVl.out) hH ?_
      simp only [Act.put, List.setIfInBounds_toArray, List.set_cons_zero, List.set_cons_succ, Nat.zero_add, decide_true, beq_self_eq_true]
      refine takeH_eqlB (o := ⟨some 83, _, _, _, _, _⟩) (i := 2) rfl (by kernel_rfl) (by kernel_rfl) (by kernel_rfl) (fun _ _ _ _ h => h) rfl 72 (.tmp 81) (.tmp 82) 72 rfl 16 bytB12 U V rfl rfl hUl1.out hVl1.out hH ?_
      rw [hUV.out]
      simp only [Act.put, List.setIfInBounds_toArray, List.set_cons_zero, List.set_cons_succ, Nat.zero_add, decide_true, beq_self_eq_true]
      refine takeH_move (o := ⟨some 84, _, _, _, _, _⟩) (i := 3) rfl (by kernel_rfl) (by kernel_rfl) (by kernel_rfl) (fun _ _ _ _ h => h) rfl (.tmp 8) rfl (.int .u64 (m : Int)) rfl hH ?_
      simp only [Act.put, List.setIfInBounds_toArray, List.set_cons_zero, List.set_cons_succ, Nat.zero_add, decide_true, beq_self_eq_true]
      refine takeH_move (o := ⟨some 85, _, _, _, _, _⟩) (i := 4) rfl (by kernel_rfl) (by kernel_rfl) (by kernel_rfl) (fun _ _ _ _ h => h) rfl (.tmp 9) rfl (.int .u64 (n : Int)) rfl hH ?_
      simp only [Act.put, List.setIfInBounds_toArray, List.set_cons_zero, List.set_cons_succ, Nat.zero_add, decide_true, beq_self_eq_true]
      refine takeH_S (o := ⟨some 86, _, _, _, _, _⟩) (i := 5) rfl (by kernel_rfl) (by kernel_rfl) (by kernel_rfl) (fun _ _ _ _ h => h) rfl (.bool true) (fun w _ => by have e := e5.out; go_simp) hH ?_
      simp only [Act.put, List.setIfInBounds_toArray, List.set_cons_zero, List.set_cons_succ, Nat.zero_add, decide_true, beq_self_eq_true]
      refine takeH_move (o := ⟨some 87, _, _, _, _, _⟩) (i := 6) rfl (by kernel_rfl) (by kernel_rfl) (by kernel_rfl) (fun _ _ _ _ h => h) rfl (.tmp 86) rfl (.bool true) rfl hH ?_
      simp only [Act.put, List.setIfInBounds_toArray, List.set_cons_zero, List.set_cons_succ, Nat.zero_add, decide_true, beq_self_eq_true]
      refine takeH_move (o := ⟨some 88, _, _, _, _, _⟩) (i := 7) rfl (by kernel_rfl) (by kernel_rfl) (by kernel_rfl) (fun _ _ _ _ h => h) rfl (.tmp 10) rfl (.int .u32 (p : Int)) rfl hH ?_
      simp only [Act.put, List.setIfInBounds_toArray, List.set_cons_zero, List.set_cons_succ, Nat.zero_add, decide_true, beq_self_eq_true]
      refine takeH_move (o := ⟨some 89, _, _, _, _, _⟩) (i := 8) rfl (by kernel_rfl) (by kernel_rfl) (by kernel_rfl) (fun _ _ _ _ h => h) rfl (.tmp 11) rfl (.int .u32 (o : Int)) rfl hH ?_
      simp only [Act.put, List.setIfInBounds_toArray, List.set_cons_zero, List.set_cons_succ, Nat.zero_add, decide_true, beq_self_eq_true]
      refine takeH_S (o := ⟨some 90, _, _, _, _, _⟩) (i := 9) rfl (by kernel_rfl) (by kernel_rfl) (by kernel_rfl) (fun _ _ _ _ h => h) rfl (.bool false) (fun w _ => by have e := e9.out; go_simp) hH ?_
      simp only [Act.put, List.setIfInBounds_toArray, List.set_cons_zero, List.set_cons_succ, Nat.zero_add, decide_true, beq_self_eq_true]
      refine takeH_pick (o := ⟨some 91, _, _, _, _, _⟩) (i := 10) rfl (by kernel_rfl) (by kernel_rfl) (by kernel_rfl) (fun _ _ _ _ h => h) rfl (.tmp 87) (.tmp 90) (.const (.bool false)) rfl true rfl (.bool false) rfl hH ?_
      simp only [Act.put, List.setIfInBounds_toArray, List.set_cons_zero, List.set_cons_succ, Nat.zero_add, decide_true, beq_self_eq_true]
      refine takeH_eqBool (o := ⟨some 92, _, _, _, _, _⟩) (i := 11) rfl (by kernel_rfl) (by kernel_rfl) (by kernel_rfl) (fun _ _ _ _ h => h) rfl 4 4 (.tmp 83) (.tmp 91) rfl Try.underlying4 false false rfl rfl hH ?_
      rw [show (false == false) = true from rfl]
      simp only [Act.put, List.setIfInBounds_toArray, List.set_cons_zero, List.set_cons_succ, Nat.zero_add, decide_true, beq_self_eq_true]
      refine takeH_move (o := ⟨some 93, _, _, _, _, _⟩) (i := 12) rfl (by kernel_rfl) (by kernel_rfl) (by kernel_rfl) (fun _ _ _ _ h => h) rfl (.tmp 92) rfl (.bool true) rfl hH ?_
      simp only [Act.put, List.setIfInBounds_toArray, List.set_cons_zero, List.set_cons_succ, Nat.zero_add, decide_true, beq_self_eq_true]
      refine takeH_load (o := ⟨some 94, _, _, _, _, _⟩) (i := 13) rfl (by kernel_rfl) (by kernel_rfl) (by kernel_rfl) (fun _ _ _ _ h => h) rfl 24 (.tmp 3) rfl 32 arr24 g3 0 rfl (bv k) hkl.out (fun w h => hSS (h3.keep h) hkl.out) hH ?_
      simp only [Act.put, List.setIfInBounds_toArray, List.set_cons_zero, List.set_cons_succ, Nat.zero_add, decide_true, beq_self_eq_true]
      refine takeH_load (o := ⟨some 95, _, _, _, _, _⟩) (i := 14) rfl (by kernel_rfl) (by kernel_rfl) (by kernel_rfl) (fun _ _ _ _ h => h) rfl 72 (.tmp 19) rfl 16 arrB gu 0 rfl (bv U) hUl.out (fun w h => hSS (hu.keep h) hUl.out) hH ?_
      simp only [Act.put, List.setIfInBounds_toArray, List.set_cons_zero, List.set_cons_succ, Nat.zero_add, decide_true, beq_self_eq_true]
      refine takeH_S (o := ⟨some 97, _, _, _, _, _⟩) (i := 16) rfl (by kernel_rfl) (by kernel_rfl) (by kernel_rfl) (fun _ _ _ _ h => h) rfl (.agg (bv (zeros 16)).toArray) (fun w _ => by go_simp; rfl) hH ?_
      simp only [Act.put, List.setIfInBounds_toArray, List.set_cons_zero, List.set_cons_succ, Nat.zero_add, decide_true, beq_self_eq_true]
      refine wpAnyH_ready (rs := [15]) (by kernel_rfl) (by simp) ?_
      refine AllReadyH.cons rfl (fun K1 hK1 => ?_) AllReadyH.nil
      rw [if_pos (by rfl)]
      go_wp2_with fail
      refine (hopn.out _).mono ?_
      rintro e wa ⟨rfl, hBa⟩
      refine hK1.out _ _ (below_call hH hH.size hBa) (fun hH => ?_)
      clear hK1 K1
      refine takeH_neqB (o := ⟨some 98, _, _, _, _, _⟩) (i := 17) rfl (by kernel_rfl) (by kernel_rfl) (by kernel_rfl) (fun _ _ _ _ h => h) rfl 72 (.tmp 96) (.tmp 97) 72 rfl 16 bytB12 NB (zeros 16) rfl rfl hNl.out (by simp) hH ?_
      rw [hNe.out]
      simp only [Act.put, List.setIfInBounds_toArray, List.set_cons_zero, List.set_cons_succ, Nat.zero_add, decide_true, beq_self_eq_true]
      refine takeH_pick (o := ⟨some 99, _, _, _, _, _⟩) (i := 18) rfl (by kernel_rfl) (by kernel_rfl) (by kernel_rfl) (fun _ _ _ _ h => h) rfl (.tmp 93) (.tmp 98) (.const (.bool false)) rfl true rfl (.bool true) rfl hH ?_
      simp only [Act.put, List.setIfInBounds_toArray, List.set_cons_zero, List.set_cons_succ, Nat.zero_add, decide_true, beq_self_eq_true]
      refine takeH_move (o := ⟨some 100, _, _, _, _, _⟩) (i := 19) rfl (by kernel_rfl) (by kernel_rfl) (by kernel_rfl) (fun _ _ _ _ h => h) rfl (.tmp 99) rfl (.bool true) rfl hH ?_
      simp only [Act.put, List.setIfInBounds_toArray, List.set_cons_zero, List.set_cons_succ, Nat.zero_add, decide_true, beq_self_eq_true]
      refine takeH_S (o := ⟨some 101, _, _, _, _, _⟩) (i := 20) rfl (by kernel_rfl) (by kernel_rfl) (by kernel_rfl) (fun _ _ _ _ h => h) rfl (.slice (some ⟨g3, 0, none⟩) 32 32) (fun w _ => by go_simp) hH ?_
      simp only [Act.put, List.setIfInBounds_toArray, List.set_cons_zero, List.set_cons_succ, Nat.zero_add, decide_true, beq_self_eq_true]
      refine takeH_S (o := ⟨some 103, _, _, _, _, _⟩) (i := 22) rfl (by kernel_rfl) (by kernel_rfl) (by kernel_rfl) (fun _ _ _ _ h => h) rfl (.slice (some ⟨g3, 0, none⟩) 32 32) (fun w _ => by go_simp) hH ?_
      simp only [Act.put, List.setIfInBounds_toArray, List.set_cons_zero, List.set_cons_succ, Nat.zero_add, decide_true, beq_self_eq_true]
      refine wpAnyH_ready (rs := [21]) (by kernel_rfl) (by simp) ?_
      refine AllReadyH.cons rfl (fun K1 hK1 => ?_) AllReadyH.nil
      rw [if_pos (by rfl)]
      go_wp2_with fail
      refine (hmd.out _ _ (kSl (h3.keep hH) hkl1.out)).mono ?_
      rintro e wa ⟨rfl, hBa⟩
      refine hK1.out _ _ (below_call hH hH.size hBa) (fun hH => ?_)
      clear hK1 K1
      refine wpAnyH_ready (rs := [23]) (by kernel_rfl) (by simp) ?_
      refine AllReadyH.cons rfl (fun K1 hK1 => ?_) AllReadyH.nil
      rw [if_pos (by rfl)]
      go_wp2_with fail
      refine (hder.out _ _ (kSl (h3.keep hH) hkl1.out)).mono ?_
      rintro e wa ⟨rfl, hBa⟩
      refine hK1.out _ _ (below_call hH hH.size hBa) (fun hH => ?_)
      clear hK1 K1
      refine takeH_S (o := ⟨some 105, _, _, _, _, _⟩) (i := 24) rfl (by kernel_rfl) (by kernel_rfl) (by kernel_rfl) (fun _ _ _ _ h => h) rfl (.agg (bv E).toArray) (fun w _ => by have e := hfld.out w; go_simp) hH ?_
      simp only [Act.put, List.setIfInBounds_toArray, List.set_cons_zero, List.set_cons_succ, Nat.zero_add, decide_true, beq_self_eq_true]
      refine takeH_eqlB (o := ⟨some 106, _, _, _, _, _⟩) (i := 25) rfl (by kernel_rfl) (by kernel_rfl) (by kernel_rfl) (fun _ _ _ _ h => h) rfl 26 (.tmp 102) (.tmp 105) 26 rfl 32 bytH E E rfl rfl hEl.out hEl.out hH ?_
      rw [decide_eq_true (rfl : E = E)]
      simp only [Act.put, List.setIfInBounds_toArray, List.set_cons_zero, List.set_cons_succ, Nat.zero_add, decide_true, beq_self_eq_true]
      refine takeH_pick (o := ⟨some 107, _, _, _, _, _⟩) (i := 26) rfl (by kernel_rfl) (by kernel_rfl) (by kernel_rfl) (fun _ _ _ _ h => h) rfl (.tmp 100) (.tmp 106) (.const (.bool false)) rfl true rfl (.bool true) rfl hH ?_
      simp only [Act.put, List.setIfInBounds_toArray, List.set_cons_zero, List.set_cons_succ, Nat.zero_add, decide_true, beq_self_eq_true]
      refine takeH_assign (o := ⟨some 2, _, _, _, _, _⟩) (i := 27) rfl (by kernel_rfl) (by kernel_rfl) (by kernel_rfl) (fun _ _ _ _ h => h) rfl (.tmp 107) rfl (.bool true) rfl hH ?_
      simp only [Act.put, List.setIfInBounds_toArray, List.set_cons_zero, List.set_cons_succ, Nat.zero_add, decide_true, beq_self_eq_true]
      refine wpAnyH_done (by kernel_rfl) ?_ _
      replace hB := below_call hB hB.size hH
      clear hH
      go_wp2
      go_ret
      exact ⟨rfl, hB⟩
  · have hUV := Lib.hid (decide_eq_false (fun h => hmn (hiff.out h).1))
    have e5 : Hid (((m : Int) == (n : Int)) = false) := by show _ = _; simp; omega
    clear hmn
    go_upto_region 12 with fail
    refine wp_region_held_drew (S := fun w' => Below wr.heap.size wr w') (by kernel_rfl) ((Below.refl _ _).drew) (fun hH => ?_)
    refine takeH_load (o := ⟨some 81, _, _, _, _, _⟩) (i := 0) rfl (by kernel_rfl) (by kernel_rfl) (by kernel_rfl) (fun _ _ _ _ h => h) rfl 72 (.tmp 19) rfl 16 arrB gu 0 rfl (bv U) hUl.out (fun w h => hSS (hu.keep h) hUl.out) hH ?_
    simp only [Act.put, List.setIfInBounds_toArray, List.set_cons_zero, List.set_cons_succ, Nat.zero_add, decide_true, beq_self_eq_true]
    refine takeH_load (o := ⟨some 82, _, _, _, _, _⟩) (i := 1) rfl (by kernel_rfl) (by kernel_rfl) (by kernel_rfl) (fun _ _ _ _ h => h) rfl 72 (.tmp 20) rfl 16 arrB gv 0 rfl (bv V) hVl.out (fun w h => hSS (hv.keep h) hVl.out) hH ?_
    simp only [Act.put, List.setIfInBounds_toArray, List.set_cons_zero, List.set_cons_succ, Nat.zero_add, decide_true, beq_self_eq_true]
    refine takeH_eqlB (o := ⟨some 83, _, _, _, _, _⟩) (i := 2) rfl (by kernel_rfl) (by kernel_rfl) (by kernel_rfl) (fun _ _ _ _ h => h) rfl 72 (.tmp 81) (.tmp 82) 72 rfl 16 bytB12 U V rfl rfl hUl1.out hVl1.out hH ?_
    rw [hUV.out]
    simp only [Act.put, List.setIfInBounds_toArray, List.set_cons_zero, List.set_cons_succ, Nat.zero_add, decide_true, beq_self_eq_true]
    refine takeH_move (o := ⟨some 84, _, _, _, _, _⟩) (i := 3) rfl (by kernel_rfl) (by kernel_rfl) (by kernel_rfl) (fun _ _ _ _ h => h) rfl (.tmp 8) rfl (.int .u64 (m : Int)) rfl hH ?_
    simp only [Act.put, List.setIfInBounds_toArray, List.set_cons_zero, List.set_cons_succ, Nat.zero_add, decide_true, beq_self_eq_true]
    refine takeH_move (o := ⟨some 85, _, _, _, _, _⟩) (i := 4) rfl (by kernel_rfl) (by kernel_rfl) (by kernel_rfl) (fun _ _ _ _ h => h) rfl (.tmp 9) rfl (.int .u64 (n : Int)) rfl hH ?_
    simp only [Act.put, List.setIfInBounds_toArray, List.set_cons_zero, List.set_cons_succ, Nat.zero_add, decide_true, beq_self_eq_true]
    refine takeH_S (o := ⟨some 86, _, _, _, _, _⟩) (i := 5) rfl (by kernel_rfl) (by kernel_rfl) (by kernel_rfl) (fun _ _ _ _ h => h) rfl (.bool false) (fun w _ => by have e := e5.out; go_simp) hH ?_
    simp only [Act.put, List.setIfInBounds_toArray, List.set_cons_zero, List.set_cons_succ, Nat.zero_add, decide_true, beq_self_eq_true]
    refine takeH_move (o := ⟨some 87, _, _, _, _, _⟩) (i := 6) rfl (by kernel_rfl) (by kernel_rfl) (by kernel_rfl) (fun _ _ _ _ h => h) rfl (.tmp 86) rfl (.bool false) rfl hH ?_
    simp only [Act.put, List.setIfInBounds_toArray, List.set_cons_zero, List.set_cons_succ, Nat.zero_add, decide_true, beq_self_eq_true]
    refine takeH_idle (o := ⟨some 88, _, _, _, _, _⟩) (i := 7) rfl (by kernel_rfl) (by kernel_rfl) (by kernel_rfl) (fun _ _ _ _ h => h) rfl hH ?_
    simp only [Act.put, List.setIfInBounds_toArray, List.set_cons_zero, List.set_cons_succ, Nat.zero_add, decide_true, beq_self_eq_true]
    refine takeH_idle (o := ⟨some 89, _, _, _, _, _⟩) (i := 8) rfl (by kernel_rfl) (by kernel_rfl) (by kernel_rfl) (fun _ _ _ _ h => h) rfl hH ?_
    simp only [Act.put, List.setIfInBounds_toArray, List.set_cons_zero, List.set_cons_succ, Nat.zero_add, decide_true, beq_self_eq_true]
    refine takeH_idle (o := ⟨some 90, _, _, _, _, _⟩) (i := 9) rfl (by kernel_rfl) (by kernel_rfl) (by kernel_rfl) (fun _ _ _ _ h => h) rfl hH ?_
    simp only [Act.put, List.setIfInBounds_toArray, List.set_cons_zero, List.set_cons_succ, Nat.zero_add, decide_true, beq_self_eq_true]
    refine takeH_pick (o := ⟨some 91, _, _, _, _, _⟩) (i := 10) rfl (by kernel_rfl) (by kernel_rfl) (by kernel_rfl) (fun _ _ _ _ h => h) rfl (.tmp 87) (.tmp 90) (.const (.bool false)) rfl false rfl (.bool false) rfl hH ?_
    simp only [Act.put, List.setIfInBounds_toArray, List.set_cons_zero, List.set_cons_succ, Nat.zero_add, decide_true, beq_self_eq_true]
    refine takeH_eqBool (o := ⟨some 92, _, _, _, _, _⟩) (i := 11) rfl (by kernel_rfl) (by kernel_rfl) (by kernel_rfl) (fun _ _ _ _ h => h) rfl 4 4 (.tmp 83) (.tmp 91) rfl Try.underlying4 false false rfl rfl hH ?_
    rw [show (false == false) = true from rfl]
    simp only [Act.put, List.setIfInBounds_toArray, List.set_cons_zero, List.set_cons_succ, Nat.zero_add, decide_true, beq_self_eq_true]
    refine takeH_move (o := ⟨some 93, _, _, _, _, _⟩) (i := 12) rfl (by kernel_rfl) (by kernel_rfl) (by kernel_rfl) (fun _ _ _ _ h => h) rfl (.tmp 92) rfl (.bool true) rfl hH ?_
    simp only [Act.put, List.setIfInBounds_toArray, List.set_cons_zero, List.set_cons_succ, Nat.zero_add, decide_true, beq_self_eq_true]
    refine takeH_load (o := ⟨some 94, _, _, _, _, _⟩) (i := 13) rfl (by kernel_rfl) (by kernel_rfl) (by kernel_rfl) (fun _ _ _ _ h => h) rfl 24 (.tmp 3) rfl 32 arr24 g3 0 rfl (bv k) hkl.out (fun w h => hSS (h3.keep h) hkl.out) hH ?_
    simp only [Act.put, List.setIfInBounds_toArray, List.set_cons_zero, List.set_cons_succ, Nat.zero_add, decide_true, beq_self_eq_true]
    refine takeH_load (o := ⟨some 95, _, _, _, _, _⟩) (i := 14) rfl (by kernel_rfl) (by kernel_rfl) (by kernel_rfl) (fun _ _ _ _ h => h) rfl 72 (.tmp 19) rfl 16 arrB gu 0 rfl (bv U) hUl.out (fun w h => hSS (hu.keep h) hUl.out) hH ?_
    simp only [Act.put, List.setIfInBounds_toArray, List.set_cons_zero, List.set_cons_succ, Nat.zero_add, decide_true, beq_self_eq_true]
    refine takeH_S (o := ⟨some 97, _, _, _, _, _⟩) (i := 16) rfl (by kernel_rfl) (by kernel_rfl) (by kernel_rfl) (fun _ _ _ _ h => h) rfl (.agg (bv (zeros 16)).toArray) (fun w _ => by go_simp; rfl) hH ?_
    simp only [Act.put, List.setIfInBounds_toArray, List.set_cons_zero, List.set_cons_succ, Nat.zero_add, decide_true, beq_self_eq_true]
    refine wpAnyH_ready (rs := [15]) (by kernel_rfl) (by simp) ?_
    refine AllReadyH.cons rfl (fun K1 hK1 => ?_) AllReadyH.nil
    rw [if_pos (by rfl)]
    go_wp2_with fail
    refine (hopn.out _).mono ?_
    rintro e wa ⟨rfl, hBa⟩
    refine hK1.out _ _ (below_call hH hH.size hBa) (fun hH => ?_)
    clear hK1 K1
    refine takeH_neqB (o := ⟨some 98, _, _, _, _, _⟩) (i := 17) rfl (by kernel_rfl) (by kernel_rfl) (by kernel_rfl) (fun _ _ _ _ h => h) rfl 72 (.tmp 96) (.tmp 97) 72 rfl 16 bytB12 NB (zeros 16) rfl rfl hNl.out (by simp) hH ?_
    rw [hNe.out]
    simp only [Act.put, List.setIfInBounds_toArray, List.set_cons_zero, List.set_cons_succ, Nat.zero_add, decide_true, beq_self_eq_true]
    refine takeH_pick (o := ⟨some 99, _, _, _, _, _⟩) (i := 18) rfl (by kernel_rfl) (by kernel_rfl) (by kernel_rfl) (fun _ _ _ _ h => h) rfl (.tmp 93) (.tmp 98) (.const (.bool false)) rfl true rfl (.bool true) rfl hH ?_
    simp only [Act.put, List.setIfInBounds_toArray, List.set_cons_zero, List.set_cons_succ, Nat.zero_add, decide_true, beq_self_eq_true]
    refine takeH_move (o := ⟨some 100, _, _, _, _, _⟩) (i := 19) rfl (by kernel_rfl) (by kernel_rfl) (by kernel_rfl) (fun _ _ _ _ h => h) rfl (.tmp 99) rfl (.bool true) rfl hH ?_
    simp only [Act.put, List.setIfInBounds_toArray, List.set_cons_zero, List.set_cons_succ, Nat.zero_add, decide_true, beq_self_eq_true]
    refine takeH_S (o := ⟨some 101, _, _, _, _, _⟩) (i := 20) rfl (by kernel_rfl) (by kernel_rfl) (by kernel_rfl) (fun _ _ _ _ h => h) rfl (.slice (some ⟨g3, 0, none⟩) 32 32) (fun w _ => by go_simp) hH ?_
    simp only [Act.put, List.setIfInBounds_toArray, List.set_cons_zero, List.set_cons_succ, Nat.zero_add, decide_true, beq_self_eq_true]
    refine takeH_S (o := ⟨some 103, _, _, _, _, _⟩) (i := 22) rfl (by kernel_rfl) (by kernel_rfl) (by kernel_rfl) (fun _ _ _ _ h => h) rfl (.slice (some ⟨g3, 0, none⟩) 32 32) (fun w _ => by go_simp) hH ?_
    simp only [Act.put, List.setIfInBounds_toArray, List.set_cons_zero, List.set_cons_succ, Nat.zero_add, decide_true, beq_self_eq_true]
    refine wpAnyH_ready (rs := [21]) (by kernel_rfl) (by simp) ?_
    refine AllReadyH.cons rfl (fun K1 hK1 => ?_) AllReadyH.nil
    rw [if_pos (by rfl)]
    go_wp2_with fail
    refine (hmd.out _ _ (kSl (h3.keep hH) hkl1.out)).mono ?_
    rintro e wa ⟨rfl, hBa⟩
    refine hK1.out _ _ (below_call hH hH.size hBa) (fun hH => ?_)
    clear hK1 K1
    refine wpAnyH_ready (rs := [23]) (by kernel_rfl) (by simp) ?_
    refine AllReadyH.cons rfl (fun K1 hK1 => ?_) AllReadyH.nil
    rw [if_pos (by rfl)]
    go_wp2_with fail
    refine (hder.out _ _ (kSl (h3.keep hH) hkl1.out)).mono ?_
    rintro e wa ⟨rfl, hBa⟩
    refine hK1.out _ _ (below_call hH hH.size hBa) (fun hH => ?_)
    clear hK1 K1
    refine takeH_S (o := ⟨some 105, _, _, _, _, _⟩) (i := 24) rfl (by kernel_rfl) (by kernel_rfl) (by kernel_rfl) (fun _ _ _ _ h => h) rfl (.agg (bv E).toArray) (fun w _ => by have e := hfld.out w; go_simp) hH ?_
    simp only [Act.put, List.setIfInBounds_toArray, List.set_cons_zero, List.set_cons_succ, Nat.zero_add, decide_true, beq_self_eq_true]
    refine takeH_eqlB (o := ⟨some 106, _, _, _, _, _⟩) (i := 25) rfl (by kernel_rfl) (by kernel_rfl) (by kernel_rfl) (fun _ _ _ _ h => h) rfl 26 (.tmp 102) (.tmp 105) 26 rfl 32 bytH E E rfl rfl hEl.out hEl.out hH ?_
    rw [decide_eq_true (rfl : E = E)]
    simp only [Act.put, List.setIfInBounds_toArray, List.set_cons_zero, List.set_cons_succ, Nat.zero_add, decide_true, beq_self_eq_true]
    refine takeH_pick (o := ⟨some 107, _, _, _, _, _⟩) (i := 26) rfl (by kernel_rfl) (by kernel_rfl) (by kernel_rfl) (fun _ _ _ _ h => h) rfl (.tmp 100) (.tmp 106) (.const (.bool false)) rfl true rfl (.bool true) rfl hH ?_
    simp only [Act.put, List.setIfInBounds_toArray, List.set_cons_zero, List.set_cons_succ, Nat.zero_add, decide_true, beq_self_eq_true]
    refine takeH_assign (o := ⟨some 2, _, _, _, _, _⟩) (i := 27) rfl (by kernel_rfl) (by kernel_rfl) (by kernel_rfl) (fun _ _ _ _ h => h) rfl (.tmp 107) rfl (.bool true) rfl hH ?_
    simp only [Act.put, List.setIfInBounds_toArray, List.set_cons_zero, List.set_cons_succ, Nat.zero_add, decide_true, beq_self_eq_true]
    refine wpAnyH_done (by kernel_rfl) ?_ _
    replace hB := below_call hB hB.size hH
    clear hH
    go_wp2
    go_ret
    exact ⟨rfl, hB⟩
theorem walk (a b c d : Nat) (k : List Nat) (W : World) (lk : k.length = 32) (bk : ∀ x ∈ k, x < 256) (ha : (a : Int) ≤ 4294967295) (hb : (b : Int) ≤ 4294967295) (hc : (c : Int) ≤ 65535) (hd : (d : Int) ≤ 65535) :
    Calls Try.prog 9 #[.agg (bv k ++ ([.int .u32 (a : Int), .int .u32 (b : Int), .int .u16 (c : Int), .int .u16 (d : Int)] : List Value)).toArray] W fun e w' => e = .returned (.bool true) ∧ Below W.heap.size W w' :=
  core a b c d k W lk bk ha hb hc hd
end Go.Proofs.Ytlifpmglaoppoaa.w_SealApart
