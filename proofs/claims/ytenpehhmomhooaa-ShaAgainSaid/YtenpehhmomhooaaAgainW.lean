/- The walk of ShaAgain. -/
import Derived.Test.YtenpehhmomhooaaShV
import Derived.Deep.DeepCutAuto
set_option linter.unusedVariables false
set_option linter.unusedSimpArgs false
namespace Go.Proofs.Ytenpehhmomhooaa.w_ShaAgain
open Go.RowKit
open Go.Proofs.PlainAes
open Go.Proofs.PlainSha

section
variable {ops : Array Oper} {Q : Exit → Act → World → Prop} {S : World → Prop} {md : Region.Mode}
theorem takeH_at {i : Nat} {o : Oper} {fuel : Nat} {listed : Array Bool} {a : Act} {w : World} (hi : ops[i]? = some o) (hs : Region.noSelect ops = true) (hf : Region.free md ops listed i = true) (hr : (Region.ready md ops listed).contains i = true)
    (hQ : ∀ c a w v, Q (.panic c) (a.put o.dst v) w → Q (.panic c) a w) (hw : Region.wanted o (yielded ops a.tmps) = true) (x y : Operand) (ho : o.op = .indexAddr 22 x y) (g n c : Nat) (hx : a.eval x = .slice (some ⟨g, 0, none⟩) n c) (j : Int) (hy : a.eval y = .int .i64 j) (j' : Nat) (hj : j = (j' : Int)) (hjn : j' < n)
    (hH : S w) (h : wpAnyH Try.prog md ops Q S fuel (listed.setIfInBounds i true) (a.put o.dst (.pointer (some ⟨g, j', none⟩))) w) : wpAnyH Try.prog md ops Q S (fuel + 1) listed a w :=
  takeH_S hi hs hf hr hQ hw _ (fun w _ => by
    have hu : Try.prog.underlying 22 = some (.slice (Try.prog.elem 22)) := by kernel_rfl
    have hz : (sizeOf (Try.prog.elem 22)).run Try.prog w = .ok 1 w := by kernel_rfl
    have e : (Instr.indexAt 22 (.slice (some ⟨g, 0, none⟩) n c) (.int .i64 j)).run Try.prog w = .ok (.pointer (some ⟨g, j', none⟩)) w := by
      rw [run_indexAt_slice (h := hu), if_pos (by omega), hz]
      subst hj
      simp only [Result.andThen_ok, Int.toNat_natCast, Nat.mul_one]
      have : (⟨g, 0, none⟩ : Addr).add j' = ⟨g, j', none⟩ := by unfold Addr.add; split <;> simp_all
      rw [this]
    unfold execOp
    simp only [ho, hx, hy, Sem.run_bind, e, Result.andThen_ok, Sem.run_pure]) hH h
end
theorem index5 (L : List Value) (hL : L.length = 5) (i : Nat) (v : Value) (h : L[i]? = some v) (w : World) : (Instr.index 37 (.agg L.toArray) (.int .i64 (i : Int))).run Try.prog w = .ok v w := by
  have hu : Try.prog.underlying 37 = some (.array 5 22) := Try.underlying37
  have hs : (sizeOf 22).run Try.prog w = .ok 1 w := by kernel_rfl
  have ha : (isAgg 22).run Try.prog w = .ok false w := by kernel_rfl
  have hk : i < 5 := by rw [← hL]; exact (List.getElem?_eq_some_iff.1 h).1
  have hkI : (i : Int) < 5 := by omega
  simp [Instr.index, asIntOf, Sem.run_bind, run_underlying hu, hs, ha, part, hk, h]
def acc (a : List Nat) (k i : Nat) : List Nat := if i ≤ 1 then [] else if i ≤ 3 then a.take k else a
theorem acc_byt {a : List Nat} (k i : Nat) (h : Byt a) : Byt (acc a k i) := by
  intro x hx
  unfold acc at hx
  split at hx
  · cases hx
  · split at hx
    · exact h x (List.mem_of_mem_take hx)
    · exact h x hx
theorem acc_le (a : List Nat) (k i : Nat) : (acc a k i).length ≤ a.length := by
  unfold acc
  split
  · simp
  · split
    · rw [List.length_take]; omega
    · omega

set_option maxRecDepth 100000 in
set_option maxHeartbeats 4000000 in
theorem core (A1 : Option Addr) (n1 c1 : Nat) (a : List Nat) (p b : Nat) (w : World) (hs1 : Sl w (.slice A1 n1 c1) (bv a)) (ba : Byt a) (hn1 : n1 = a.length) (hm1 : (n1 : Int) ≤ 140737488355328) (hp : p < 256) (hb : (b : Int) ≤ 65535) :
    Calls Try.prog 5 #[.slice A1 n1 c1, .int .u8 (p : Int), .int .u16 (b : Int)] w fun e w' => e = .returned (.bool true) ∧ Below w.heap.size w w' := by
  have hal := Lib.hid (fun w => alive_any w)
  by_cases hbig : (5000 : Int) < (n1 : Int)
  · clear hs1
    go_enter Try.func5, Try.ntmps5
    go_wp2_with fail
    refine (hal.out _).mono ?_
    rintro e w1 ⟨rfl, hB1⟩
    go_wp2
    go_ret
    exact ⟨rfl, hB1⟩
  · have hnew := Lib.hid (fun w => new_any w)
    have hwr := Lib.hid (fun l b B g v r w h hs bl bb hlen hsep => write_any l b B g v r w h hs bl bb hlen hsep)
    have hsm := Lib.hid (fun l B g r w h bl hlen => sum_any l B g r w h bl hlen)
    have hsum := Lib.hid (fun b v w hs bb hlen => shasum_any b v w hs bb hlen)
    replace hs1 := Lib.hid hs1
    replace hn1 := Lib.hid hn1
    go_enter Try.func5, Try.ntmps5
    go_wp2_with fail
    refine (hal.out _).mono ?_
    rintro e w1 ⟨rfl, hB1⟩
    have q1 : (b : Int) % ((n1 : Int) + 1) = ((b % (n1 + 1) : Nat) : Int) := by first | rfl | (push_cast; rfl) | simp
    have q2 : Int.tmod (b : Int) ((n1 : Int) + 1) = ((b % (n1 + 1) : Nat) : Int) := by rw [Int.tmod_eq_emod_of_nonneg (by omega)]; exact q1
    have hk : b % (n1 + 1) ≤ n1 := by have := Nat.mod_lt b (show 0 < n1 + 1 by omega); omega
    generalize b % (n1 + 1) = k at *
    have hS1 := Lib.hid (hsum.out a _ w1 (hs1.out.keep hB1) ba (by have := hn1.out; omega))
    go_wp2_with fail
    refine hS1.out.mono ?_
    rintro e w2 ⟨rfl, hB2⟩
    have hB2' := below_call hB1 hB1.size hB2
    go_wp2_with (refine wpList_allocA rfl 24 rfl (bv (zeros 32)) (by kernel_rfl) ?_)
    intro w3 hx3 hK3 hz3
    have hB3 := hB2'.trans (hK3.below hB2'.size (by simp))
    have hgx : w.heap.size ≤ w2.heap.size := hB2'.size
    clear hK3 hz3 hB1 hB2 hB2' hS1
    generalize w2.heap.size = gx at *
    go_wp2_with (refine wpList_storeW rfl 24 (.tmp 7) (.tmp 23) rfl 32 arrH gx rfl (bv (shaL a)) rfl 24 _ hx3 (bvsh a) (by simp) (ones_bv _) ?_)
    intro w4 hx4 hK4
    have hB4 := hB3.trans (hK4.below hB3.size (by simp; omega))
    have hgx4 := hx4.lt
    clear hx3 hB3 hK4
    obtain ⟨i0, hi, hz0, hz1, hz2⟩ := info_parts (P := Try.prog) (e := 5) (z := .int .u8 0) (size := 1) (bytes := 1) (by kernel_rfl)
    have own0 := own_one w4 p
    have bel0 : Below w4.heap.size w4 (w4.alloc (.cells #[.int .u8 (p : Int)] 5)) := (Below.refl _ _).alloc (Nat.le_refl _) _
    have sl1 := (hs1.out.keep hB4).keep bel0
    go_wp2_with (at_builtin; refine wpList_append_sl2 rfl (.tmp 25) (.tmp 26) 22 rfl w4.heap.size 5 i0 (.int .u8 0) 1 Try.underlying22 hi hz0 hz1 hz2 rfl _ 1 (bv [p]) rfl own0 _ (bv a) rfl sl1 (bv_oneCell a) ?_ ?_ ?_ ?_)
    · have := hn1.out; simp [maxLen]; omega
    · have := hn1.out; simp; omega
    · simp
    intro v5 w5 own5 gr5 mv5
    have bel5 := own_below bel0 gr5 own0 (by simp)
    have own5' := own_keep own5 ((Below.refl w5.heap.size w5).alloc (Nat.le_refl _) (.cells #[.int .u8 (p : Int), .int .u8 (p : Int)] 5))
    have bel5' := bel5.alloc bel5.size (.cells #[.int .u8 (p : Int), .int .u8 (p : Int)] 5)
    have sl5 := sl_two w5 p
    go_wp2_with (at_builtin; refine wpList_append_sl2 rfl (.tmp 27) (.tmp 30) 22 rfl w4.heap.size 5 i0 (.int .u8 0) 1 Try.underlying22 hi hz0 hz1 hz2 rfl _ _ _ rfl own5' _ (bv [p, p]) rfl sl5 (bv_oneCell _) ?_ ?_ ?_ ?_)
    · have := hn1.out; simp [maxLen]; omega
    · have := hn1.out; simp; omega
    · have := bel5.size; simp; omega
    intro v6 w6 own6 gr6 mv6
    have bel6 := own_below bel5' gr6 own5' bel5'.size
    rw [← bv_app, ← bv_app, ← hn1.out] at own6
    obtain ⟨x, c8, rfl, h8, hc8⟩ := own_form own6 (by omega)
    have hx6 := hx4.below bel6 hgx4
    have hx8 := own6.lt x rfl
    go_wp2_with fail
    refine (hnew.out _).mono ?_
    rintro e w7 ⟨g, rfl, hg, hB7⟩
    have hT : Wq w w7 w4.heap.size w6.heap.size g none [] x (1 + n1 + 2) c8 ([p] ++ (a ++ [p, p])) gx (bv (shaL a)) := ⟨hg, own_keep own6 hB7, below_call (below_call hB4 hB4.size bel6) (by have := hB4.size; have := bel6.size; omega) hB7, hB4.size, hx8.2, hx6.keep hB7, hgx4, hx8.1, hgx⟩
    clear own0 bel0 sl1 own5 own5' bel5 bel5' gr5 mv5 sl5 own6 gr6 mv6 bel6 hx4 hx6 hx8 hB4 hg hB7 hi hz0 hz1 hz2 hgx4 hgx
    generalize w4.heap.size = y at *
    generalize w6.heap.size = z at *
    have hc1 : n1 ≤ c1 := hs1.out.cap.1
    obtain ⟨AH, cH, hsH, hvH⟩ : ∃ (AH : Option Addr) (cH : Nat), Hid (∀ w, (Instr.sliceAt 22 (.slice A1 n1 c1) none (some (.int .i64 (k : Int))) none).run Try.prog w = .ok (.slice AH k cH) w) ∧ Hid (∀ wr, Below w.heap.size w wr → Sl wr (.slice AH k cH) (bv (a.take k)) ∧ ∀ a' n' c', 0 < (a.take k).length → Value.slice AH k cH = .slice (some a') n' c' → a'.block < w.heap.size) := by
      refine ⟨_, _, fun w => sliceAt_h A1 n1 c1 k hk hc1 w, fun wr hB => ?_⟩
      obtain ⟨h1, h2⟩ := sl_sliced (hs1.out.keep hB) (by rw [bv_length, hn1.out]) (Nat.zero_le k) hk
      rw [List.drop_zero, Nat.sub_zero, bv_take] at h1
      refine ⟨h1, fun a' n' c' hp e => ?_⟩
      rw [List.length_take] at hp
      obtain ⟨q, rfl, e2⟩ := h2 a' n' c' (by omega) e
      rw [e2]
      exact hs1.out.lt (by rw [bv_length]; omega) rfl
    obtain ⟨AT, cT, hsT, hvT⟩ : ∃ (AT : Option Addr) (cT : Nat), Hid (∀ w, (Instr.sliceAt 22 (.slice A1 n1 c1) (some (.int .i64 (k : Int))) none none).run Try.prog w = .ok (.slice AT (n1 - k) cT) w) ∧ Hid (∀ wr, Below w.heap.size w wr → Sl wr (.slice AT (n1 - k) cT) (bv (a.drop k)) ∧ ∀ a' n' c', 0 < (a.drop k).length → Value.slice AT (n1 - k) cT = .slice (some a') n' c' → a'.block < w.heap.size) := by
      refine ⟨_, _, fun w => sliceAt_l A1 n1 c1 k hk w, fun wr hB => ?_⟩
      obtain ⟨h1, h2⟩ := sl_sliced (hs1.out.keep hB) (by rw [bv_length, hn1.out]) hk (Nat.le_refl _)
      rw [List.take_of_length_le (by rw [List.length_drop, bv_length, hn1.out]; omega), bv_drop] at h1
      refine ⟨h1, fun a' n' c' hp e => ?_⟩
      rw [List.length_drop] at hp
      obtain ⟨q, rfl, e2⟩ := h2 a' n' c' (by have := hn1.out; omega) e
      rw [e2]
      exact hs1.out.lt (by rw [bv_length]; omega) rfl
    go_wp2
    refine wp_region_held_drew (S := fun w' => Below w7.heap.size w7 w') (by kernel_rfl) ((Below.refl _ _).drew) (fun hH => ?_)
    refine takeH_move (o := ⟨some 39, _, _, _, _, _⟩) (i := 0) rfl (by kernel_rfl) (by kernel_rfl) (by kernel_rfl) (fun _ _ _ _ h => h) rfl (.tmp 0) rfl (.slice A1 n1 c1) rfl hH ?_
    simp only [Act.put, List.setIfInBounds_toArray, List.set_cons_zero, List.set_cons_succ, Nat.zero_add, decide_true, beq_self_eq_true]
    refine takeH_move (o := ⟨some 40, _, _, _, _, _⟩) (i := 1) rfl (by kernel_rfl) (by kernel_rfl) (by kernel_rfl) (fun _ _ _ _ h => h) rfl (.tmp 10) rfl (.int .i64 (k : Int)) rfl hH ?_
    simp only [Act.put, List.setIfInBounds_toArray, List.set_cons_zero, List.set_cons_succ, Nat.zero_add, decide_true, beq_self_eq_true]
    refine takeH_slice (o := ⟨some 41, _, _, _, _, _⟩) (i := 2) rfl (by kernel_rfl) (by kernel_rfl) (by kernel_rfl) (fun _ _ _ _ h => h) rfl 22 (.tmp 39) none (some (.tmp 40)) rfl _ rfl none (some (.int .i64 (k : Int))) rfl rfl (.slice AH k cH) (fun w => hsH.out w) hH ?_
    simp only [Act.put, List.setIfInBounds_toArray, List.set_cons_zero, List.set_cons_succ, Nat.zero_add, decide_true, beq_self_eq_true]
    refine takeH_move (o := ⟨some 43, _, _, _, _, _⟩) (i := 4) rfl (by kernel_rfl) (by kernel_rfl) (by kernel_rfl) (fun _ _ _ _ h => h) rfl (.tmp 0) rfl (.slice A1 n1 c1) rfl hH ?_
    simp only [Act.put, List.setIfInBounds_toArray, List.set_cons_zero, List.set_cons_succ, Nat.zero_add, decide_true, beq_self_eq_true]
    refine takeH_move (o := ⟨some 44, _, _, _, _, _⟩) (i := 5) rfl (by kernel_rfl) (by kernel_rfl) (by kernel_rfl) (fun _ _ _ _ h => h) rfl (.tmp 10) rfl (.int .i64 (k : Int)) rfl hH ?_
    simp only [Act.put, List.setIfInBounds_toArray, List.set_cons_zero, List.set_cons_succ, Nat.zero_add, decide_true, beq_self_eq_true]
    refine takeH_slice (o := ⟨some 45, _, _, _, _, _⟩) (i := 6) rfl (by kernel_rfl) (by kernel_rfl) (by kernel_rfl) (fun _ _ _ _ h => h) rfl 22 (.tmp 43) (some (.tmp 44)) none rfl _ rfl (some (.int .i64 (k : Int))) none rfl rfl (.slice AT (n1 - k) cT) (fun w => hsT.out w) hH ?_
    simp only [Act.put, List.setIfInBounds_toArray, List.set_cons_zero, List.set_cons_succ, Nat.zero_add, decide_true, beq_self_eq_true]
    refine takeH_move (o := ⟨some 47, _, _, _, _, _⟩) (i := 8) rfl (by kernel_rfl) (by kernel_rfl) (by kernel_rfl) (fun _ _ _ _ h => h) rfl (.const (.int .i64 0)) rfl (.int .i64 0) rfl hH ?_
    simp only [Act.put, List.setIfInBounds_toArray, List.set_cons_zero, List.set_cons_succ, Nat.zero_add, decide_true, beq_self_eq_true]
    refine wpAnyH_ready (rs := [3]) (by kernel_rfl) (by simp) ?_
    refine AllReadyH.cons rfl (fun K1 hK1 => ?_) AllReadyH.nil
    go_simp
    refine hK1.out _ _ (hH.alloc hH.size _) (fun hH => ?_)
    clear hK1 K1
    refine takeH_calc (o := ⟨some 46, _, _, _, _, _⟩) (i := 7) rfl (by kernel_rfl) (by kernel_rfl) (by kernel_rfl) (fun _ _ _ _ h => h) rfl (.agg #[.slice none 0 0, (.slice AH k cH), .slice (some ⟨w7.heap.size, 0, none⟩) 0 0, (.slice AT (n1 - k) cT), .slice none 0 0]) (fun w => by first | rfl | go_simp) hH ?_
    simp only [Act.put, List.setIfInBounds_toArray, List.set_cons_zero, List.set_cons_succ, Nat.zero_add, decide_true, beq_self_eq_true]
    refine wpAnyH_done (by kernel_rfl) ?_ _
    replace hT := hT.keep hH
    generalize w7.heap.size = gE at *
    go_wp2_with fail
    go_loopw [47] (fun v wr => ∃ (i : Nat) (r : Option Nat), i ≤ 5 ∧ v = .int .i64 (i : Int) ∧ Wq w wr y z g r (acc a k i) x (1 + n1 + 2) c8 ([p] ++ (a ++ [p, p])) gx (bv (shaL a))) (fun v _ => 5 - (intOf v).toNat)
    case atStart => exact ⟨0, none, by omega, rfl, hT⟩
    case round =>
      clear hT
      obtain ⟨i, r, hi, rfl, hT⟩ := hrel
      have hsep : Hid (∀ (m : Nat) (v : Value), (∀ a' n' c', 0 < m → v = .slice (some a') n' c' → a'.block < w.heap.size) → (0 < m → ∀ (a' : Addr) (n' c' : Nat), v = .slice (some a') n' c' → a'.block ≠ g ∧ r ≠ some a'.block)) := fun m v h hp a' n' c' e =>
        hT.apart (by have := h a' n' c' hp e; have := hT.2.2.2.1; have := hT.2.2.2.2.1; have := hT.2.2.2.2.2.2.2.1; omega)
      by_cases hlt : i < 5
      · have hacc := acc_byt k i ba
        have haccl := acc_le a k i
        have hBr := hT.2.2.1
        obtain rfl | rfl | rfl | rfl | rfl : i = 0 ∨ i = 1 ∨ i = 2 ∨ i = 3 ∨ i = 4 := by omega
        · have hw1 := Lib.hid (hwr.out (acc a k 0) [] z g (.slice none 0 0) _ _ hT.1 (Sl.nil_ _) hacc (by intro x hx; simp at hx) (by have := hn1.out; simp; omega) (by intro h; simp at h))
          rw [show acc a k 0 ++ [] = acc a k 1 by simp [acc]] at hw1
          clear hacc haccl hBr hsep
          have hix : ∀ w, (Instr.index 37 (.agg #[.slice none 0 0, .slice AH k cH, .slice (some ⟨gE, 0, none⟩) 0 0, .slice AT (n1 - k) cT, .slice none 0 0]) (.int .i64 0)).run Try.prog w = .ok (.slice none 0 0) w := fun w => index5 _ rfl 0 _ rfl w
          go_wp2_with fail
          refine hw1.out.mono ?_
          rintro e w9 hR
          obtain ⟨rfl, r2, hT2⟩ := hT.write hR
          clear hR hw1 hT
          go_wp2
          go_roundw
          case rel => exact ⟨1, r2, by omega, by first | rfl | go_num, hT2⟩
          case measure => simp [intOf]
        · have hw1 := Lib.hid (hwr.out (acc a k 1) (a.take k) z g (.slice AH k cH) _ _ hT.1 (hvH.out _ hBr).1 hacc (fun x hx => ba x (List.mem_of_mem_take hx)) (by have := hn1.out; simp; omega) (hsep.out _ _ (hvH.out _ hBr).2))
          rw [show acc a k 1 ++ (a.take k) = acc a k 2 by simp [acc]] at hw1
          clear hacc haccl hBr hsep
          have hix : ∀ w, (Instr.index 37 (.agg #[.slice none 0 0, .slice AH k cH, .slice (some ⟨gE, 0, none⟩) 0 0, .slice AT (n1 - k) cT, .slice none 0 0]) (.int .i64 1)).run Try.prog w = .ok (.slice AH k cH) w := fun w => index5 _ rfl 1 _ rfl w
          go_wp2_with fail
          refine hw1.out.mono ?_
          rintro e w9 hR
          obtain ⟨rfl, r2, hT2⟩ := hT.write hR
          clear hR hw1 hT
          go_wp2
          go_roundw
          case rel => exact ⟨2, r2, by omega, by first | rfl | go_num, hT2⟩
          case measure => simp [intOf]
        · have hw1 := Lib.hid (hwr.out (acc a k 2) [] z g (.slice (some ⟨gE, 0, none⟩) 0 0) _ _ hT.1 sl_none hacc (by intro x hx; simp at hx) (by have := hn1.out; simp; omega) (by intro h; simp at h))
          rw [show acc a k 2 ++ [] = acc a k 3 by simp [acc]] at hw1
          clear hacc haccl hBr hsep
          have hix : ∀ w, (Instr.index 37 (.agg #[.slice none 0 0, .slice AH k cH, .slice (some ⟨gE, 0, none⟩) 0 0, .slice AT (n1 - k) cT, .slice none 0 0]) (.int .i64 2)).run Try.prog w = .ok (.slice (some ⟨gE, 0, none⟩) 0 0) w := fun w => index5 _ rfl 2 _ rfl w
          go_wp2_with fail
          refine hw1.out.mono ?_
          rintro e w9 hR
          obtain ⟨rfl, r2, hT2⟩ := hT.write hR
          clear hR hw1 hT
          go_wp2
          go_roundw
          case rel => exact ⟨3, r2, by omega, by first | rfl | go_num, hT2⟩
          case measure => simp [intOf]
        · have hw1 := Lib.hid (hwr.out (acc a k 3) (a.drop k) z g (.slice AT (n1 - k) cT) _ _ hT.1 (hvT.out _ hBr).1 hacc (fun x hx => ba x (List.mem_of_mem_drop hx)) (by have := hn1.out; simp; omega) (hsep.out _ _ (hvT.out _ hBr).2))
          rw [show acc a k 3 ++ (a.drop k) = acc a k 4 by simp [acc]] at hw1
          clear hacc haccl hBr hsep
          have hix : ∀ w, (Instr.index 37 (.agg #[.slice none 0 0, .slice AH k cH, .slice (some ⟨gE, 0, none⟩) 0 0, .slice AT (n1 - k) cT, .slice none 0 0]) (.int .i64 3)).run Try.prog w = .ok (.slice AT (n1 - k) cT) w := fun w => index5 _ rfl 3 _ rfl w
          go_wp2_with fail
          refine hw1.out.mono ?_
          rintro e w9 hR
          obtain ⟨rfl, r2, hT2⟩ := hT.write hR
          clear hR hw1 hT
          go_wp2
          go_roundw
          case rel => exact ⟨4, r2, by omega, by first | rfl | go_num, hT2⟩
          case measure => simp [intOf]
        · have hw1 := Lib.hid (hwr.out (acc a k 4) [] z g (.slice none 0 0) _ _ hT.1 (Sl.nil_ _) hacc (by intro x hx; simp at hx) (by have := hn1.out; simp; omega) (by intro h; simp at h))
          rw [show acc a k 4 ++ [] = acc a k 5 by simp [acc]] at hw1
          clear hacc haccl hBr hsep
          have hix : ∀ w, (Instr.index 37 (.agg #[.slice none 0 0, .slice AH k cH, .slice (some ⟨gE, 0, none⟩) 0 0, .slice AT (n1 - k) cT, .slice none 0 0]) (.int .i64 4)).run Try.prog w = .ok (.slice none 0 0) w := fun w => index5 _ rfl 4 _ rfl w
          go_wp2_with fail
          refine hw1.out.mono ?_
          rintro e w9 hR
          obtain ⟨rfl, r2, hT2⟩ := hT.write hR
          clear hR hw1 hT
          go_wp2
          go_roundw
          case rel => exact ⟨5, r2, by omega, by first | rfl | go_num, hT2⟩
          case measure => simp [intOf]
      · obtain rfl : i = 5 := by omega
        rw [show acc a k 5 = a by simp [acc]] at hT
        clear hsep
        go_wp2_with fail
        refine (hsm.out _ z g r _ hT.1 ba (by have := hn1.out; omega)).mono ?_
        rintro e w6a ⟨rfl, hB6⟩
        replace hT := hT.keep hB6
        clear hB6
        go_wp2_with (refine wpList_allocA rfl 24 rfl (bv (zeros 32)) (by kernel_rfl) ?_)
        intro w6b hx6o hK6 hz6
        have hl6 := hT.lt
        replace hT := hT.keeps hK6 (by simp)
        clear hK6 hz6
        generalize w6a.heap.size = gy at *
        go_wp2_with (refine wpList_storeW rfl 24 (.tmp 13) (.tmp 58) rfl 32 arrH gy rfl (bv (shaL a)) rfl 24 _ hx6o (bvsh a) (by simp) (ones_bv _) ?_)
        intro w6 hx6 hK6
        clear hx6o
        replace hT := hT.keeps hK6 (fun b hb => .inr (by obtain rfl := List.mem_singleton.1 hb; exact ⟨hl6.2.2.2, by omega, hl6.2.2.1⟩))
        clear hK6 hl6
        go_wp2_with fail
        refine (hsm.out _ z g r _ hT.1 ba (by have := hn1.out; omega)).mono ?_
        rintro e w8a ⟨rfl, hB8⟩
        replace hT := hT.keep hB8
        replace hx6 := hx6.keep hB8
        clear hB8
        go_wp2_with (refine wpList_allocA rfl 24 rfl (bv (zeros 32)) (by kernel_rfl) ?_)
        intro w8b hx8o hK8 hz8
        have hl8 := hT.lt
        replace hT := hT.keeps hK8 (by simp)
        have qhx6 := hx6.lt
        replace hx6 := hx6.keeps hK8 (by simp)
        clear hK8 hz8
        generalize w8a.heap.size = gz at *
        go_wp2_with (refine wpList_storeW rfl 24 (.tmp 15) (.tmp 63) rfl 32 arrH gz rfl (bv (shaL a)) rfl 24 _ hx8o (bvsh a) (by simp) (ones_bv _) ?_)
        intro w8 hx8 hK8
        clear hx8o
        replace hT := hT.keeps hK8 (fun b hb => .inr (by obtain rfl := List.mem_singleton.1 hb; exact ⟨hl8.2.2.2, by omega, hl8.2.2.1⟩))
        replace hx6 := hx6.keeps hK8 (by simp; omega)
        clear hK8 hl8
        have hB9 := Lib.hid hT.2.2.1
        have hsA := Lib.hid (hs1.out.keep hB9.out)
        have hsW := Lib.hid hT.sl
        have hW1 := Lib.hid (show IntKind.i64.wrap (1 + (n1 : Int)) = ((n1 + 1 : Nat) : Int) by rw [IntWalk.i64_in _ (by omega)]; omega)
        have hW2 := Lib.hid (show IntKind.i64.wrap (((1 + n1 + 2 : Nat) : Int) - 1) = ((n1 + 2 : Nat) : Int) by rw [IntWalk.i64_in _ (by omega)]; omega)
        have hbx := Lib.hid hT.2.2.2.2.2.1
        have hll : ([p] ++ (a ++ [p, p])).length = 1 + n1 + 2 := by rw [hn1.out]; simp; omega
        obtain ⟨AM, cM, hsM, hvM⟩ : ∃ (AM : Option Addr) (cM : Nat), Hid (∀ w, (Instr.sliceAt 22 (.slice (some ⟨x, 0, none⟩) (1 + n1 + 2) c8) (some (.int .i64 1)) (some (.int .i64 ((n1 + 1 : Nat) : Int))) none).run Try.prog w = .ok (.slice AM n1 cM) w) ∧ Hid (Sl w8 (.slice AM n1 cM) (bv a)) := by
          refine ⟨_, _, fun w => sliceAt_lh (some ⟨x, 0, none⟩) (1 + n1 + 2) c8 1 (n1 + 1) _ _ rfl rfl (by omega) (by omega) w, ?_⟩
          have := (sl_sliced hsW.out (by rw [bv_length, hll]) (show 1 ≤ n1 + 1 by omega) (show n1 + 1 ≤ 1 + n1 + 2 by omega)).1
          rw [bv_drop, bv_take, show (([p] ++ (a ++ [p, p])).drop 1).take (n1 + 1 - 1) = a by simp [hn1.out]] at this
          exact this
        have hcl := Lib.hid (show w8.cell? ⟨x, 0, none⟩ = some (.int .u8 (p : Int)) from by
          have := hT.2.1.cellAt 0 (by omega)
          rw [this]
          simp [bv])
        have hcr := Lib.hid (show w8.cell? ⟨x, n1 + 2, none⟩ = some (.int .u8 (p : Int)) from by
          have := hT.2.1.cellAt (n1 + 2) (by omega)
          rw [this, bv_get, show ([p] ++ (a ++ [p, p]))[n1 + 2]? = some p by simp [hn1.out, List.getElem?_append]]
          rfl)
        have hxl := Lib.hid (hT.2.1.lt x rfl).2
        go_wp2
        refine wp_region_held_drew (S := fun w' => Below w8.heap.size w8 w') (by kernel_rfl) ((Below.refl _ _).drew) (fun hH => ?_)
        refine takeH_move (o := ⟨some 65, _, _, _, _, _⟩) (i := 0) rfl (by kernel_rfl) (by kernel_rfl) (by kernel_rfl) (fun _ _ _ _ h => h) rfl (.tmp 8) rfl (.slice (some ⟨x, 0, none⟩) (1 + n1 + 2) c8) rfl hH ?_
        simp only [Act.put, List.setIfInBounds_toArray, List.set_cons_zero, List.set_cons_succ, Nat.zero_add, decide_true, beq_self_eq_true]
        refine takeH_move (o := ⟨some 66, _, _, _, _, _⟩) (i := 1) rfl (by kernel_rfl) (by kernel_rfl) (by kernel_rfl) (fun _ _ _ _ h => h) rfl (.tmp 0) rfl (.slice A1 n1 c1) rfl hH ?_
        simp only [Act.put, List.setIfInBounds_toArray, List.set_cons_zero, List.set_cons_succ, Nat.zero_add, decide_true, beq_self_eq_true]
        refine takeH_len (o := ⟨some 67, _, _, _, _, _⟩) (i := 2) rfl (by kernel_rfl) (by kernel_rfl) (by kernel_rfl) (fun _ _ _ _ h => h) rfl 22 5 (.tmp 66) rfl Try.underlying22 _ _ _ rfl hH ?_
        simp only [Act.put, List.setIfInBounds_toArray, List.set_cons_zero, List.set_cons_succ, Nat.zero_add, decide_true, beq_self_eq_true]
        refine takeH_S (o := ⟨some 68, _, _, _, _, _⟩) (i := 3) rfl (by kernel_rfl) (by kernel_rfl) (by kernel_rfl) (fun _ _ _ _ h => h) rfl (.int .i64 ((n1 + 1 : Nat) : Int)) (fun w _ => by go_simp; exact hW1.out) hH ?_
        simp only [Act.put, List.setIfInBounds_toArray, List.set_cons_zero, List.set_cons_succ, Nat.zero_add, decide_true, beq_self_eq_true]
        refine takeH_slice (o := ⟨some 69, _, _, _, _, _⟩) (i := 4) rfl (by kernel_rfl) (by kernel_rfl) (by kernel_rfl) (fun _ _ _ _ h => h) rfl 22 (.tmp 65) (some (.const (.int .i64 1))) (some (.tmp 68)) rfl _ rfl (some (.int .i64 1)) (some (.int .i64 ((n1 + 1 : Nat) : Int))) rfl rfl (.slice AM n1 cM) (fun w => hsM.out w) hH ?_
        simp only [Act.put, List.setIfInBounds_toArray, List.set_cons_zero, List.set_cons_succ, Nat.zero_add, decide_true, beq_self_eq_true]
        refine takeH_load (o := ⟨some 71, _, _, _, _, _⟩) (i := 6) rfl (by kernel_rfl) (by kernel_rfl) (by kernel_rfl) (fun _ _ _ _ h => h) rfl 24 (.tmp 7) rfl 32 arrH gx 0 rfl (bv (shaL a)) (bvsh _) (fun w h => hSS (hbx.out.keep h) (bvsh _)) hH ?_
        simp only [Act.put, List.setIfInBounds_toArray, List.set_cons_zero, List.set_cons_succ, Nat.zero_add, decide_true, beq_self_eq_true]
        refine wpAnyH_ready (rs := [5]) (by kernel_rfl) (by simp) ?_
        refine AllReadyH.cons rfl (fun K1 hK1 => ?_) AllReadyH.nil
        rw [if_pos (by rfl)]
        go_wp2_with fail
        refine (hsum.out a _ _ (hvM.out.keep hH) ba (by have := hn1.out; omega)).mono ?_
        rintro e wa ⟨rfl, hBa⟩
        refine hK1.out _ _ (below_call hH hH.size hBa) (fun hH => ?_)
        clear hK1 K1
        refine takeH_eqlT (o := ⟨some 72, _, _, _, _, _⟩) (i := 7) rfl (by kernel_rfl) (by kernel_rfl) (by kernel_rfl) (fun _ _ _ _ h => h) rfl 24 (.tmp 70) (.tmp 71) 24 rfl 32 bytH _ _ rfl rfl (shlen _) rfl hH ?_
        simp only [Act.put, List.setIfInBounds_toArray, List.set_cons_zero, List.set_cons_succ, Nat.zero_add, decide_true, beq_self_eq_true]
        refine takeH_move (o := ⟨some 73, _, _, _, _, _⟩) (i := 8) rfl (by kernel_rfl) (by kernel_rfl) (by kernel_rfl) (fun _ _ _ _ h => h) rfl (.tmp 72) rfl (.bool true) rfl hH ?_
        simp only [Act.put, List.setIfInBounds_toArray, List.set_cons_zero, List.set_cons_succ, Nat.zero_add, decide_true, beq_self_eq_true]
        refine takeH_move (o := ⟨some 74, _, _, _, _, _⟩) (i := 9) rfl (by kernel_rfl) (by kernel_rfl) (by kernel_rfl) (fun _ _ _ _ h => h) rfl (.tmp 0) rfl (.slice A1 n1 c1) rfl hH ?_
        simp only [Act.put, List.setIfInBounds_toArray, List.set_cons_zero, List.set_cons_succ, Nat.zero_add, decide_true, beq_self_eq_true]
        refine takeH_load (o := ⟨some 76, _, _, _, _, _⟩) (i := 11) rfl (by kernel_rfl) (by kernel_rfl) (by kernel_rfl) (fun _ _ _ _ h => h) rfl 24 (.tmp 7) rfl 32 arrH gx 0 rfl (bv (shaL a)) (bvsh _) (fun w h => hSS (hbx.out.keep h) (bvsh _)) hH ?_
        simp only [Act.put, List.setIfInBounds_toArray, List.set_cons_zero, List.set_cons_succ, Nat.zero_add, decide_true, beq_self_eq_true]
        refine wpAnyH_ready (rs := [10]) (by kernel_rfl) (by simp) ?_
        refine AllReadyH.cons rfl (fun K1 hK1 => ?_) AllReadyH.nil
        rw [if_pos (by rfl)]
        go_wp2_with fail
        refine (hsum.out a _ _ (hsA.out.keep hH) ba (by have := hn1.out; omega)).mono ?_
        rintro e wa ⟨rfl, hBa⟩
        refine hK1.out _ _ (below_call hH hH.size hBa) (fun hH => ?_)
        clear hK1 K1
        refine takeH_eqlT (o := ⟨some 77, _, _, _, _, _⟩) (i := 12) rfl (by kernel_rfl) (by kernel_rfl) (by kernel_rfl) (fun _ _ _ _ h => h) rfl 24 (.tmp 75) (.tmp 76) 24 rfl 32 bytH _ _ rfl rfl (shlen _) rfl hH ?_
        simp only [Act.put, List.setIfInBounds_toArray, List.set_cons_zero, List.set_cons_succ, Nat.zero_add, decide_true, beq_self_eq_true]
        refine takeH_pick (o := ⟨some 78, _, _, _, _, _⟩) (i := 13) rfl (by kernel_rfl) (by kernel_rfl) (by kernel_rfl) (fun _ _ _ _ h => h) rfl (.tmp 73) (.tmp 77) (.const (.bool false)) rfl true rfl (.bool true) rfl hH ?_
        simp only [Act.put, List.setIfInBounds_toArray, List.set_cons_zero, List.set_cons_succ, Nat.zero_add, decide_true, beq_self_eq_true]
        refine takeH_move (o := ⟨some 79, _, _, _, _, _⟩) (i := 14) rfl (by kernel_rfl) (by kernel_rfl) (by kernel_rfl) (fun _ _ _ _ h => h) rfl (.tmp 78) rfl (.bool true) rfl hH ?_
        simp only [Act.put, List.setIfInBounds_toArray, List.set_cons_zero, List.set_cons_succ, Nat.zero_add, decide_true, beq_self_eq_true]
        refine takeH_move (o := ⟨some 80, _, _, _, _, _⟩) (i := 15) rfl (by kernel_rfl) (by kernel_rfl) (by kernel_rfl) (fun _ _ _ _ h => h) rfl (.tmp 14) rfl (.int .i64 0) rfl hH ?_
        simp only [Act.put, List.setIfInBounds_toArray, List.set_cons_zero, List.set_cons_succ, Nat.zero_add, decide_true, beq_self_eq_true]
        refine takeH_eqInt (o := ⟨some 81, _, _, _, _, _⟩) (i := 16) rfl (by kernel_rfl) (by kernel_rfl) (by kernel_rfl) (fun _ _ _ _ h => h) rfl 32 32 .i64 (.tmp 80) (.const (.int .i64 0)) rfl Try.underlying32 _ _ rfl rfl (rfl) hH ?_
        simp only [Act.put, List.setIfInBounds_toArray, List.set_cons_zero, List.set_cons_succ, Nat.zero_add, decide_true, beq_self_eq_true]
        refine takeH_pick (o := ⟨some 82, _, _, _, _, _⟩) (i := 17) rfl (by kernel_rfl) (by kernel_rfl) (by kernel_rfl) (fun _ _ _ _ h => h) rfl (.tmp 79) (.tmp 81) (.const (.bool false)) rfl true rfl (.bool true) rfl hH ?_
        simp only [Act.put, List.setIfInBounds_toArray, List.set_cons_zero, List.set_cons_succ, Nat.zero_add, decide_true, beq_self_eq_true]
        refine takeH_move (o := ⟨some 83, _, _, _, _, _⟩) (i := 18) rfl (by kernel_rfl) (by kernel_rfl) (by kernel_rfl) (fun _ _ _ _ h => h) rfl (.tmp 82) rfl (.bool true) rfl hH ?_
        simp only [Act.put, List.setIfInBounds_toArray, List.set_cons_zero, List.set_cons_succ, Nat.zero_add, decide_true, beq_self_eq_true]
        refine takeH_move (o := ⟨some 84, _, _, _, _, _⟩) (i := 19) rfl (by kernel_rfl) (by kernel_rfl) (by kernel_rfl) (fun _ _ _ _ h => h) rfl (.tmp 16) rfl (.int .i64 0) rfl hH ?_
        simp only [Act.put, List.setIfInBounds_toArray, List.set_cons_zero, List.set_cons_succ, Nat.zero_add, decide_true, beq_self_eq_true]
        refine takeH_eqInt (o := ⟨some 85, _, _, _, _, _⟩) (i := 20) rfl (by kernel_rfl) (by kernel_rfl) (by kernel_rfl) (fun _ _ _ _ h => h) rfl 32 32 .i64 (.tmp 84) (.const (.int .i64 0)) rfl Try.underlying32 _ _ rfl rfl (rfl) hH ?_
        simp only [Act.put, List.setIfInBounds_toArray, List.set_cons_zero, List.set_cons_succ, Nat.zero_add, decide_true, beq_self_eq_true]
        refine takeH_pick (o := ⟨some 86, _, _, _, _, _⟩) (i := 21) rfl (by kernel_rfl) (by kernel_rfl) (by kernel_rfl) (fun _ _ _ _ h => h) rfl (.tmp 83) (.tmp 85) (.const (.bool false)) rfl true rfl (.bool true) rfl hH ?_
        simp only [Act.put, List.setIfInBounds_toArray, List.set_cons_zero, List.set_cons_succ, Nat.zero_add, decide_true, beq_self_eq_true]
        refine takeH_move (o := ⟨some 87, _, _, _, _, _⟩) (i := 22) rfl (by kernel_rfl) (by kernel_rfl) (by kernel_rfl) (fun _ _ _ _ h => h) rfl (.tmp 86) rfl (.bool true) rfl hH ?_
        simp only [Act.put, List.setIfInBounds_toArray, List.set_cons_zero, List.set_cons_succ, Nat.zero_add, decide_true, beq_self_eq_true]
        refine takeH_load (o := ⟨some 88, _, _, _, _, _⟩) (i := 23) rfl (by kernel_rfl) (by kernel_rfl) (by kernel_rfl) (fun _ _ _ _ h => h) rfl 24 (.tmp 13) rfl 32 arrH gy 0 rfl (bv (shaL a)) (bvsh _) (fun w h => hSS (hx6.keep h) (bvsh _)) hH ?_
        simp only [Act.put, List.setIfInBounds_toArray, List.set_cons_zero, List.set_cons_succ, Nat.zero_add, decide_true, beq_self_eq_true]
        refine takeH_load (o := ⟨some 89, _, _, _, _, _⟩) (i := 24) rfl (by kernel_rfl) (by kernel_rfl) (by kernel_rfl) (fun _ _ _ _ h => h) rfl 24 (.tmp 7) rfl 32 arrH gx 0 rfl (bv (shaL a)) (bvsh _) (fun w h => hSS (hbx.out.keep h) (bvsh _)) hH ?_
        simp only [Act.put, List.setIfInBounds_toArray, List.set_cons_zero, List.set_cons_succ, Nat.zero_add, decide_true, beq_self_eq_true]
        refine takeH_eqlT (o := ⟨some 90, _, _, _, _, _⟩) (i := 25) rfl (by kernel_rfl) (by kernel_rfl) (by kernel_rfl) (fun _ _ _ _ h => h) rfl 24 (.tmp 88) (.tmp 89) 24 rfl 32 bytH _ _ rfl rfl (shlen _) rfl hH ?_
        simp only [Act.put, List.setIfInBounds_toArray, List.set_cons_zero, List.set_cons_succ, Nat.zero_add, decide_true, beq_self_eq_true]
        refine takeH_pick (o := ⟨some 91, _, _, _, _, _⟩) (i := 26) rfl (by kernel_rfl) (by kernel_rfl) (by kernel_rfl) (fun _ _ _ _ h => h) rfl (.tmp 87) (.tmp 90) (.const (.bool false)) rfl true rfl (.bool true) rfl hH ?_
        simp only [Act.put, List.setIfInBounds_toArray, List.set_cons_zero, List.set_cons_succ, Nat.zero_add, decide_true, beq_self_eq_true]
        refine takeH_move (o := ⟨some 92, _, _, _, _, _⟩) (i := 27) rfl (by kernel_rfl) (by kernel_rfl) (by kernel_rfl) (fun _ _ _ _ h => h) rfl (.tmp 91) rfl (.bool true) rfl hH ?_
        simp only [Act.put, List.setIfInBounds_toArray, List.set_cons_zero, List.set_cons_succ, Nat.zero_add, decide_true, beq_self_eq_true]
        refine takeH_load (o := ⟨some 93, _, _, _, _, _⟩) (i := 28) rfl (by kernel_rfl) (by kernel_rfl) (by kernel_rfl) (fun _ _ _ _ h => h) rfl 24 (.tmp 15) rfl 32 arrH gz 0 rfl (bv (shaL a)) (bvsh _) (fun w h => hSS (hx8.keep h) (bvsh _)) hH ?_
        simp only [Act.put, List.setIfInBounds_toArray, List.set_cons_zero, List.set_cons_succ, Nat.zero_add, decide_true, beq_self_eq_true]
        refine takeH_load (o := ⟨some 94, _, _, _, _, _⟩) (i := 29) rfl (by kernel_rfl) (by kernel_rfl) (by kernel_rfl) (fun _ _ _ _ h => h) rfl 24 (.tmp 7) rfl 32 arrH gx 0 rfl (bv (shaL a)) (bvsh _) (fun w h => hSS (hbx.out.keep h) (bvsh _)) hH ?_
        simp only [Act.put, List.setIfInBounds_toArray, List.set_cons_zero, List.set_cons_succ, Nat.zero_add, decide_true, beq_self_eq_true]
        refine takeH_eqlT (o := ⟨some 95, _, _, _, _, _⟩) (i := 30) rfl (by kernel_rfl) (by kernel_rfl) (by kernel_rfl) (fun _ _ _ _ h => h) rfl 24 (.tmp 93) (.tmp 94) 24 rfl 32 bytH _ _ rfl rfl (shlen _) rfl hH ?_
        simp only [Act.put, List.setIfInBounds_toArray, List.set_cons_zero, List.set_cons_succ, Nat.zero_add, decide_true, beq_self_eq_true]
        refine takeH_pick (o := ⟨some 96, _, _, _, _, _⟩) (i := 31) rfl (by kernel_rfl) (by kernel_rfl) (by kernel_rfl) (fun _ _ _ _ h => h) rfl (.tmp 92) (.tmp 95) (.const (.bool false)) rfl true rfl (.bool true) rfl hH ?_
        simp only [Act.put, List.setIfInBounds_toArray, List.set_cons_zero, List.set_cons_succ, Nat.zero_add, decide_true, beq_self_eq_true]
        refine takeH_move (o := ⟨some 97, _, _, _, _, _⟩) (i := 32) rfl (by kernel_rfl) (by kernel_rfl) (by kernel_rfl) (fun _ _ _ _ h => h) rfl (.tmp 96) rfl (.bool true) rfl hH ?_
        simp only [Act.put, List.setIfInBounds_toArray, List.set_cons_zero, List.set_cons_succ, Nat.zero_add, decide_true, beq_self_eq_true]
        refine takeH_move (o := ⟨some 98, _, _, _, _, _⟩) (i := 33) rfl (by kernel_rfl) (by kernel_rfl) (by kernel_rfl) (fun _ _ _ _ h => h) rfl (.tmp 8) rfl (.slice (some ⟨x, 0, none⟩) (1 + n1 + 2) c8) rfl hH ?_
        simp only [Act.put, List.setIfInBounds_toArray, List.set_cons_zero, List.set_cons_succ, Nat.zero_add, decide_true, beq_self_eq_true]
        refine takeH_at (o := ⟨some 99, _, _, _, _, _⟩) (i := 34) rfl (by kernel_rfl) (by kernel_rfl) (by kernel_rfl) (fun _ _ _ _ h => h) rfl (.tmp 98) (.const (.int .i64 0)) rfl x (1 + n1 + 2) c8 rfl _ rfl 0 rfl (by omega) hH ?_
        simp only [Act.put, List.setIfInBounds_toArray, List.set_cons_zero, List.set_cons_succ, Nat.zero_add, decide_true, beq_self_eq_true]
        refine takeH_cell (o := ⟨some 100, _, _, _, _, _⟩) (i := 35) rfl (by kernel_rfl) (by kernel_rfl) (by kernel_rfl) (fun _ _ _ _ h => h) rfl 5 (.tmp 99) rfl Try.underlying5 rfl x 0 rfl (.int .u8 (p : Int)) (fun w h => (bcell h).1 x _ hxl.out ▸ hcl.out) hH ?_
        simp only [Act.put, List.setIfInBounds_toArray, List.set_cons_zero, List.set_cons_succ, Nat.zero_add, decide_true, beq_self_eq_true]
        refine takeH_move (o := ⟨some 101, _, _, _, _, _⟩) (i := 36) rfl (by kernel_rfl) (by kernel_rfl) (by kernel_rfl) (fun _ _ _ _ h => h) rfl (.tmp 1) rfl (.int .u8 (p : Int)) rfl hH ?_
        simp only [Act.put, List.setIfInBounds_toArray, List.set_cons_zero, List.set_cons_succ, Nat.zero_add, decide_true, beq_self_eq_true]
        refine takeH_eqInt (o := ⟨some 102, _, _, _, _, _⟩) (i := 37) rfl (by kernel_rfl) (by kernel_rfl) (by kernel_rfl) (fun _ _ _ _ h => h) rfl 5 5 .u8 (.tmp 100) (.tmp 101) rfl Try.underlying5 _ _ rfl rfl (rfl) hH ?_
        simp only [Act.put, List.setIfInBounds_toArray, List.set_cons_zero, List.set_cons_succ, Nat.zero_add, decide_true, beq_self_eq_true]
        refine takeH_pick (o := ⟨some 103, _, _, _, _, _⟩) (i := 38) rfl (by kernel_rfl) (by kernel_rfl) (by kernel_rfl) (fun _ _ _ _ h => h) rfl (.tmp 97) (.tmp 102) (.const (.bool false)) rfl true rfl (.bool true) rfl hH ?_
        simp only [Act.put, List.setIfInBounds_toArray, List.set_cons_zero, List.set_cons_succ, Nat.zero_add, decide_true, beq_self_eq_true]
        refine takeH_move (o := ⟨some 104, _, _, _, _, _⟩) (i := 39) rfl (by kernel_rfl) (by kernel_rfl) (by kernel_rfl) (fun _ _ _ _ h => h) rfl (.tmp 103) rfl (.bool true) rfl hH ?_
        simp only [Act.put, List.setIfInBounds_toArray, List.set_cons_zero, List.set_cons_succ, Nat.zero_add, decide_true, beq_self_eq_true]
        refine takeH_move (o := ⟨some 105, _, _, _, _, _⟩) (i := 40) rfl (by kernel_rfl) (by kernel_rfl) (by kernel_rfl) (fun _ _ _ _ h => h) rfl (.tmp 8) rfl (.slice (some ⟨x, 0, none⟩) (1 + n1 + 2) c8) rfl hH ?_
        simp only [Act.put, List.setIfInBounds_toArray, List.set_cons_zero, List.set_cons_succ, Nat.zero_add, decide_true, beq_self_eq_true]
        refine takeH_move (o := ⟨some 106, _, _, _, _, _⟩) (i := 41) rfl (by kernel_rfl) (by kernel_rfl) (by kernel_rfl) (fun _ _ _ _ h => h) rfl (.tmp 8) rfl (.slice (some ⟨x, 0, none⟩) (1 + n1 + 2) c8) rfl hH ?_
        simp only [Act.put, List.setIfInBounds_toArray, List.set_cons_zero, List.set_cons_succ, Nat.zero_add, decide_true, beq_self_eq_true]
        refine takeH_len (o := ⟨some 107, _, _, _, _, _⟩) (i := 42) rfl (by kernel_rfl) (by kernel_rfl) (by kernel_rfl) (fun _ _ _ _ h => h) rfl 22 5 (.tmp 106) rfl Try.underlying22 _ _ _ rfl hH ?_
        simp only [Act.put, List.setIfInBounds_toArray, List.set_cons_zero, List.set_cons_succ, Nat.zero_add, decide_true, beq_self_eq_true]
        refine takeH_S (o := ⟨some 108, _, _, _, _, _⟩) (i := 43) rfl (by kernel_rfl) (by kernel_rfl) (by kernel_rfl) (fun _ _ _ _ h => h) rfl (.int .i64 ((n1 + 2 : Nat) : Int)) (fun w _ => by go_simp; exact hW2.out) hH ?_
        simp only [Act.put, List.setIfInBounds_toArray, List.set_cons_zero, List.set_cons_succ, Nat.zero_add, decide_true, beq_self_eq_true]
        refine takeH_at (o := ⟨some 109, _, _, _, _, _⟩) (i := 44) rfl (by kernel_rfl) (by kernel_rfl) (by kernel_rfl) (fun _ _ _ _ h => h) rfl (.tmp 105) (.tmp 108) rfl x (1 + n1 + 2) c8 rfl _ rfl (n1 + 2) rfl (by omega) hH ?_
        simp only [Act.put, List.setIfInBounds_toArray, List.set_cons_zero, List.set_cons_succ, Nat.zero_add, decide_true, beq_self_eq_true]
        refine takeH_cell (o := ⟨some 110, _, _, _, _, _⟩) (i := 45) rfl (by kernel_rfl) (by kernel_rfl) (by kernel_rfl) (fun _ _ _ _ h => h) rfl 5 (.tmp 109) rfl Try.underlying5 rfl x (n1 + 2) rfl (.int .u8 (p : Int)) (fun w h => (bcell h).1 x _ hxl.out ▸ hcr.out) hH ?_
        simp only [Act.put, List.setIfInBounds_toArray, List.set_cons_zero, List.set_cons_succ, Nat.zero_add, decide_true, beq_self_eq_true]
        refine takeH_move (o := ⟨some 111, _, _, _, _, _⟩) (i := 46) rfl (by kernel_rfl) (by kernel_rfl) (by kernel_rfl) (fun _ _ _ _ h => h) rfl (.tmp 1) rfl (.int .u8 (p : Int)) rfl hH ?_
        simp only [Act.put, List.setIfInBounds_toArray, List.set_cons_zero, List.set_cons_succ, Nat.zero_add, decide_true, beq_self_eq_true]
        refine takeH_eqInt (o := ⟨some 112, _, _, _, _, _⟩) (i := 47) rfl (by kernel_rfl) (by kernel_rfl) (by kernel_rfl) (fun _ _ _ _ h => h) rfl 5 5 .u8 (.tmp 110) (.tmp 111) rfl Try.underlying5 _ _ rfl rfl (rfl) hH ?_
        simp only [Act.put, List.setIfInBounds_toArray, List.set_cons_zero, List.set_cons_succ, Nat.zero_add, decide_true, beq_self_eq_true]
        refine takeH_pick (o := ⟨some 113, _, _, _, _, _⟩) (i := 48) rfl (by kernel_rfl) (by kernel_rfl) (by kernel_rfl) (fun _ _ _ _ h => h) rfl (.tmp 104) (.tmp 112) (.const (.bool false)) rfl true rfl (.bool true) rfl hH ?_
        simp only [Act.put, List.setIfInBounds_toArray, List.set_cons_zero, List.set_cons_succ, Nat.zero_add, decide_true, beq_self_eq_true]
        refine takeH_assign (o := ⟨some 6, _, _, _, _, _⟩) (i := 49) rfl (by kernel_rfl) (by kernel_rfl) (by kernel_rfl) (fun _ _ _ _ h => h) rfl (.tmp 113) rfl (.bool true) rfl hH ?_
        simp only [Act.put, List.setIfInBounds_toArray, List.set_cons_zero, List.set_cons_succ, Nat.zero_add, decide_true, beq_self_eq_true]
        refine wpAnyH_done (by kernel_rfl) ?_ _
        go_wp2_with fail
        go_ret
        exact ⟨rfl, below_call hB9.out hB9.out.size hH⟩

theorem walk (v0 : Value) (l0 : List Nat) (b0 : Byt l0) (m0 : l0.length ≤ 140737488351232) (p : Int) (p1 : 0 ≤ p) (p2 : p ≤ 255) (b : Int) (b1 : 0 ≤ b) (b2 : b ≤ 65535) (W : World) (s0 : Sl W v0 (bv l0)) :
    Calls Try.prog 5 #[v0, .int .u8 p, .int .u16 b] W fun e w' => e = .returned (.bool true) ∧ Below W.heap.size W w' := by
  obtain ⟨A1, c1, h1, -⟩ := id s0
  subst h1
  obtain ⟨b, rfl⟩ := Int.eq_ofNat_of_zero_le b1
  obtain ⟨p, rfl⟩ := Int.eq_ofNat_of_zero_le p1
  exact core A1 _ c1 l0 p b W s0 b0 (by simp) (by simp; omega) (by omega) (by omega)
end Go.Proofs.Ytenpehhmomhooaa.w_ShaAgain
