/- The walk of MacChains. -/
import Derived.Test.YthlebobfbalknaaMacD
import Derived.Test.YthlebobfbalknaaMacF
import Derived.Test.YthlebobfbalknaaRgx
import Derived.Deep.MidRow
import Derived.Lib.AppendStr
set_option linter.unusedVariables false
set_option linter.unusedSimpArgs false
namespace Go.Proofs.Ythlebobfbalknaa.w_MacChains
open Go.RowKit
open Go.Proofs.PlainAes
open Go.Proofs.PlainSha
open Go.Proofs.PlainMac

theorem sl_sliced {w : World} {A : Option Addr} {n c : Nat} {xs : List Value} (h : Sl w (.slice A n c) xs) (hl : xs.length = n) {l k : Nat} (h1 : l ≤ k) (h2 : k ≤ n) :
    Sl w (sliced A l k c 1) ((xs.drop l).take (k - l)) ∧ ∀ a n' c', 0 < k - l → sliced A l k c 1 = .slice (some a) n' c' → ∃ b, A = some b ∧ a.block = b.block := by
  have hc := h.cap
  by_cases hp : 0 < k - l
  · obtain ⟨g, p, rfl, hs⟩ := h.part l (k - l) hp (by omega) hl
    have e : sliced (some ⟨g, p, none⟩) l k c 1 = .slice (some ⟨g, p + l, none⟩) (k - l) (c - l) := by
      unfold sliced
      rw [if_neg (by omega)]
      simp only [Option.map_some, Nat.mul_one]
      congr 2
      unfold Addr.add; split <;> simp_all
    rw [e]
    exact ⟨hs, fun a n' c' _ e => by injection e with e _ _; injection e with e; subst e; exact ⟨_, rfl, rfl⟩⟩
  · have e0 : k - l = 0 := by omega
    rw [e0, List.take_zero]
    exact ⟨⟨_, _, by unfold sliced; rw [e0]; rfl, Nat.zero_le _, by omega, fun h => absurd h (by simp)⟩, fun _ _ _ h => by omega⟩
theorem sliceAt_h (A : Option Addr) (n c k : Nat) (hk : k ≤ n) (hc : n ≤ c) (w : World) : (Instr.sliceAt 22 (.slice A n c) none (some (.int .i64 (k : Int))) none).run Try.prog w = .ok (sliced A 0 k c 1) w := by
  have hu : Try.prog.underlying 22 = some (.slice (Try.prog.elem 22)) := by kernel_rfl
  have hz : (sizeOf (Try.prog.elem 22)).run Try.prog w = .ok 1 w := by kernel_rfl
  rw [run_sliceAt_slice (h := hu), run_slice_h (ht := hu) (h0 := by omega) (h2 := by omega), hz]
  simp [Result.andThen]
theorem sliceAt_l (A : Option Addr) (n c k : Nat) (hk : k ≤ n) (w : World) : (Instr.sliceAt 22 (.slice A n c) (some (.int .i64 (k : Int))) none none).run Try.prog w = .ok (sliced A k n c 1) w := by
  have hu : Try.prog.underlying 22 = some (.slice (Try.prog.elem 22)) := by kernel_rfl
  have hz : (sizeOf (Try.prog.elem 22)).run Try.prog w = .ok 1 w := by kernel_rfl
  rw [run_sliceAt_slice (h := hu), run_slice_l (ht := hu) (h0 := by omega) (h1 := by omega), hz]
  simp [Result.andThen]
theorem sliceAt_lh (A : Option Addr) (n c l k : Nat) (li ki : Int) (hli : li = l) (hki : ki = k) (hl : l ≤ k) (hk : k ≤ c) (w : World) : (Instr.sliceAt 22 (.slice A n c) (some (.int .i64 li)) (some (.int .i64 ki)) none).run Try.prog w = .ok (sliced A l k c 1) w := by
  subst hli hki
  have hu : Try.prog.underlying 22 = some (.slice (Try.prog.elem 22)) := by kernel_rfl
  have hz : (sizeOf (Try.prog.elem 22)).run Try.prog w = .ok 1 w := by kernel_rfl
  rw [run_sliceAt_slice (h := hu), run_slice_lh (ht := hu) (h0 := by omega) (h1 := by omega) (h2 := by omega), hz]
  simp [Result.andThen]

theorem takeH_sliceLH {P : Program} {ops : Array Oper} {Q : Exit → Act → World → Prop} {S : World → Prop} {md : Region.Mode} {i : Nat} {o : Oper} {fuel : Nat} {listed : Array Bool} {a : Act} {w : World} (hi : ops[i]? = some o) (hs : Region.noSelect ops = true) (hf : Region.free md ops listed i = true) (hr : (Region.ready md ops listed).contains i = true)
    (hQ : ∀ c a w v, Q (.panic c) (a.put o.dst v) w → Q (.panic c) a w) (hw : Region.wanted o (yielded ops a.tmps) = true) (ty : TypeId) (x lo up : Operand) (ho : o.op = .slice ty x (some lo) (some up) none) (A : Option Addr) (n c : Nat) (hx : a.eval x = .slice A n c) (li ki : Int) (hlo : a.eval lo = .int .i64 li) (hup : a.eval up = .int .i64 ki) (v : Value)
    (hrun : ∀ w, (Instr.sliceAt ty (.slice A n c) (some (.int .i64 li)) (some (.int .i64 ki)) none).run P w = .ok v w)
    (hH : S w) (h : wpAnyH P md ops Q S fuel (listed.setIfInBounds i true) (a.put o.dst v) w) : wpAnyH P md ops Q S (fuel + 1) listed a w :=
  takeH_S hi hs hf hr hQ hw v (fun w _ => by
    unfold execOp
    simp only [ho, hx, hlo, hup, Option.map_some, Option.map_none, Sem.run_bind, hrun, Result.andThen_ok, Sem.run_pure]) hH h
theorem expL_seg (k l : List Nat) {n i : Nat} (hi : i < n) : ((expL k l n).drop (32 * i)).take 32 = expB k l (i + 1) := by
  have h := expL_take k l (macL_len k) (i + 1) (n - (i + 1))
  rw [show i + 1 + (n - (i + 1)) = n by omega] at h
  rw [List.take_drop, show 32 * i + 32 = 32 * (i + 1) by omega, h, expL, List.drop_left' (expL_len k l i)]
theorem strCells_bv {l : List Nat} (hl : Byt l) : Lib.strCells (bstr l) = bv l := by
  unfold Lib.strCells bstr bv
  simp only [List.map_map, Array.toList_map]
  refine List.map_congr_left (fun x hx => ?_)
  have := hl x hx
  simp
  omega

set_option maxRecDepth 100000 in
set_option maxHeartbeats 4000000 in
theorem core (A : Option Addr) (n c b : Nat) (k l : List Nat) (W : World) (hs : Sl W (.slice A n c) (bv k)) (bk : Byt k) (bl : Byt l) (hn : n = k.length) (hkn : (n : Int) ≤ 140737488351232) (hln : (l.length : Int) ≤ 140737488351232) (hb : (b : Int) ≤ 255) :
    Calls Try.prog 7 #[.slice A n c, .string (bstr l), .int .u8 (b : Int)] W fun e w' => e = .returned (.bool true) ∧ Below W.heap.size W w' := by
  have hal := Lib.hid (fun w => alive_any w)
  have hsz := bstr_size l
  by_cases hbig : (500 : Int) < (n : Int) + (l.length : Int)
  · go_enter Try.func7, Try.ntmps7
    go_wp2_with fail
    refine (hal.out _).mono ?_
    rintro e w1 ⟨rfl, hB1⟩
    go_wp2
    go_ret
    exact ⟨rfl, hB1⟩
  · obtain ⟨q, hq⟩ : ∃ q, q = b % 6 + 1 := ⟨_, rfl⟩
    have hq1 : (b : Int) % 6 = (q : Int) - 1 := by omega
    have hq6 : (q : Int) ≤ 6 := by omega
    have hq0 : (1 : Int) ≤ (q : Int) := by omega
    have hexp : Hid (∀ w, Sl w (.slice A n c) (bv k) → Calls Try.prog 15 #[.slice A n c, .string (bstr l), .int .i64 (32 * (q : Int))] w fun e w' => ∃ v, e = .returned (.tuple #[v, .int .i64 0]) ∧ Sl w' v (bv (expL k l q)) ∧ Below w.heap.size w w') := fun w h => by
      have h := expand_any _ (32 * q) k l w h bk (by omega) bl (by omega) (by omega)
      unfold RetX at h
      rw [show (32 * q + 31) / 32 = q by omega, List.take_of_length_le (Nat.le_of_eq (expL_len k l q))] at h
      rw [show ((32 * q : Nat) : Int) = 32 * (q : Int) by omega] at h
      exact h
    have hmac := Lib.hid (fun msg v2 w (h : Sl w (.slice A n c) (bv k)) h2 bm hl => mac_any _ v2 k msg w h h2 bk bm (by omega) hl)
    have hstep : Hid (∀ j, j < 6 → macL k (expB k l j ++ l ++ [j + 1]) = expB k l (j + 1)) := fun j hj => by
      rw [expB, Nat.mod_eq_of_lt (show j + 1 < 256 by omega)]
    have hBb : Hid (∀ j, Byt (expB k l j)) := fun j => expB_byt j
    have hBl : Hid (∀ j, (expB k l j).length ≤ 32 ∧ (expB k l (j + 1)).length = 32) := fun j => ⟨by rw [expB_len]; split <;> omega, macL_len _ _⟩
    have hLl := Lib.hid (expL_len k l q)
    have hseg := Lib.hid (fun j (hj : j < q) => expL_seg k l hj)
    have hB0 : Hid (expB k l 0 = []) := rfl
    have hscv := Lib.hid (strCells_bv bl)
    replace hs := Lib.hid hs
    have Bl := Lib.hid bl
    obtain ⟨i0, hi, hz0, hz1, hz2⟩ := info_parts (P := Try.prog) (e := 5) (z := .int .u8 0) (size := 1) (bytes := 1) (by kernel_rfl)
    clear bk bl hq hn
    go_enter Try.func7, Try.ntmps7
    go_wp2_with fail
    refine (hal.out _).mono ?_
    rintro e w1 ⟨rfl, hB1⟩
    have hx1 := Lib.hid (hexp.out w1 (hs.out.keep hB1))
    go_wp2_with fail
    refine hx1.out.mono ?_
    rintro e w2 ⟨v2, rfl, sl2, hB2⟩
    obtain ⟨Aa, ca, hv, -⟩ := id sl2
    rw [bv_length, hLl.out] at hv
    subst hv
    have hB2' := below_call hB1 hB1.size hB2
    have Sl2 := Lib.hid sl2
    clear hB1 hB2 hx1 hexp hal sl2 hq1
    go_wp2
    go_loopw [10, 43] (fun last i wr => ∃ j : Nat, (j : Int) ≤ q ∧ i = .int .i64 (j : Int) ∧ Sl wr last (bv (expB k l j)) ∧ Below w2.heap.size w2 wr) (fun _ i _ => q - (intOf i).toNat)
    case atStart => exact ⟨0, by omega, rfl, by rw [hB0.out]; exact Sl.nil_ _, Below.refl _ _⟩
    case round =>
      obtain ⟨j, hj, rfl, hsl, hB⟩ := hrel
      obtain ⟨Al, cl, rfl, -⟩ := id hsl
      obtain ⟨nl, hnl⟩ : ∃ nl, Hid (nl = (expB k l j).length) := ⟨_, rfl⟩
      rw [bv_length, ← hnl.out] at hsl ⊢
      by_cases hlt : (j : Int) < q
      · have own0 : (wr.alloc (.cells #[] 5)).ownsRow wr.heap.size 5 1 (.slice (some ⟨wr.heap.size, 0, none⟩) 0 0) 0 [] := World.ownsRow_made wr #[] 0 (Nat.le_refl _) (Nat.zero_le _) rfl
        have bel0 : Below wr.heap.size wr (wr.alloc (.cells #[] 5)) := (Below.refl _ _).alloc (Nat.le_refl _) _
        have sl1 := hsl.keep bel0
        have hb32 := (hBl.out j).1
        go_wp2_with (at_builtin; refine wpList_append_sl rfl (.tmp 47) (.tmp 48) 22 rfl wr.heap.size 5 i0 (.int .u8 0) 1 Try.underlying22 hi hz0 hz1 hz2 rfl _ 0 [] rfl own0 _ (bv (expB k l j)) rfl sl1 (bv_oneCell _) ?_ ?_ ?_ ?_)
        · simp [maxLen]; omega
        · simp; omega
        · simp
        intro v3 w3 own3 gr3
        have bel3 := own_below bel0 gr3 own0 (by simp)
        have own3' : w3.ownsRow wr.heap.size 5 1 v3 (expB k l j).length (bv (expB k l j)) := by simpa using own3
        clear own3 gr3 own0 bel0 sl1
        obtain ⟨v4, w4, hr4, own4, gr4, -⟩ := Lib.run_append_own_string (P := Try.prog) w3 wr.heap.size 22 9 22 5 i0 Try.underlying22 Try.underlying9 hi hz0 hz1 hz2 v3 (expB k l j).length (bv (expB k l j)) own3' (bstr l) (by rw [hsz]; simp [maxLen]; omega) (by rw [hsz]; omega) bel3.size
        have bel4 := own_below bel3 gr4 own3' bel3.size
        have own4' : w4.ownsRow wr.heap.size 5 1 v4 (expB k l j ++ l).length (bv (expB k l j ++ l)) := by
          rw [hscv.out, ← bv_app, hsz, ← List.length_append] at own4
          exact own4
        clear own4 gr4 own3' bel3
        have qb : IntKind.u8.wrap ((j : Int) + 1) = (j : Int) + 1 := by rw [IntKind.wrap_u8]; omega
        have sl5 : Sl (w4.alloc (.cells #[.int .u8 ((j : Int) + 1)] 5)) (.slice (some ⟨w4.heap.size, 0, none⟩) 1 1) (bv [j + 1]) := Sl.of_blk (n := 1) (c := 1) (Blk.new_at (w := w4) (t := 5) (cs := #[.int .u8 ((j : Int) + 1)]) rfl rfl) (Nat.le_refl _) (by simp) (by unfold maxLen; omega)
        go_wp2_with (first
          | (at_builtin; refine Lib.wpList_append_run _ rfl _ _ _ _ rfl _ _ rfl rfl _ _ hr4 ?_)
          | (at_builtin; refine wpList_append_sl rfl (.tmp 51) (.tmp 55) 22 rfl wr.heap.size 5 i0 (.int .u8 0) 1 Try.underlying22 hi hz0 hz1 hz2 rfl _ _ _ rfl (own4'.alloc _) _ (bv [j + 1]) rfl sl5 (bv_oneCell _) ?_ ?_ ?_ ?_))
        · simp [maxLen]; omega
        · simp; omega
        · have := bel4.size; simp; omega
        intro v6 w6 own6 gr6
        have bel6 : Below wr.heap.size wr w6 := own_below (bel4.alloc bel4.size (.cells #[.int .u8 ((j : Int) + 1)] 5)) gr6 (own4'.alloc _) (by have := bel4.size; simp; omega)
        rw [← bv_app] at own6
        have sl6 := Sl.of_own own6
        have hW6 := below_call hB2' hB2'.size (below_call hB hB.size bel6)
        have hm6 := Lib.hid (hmac.out _ v6 w6 (hs.out.keep hW6) sl6 (by
          intro x hx
          rcases List.mem_append.1 hx with hx | hx
          · exact (List.mem_append.1 hx).elim (hBb.out j x) (Bl.out x)
          · simp only [List.mem_cons, List.not_mem_nil, or_false] at hx; omega) (by simp; omega))
        rw [hstep.out j (by omega)] at hm6
        have hXl := Lib.hid (show (bv (expB k l (j + 1))).length = 32 by rw [bv_length]; exact (hBl.out j).2)
        clear own6 gr6 own4' bel4 sl6 sl5 qb hW6 hr4
        go_wp2_with fail
        refine hm6.out.mono ?_
        rintro e w7 ⟨rfl, hB7⟩
        have hb7 := below_call hB hB.size (below_call bel6 bel6.size hB7)
        clear hB7 bel6 hm6 hB hsl
        go_wp2_with (refine wpList_allocA rfl 25 rfl (bv (zeros 32)) (by kernel_rfl) ?_)
        intro w8 h8 hK8 hz8
        have hb8 := hb7.trans (hK8.below hb7.size (by simp))
        have hg12 := hb7.size
        clear hK8 hb7 hz8
        generalize w7.heap.size = g12 at *
        go_wp2_with (refine wpList_storeW rfl 25 (.tmp 12) (.tmp 57) rfl 32 arrH g12 rfl (bv (expB k l (j + 1))) rfl 25 _ h8 hXl.out (by simp) (ones_bv _) ?_)
        intro w9 h9 hK9
        have hb9 := hb8.trans (hK9.below hb8.size (by simp; omega))
        have sl12 : Hid (Sl w9 (.slice (some ⟨g12, 0, none⟩) 32 32) (bv (expB k l (j + 1)))) := by
          have h := Sl.of_blk h9 (show 32 ≤ 32 from Nat.le_refl _) (Nat.le_of_eq hXl.out.symm) (by unfold maxLen; omega)
          rw [List.take_of_length_le (Nat.le_of_eq hXl.out)] at h
          exact h
        have slp : Hid (Sl w9 (sliced Aa (32 * j) (32 * j + 32) ca 1) (bv (expB k l (j + 1)))) := by
          have h := (sl_sliced (Sl2.out.keep hb9) (by rw [bv_length, hLl.out]) (show 32 * j ≤ 32 * j + 32 by omega) (show 32 * j + 32 ≤ 32 * q by omega)).1
          rw [show 32 * j + 32 - 32 * j = 32 by omega, bv_seg, hseg.out j (by omega)] at h
          exact h
        have hslr := Lib.hid (fun w => sliceAt_lh Aa (32 * q) ca (32 * j) (32 * j + 32) (32 * (j : Int)) (32 * (j : Int) + 32) (by omega) (by omega) (by omega) (by have := Sl2.out.cap; omega) w)
        obtain ⟨Ap, cp, eS⟩ : ∃ (Ap : Option Addr) (cp : Nat), sliced Aa (32 * j) (32 * j + 32) ca 1 = .slice Ap 32 cp := by
          unfold sliced
          rw [show 32 * j + 32 - 32 * j = 32 by omega]
          exact ⟨_, _, rfl⟩
        rw [eS] at slp hslr
        clear eS
        have r1 := Lib.hid (show IntKind.i64.wrap (32 * (j : Int)) = 32 * (j : Int) from IntWalk.i64_in _ (by omega))
        have r2 := Lib.hid (show IntKind.i64.wrap (32 * (j : Int) + 32) = 32 * (j : Int) + 32 from IntWalk.i64_in _ (by omega))
        clear hK9 h8 hb8 h9
        go_wp2
        refine wp_region_held_drew (S := fun w' => Below w9.heap.size w9 w') (by kernel_rfl) ((Below.refl _ _).drew) (fun hH => ?_)
        refine takeH_S (o := ⟨some 58, _, _, _, _, _⟩) (i := 0) rfl (by kernel_rfl) (by kernel_rfl) (by kernel_rfl) (fun _ _ _ _ h => h) rfl (.slice (some ⟨g12, 0, none⟩) 32 32) (fun w _ => by go_simp) hH ?_
        simp only [Act.put, List.setIfInBounds_toArray, List.set_cons_zero, List.set_cons_succ, Nat.zero_add, decide_true, beq_self_eq_true]
        refine takeH_move (o := ⟨some 59, _, _, _, _, _⟩) (i := 1) rfl (by kernel_rfl) (by kernel_rfl) (by kernel_rfl) (fun _ _ _ _ h => h) rfl (.tmp 8) rfl (.slice Aa (32 * q) ca) rfl hH ?_
        simp only [Act.put, List.setIfInBounds_toArray, List.set_cons_zero, List.set_cons_succ, Nat.zero_add, decide_true, beq_self_eq_true]
        refine takeH_move (o := ⟨some 60, _, _, _, _, _⟩) (i := 2) rfl (by kernel_rfl) (by kernel_rfl) (by kernel_rfl) (fun _ _ _ _ h => h) rfl (.tmp 11) rfl (.int .i64 (j : Int)) rfl hH ?_
        simp only [Act.put, List.setIfInBounds_toArray, List.set_cons_zero, List.set_cons_succ, Nat.zero_add, decide_true, beq_self_eq_true]
        refine takeH_S (o := ⟨some 61, _, _, _, _, _⟩) (i := 3) rfl (by kernel_rfl) (by kernel_rfl) (by kernel_rfl) (fun _ _ _ _ h => h) rfl (.int .i64 (32 * (j : Int))) (fun w _ => by go_simp; exact r1.out) hH ?_
        simp only [Act.put, List.setIfInBounds_toArray, List.set_cons_zero, List.set_cons_succ, Nat.zero_add, decide_true, beq_self_eq_true]
        refine takeH_move (o := ⟨some 62, _, _, _, _, _⟩) (i := 4) rfl (by kernel_rfl) (by kernel_rfl) (by kernel_rfl) (fun _ _ _ _ h => h) rfl (.tmp 11) rfl (.int .i64 (j : Int)) rfl hH ?_
        simp only [Act.put, List.setIfInBounds_toArray, List.set_cons_zero, List.set_cons_succ, Nat.zero_add, decide_true, beq_self_eq_true]
        refine takeH_S (o := ⟨some 63, _, _, _, _, _⟩) (i := 5) rfl (by kernel_rfl) (by kernel_rfl) (by kernel_rfl) (fun _ _ _ _ h => h) rfl (.int .i64 (32 * (j : Int))) (fun w _ => by go_simp; exact r1.out) hH ?_
        simp only [Act.put, List.setIfInBounds_toArray, List.set_cons_zero, List.set_cons_succ, Nat.zero_add, decide_true, beq_self_eq_true]
        refine takeH_S (o := ⟨some 64, _, _, _, _, _⟩) (i := 6) rfl (by kernel_rfl) (by kernel_rfl) (by kernel_rfl) (fun _ _ _ _ h => h) rfl (.int .i64 (32 * (j : Int) + 32)) (fun w _ => by go_simp; exact r2.out) hH ?_
        simp only [Act.put, List.setIfInBounds_toArray, List.set_cons_zero, List.set_cons_succ, Nat.zero_add, decide_true, beq_self_eq_true]
        refine takeH_sliceLH (o := ⟨some 65, _, _, _, _, _⟩) (i := 7) rfl (by kernel_rfl) (by kernel_rfl) (by kernel_rfl) (fun _ _ _ _ h => h) rfl 22 (.tmp 59) (.tmp 61) (.tmp 64) rfl Aa (32 * q) ca rfl (32 * (j : Int)) (32 * (j : Int) + 32) rfl rfl (.slice Ap 32 cp) hslr.out hH ?_
        simp only [Act.put, List.setIfInBounds_toArray, List.set_cons_zero, List.set_cons_succ, Nat.zero_add, decide_true, beq_self_eq_true]
        refine wpAnyH_ready (rs := [8]) (by kernel_rfl) (by simp) ?_
        refine AllReadyH.cons rfl (fun K1 hK1 => ?_) AllReadyH.nil
        rw [if_pos (by rfl)]
        go_wp2_with fail
        refine (same_any _ _ (expB k l (j + 1)) (expB k l (j + 1)) _ (sl12.out.keep hH) (slp.out.keep hH) (hBb.out _) (hBb.out _)).mono ?_
        rw [decide_eq_true rfl]
        rintro e wa ⟨rfl, rfl⟩
        refine hK1.out _ _ hH (fun hH => ?_)
        clear hK1 K1
        refine takeH_S (o := ⟨some 67, _, _, _, _, _⟩) (i := 9) rfl (by kernel_rfl) (by kernel_rfl) (by kernel_rfl) (fun _ _ _ _ h => h) rfl (.bool false) (fun w _ => by go_simp) hH ?_
        simp only [Act.put, List.setIfInBounds_toArray, List.set_cons_zero, List.set_cons_succ, Nat.zero_add, decide_true, beq_self_eq_true]
        refine wpAnyH_done (by kernel_rfl) ?_ _
        have sl13 := Lib.hid (sl12.out.keep hH)
        have hb13 := below_call hb9 hb9.size hH
        clear hH hb9 sl12 slp hslr r1 r2
        go_wp2
        go_roundw
        case rel => exact ⟨j + 1, by omega, by go_num, sl13.out, hb13⟩
        case measure => simp [intOf]; omega
      · go_wp2
        go_ret
        exact ⟨rfl, below_call hB2' hB2'.size hB⟩
theorem walk (v0 : Value) (l0 : List Nat) (b0 : Byt l0) (m0 : l0.length ≤ 140737488351232) (v1 : Value) (l1 : List Nat) (e1 : v1 = .string (bstr l1)) (b1 : Byt l1) (m1 : l1.length ≤ 140737488351232) (a : Int) (ha0 : 0 ≤ a) (ha : a ≤ 255) (W : World) (s0 : Sl W v0 (bv l0)) :
    Calls Try.prog 7 #[v0, v1, .int .u8 a] W fun e w' => e = .returned (.bool true) ∧ Below W.heap.size W w' := by
  obtain ⟨A1, c1, h1, -⟩ := id s0
  subst h1 e1
  obtain ⟨a, rfl⟩ := Int.eq_ofNat_of_zero_le ha0
  exact core A1 _ c1 a l0 l1 W s0 b0 b1 (by simp) (by simp; omega) (by omega) ha
end Go.Proofs.Ythlebobfbalknaa.w_MacChains
