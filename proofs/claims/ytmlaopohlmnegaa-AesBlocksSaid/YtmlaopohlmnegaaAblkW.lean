/- The law AesBlocks: the walk. -/
import Derived.Test.YtmlaopohlmnegaaRefN
import Derived.Test.YtmlaopohlmnegaaAesL
import Derived.Test.YtmlaopohlmnegaaOpenB
import Derived.Test.YtmlaopohlmnegaaRegB
set_option linter.unusedVariables false
set_option linter.unusedSimpArgs false
namespace Go.Proofs.Ytmlaopohlmnegaa
open Go.RowKit
open Go.Proofs.PlainAes
theorem arr32b : ArrTy Try.prog 26 32 := ⟨_, Try.underlying26, rfl, by kernel_rfl⟩
theorem arrB16b : ByteArr Try.prog 27 16 := ⟨⟨_, Try.underlying27, Try.underlying5, by kernel_rfl⟩, by kernel_rfl⟩
section
variable {P : Program} {ops : Array Oper} {rest : List Oper} {o : Oper} {a : Act} {w : World} {Q : Exit → Act → World → Prop} {S : World → Prop} {md : Region.Mode}
theorem takeH_neqB {i : Nat} {fuel : Nat} {listed : Array Bool} (hi : ops[i]? = some o) (hs : Region.noSelect ops = true) (hf : Region.free md ops listed i = true) (hr : (Region.ready md ops listed).contains i = true)
    (hQ : ∀ c a w v, Q (.panic c) (a.put o.dst v) w → Q (.panic c) a w) (hw : Region.wanted o (yielded ops a.tmps) = true) (t : TypeId) (x y : Operand) (u : Nat) (ho : o.op = .binOp .neq t x y u) (n : Nat) (hB : ByteArr P t n) (l m : List Nat) (hx : a.eval x = .agg (bv l).toArray) (hy : a.eval y = .agg (bv m).toArray) (hl : l.length = n) (hm : m.length = n)
    (hH : S w) (h : wpAnyH P md ops Q S fuel (listed.setIfInBounds i true) (a.put o.dst (.bool (!decide (l = m)))) w) : wpAnyH P md ops Q S (fuel + 1) listed a w :=
  wpAnyH_take hi hs hf hr (fun c a w => hQ c a w _) (.inl ⟨hw, fun w _ => by
    obtain ⟨⟨e, hu, he, hs⟩, hg⟩ := hB
    unfold execOp
    simp only [ho, hx, hy, Sem.run_bind, run_eqGuard_agg w _ t x y _ _ hg, run_neq_bytes hu he hs hl hm, Result.andThen_ok, Sem.run_pure]⟩) hH h
end
/-- What lies there while the law looks. -/
structure Ab (w : World) (gt gx : Nat) (k b K : List Nat) (wr : World) : Prop where
  fk : Blk wr w.heap.size 26 (bv k)
  fb : Blk wr (w.heap.size + 1) 27 (bv b)
  ft : Blk wr gt 34 (bv (tbl box))
  fx : Blk wr gx 36 (bv K)
  below : Below w.heap.size w wr
  o1 : w.heap.size + 1 < gt
  o2 : gt < gx
section
variable {w wr wr' : World} {k b K : List Nat} {gt gx g : Nat}
theorem Ab.call (h : Ab w gt gx k b K wr) (hB : Below wr.heap.size wr wr') : Ab w gt gx k b K wr' := ⟨h.fk.keep hB, h.fb.keep hB, h.ft.keep hB, h.fx.keep hB, below_call h.below h.below.size hB, h.o1, h.o2⟩
theorem Ab.keeps0 (h : Ab w gt gx k b K wr) (hB : Keeps [] wr wr') : Ab w gt gx k b K wr' := h.call (hB.below (Nat.le_refl _) (by simp))
theorem Ab.keeps (h : Ab w gt gx k b K wr) (hk : Keeps [g] wr wr') (hg : gx < g) : Ab w gt gx k b K wr' := by
  have h1 := h.o1
  have h2 := h.o2
  exact ⟨h.fk.keeps hk (by simp; omega), h.fb.keeps hk (by simp; omega), h.ft.keeps hk (by simp; omega), h.fx.keeps hk (by simp; omega), h.below.trans (hk.below h.below.size (by simp; omega)), h1, h2⟩
theorem Ab.drew (h : Ab w gt gx k b K wr) : Ab w gt gx k b K wr.drew := ⟨h.fk, h.fb, h.ft, h.fx, h.below.drew, h.o1, h.o2⟩
theorem Ab.S (h : Ab w gt gx k b K wr) : wr.rangeAt w.heap.size 0 (bv k) ∧ wr.rangeAt (w.heap.size + 1) 0 (bv b) ∧ wr.rangeAt gt 0 (bv (tbl box)) := by
  refine ⟨?_, ?_, ?_⟩
  · have := h.fk.range 0 (bv k).length
    rwa [List.drop_zero, List.take_length] at this
  · have := h.fb.range 0 (bv b).length
    rwa [List.drop_zero, List.take_length] at this
  · have := h.ft.range 0 (bv (tbl box)).length
    rwa [List.drop_zero, List.take_length] at this
end
namespace w_AesBlocks
set_option maxRecDepth 100000 in
set_option maxHeartbeats 4000000 in
theorem walk (k : List Nat) (hk : k.length = 32) (bk : Byt k) (b : List Nat) (hb : b.length = 16) (bb : Byt b) (w : World) :
    Calls Try.prog 8 #[.agg (bv k).toArray, .agg (bv b).toArray] w fun e w' => e = .returned (.bool true) ∧ Below w.heap.size w w' := by
  have hal := Lib.hid (fun w => alive_any w)
  have htb : Hid (∀ w, Calls Try.prog 18 #[] w (RetA (tbl box) w)) := fun w => rtable_any w
  have har := Lib.hid (fun w => rounds_any k w hk bk)
  have hrr := Lib.hid (fun w => rrounds_any k w hk bk)
  have hsX := Lib.hid (fun w => seal_any k b w hk bk hb bb)
  have hrX := Lib.hid (fun w => rseal_any k b w hk bk hb bb)
  have hoX := Lib.hid (fun w => open_any k b w hk bk hb bb)
  have hqX := Lib.hid (fun w => ropen_any k b w hk bk hb bb)
  have Kl := keys_length box hk
  have HX := Lib.hid (sealB_length (t := box) Kl hb)
  have HY := Lib.hid (openB_length (u := unbox) Kl hb)
  have hKn := Lib.hid Kl
  have hkl := Lib.hid (show (bv k).length = 32 by simp [hk])
  have hbl := Lib.hid (show (bv b).length = 16 by simp [hb])
  have hKl := Lib.hid (show (bv (keys box k)).length = 240 by simp [Kl])
  generalize sealB box (keys box k) b = X at *
  generalize openB unbox (keys box k) b = Y at *
  generalize keys box k = K at *
  clear hk bk hb bb Kl
  go_enter Try.func8, Try.ntmps8
  have h0 := ((Blk.new_at (w := w) (t := 26) (cs := (bv k).toArray) rfl rfl).alloc (.cells (bv b).toArray 27))
  have h1 := (Blk.new_at (w := w.alloc (.cells (bv k).toArray 26)) (n := w.heap.size + 1) (t := 27) (cs := (bv b).toArray) (by simp) rfl)
  have hB : Below w.heap.size w ((w.alloc (.cells (bv k).toArray 26)).alloc (.cells (bv b).toArray 27)) := ((Below.refl _ _).alloc (Nat.le_refl _) _).alloc (by simp) _
  replace h0 := Lib.hid h0
  replace h1 := Lib.hid h1
  replace hB := Lib.hid hB
  go_wp2_with (first
    | (go_at_call 10; refine (hal.out _).mono ?_; rintro e wa ⟨rfl, hB1⟩)
    | (go_at_call 18; refine (htb.out _).mono ?_; rintro e wb ⟨rfl, hB2⟩)
    | refine wpList_allocA rfl 34 rfl (bv (zeros 256)) (by kernel_rfl) ?_)
  intro w3 h3 hK3 hz3
  have ho1 : Hid (w.heap.size + 1 < wb.heap.size) := by show _ < _; have := h1.out.lt; have := hB1.size; have := hB2.size; omega
  replace h0 := ((h0.out.keep hB1).keep hB2).keeps hK3 (by simp)
  replace h1 := ((h1.out.keep hB1).keep hB2).keeps hK3 (by simp)
  replace hB := (below_call (below_call hB.out hB.out.size hB1) (below_call hB.out hB.out.size hB1).size hB2).trans (hK3.below (below_call (below_call hB.out hB.out.size hB1) (below_call hB.out hB.out.size hB1).size hB2).size (by simp))
  clear hK3 hB1 hB2 hz3
  generalize wb.heap.size = gt at *
  go_wp2_with (refine wpList_storeW rfl 34 (.tmp 5) (.tmp 11) rfl 256 arrT256 gt rfl (bv (tbl box)) rfl 34 _ h3 (tbl_len _) (by simp) (ones_bv _) ?_)
  intro w4 h4 hK4
  replace h0 := h0.keeps hK4 (by simp; have := ho1.out; omega)
  replace h1 := h1.keeps hK4 (by simp; have := ho1.out; omega)
  replace hB := hB.trans (hK4.below hB.size (by simp; have := ho1.out; omega))
  clear hK4 h3
  go_wp2_with (first
    | refine wpList_loadW rfl 26 (.tmp 2) rfl 32 arr32b _ rfl 26 _ h0 hkl.out ?_
    | (go_at_call 19; refine (har.out _).mono ?_; rintro e wc ⟨rfl, hB3⟩)
    | refine wpList_allocA rfl 36 rfl (bv (zeros 240)) (by kernel_rfl) ?_)
  intro w5 h5 hK5 hz5
  have ho2 : Hid (gt < wc.heap.size) := by show _ < _; have := h4.lt; have := hB3.size; omega
  replace h0 := (h0.keep hB3).keeps hK5 (by simp)
  replace h1 := (h1.keep hB3).keeps hK5 (by simp)
  replace h4 := (h4.keep hB3).keeps hK5 (by simp)
  replace hB := (below_call hB hB.size hB3).trans (hK5.below (below_call hB hB.size hB3).size (by simp))
  clear hK5 hB3 hz5
  generalize wc.heap.size = gx at *
  go_wp2_with (refine wpList_storeW rfl 36 (.tmp 6) (.tmp 13) rfl 240 arrR gx rfl (bv K) rfl 36 _ h5 hKl.out (by simp) (ones_bv _) ?_)
  intro w6 h6 hK6
  have hE : Ab w gt gx k b K w6 :=
    ⟨h0.keeps hK6 (by simp; have := ho1.out; have := ho2.out; omega), h1.keeps hK6 (by simp; have := ho1.out; have := ho2.out; omega), h4.keeps hK6 (by simp; have := ho2.out; omega), h6, hB.trans (hK6.below hB.size (by simp; have := ho1.out; have := ho2.out; omega)), ho1.out, ho2.out⟩
  clear h0 h1 h4 h5 h6 hB hK6 ho1 ho2
  have sk := hE.fk
  have st := hE.ft
  go_wp2_with (first
    | refine wpList_loadW rfl 34 (.tmp 5) rfl 256 arrT256 _ rfl 34 _ st (tbl_len _) ?_
    | refine wpList_loadW rfl 26 (.tmp 2) rfl 32 arr32b _ rfl 26 _ sk hkl.out ?_
    | (go_at_call 20; refine (hrr.out _).mono ?_; rintro e wd ⟨rfl, hB4⟩))
  have hE2 := hE.call hB4
  clear sk st hE hB4
  go_loopw [17] (fun i wr => ∃ n : Nat, (n : Int) ≤ 15 ∧ i = .int .i64 (n : Int) ∧ Ab w gt gx k b K wr) (fun i _ => 15 - (intOf i).toNat)
  case atStart => exact ⟨0, by omega, rfl, hE2⟩
  case round =>
    clear hE2
    obtain ⟨n, hn, rfl, hE⟩ := hrel
    by_cases hlt : (n : Int) < 15
    · have EL : Hid (((bv K).drop (n * 16)).take 16 = bv (rkey K n)) := by show _ = _; rw [bv_seg, Nat.mul_comm]; rfl
      have rl := Lib.hid (rkey_length hKn.out (n := n) (by omega))
      have hrb := Lib.hid (show (bv (rkey K n)).length = 16 by rw [bv_length]; exact rl.out)
      have hgo := Lib.hid (show gx < wr.heap.size from hE.fx.lt)
      go_wp2_with (first
        | refine wpList_indexA rfl 38 (.tmp 16) (.tmp 17) rfl 15 27 16 Try.underlying38 arrR16 (bv K) rfl n rfl (by omega) _ EL.out ?_
        | refine wpList_allocA rfl 27 rfl (bv (zeros 16)) (by kernel_rfl) ?_)
      intro w7 h7 hK7 hz7
      have hE1 := hE.keeps0 hK7
      clear hK7 hz7 hE
      generalize wr.heap.size = gy at *
      go_wp2_with (refine wpList_storeW rfl 27 (.tmp 8) (.tmp 20) rfl 16 arrR16 gy rfl (bv (rkey K n)) rfl 27 _ h7 hrb.out (by simp) (ones_bv _) ?_)
      intro w8 h8 hK8
      have hE3 := Lib.hid (hE1.keeps hK8 hgo.out)
      replace h8 := Lib.hid h8
      clear hK8 h7 hE1
      go_upto_region 8 with fail
      have hn15 := Lib.hid (show n < 15 by omega)
      have rxk : w8.drew.rangeAt gx (n * 16) (bv (rkey K n)) := by
        have := hE3.out.drew.fx.range (n * 16) 16
        rwa [EL.out] at this
      have ryk : w8.drew.rangeAt gy 0 (bv (rkey K n)) := by
        have := h8.out.drew.range 0 (bv (rkey K n)).length
        rwa [List.drop_zero, List.take_length] at this
      refine wp_region_held_drew (S := fun w' => w'.rangeAt gx (n * 16) (bv (rkey K n)) ∧ w'.rangeAt gy 0 (bv (rkey K n))) (by kernel_rfl) ⟨rxk, ryk⟩ (fun hH => ?_)
      clear rxk ryk
      refine takeH_move (o := ⟨some 21, _, _, _, _, _⟩) (i := 0) rfl (by kernel_rfl) (by kernel_rfl) (by kernel_rfl) (fun _ _ _ _ h => h) rfl (.tmp 7) rfl (.int .i64 (n : Int)) rfl hH ?_
      simp only [Act.put, List.setIfInBounds_toArray, List.set_cons_zero, List.set_cons_succ, Nat.zero_add, decide_true, beq_self_eq_true]
      refine takeH_index (o := ⟨some 22, _, _, _, _, _⟩) (i := 1) rfl (by kernel_rfl) (by kernel_rfl) (by kernel_rfl) (fun _ _ _ _ h => h) rfl 36 (.tmp 6) (.tmp 21) rfl 15 28 16 Try.underlying36 (by kernel_rfl) gx 0 rfl n rfl hn15.out hH ?_
      simp only [Act.put, List.setIfInBounds_toArray, List.set_cons_zero, List.set_cons_succ, Nat.zero_add, decide_true, beq_self_eq_true]
      refine takeH_load (o := ⟨some 23, _, _, _, _, _⟩) (i := 2) rfl (by kernel_rfl) (by kernel_rfl) (by kernel_rfl) (fun _ _ _ _ h => h) rfl 28 (.tmp 22) rfl 16 arrB _ _ rfl (bv (rkey K n)) hrb.out (fun w h => h.1) hH ?_
      simp only [Act.put, List.setIfInBounds_toArray, List.set_cons_zero, List.set_cons_succ, Nat.zero_add, decide_true, beq_self_eq_true]
      refine takeH_load (o := ⟨some 24, _, _, _, _, _⟩) (i := 3) rfl (by kernel_rfl) (by kernel_rfl) (by kernel_rfl) (fun _ _ _ _ h => h) rfl 27 (.tmp 8) rfl 16 arrR16 _ _ rfl (bv (rkey K n)) hrb.out (fun w h => h.2) hH ?_
      simp only [Act.put, List.setIfInBounds_toArray, List.set_cons_zero, List.set_cons_succ, Nat.zero_add, decide_true, beq_self_eq_true]
      refine takeH_neqB (o := ⟨some 25, _, _, _, _, _⟩) (i := 4) rfl (by kernel_rfl) (by kernel_rfl) (by kernel_rfl) (fun _ _ _ _ h => h) rfl 27 (.tmp 23) (.tmp 24) 27 rfl 16 arrB16b (rkey K n) (rkey K n) rfl rfl rl.out rl.out hH ?_
      simp only [Act.put, List.setIfInBounds_toArray, List.set_cons_zero, List.set_cons_succ, Nat.zero_add, decide_true, beq_self_eq_true, Bool.not_true]
      refine wpAnyH_done (by kernel_rfl) ?_ _
      go_wp2
      go_roundw
      case rel => exact ⟨n + 1, by omega, by go_num, hE3.out.drew⟩
      case measure => simp [intOf]; omega
    · obtain rfl : n = 15 := by omega
      have hE0 := Lib.hid hE.drew
      clear hE
      go_wp2_with fail
      refine wp_region_held_drew (S := fun w' => w'.rangeAt w.heap.size 0 (bv k) ∧ w'.rangeAt (w.heap.size + 1) 0 (bv b) ∧ w'.rangeAt gt 0 (bv (tbl box))) (by kernel_rfl) (Ab.S hE0.out) (fun hH => ?_)
      refine takeH_load (o := ⟨some 27, _, _, _, _, _⟩) (i := 0) rfl (by kernel_rfl) (by kernel_rfl) (by kernel_rfl) (fun _ _ _ _ h => h) rfl 26 (.tmp 2) rfl 32 arr32b _ _ rfl (bv k) hkl.out (fun w h => h.1) hH ?_
      simp only [Act.put, List.setIfInBounds_toArray, List.set_cons_zero, List.set_cons_succ, Nat.zero_add, decide_true, beq_self_eq_true]
      refine takeH_load (o := ⟨some 28, _, _, _, _, _⟩) (i := 1) rfl (by kernel_rfl) (by kernel_rfl) (by kernel_rfl) (fun _ _ _ _ h => h) rfl 27 (.tmp 3) rfl 16 arrR16 _ _ rfl (bv b) hbl.out (fun w h => h.2.1) hH ?_
      simp only [Act.put, List.setIfInBounds_toArray, List.set_cons_zero, List.set_cons_succ, Nat.zero_add, decide_true, beq_self_eq_true]
      refine takeH_load (o := ⟨some 30, _, _, _, _, _⟩) (i := 3) rfl (by kernel_rfl) (by kernel_rfl) (by kernel_rfl) (fun _ _ _ _ h => h) rfl 34 (.tmp 5) rfl 256 arrT256 _ _ rfl (bv (tbl box)) (tbl_len _) (fun w h => h.2.2) hH ?_
      simp only [Act.put, List.setIfInBounds_toArray, List.set_cons_zero, List.set_cons_succ, Nat.zero_add, decide_true, beq_self_eq_true]
      refine takeH_load (o := ⟨some 31, _, _, _, _, _⟩) (i := 4) rfl (by kernel_rfl) (by kernel_rfl) (by kernel_rfl) (fun _ _ _ _ h => h) rfl 26 (.tmp 2) rfl 32 arr32b _ _ rfl (bv k) hkl.out (fun w h => h.1) hH ?_
      simp only [Act.put, List.setIfInBounds_toArray, List.set_cons_zero, List.set_cons_succ, Nat.zero_add, decide_true, beq_self_eq_true]
      refine takeH_load (o := ⟨some 32, _, _, _, _, _⟩) (i := 5) rfl (by kernel_rfl) (by kernel_rfl) (by kernel_rfl) (fun _ _ _ _ h => h) rfl 27 (.tmp 3) rfl 16 arrR16 _ _ rfl (bv b) hbl.out (fun w h => h.2.1) hH ?_
      simp only [Act.put, List.setIfInBounds_toArray, List.set_cons_zero, List.set_cons_succ, Nat.zero_add, decide_true, beq_self_eq_true]
      refine wpAnyH_ready (rs := [2]) (by kernel_rfl) (by simp) ?_
      refine AllReadyH.cons rfl (fun K1 hK1 => ?_) AllReadyH.nil
      go_simp
      refine (hsX.out _).mono ?_
      rintro e w1 ⟨rfl, hB1⟩
      have hE1 := Lib.hid (hE0.out.call hB1)
      refine hK1.out _ _ (Ab.S hE1.out) (fun hH => ?_)
      clear hK1 K1 hB1
      refine wpAnyH_ready (rs := [6]) (by kernel_rfl) (by simp) ?_
      refine AllReadyH.cons rfl (fun K1 hK1 => ?_) AllReadyH.nil
      go_simp
      refine (hrX.out _).mono ?_
      rintro e w2 ⟨rfl, hB2⟩
      have hE2 := Lib.hid (hE1.out.call hB2)
      refine hK1.out _ _ (Ab.S hE2.out) (fun hH => ?_)
      clear hK1 K1 hB2
      refine takeH_eqlB (o := ⟨some 34, _, _, _, _, _⟩) (i := 7) rfl (by kernel_rfl) (by kernel_rfl) (by kernel_rfl) (fun _ _ _ _ h => h) rfl 27 (.tmp 29) (.tmp 33) 27 rfl 16 arrB16b X X rfl rfl HX.out HX.out hH ?_
      simp only [Act.put, List.setIfInBounds_toArray, List.set_cons_zero, List.set_cons_succ, Nat.zero_add, decide_true, beq_self_eq_true]
      refine takeH_move (o := ⟨some 35, _, _, _, _, _⟩) (i := 8) rfl (by kernel_rfl) (by kernel_rfl) (by kernel_rfl) (fun _ _ _ _ h => h) rfl (.tmp 34) rfl (.bool true) rfl hH ?_
      simp only [Act.put, List.setIfInBounds_toArray, List.set_cons_zero, List.set_cons_succ, Nat.zero_add, decide_true, beq_self_eq_true]
      refine takeH_load (o := ⟨some 36, _, _, _, _, _⟩) (i := 9) rfl (by kernel_rfl) (by kernel_rfl) (by kernel_rfl) (fun _ _ _ _ h => h) rfl 26 (.tmp 2) rfl 32 arr32b _ _ rfl (bv k) hkl.out (fun w h => h.1) hH ?_
      simp only [Act.put, List.setIfInBounds_toArray, List.set_cons_zero, List.set_cons_succ, Nat.zero_add, decide_true, beq_self_eq_true]
      refine takeH_load (o := ⟨some 37, _, _, _, _, _⟩) (i := 10) rfl (by kernel_rfl) (by kernel_rfl) (by kernel_rfl) (fun _ _ _ _ h => h) rfl 27 (.tmp 3) rfl 16 arrR16 _ _ rfl (bv b) hbl.out (fun w h => h.2.1) hH ?_
      simp only [Act.put, List.setIfInBounds_toArray, List.set_cons_zero, List.set_cons_succ, Nat.zero_add, decide_true, beq_self_eq_true]
      refine takeH_load (o := ⟨some 39, _, _, _, _, _⟩) (i := 12) rfl (by kernel_rfl) (by kernel_rfl) (by kernel_rfl) (fun _ _ _ _ h => h) rfl 34 (.tmp 5) rfl 256 arrT256 _ _ rfl (bv (tbl box)) (tbl_len _) (fun w h => h.2.2) hH ?_
      simp only [Act.put, List.setIfInBounds_toArray, List.set_cons_zero, List.set_cons_succ, Nat.zero_add, decide_true, beq_self_eq_true]
      refine takeH_load (o := ⟨some 40, _, _, _, _, _⟩) (i := 13) rfl (by kernel_rfl) (by kernel_rfl) (by kernel_rfl) (fun _ _ _ _ h => h) rfl 26 (.tmp 2) rfl 32 arr32b _ _ rfl (bv k) hkl.out (fun w h => h.1) hH ?_
      simp only [Act.put, List.setIfInBounds_toArray, List.set_cons_zero, List.set_cons_succ, Nat.zero_add, decide_true, beq_self_eq_true]
      refine takeH_load (o := ⟨some 41, _, _, _, _, _⟩) (i := 14) rfl (by kernel_rfl) (by kernel_rfl) (by kernel_rfl) (fun _ _ _ _ h => h) rfl 27 (.tmp 3) rfl 16 arrR16 _ _ rfl (bv b) hbl.out (fun w h => h.2.1) hH ?_
      simp only [Act.put, List.setIfInBounds_toArray, List.set_cons_zero, List.set_cons_succ, Nat.zero_add, decide_true, beq_self_eq_true]
      refine wpAnyH_ready (rs := [11]) (by kernel_rfl) (by simp) ?_
      refine AllReadyH.cons rfl (fun K1 hK1 => ?_) AllReadyH.nil
      go_simp
      refine (hoX.out _).mono ?_
      rintro e w3 ⟨rfl, hB3⟩
      have hE3 := Lib.hid (hE2.out.call hB3)
      refine hK1.out _ _ (Ab.S hE3.out) (fun hH => ?_)
      clear hK1 K1 hB3
      refine wpAnyH_ready (rs := [15]) (by kernel_rfl) (by simp) ?_
      refine AllReadyH.cons rfl (fun K1 hK1 => ?_) AllReadyH.nil
      go_simp
      refine (hqX.out _).mono ?_
      rintro e w4 ⟨rfl, hB4⟩
      have hE4 := Lib.hid (hE3.out.call hB4)
      refine hK1.out _ _ (Ab.S hE4.out) (fun hH => ?_)
      clear hK1 K1 hB4
      refine takeH_eqlB (o := ⟨some 43, _, _, _, _, _⟩) (i := 16) rfl (by kernel_rfl) (by kernel_rfl) (by kernel_rfl) (fun _ _ _ _ h => h) rfl 27 (.tmp 38) (.tmp 42) 27 rfl 16 arrB16b Y Y rfl rfl HY.out HY.out hH ?_
      simp only [Act.put, List.setIfInBounds_toArray, List.set_cons_zero, List.set_cons_succ, Nat.zero_add, decide_true, beq_self_eq_true]
      refine takeH_pick (o := ⟨some 44, _, _, _, _, _⟩) (i := 17) rfl (by kernel_rfl) (by kernel_rfl) (by kernel_rfl) (fun _ _ _ _ h => h) rfl (.tmp 35) (.tmp 43) (.const (.bool false)) rfl true rfl _ rfl hH ?_
      simp only [Act.put, List.setIfInBounds_toArray, List.set_cons_zero, List.set_cons_succ, Nat.zero_add, decide_true, beq_self_eq_true]
      refine takeH_assign (o := ⟨some 4, _, _, _, _, _⟩) (i := 18) rfl (by kernel_rfl) (by kernel_rfl) (by kernel_rfl) (fun _ _ _ _ h => h) rfl (.tmp 44) rfl _ rfl hH ?_
      simp only [Act.put, List.setIfInBounds_toArray, List.set_cons_zero, List.set_cons_succ, Nat.zero_add, decide_true, beq_self_eq_true]
      refine wpAnyH_done (by kernel_rfl) ?_ _
      go_wp2
      go_ret
      exact ⟨rfl, hE4.out.below⟩
end w_AesBlocks
end Go.Proofs.Ytmlaopohlmnegaa
