/- Contract of package aes: Open. -/
import Derived.Test.YtmlaopohlmnegaaAesS
import Derived.Test.YtmlaopohlmnegaaReg
import Derived.Deep.DeepCutAuto
set_option linter.unusedVariables false
set_option linter.unusedSimpArgs false
namespace Go.Proofs.Ytmlaopohlmnegaa
open Go.RowKit
open Go.Proofs.PlainAes

/-- So many bytes are moved back. -/
def ups (d c : List Nat) (i : Nat) : List Nat := mk 16 (fun p => if back p < i then gd d p else gd c p)
@[simp] theorem ups_length (d c : List Nat) (i : Nat) : (ups d c i).length = 16 := by simp [ups]
theorem ups_zero {d c : List Nat} (hc : c.length = 16) : ups d c 0 = c := (mk_eq _ hc (fun i hi => by simp)).symm
theorem back_lt : ∀ p, p < 16 → back p < 16 := fun p _ => Nat.mod_lt _ (by decide)
theorem ups_all {d c : List Nat} (hd : d.length = 16) : ups d c 16 = d := (mk_eq _ hd (fun p hp => by rw [if_pos (back_lt p hp)])).symm
theorem back_to : ∀ i, i < 16 → back ((i + 4 * (i % 4)) % 16) = i := by decide
theorem back_inj : ∀ q, q < 16 → (back q + 4 * (back q % 4)) % 16 = q := by decide
theorem ups_set {d c : List Nat} {i : Nat} (hi : i < 16) : (ups d c i).set ((i + 4 * (i % 4)) % 16) (gd d ((i + 4 * (i % 4)) % 16)) = ups d c (i + 1) := by
  apply ext_gd
  · simp
  · intro q hq
    simp only [List.length_set, ups_length] at hq
    have e : gd ((ups d c i).set ((i + 4 * (i % 4)) % 16) (gd d ((i + 4 * (i % 4)) % 16))) q = if (i + 4 * (i % 4)) % 16 = q then gd d q else gd (ups d c i) q := by
      simp only [gd, List.getD_eq_getElem?_getD, List.getElem?_set, ups_length]
      by_cases h : (i + 4 * (i % 4)) % 16 = q
      · subst h; rw [if_pos rfl, if_pos hq, if_pos rfl]; rfl
      · rw [if_neg h, if_neg h]
    rw [e, ups, ups, gd_mk _ hq, gd_mk _ hq]
    by_cases h : (i + 4 * (i % 4)) % 16 = q
    · rw [if_pos h, if_pos (by rw [← h, back_to i hi]; omega)]
    · rw [if_neg h]
      have hne : back q ≠ i := fun e => h (by rw [← e]; exact back_inj q hq)
      by_cases h2 : back q < i
      · rw [if_pos h2, if_pos (by omega)]
      · rw [if_neg h2, if_neg (by omega)]

/-- What lies there while a block is opened. -/
structure Ox (w : World) (gu gk : Nat) (K b : List Nat) (wr : World) : Prop where
  b : Blk wr (w.heap.size + 1) 28 (bv b)
  r : Blk wr (w.heap.size + 1 + 1) 28 (bv (zeros 16))
  t : Blk wr gu 34 (bv (tbl unbox))
  k : Blk wr gk 36 (bv K)
  below : Below w.heap.size w wr
  o1 : w.heap.size + 1 + 1 < gu
  o2 : gu < gk
section
variable {w wr wr' : World} {gu gk g : Nat} {K b b' : List Nat}
theorem Ox.call (h : Ox w gu gk K b wr) (hB : Below wr.heap.size wr wr') : Ox w gu gk K b wr' := ⟨h.b.keep hB, h.r.keep hB, h.t.keep hB, h.k.keep hB, below_call h.below h.below.size hB, h.o1, h.o2⟩
theorem Ox.keeps0 (h : Ox w gu gk K b wr) (hB : Keeps [] wr wr') : Ox w gu gk K b wr' := h.call (hB.below (Nat.le_refl _) (by simp))
theorem Ox.keeps (h : Ox w gu gk K b wr) (hk : Keeps [g] wr wr') (hg : gk < g) : Ox w gu gk K b wr' := by
  have h1 := h.o1
  have h2 := h.o2
  exact ⟨h.b.keeps hk (by simp; omega), h.r.keeps hk (by simp; omega), h.t.keeps hk (by simp; omega), h.k.keeps hk (by simp; omega), h.below.trans (hk.below h.below.size (by simp; omega)), h1, h2⟩
theorem Ox.put (h : Ox w gu gk K b wr) (hk : Keeps [w.heap.size + 1] wr wr') (hb : Blk wr' (w.heap.size + 1) 28 (bv b')) : Ox w gu gk K b' wr' := by
  have h1 := h.o1
  have h2 := h.o2
  exact ⟨hb, h.r.keeps hk (by simp), h.t.keeps hk (by simp; omega), h.k.keeps hk (by simp; omega), h.below.trans (hk.below h.below.size (by simp)), h1, h2⟩
theorem Ox.drew (h : Ox w gu gk K b wr) : Ox w gu gk K b wr.drew := ⟨h.b, h.r, h.t, h.k, h.below.drew, h.o1, h.o2⟩
end

theorem Blk.range {w : World} {g t : Nat} {L : List Value} (h : Blk w g t L) (o n : Nat) : w.rangeAt g o ((L.drop o).take n) := by
  intro j v hv
  rw [h.cell]
  rw [List.getElem?_take] at hv
  split at hv
  · simpa using hv
  · cases hv
theorem Blk.there {w : World} {g t : Nat} {L : List Value} (h : Blk w g t L) {o n : Nat} (hn : o + n ≤ L.length) : w.there g o n := by
  intro j hj
  refine ⟨?_, h.frozen _⟩
  rw [h.cell, List.getElem?_eq_getElem (by omega)]
  rfl
/-- What is read where the sum is made. -/
theorem Ox.S {w wr : World} {gu gk n : Nat} {K c : List Nat} (h : Ox w gu gk K c wr) (hc : c.length = 16) (hn : n < 15) (hK : K.length = 240) : wr.rangeAt (w.heap.size + 1) 0 (bv c) ∧ wr.rangeAt gk (n * 16) (bv (rkey K n)) := by
  refine ⟨?_, ?_⟩
  · have := h.b.range 0 16
    rwa [bv_seg, List.drop_zero, List.take_of_length_le (by omega)] at this
  · have := h.k.range (n * 16) 16
    rw [bv_seg, Nat.mul_comm n 16] at this
    rw [Nat.mul_comm n 16]
    exact this

set_option maxRecDepth 100000 in
set_option maxHeartbeats 4000000 in
theorem open_any (k b : List Nat) (w : World) (hk : k.length = 32) (bk : Byt k) (hb : b.length = 16) (bb : Byt b) : Calls Try.prog 17 #[.agg (bv k).toArray, .agg (bv b).toArray] w (RetA (openB unbox (keys box k) b) w) := by
  have htb := Lib.hid (fun w => table_box w)
  have htu := Lib.hid (fun w => table_unbox w)
  have hex := Lib.hid (fun gt w h => expand_any k gt w hk bk h)
  have hsum := Lib.hid (fun a b w ha hb ba bb => asum_any a b w ha hb ba bb)
  have hmix := Lib.hid (fun b w hb bb => amix_any b w hb bb)
  have hkl := Lib.hid (show (bv k).length = 32 by simp [hk])
  have Kl := Lib.hid (keys_length box hk)
  have Kb := Lib.hid (bk.keys)
  have Hb := Lib.hid hb
  have Bb := Lib.hid bb
  have hKl := Lib.hid (show (bv (keys box k)).length = 240 by simp [keys_length box hk])
  clear hk bk hb bb
  generalize keys box k = K at *
  generalize hR : openB unbox K b = R
  have HR := Lib.hid hR
  clear hR
  go_enter Try.func17, Try.ntmps17
  go_wp2_with (refine wpList_allocA rfl 28 rfl (bv (zeros 16)) (by kernel_rfl) ?_)
  intro w1 h1 hK1 hz1
  have h0 := ((Blk.new_at (w := w) (t := 43) (cs := (bv k).toArray) rfl rfl).alloc (.cells (bv b).toArray 28)).keeps hK1 (by simp)
  have hb0 := (Blk.new_at (w := w.alloc (.cells (bv k).toArray 43)) (n := w.heap.size + 1) (t := 28) (cs := (bv b).toArray) (by simp) rfl).keeps hK1 (by simp)
  simp only [List.size_toArray] at h0 hb0
  have hB : Below w.heap.size w w1 := (((Below.refl _ _).alloc (Nat.le_refl _) _).alloc (by simp) _).trans (hK1.below (by simp; omega) (by simp))
  clear hK1
  go_wp2_with (first
    | (go_at_call 30; (with_reducible refine (htb.out _).mono ?_); rintro e w2 ⟨rfl, hB2⟩)
    | (go_at_call 30; (with_reducible refine (htu.out _).mono ?_); rintro e w2' ⟨rfl, hB2'⟩)
    | refine wpList_allocA rfl 34 rfl (bv (zeros 256)) (by kernel_rfl) ?_)
  intro w3 h3 hK3 hz3
  have hB22 : Below w1.heap.size w1 w2' := below_call hB2 hB2.size hB2'
  clear hB2 hB2'
  have hgt : w.heap.size + 1 + 1 < w2'.heap.size := by have := hB22.size; omega
  have h1 := (h1.keep hB22).keeps hK3 (by simp)
  have h0 := (h0.keep hB22).keeps hK3 (by simp)
  have hb0 := (hb0.keep hB22).keeps hK3 (by simp)
  have hB := (below_call hB hB.size hB22).trans (hK3.below (by have := hB.size; have := hB22.size; omega) (by simp))
  clear hK3 hB22
  generalize w2'.heap.size = gt at *
  go_wp2_with (refine wpList_allocA rfl 34 rfl (bv (zeros 256)) (by kernel_rfl) ?_)
  intro w4 h4 hK4 hz4
  have h3 := h3.keeps hK4 (by simp)
  have h1 := h1.keeps hK4 (by simp)
  have h0 := h0.keeps hK4 (by simp)
  have hb0 := hb0.keeps hK4 (by simp)
  have hB := hB.trans (hK4.below hB.size (by simp))
  clear hK4
  go_wp2_with (refine wpList_storeW rfl 34 (.tmp 5) (.tmp 11) rfl 256 arrT gt rfl (bv (tbl box)) rfl 34 _ h3 (tbl_len _) (by simp) (ones_bv _) ?_)
  intro w5 h5 hK5
  have h4 := h4.keeps hK5 (by simp)
  have h1 := h1.keeps hK5 (by simp; omega)
  have h0 := h0.keeps hK5 (by simp; omega)
  have hb0 := hb0.keeps hK5 (by simp; omega)
  have hB := hB.trans (hK5.below hB.size (by simp; omega))
  clear hK5 h3
  go_wp2_with (refine wpList_storeW rfl 34 (.tmp 6) (.tmp 12) rfl 256 arrT (gt + 1) rfl (bv (tbl unbox)) rfl 34 _ h4 (tbl_len _) (by simp) (ones_bv _) ?_)
  intro w6 h6 hK6
  have h5 := h5.keeps hK6 (by simp)
  have h1 := h1.keeps hK6 (by simp; omega)
  have h0 := h0.keeps hK6 (by simp; omega)
  have hb0 := hb0.keeps hK6 (by simp; omega)
  have hB := hB.trans (hK6.below hB.size (by simp; omega))
  clear hK6 h4
  go_wp2_with (first
    | refine wpList_loadW rfl 43 (.tmp 2) rfl 32 arrK _ rfl 43 _ h0 hkl.out ?_
    | (go_at_call 31; refine (hex.out gt _ h5).mono ?_; rintro e w7 ⟨rfl, hB7⟩)
    | refine wpList_allocA rfl 36 rfl (bv (zeros 240)) (by kernel_rfl) ?_)
  intro w8 h8 hK8 hz8
  have hgk : gt + 1 < w7.heap.size := Nat.lt_of_lt_of_le h6.lt hB7.size
  have h1 := (h1.keep hB7).keeps hK8 (by simp)
  have h6 := (h6.keep hB7).keeps hK8 (by simp)
  have hb0 := (hb0.keep hB7).keeps hK8 (by simp)
  have hB := (below_call hB hB.size hB7).trans (hK8.below (by have := hB.size; have := hB7.size; omega) (by simp))
  clear hK8 hB7 h0 h5
  generalize w7.heap.size = gk at *
  go_wp2_with (refine wpList_storeW rfl 36 (.tmp 7) (.tmp 14) rfl 240 arrR gk rfl (bv K) rfl 36 _ h8 hKl.out (by simp) (ones_bv _) ?_)
  intro w9 h9 hK9
  obtain ⟨gu, hgu'⟩ : ∃ gu, gu = gt + 1 := ⟨_, rfl⟩
  rw [← hgu'] at h6 hgk
  have hS : Ox w gu gk K b w9 := ⟨hb0.keeps hK9 (by simp; omega), h1.keeps hK9 (by simp; omega), h6.keeps hK9 (by simp; omega), h9, hB.trans (hK9.below hB.size (by simp; omega)), by omega, hgk⟩
  clear hb0 h1 h6 h9 h8 hB hK9 hgk hz1 hz3 hz4 hz8
  rw [← hgu']
  clear hgu' hgt
  go_wp2
  go_loopw [8] (fun i wr => ∃ n : Nat, n ≤ 14 ∧ i = .int .i64 (n : Int) ∧ Ox w gu gk K (openN unbox K b (14 - n)) wr) (fun i _ => (intOf i).toNat)
  case atStart => exact ⟨14, Nat.le_refl _, rfl, hS⟩
  case round =>
    clear hS
    obtain ⟨n, hn, rfl, hS⟩ := hrel
    by_cases hlt : (0 : Int) < n
    · have sl := Lib.hid (openN_length (u := unbox) (K := K) Hb.out (14 - n))
      have sb' := Lib.hid (openN_lt (u := unbox) (fun x h => unbox_lt h) Kb.out Bb.out (14 - n))
      have hnext : Hid (openN unbox K b (14 - (n - 1)) = oround unbox K n (openN unbox K b (14 - n))) := by
        show _ = _
        rw [show 14 - (n - 1) = (14 - n) + 1 from by omega, openN, show 14 - (14 - n) = n from by omega]
      generalize openN unbox K b (14 - n) = c at *
      obtain ⟨d, hd⟩ : ∃ d, d = openN unbox K b (14 - (n - 1)) := ⟨_, rfl⟩
      rw [← hd] at hnext
      have HD := Lib.hid hd
      clear hd
      have rl := Lib.hid (rkey_length Kl.out (n := n) (by omega))
      have hyl := Lib.hid (show (bv (xorl c (rkey K n))).length = 16 by rw [bv_length, xorl_length (by rw [sl.out, rl.out]), sl.out])
      have hxs := Lib.hid (fun w => hsum.out c (rkey K n) w sl.out rl.out sb'.out (rkey_lt Kb.out n))
      go_wp2
      go_upto_region 6 with fail
      go_cut [9] (fun s9 wx => ∃ gx : Nat, s9 = .pointer (some ⟨gx, 0, none⟩) ∧ gk < gx ∧ Blk wx gx 28 (bv (xorl c (rkey K n))) ∧ Ox w gu gk K c wx)
      case first =>
        have hn15 := Lib.hid (show n < 15 by omega)
        have e1 := Lib.hid (show (bv c).length = 16 by rw [bv_length]; exact sl.out)
        have e2 := Lib.hid (show (bv (rkey K n)).length = 16 by rw [bv_length]; exact rl.out)
        have hO := Lib.hid hS.drew
        refine wp_region_held_drew (S := fun w' => w'.rangeAt (w.heap.size + 1) 0 (bv c) ∧ w'.rangeAt gk (n * 16) (bv (rkey K n))) (by kernel_rfl) (Ox.S hO.out sl.out hn15.out Kl.out) (fun hH => ?_)
        refine takeH_load (i := 0) rfl (by kernel_rfl) (by kernel_rfl) (by kernel_rfl) (fun _ _ _ _ h => h) rfl 28 (.tmp 3) rfl 16 arrB _ _ rfl (bv c) e1.out (fun w h => h.1) hH ?_
        simp only [Act.put, List.setIfInBounds_toArray, List.set_cons_zero, List.set_cons_succ]
        refine takeH_move (i := 1) rfl (by kernel_rfl) (by kernel_rfl) (by kernel_rfl) (fun _ _ _ _ h => h) rfl (.tmp 8) rfl _ rfl hH ?_
        simp only [Act.put, List.setIfInBounds_toArray, List.set_cons_zero, List.set_cons_succ]
        refine takeH_index (i := 2) rfl (by kernel_rfl) (by kernel_rfl) (by kernel_rfl) (fun _ _ _ _ h => h) rfl 36 (.tmp 7) (.tmp 20) rfl 15 28 16 Try.underlying36 (by kernel_rfl) gk 0 rfl n rfl hn15.out hH ?_
        simp only [Act.put, List.setIfInBounds_toArray, List.set_cons_zero, List.set_cons_succ, Nat.zero_add]
        refine takeH_load (i := 3) rfl (by kernel_rfl) (by kernel_rfl) (by kernel_rfl) (fun _ _ _ _ h => h) rfl 28 (.tmp 21) rfl 16 arrB _ _ rfl (bv (rkey K n)) e2.out (fun w h => h.2) hH ?_
        simp only [Act.put, List.setIfInBounds_toArray, List.set_cons_zero, List.set_cons_succ]
        refine wpAnyH_ready (rs := [4, 5]) (by kernel_rfl) (by simp) ?_
        refine AllReadyH.cons rfl (fun K1 hK1 => ?_) (AllReadyH.cons rfl (fun K1 hK1 => ?_) AllReadyH.nil)
        · go_simp
          refine (hxs.out _).mono ?_
          rintro e w8 ⟨rfl, hB8⟩
          have hO1 := Lib.hid (hO.out.call hB8)
          refine hK1.out _ _ (Ox.S hO1.out sl.out hn15.out Kl.out) (fun hH => ?_)
          clear hK1 K1
          refine wpAnyH_ready (rs := [5]) (by kernel_rfl) (by simp) ?_
          refine AllReadyH.cons rfl (fun K1 hK1 => ?_) AllReadyH.nil
          go_simp
          have hgx : gk < w8.heap.size := hO1.out.k.lt
          have hx := Blk.new_at (w := w8) (t := 28) (cs := (bv (zeros 16)).toArray) rfl rfl
          have hO2 := Lib.hid (hO1.out.keeps0 ((Keeps.refl [] _).alloc (.cells (bv (zeros 16)).toArray 28)))
          refine hK1.out _ _ (Ox.S hO2.out sl.out hn15.out Kl.out) (fun hH => ?_)
          clear hK1 K1
          refine wpAnyH_ready (rs := [6]) (by kernel_rfl) (by simp) ?_
          refine AllReadyH.cons rfl (fun K1 hK1 => ?_) AllReadyH.nil
          rw [if_pos (by rfl)]
          refine wp_storeA 28 (.tmp 9) (.tmp 23) rfl 16 arrB _ _ rfl (bv (xorl c (rkey K n))) rfl 28 _ hx hyl.out (by simp) (ones_bv _) ?_
          intro w9 hx9 hK9
          rw [putL_all (by rw [hyl.out]; simp)] at hx9
          have hO9 := Lib.hid (hO2.out.keeps hK9 hgx)
          refine hK1.out _ _ (Ox.S hO9.out sl.out hn15.out Kl.out) (fun hH => ?_)
          clear hK1 K1 hK9 hx
          simp only [Act.put, List.setIfInBounds_toArray, List.set_cons_zero, List.set_cons_succ]
          refine wpAnyH_done (by kernel_rfl) ?_ _
          go_wp2_with fail
          go_meet
          exact ⟨_, rfl, hgx, hx9, hO9.out⟩
        · go_simp
          have hgx : gk < wr.heap.size := hO.out.k.lt
          have hx := (Blk.new_at (w := wr) (t := 28) (cs := (bv (zeros 16)).toArray) rfl rfl).drew
          have hO1 := Lib.hid ((hS.keeps0 ((Keeps.refl [] _).alloc (.cells (bv (zeros 16)).toArray 28))).drew)
          refine hK1.out _ _ (Ox.S hO1.out sl.out hn15.out Kl.out) (fun hH => ?_)
          clear hK1 K1
          refine wpAnyH_ready (rs := [4]) (by kernel_rfl) (by simp) ?_
          refine AllReadyH.cons rfl (fun K1 hK1 => ?_) AllReadyH.nil
          go_simp
          refine (hxs.out _).mono ?_
          rintro e w8 ⟨rfl, hB8⟩
          have hO2 := Lib.hid (hO1.out.call hB8)
          have hx := hx.keep hB8
          refine hK1.out _ _ (Ox.S hO2.out sl.out hn15.out Kl.out) (fun hH => ?_)
          clear hK1 K1
          refine wpAnyH_ready (rs := [6]) (by kernel_rfl) (by simp) ?_
          refine AllReadyH.cons rfl (fun K1 hK1 => ?_) AllReadyH.nil
          rw [if_pos (by rfl)]
          refine wp_storeA 28 (.tmp 9) (.tmp 23) rfl 16 arrB _ _ rfl (bv (xorl c (rkey K n))) rfl 28 _ hx hyl.out (by simp) (ones_bv _) ?_
          intro w9 hx9 hK9
          rw [putL_all (by rw [hyl.out]; simp)] at hx9
          have hO9 := Lib.hid (hO2.out.keeps hK9 hgx)
          refine hK1.out _ _ (Ox.S hO9.out sl.out hn15.out Kl.out) (fun hH => ?_)
          clear hK1 K1 hK9 hx
          simp only [Act.put, List.setIfInBounds_toArray, List.set_cons_zero, List.set_cons_succ]
          refine wpAnyH_done (by kernel_rfl) ?_ _
          go_wp2_with fail
          go_meet
          exact ⟨_, rfl, hgx, hx9, hO9.out⟩
      case rest =>
        obtain ⟨gx, rfl, hgx, hx, hS⟩ := hcut
        by_cases hn14 : (n : Int) < 14
        · have hyn := Lib.hid (show (xorl c (rkey K n)).length = 16 by rw [xorl_length (by rw [sl.out, rl.out]), sl.out])
          have hyb := Lib.hid (xorl_lt sb'.out (rkey_lt Kb.out n))
          have hz : Hid (omid K n c = mix (mix (mix (xorl c (rkey K n))))) := by show _ = _; rw [omid, if_pos (by omega)]
          generalize xorl c (rkey K n) = y at *
          have m1 := Lib.hid (fun w => hmix.out y w hyn.out hyb.out)
          have m2 := Lib.hid (fun w => hmix.out (mix y) w (by simp) (mix_lt hyb.out))
          have m3 := Lib.hid (fun w => hmix.out (mix (mix y)) w (by simp) (mix_lt (mix_lt hyb.out)))
          have hzb := Lib.hid (mix_lt (mix_lt (mix_lt hyb.out)))
          have hzn := Lib.hid (mix_length (mix (mix y)))
          generalize mix (mix (mix y)) = z at *
          generalize mix (mix y) = y2 at *
          generalize mix y = y1 at *
          have hzl := Lib.hid (show (bv z).length = 16 by simp [hzn.out])
          go_wp2_with (first
            | refine wpList_loadW rfl 28 (.tmp 9) rfl 16 arrB gx rfl 28 _ hx hyl.out ?_
            | (go_at_call 33; (with_reducible refine (m1.out _).mono ?_); rintro e w1 ⟨rfl, hB1⟩)
            | (go_at_call 33; (with_reducible refine (m2.out _).mono ?_); rintro e w2 ⟨rfl, hB2⟩)
            | (go_at_call 33; (with_reducible refine (m3.out _).mono ?_); rintro e w3 ⟨rfl, hB3⟩)
            | refine wpList_storeW rfl 28 (.tmp 9) (.tmp 29) rfl 16 arrB gx rfl (bv z) rfl 28 _ (((hx.keep hB1).keep hB2).keep hB3) hzl.out hyl.out (ones_bv _) ?_)
          intro w9 hx hK9
          have hS := (((hS.call hB1).call hB2).call hB3).keeps hK9 hgx
          clear hK9 hB1 hB2 hB3
          go_wp2
          have hdz : Hid (d = unshiftB unbox z) := by show _ = _; rw [hnext.out, oround, hz.out]
          clear hnext
          go_loopw [30] (fun i wr => ∃ j : Nat, j ≤ 16 ∧ i = .int .i64 (j : Int) ∧ Blk wr gx 28 (bv z) ∧ Ox w gu gk K (ups d c j) wr) (fun i _ => (16 - intOf i).toNat)
          case atStart => exact ⟨0, Nat.zero_le _, rfl, hx, by rw [ups_zero sl.out]; exact hS⟩
          case round =>
            clear hx hS
            obtain ⟨j, hj, rfl, hx, hS⟩ := hrel
            by_cases hj16 : (j : Int) < 16
            · have hs := Lib.hid (ups_set (d := d) (c := c) (i := j) (by omega))
              have hp : (j + 4 * (j % 4)) % 16 < 16 := Nat.mod_lt _ (by decide)
              have hdp : gd d ((j + 4 * (j % 4)) % 16) = unbox (gd z j) := by rw [hdz.out, unshiftB, gd_mk _ hp, back_to j (by omega)]
              have c0 := hx.byte (i := j) (by rw [hzn.out]; omega)
              have hX := gd_lt hzb.out j
              have c1 := hS.t.byte (i := gd z j) (by simp [tbl, hX])
              rw [tbl, gd_mk _ hX, ← hdp] at c1
              have c2 := hS.b.byte (i := (j + 4 * (j % 4)) % 16) (by simp; omega)
              have f2 := hS.b.frozen ((j + 4 * (j % 4)) % 16)
              have hb2 := Lib.hid (hS.b.set_ ((j + 4 * (j % 4)) % 16) (.int .u8 ((gd d ((j + 4 * (j % 4)) % 16) : Nat) : Int)))
              clear hdp
              generalize gd d ((j + 4 * (j % 4)) % 16) = Y at *
              generalize gd z j = X at *
              have hXI : (X : Int) < 256 := by omega
              clear hp
              go_wp2
              go_roundw
              case rel =>
                refine ⟨j + 1, by omega, by go_num, hx.far (by simp; have h1 := hS.o1; have h2 := hS.o2; omega) _, hS.put ((Keeps.refl [w.heap.size + 1] _).setCell (by simp) _) ?_⟩
                have := hb2.out
                rw [bv_set, hs.out] at this
                exact this
              case measure => simp [intOf]; omega
            · obtain rfl : j = 16 := by omega
              have hdl := Lib.hid (show d.length = 16 by rw [hdz.out]; simp)
              rw [ups_all hdl.out] at hS
              go_wp2
              go_roundw
              case rel => exact ⟨n - 1, by omega, by simp; omega, by rw [← HD.out]; exact hS⟩
              case measure => simp [intOf]; omega
        · obtain rfl : n = 14 := by omega
          have hyn := Lib.hid (show (xorl c (rkey K 14)).length = 16 by rw [xorl_length (by rw [sl.out, rl.out]), sl.out])
          have hyb := Lib.hid (xorl_lt sb'.out (rkey_lt Kb.out 14))
          have hz : Hid (omid K 14 c = xorl c (rkey K 14)) := by show _ = _; rw [omid, if_neg (by omega)]
          generalize xorl c (rkey K 14) = z at *
          have hzb := hyb
          have hzn := hyn
          go_wp2
          have hdz : Hid (d = unshiftB unbox z) := by show _ = _; rw [hnext.out, oround, hz.out]
          clear hnext
          go_loopw [30] (fun i wr => ∃ j : Nat, j ≤ 16 ∧ i = .int .i64 (j : Int) ∧ Blk wr gx 28 (bv z) ∧ Ox w gu gk K (ups d c j) wr) (fun i _ => (16 - intOf i).toNat)
          case atStart => exact ⟨0, Nat.zero_le _, rfl, hx, by rw [ups_zero sl.out]; exact hS⟩
          case round =>
            clear hx hS
            obtain ⟨j, hj, rfl, hx, hS⟩ := hrel
            by_cases hj16 : (j : Int) < 16
            · have hs := Lib.hid (ups_set (d := d) (c := c) (i := j) (by omega))
              have hp : (j + 4 * (j % 4)) % 16 < 16 := Nat.mod_lt _ (by decide)
              have hdp : gd d ((j + 4 * (j % 4)) % 16) = unbox (gd z j) := by rw [hdz.out, unshiftB, gd_mk _ hp, back_to j (by omega)]
              have c0 := hx.byte (i := j) (by rw [hzn.out]; omega)
              have hX := gd_lt hzb.out j
              have c1 := hS.t.byte (i := gd z j) (by simp [tbl, hX])
              rw [tbl, gd_mk _ hX, ← hdp] at c1
              have c2 := hS.b.byte (i := (j + 4 * (j % 4)) % 16) (by simp; omega)
              have f2 := hS.b.frozen ((j + 4 * (j % 4)) % 16)
              have hb2 := Lib.hid (hS.b.set_ ((j + 4 * (j % 4)) % 16) (.int .u8 ((gd d ((j + 4 * (j % 4)) % 16) : Nat) : Int)))
              clear hdp
              generalize gd d ((j + 4 * (j % 4)) % 16) = Y at *
              generalize gd z j = X at *
              have hXI : (X : Int) < 256 := by omega
              clear hp
              go_wp2
              go_roundw
              case rel =>
                refine ⟨j + 1, by omega, by go_num, hx.far (by simp; have h1 := hS.o1; have h2 := hS.o2; omega) _, hS.put ((Keeps.refl [w.heap.size + 1] _).setCell (by simp) _) ?_⟩
                have := hb2.out
                rw [bv_set, hs.out] at this
                exact this
              case measure => simp [intOf]; omega
            · obtain rfl : j = 16 := by omega
              have hdl := Lib.hid (show d.length = 16 by rw [hdz.out]; simp)
              rw [ups_all hdl.out] at hS
              go_wp2
              go_roundw
              case rel => exact ⟨13, by omega, by simp, by rw [← HD.out]; exact hS⟩
              case measure => simp [intOf]
    · obtain rfl : n = 0 := by omega
      rw [show 14 - 0 = 14 from rfl] at hS
      have hsl := Lib.hid (openN_length (u := unbox) (K := K) Hb.out 14)
      have hsb := Lib.hid (openN_lt (u := unbox) (fun x h => unbox_lt h) Kb.out Bb.out 14)
      have hRe : Hid (xorl (openN unbox K b 14) (rkey K 0) = R) := HR.out
      generalize openN unbox K b 14 = c at *
      have rl := Lib.hid (rkey_length Kl.out (n := 0) (by omega))
      have hcl := Lib.hid (show (bv c).length = 16 by rw [bv_length]; exact hsl.out)
      have hRl := Lib.hid (show (bv R).length = 16 by rw [bv_length, ← hRe.out, xorl_length (by rw [hsl.out, rl.out]), hsl.out])
      have sb := hS.b
      have sk := hS.k
      have sr := hS.r
      have hB := hS.below
      have EK : Hid (((bv K).drop 0).take 16 = bv (rkey K 0)) := by show _ = _; rw [bv_seg]; rfl
      clear hS
      go_wp2_with (first
        | refine wpList_loadW rfl 28 (.tmp 3) rfl 16 arrB _ rfl 28 _ sb hcl.out ?_
        | refine wpList_loadA rfl 28 (.tmp 47) rfl 16 arrB _ _ rfl 36 _ sk (by rw [hKl.out]; simp) (bv (rkey K 0)) (by simpa using EK.out) ?_
        | (go_at_call 32; refine (hsum.out c (rkey K 0) _ hsl.out rl.out hsb.out (rkey_lt Kb.out 0)).mono ?_; rintro e w8 ⟨rfl, hB8⟩; rw [hRe.out])
        | refine wpList_storeW rfl 28 (.tmp 4) (.tmp 49) rfl 16 arrB _ rfl (bv R) rfl 28 _ (sr.keep hB8) hRl.out (by simp) (ones_bv _) ?_)
      intro w9 h9 hK9
      go_wp2
      exact bodyPost_ret (v := .agg (bv R).toArray) (res_cell Try.results17 _ _ _ 28 _ arrB hRl.out rfl h9) rfl ⟨rfl, (below_call hB hB.size hB8).trans (hK9.below (by have := hB.size; have := hB8.size; omega) (by simp; omega))⟩
end Go.Proofs.Ytmlaopohlmnegaa
