/- Contract of banyanref04: Seal. -/
import Derived.Test.YtokphnfhajljmaaRefK
import Derived.Test.YtokphnfhajljmaaRefI
import Derived.Test.YtokphnfhajljmaaAesS
set_option linter.unusedVariables false
set_option linter.unusedSimpArgs false
namespace Go.Proofs.Ytokphnfhajljmaa
open Go.RowKit
open Go.Proofs.PlainAes

theorem arrK32 : ArrTy Try.prog 22 32 := ⟨_, Try.underlying22, rfl, by kernel_rfl⟩

/-- What lies there while a block is sealed. -/
structure Sr (w : World) (g0 g2 g3 gk : Nat) (K b : List Nat) (wr : World) : Prop where
  t : Blk wr g0 37 (bv (tbl box))
  b : Blk wr g2 54 (bv b)
  r : Blk wr g3 54 (bv (zeros 16))
  k : Blk wr gk 78 (bv K)
  below : Below w.heap.size w wr
  o0 : w.heap.size ≤ g0
  o1 : g0 < g2
  o2 : g2 < g3
  o3 : g3 < gk
section
variable {w wr wr' : World} {g0 g2 g3 gk g : Nat} {K b b' : List Nat}
theorem Sr.call (h : Sr w g0 g2 g3 gk K b wr) (hB : Below wr.heap.size wr wr') : Sr w g0 g2 g3 gk K b wr' :=
  ⟨h.t.keep hB, h.b.keep hB, h.r.keep hB, h.k.keep hB, below_call h.below h.below.size hB, h.o0, h.o1, h.o2, h.o3⟩
theorem Sr.keeps0 (h : Sr w g0 g2 g3 gk K b wr) (hB : Keeps [] wr wr') : Sr w g0 g2 g3 gk K b wr' := h.call (hB.below (Nat.le_refl _) (by simp))
theorem Sr.keeps (h : Sr w g0 g2 g3 gk K b wr) (hk : Keeps [g] wr wr') (hg : gk < g) : Sr w g0 g2 g3 gk K b wr' := by
  have h0 := h.o0
  have h1 := h.o1
  have h2 := h.o2
  have h3 := h.o3
  exact ⟨h.t.keeps hk (by simp; omega), h.b.keeps hk (by simp; omega), h.r.keeps hk (by simp; omega), h.k.keeps hk (by simp; omega), h.below.trans (hk.below h.below.size (by simp; omega)), h0, h1, h2, h3⟩
theorem Sr.put (h : Sr w g0 g2 g3 gk K b wr) (hk : Keeps [g2] wr wr') (hb : Blk wr' g2 54 (bv b')) : Sr w g0 g2 g3 gk K b' wr' := by
  have h0 := h.o0
  have h1 := h.o1
  have h2 := h.o2
  have h3 := h.o3
  exact ⟨h.t.keeps hk (by simp; omega), hb, h.r.keeps hk (by simp; omega), h.k.keeps hk (by simp; omega), h.below.trans (hk.below h.below.size (by simp; omega)), h0, h1, h2, h3⟩
theorem Sr.drew (h : Sr w g0 g2 g3 gk K b wr) : Sr w g0 g2 g3 gk K b wr.drew := ⟨h.t, h.b, h.r, h.k, h.below.drew, h.o0, h.o1, h.o2, h.o3⟩
end

set_option maxRecDepth 100000 in
set_option maxHeartbeats 4000000 in
theorem rseal_any (k b : List Nat) (w : World) (hk : k.length = 32) (bk : Byt k) (hb : b.length = 16) (bb : Byt b) :
    Calls Try.prog 25 #[.agg (bv (tbl box)).toArray, .agg (bv k).toArray, .agg (bv b).toArray] w (RetA (sealB box (keys box k) b) w) := by
  have hro := Lib.hid (fun w => rrounds_any k w hk bk)
  have hsum := Lib.hid (fun a b w ha hb ba bb => rsum_any a b w ha hb ba bb)
  have hcol := Lib.hid (fun (b : List Nat) w (hb : b.length = 16) (bb : Byt b) => rcolumns_any b [2, 3, 1, 1] w hb rfl bb (by intro x hx; simp only [List.mem_cons, List.not_mem_nil, or_false] at hx; omega))
  have hmixE := Lib.hid (fun (b : List Nat) (bb : Byt b) => colL_mix b bb)
  have hkl := Lib.hid (show (bv k).length = 32 by simp [hk])
  have Kl := Lib.hid (keys_length box hk)
  have Kb := Lib.hid (bk.keys)
  have Hb := Lib.hid hb
  have Bb := Lib.hid bb
  have hKl := Lib.hid (show (bv (keys box k)).length = 240 by simp [keys_length box hk])
  clear hk bk hb bb
  generalize keys box k = K at *
  have hRet : Hid (∀ w', Below w.heap.size w w' → RetA (sealB box K b) w (.returned (.agg (bv (sealB box K b)).toArray)) w') := fun w' h => ⟨rfl, h⟩
  generalize RetA (sealB box K b) w = RX at *
  generalize hR : sealB box K b = R at *
  have HR := Lib.hid hR
  clear hR
  go_enter Try.func25, Try.ntmps25
  go_wp2_with (refine wpList_allocA rfl 54 rfl (bv (zeros 16)) (by kernel_rfl) ?_)
  intro w1 h3 hK1 hz1
  have h0 := (((Blk.new_at (w := w) (t := 37) (cs := (bv (tbl box)).toArray) rfl rfl).alloc (.cells (bv k).toArray 22)).alloc (.cells (bv b).toArray 54)).keeps hK1 (by simp)
  have h1 := ((Blk.new_at (w := w.alloc (.cells (bv (tbl box)).toArray 37)) (t := 22) (cs := (bv k).toArray) rfl rfl).alloc (.cells (bv b).toArray 54)).keeps hK1 (by simp)
  have h2 := (Blk.new_at (w := (w.alloc (.cells (bv (tbl box)).toArray 37)).alloc (.cells (bv k).toArray 22)) (t := 54) (cs := (bv b).toArray) rfl rfl).keeps hK1 (by simp)
  simp only [List.size_toArray, World.size_alloc] at h0 h1 h2 h3
  have hB : Below w.heap.size w w1 := ((((Below.refl _ _).alloc (Nat.le_refl _) _).alloc (by simp) _).alloc (by simp; omega) _).trans (hK1.below (by simp; omega) (by simp))
  clear hK1 hz1
  go_wp2_with (first
    | refine wpList_loadW rfl 37 (.tmp 3) rfl 256 arrT256 _ rfl 37 _ h0 (tbl_len _) ?_
    | refine wpList_loadW rfl 22 (.tmp 4) rfl 32 arrK32 _ rfl 22 _ h1 hkl.out ?_
    | (go_at_call 34; refine (hro.out _).mono ?_; rintro e w2 ⟨rfl, hB2⟩)
    | refine wpList_allocA rfl 78 rfl (bv (zeros 240)) (by kernel_rfl) ?_)
  intro w3 h4 hK3 hz3
  have ho3 : Hid (w.heap.size + 1 + 1 + 1 < w2.heap.size) := by show _ < _; have := h3.lt; have := hB2.size; omega
  replace h0 := (h0.keep hB2).keeps hK3 (by simp)
  replace h2 := (h2.keep hB2).keeps hK3 (by simp)
  replace h3 := (h3.keep hB2).keeps hK3 (by simp)
  replace hB := (below_call hB hB.size hB2).trans (hK3.below (by have := hB.size; have := hB2.size; omega) (by simp))
  clear hK3 hB2 h1
  generalize w2.heap.size = gk at *
  go_wp2_with (refine wpList_storeW rfl 78 (.tmp 7) (.tmp 14) rfl 240 arrR15 gk rfl (bv K) rfl 78 _ h4 hKl.out (by simp) (ones_bv _) ?_)
  intro w7 h7 hK7
  have hS : Sr w w.heap.size (w.heap.size + 1 + 1) (w.heap.size + 1 + 1 + 1) gk K b w7 :=
    ⟨h0.keeps hK7 (by simp; have := ho3.out; omega), h2.keeps hK7 (by simp; have := ho3.out; omega), h3.keeps hK7 (by simp; have := ho3.out; omega), h7, hB.trans (hK7.below hB.size (by simp; have := ho3.out; omega)), Nat.le_refl _, by omega, by omega, ho3.out⟩
  clear h0 h2 h3 h4 h7 hB hK7 ho3 hz3
  generalize w.heap.size + 1 + 1 + 1 = g3 at *
  generalize w.heap.size + 1 + 1 = g2 at *
  generalize w.heap.size + 1 = g1 at *
  generalize hg0 : w.heap.size = g0 at hS
  replace hg0 := Lib.hid hg0
  have hbl := Lib.hid (show (bv b).length = 16 by simp [Hb.out])
  have sb := hS.b
  have sk := hS.k
  have EK : Hid (((bv K).drop 0).take 16 = bv (rkey K 0)) := by show _ = _; rw [bv_seg]; rfl
  go_wp2_with (first
    | refine wpList_loadW rfl 54 (.tmp 5) rfl 16 arrR16 _ rfl 54 _ sb hbl.out ?_
    | refine wpList_loadA rfl 54 (.tmp 16) rfl 16 arrR16 _ _ rfl 78 _ sk (by rw [hKl.out]; simp) (bv (rkey K 0)) (by simpa using EK.out) ?_
    | (go_at_call 35; refine (hsum.out b (rkey K 0) _ Hb.out (rkey_length Kl.out (by decide)) Bb.out (rkey_lt Kb.out 0)).mono ?_; rintro e w8 ⟨rfl, hB8⟩)
    | refine wpList_storeW rfl 54 (.tmp 5) (.tmp 18) rfl 16 arrR16 _ rfl (bv (xorl b (rkey K 0))) rfl 54 _ (sb.keep hB8) ?_ ?_ (ones_bv _) ?_)
  · rw [bv_length]; exact sealN_length (t := box) Kl.out Hb.out (n := 0) (by decide)
  · exact hbl.out
  intro w9 h9 hK9
  have hS9 : Sr w g0 g2 g3 gk K (sealN box K b 0) w9 := (hS.call hB8).put hK9 h9
  clear sb sk hS h9 hK9 hB8
  go_wp2
  go_loopw [8] (fun i wr => ∃ n : Nat, (n : Int) ≤ 14 ∧ i = .int .i64 ((n : Int) + 1) ∧ Sr w g0 g2 g3 gk K (sealN box K b n) wr) (fun i _ => (15 - intOf i).toNat)
  case atStart => exact ⟨0, by omega, rfl, hS9⟩
  case round =>
    clear hS9
    obtain ⟨n, hn, rfl, hS⟩ := hrel
    by_cases hlt : (n : Int) + 1 < 15
    · have sl := Lib.hid (sealN_length (t := box) Kl.out Hb.out (n := n) (by omega))
      have sb' := Lib.hid (sealN_lt (t := box) (fun x h => box_lt h) Kb.out Bb.out n)
      have hnext : Hid (sealN box K b (n + 1) = sround box K (n + 1) (sealN box K b n)) := rfl
      generalize sealN box K b n = c at *
      obtain ⟨d, hd⟩ : ∃ d, d = sealN box K b (n + 1) := ⟨_, rfl⟩
      rw [← hd] at hnext
      have HD := Lib.hid hd
      clear hd
      have hgx := Lib.hid (show gk < wr.heap.size from hS.k.lt)
      go_wp2_with (refine wpList_allocA rfl 54 rfl (bv (zeros 16)) (by kernel_rfl) ?_)
      intro w1 h1 hK1 hz1
      have hS1 := hS.keeps0 hK1
      clear hK1 hS hz1
      generalize wr.heap.size = gx at *
      go_wp2
      go_loopw [10] (fun i wr => ∃ e : Nat, (e : Int) ≤ 4 ∧ i = .int .i64 (e : Int) ∧ Blk wr gx 54 (bv (upd (shiftB box c) (zeros 16) (4 * e))) ∧ Sr w g0 g2 g3 gk K c wr) (fun i _ => (4 - intOf i).toNat)
      case atStart => exact ⟨0, by omega, rfl, by rw [Nat.mul_zero, upd_zero]; exact h1, hS1⟩
      case round =>
        clear h1 hS1
        obtain ⟨e, he, rfl, h1, hS⟩ := hrel
        by_cases he4 : (e : Int) < 4
        · go_wp2
          go_loopw [11] (fun i wr => ∃ r : Nat, (r : Int) ≤ 4 ∧ i = .int .i64 (r : Int) ∧ Blk wr gx 54 (bv (upd (shiftB box c) (zeros 16) (4 * e + r))) ∧ Sr w g0 g2 g3 gk K c wr) (fun i _ => (4 - intOf i).toNat)
          case atStart => exact ⟨0, by omega, rfl, h1, hS⟩
          case round =>
            clear h1 hS
            obtain ⟨r, hr, rfl, h1, hS⟩ := hrel
            by_cases hr4 : (r : Int) < 4
            · obtain ⟨p, hp⟩ : ∃ p, Hid (p = 4 * e + r) := ⟨_, rfl⟩
              obtain ⟨q, hq⟩ : ∃ q, Hid (q = (p + 4 * (p % 4)) % 16) := ⟨_, rfl⟩
              obtain ⟨s, hs⟩ : ∃ s, Hid (s = (e + r) % 4) := ⟨_, rfl⟩
              obtain ⟨e4, he4'⟩ : ∃ e4, Hid (e4 = 4 * e) := ⟨_, rfl⟩
              obtain ⟨s4, hs4⟩ : ∃ s4, Hid (s4 = 4 * s) := ⟨_, rfl⟩
              have hpq : q = 4 * s + r := by have h1 := hp.out; have h2 := hq.out; have h3 := hs.out; omega
              rw [← hp.out] at h1
              have b1 : (4 : Int) * (e : Int) = (e4 : Int) := by have := he4'.out; omega
              have b2 : (e4 : Int) + (r : Int) = (p : Int) := by have := he4'.out; have := hp.out; omega
              have b3 : Int.tmod ((e : Int) + (r : Int)) 4 = (s : Int) := by rw [hs.out, Int.tmod_eq_emod_of_nonneg (by omega)]; omega
              have b3' : (4 : Int) * (s : Int) = (s4 : Int) := by have := hs4.out; omega
              have b4 : (s4 : Int) + (r : Int) = (q : Int) := by have := hs4.out; omega
              have b5 : (p : Int) < 16 := by have := hp.out; omega
              have b6 : (q : Int) < 16 := by have := hq.out; omega
              have b7 : (e4 : Int) ≤ 12 := by have := he4'.out; omega
              have b8 : (s4 : Int) ≤ 12 := by have := hs4.out; have := hs.out; omega
              have b9 : (s : Int) ≤ 3 := by have := hs.out; omega
              clear hpq
              have hse := Lib.hid (upd_set (new := shiftB box c) (old := zeros 16) (k := p) (by simp) (by simp; omega) (mk_get _ (by omega)))
              rw [← hq.out] at hse
              have c0 := hS.b.byte (i := q) (by rw [sl.out]; omega)
              have hX := gd_lt sb'.out q
              have c1 := hS.t.byte (i := gd c q) (by simp [tbl, hX])
              rw [tbl, gd_mk _ hX] at c1
              have c2 := h1.cell p
              rw [bv_get, upd_get (by simp) (Nat.le_refl _) (by simp; omega), zeros_get (by omega)] at c2
              simp only [Option.map_some] at c2
              have f2 := h1.frozen p
              generalize gd c q = X at *
              generalize box X = Y at *
              have hXI : (X : Int) < 256 := by omega
              have hpr : Hid (p + 1 = 4 * e + (r + 1)) := by show _ = _; have := hp.out; omega
              have hset : Hid (Blk (wr.setCell ⟨gx, p, none⟩ (.int .u8 (Y : Int))) gx 54 (bv (upd (shiftB box c) (zeros 16) (p + 1)))) := by
                rw [← hse.out, ← bv_set]
                exact h1.set_ p _
              have hS' := Lib.hid (hS.keeps ((Keeps.refl [gx] wr).setCell (p := ⟨gx, p, none⟩) (by simp) (.int .u8 (Y : Int))) hgx.out)
              clear h1 hS
              go_wp2
              go_roundw
              case rel =>
                refine ⟨r + 1, by omega, by go_num, ?_, hS'.out⟩
                rw [← hpr.out]
                exact hset.out
              case measure => simp [intOf]; omega
            · obtain rfl : r = 4 := by omega
              rw [show 4 * e + 4 = 4 * (e + 1) from by omega] at h1
              go_wp2
              go_roundw
              case rel => exact ⟨e + 1, by omega, by go_num, h1, hS⟩
              case measure => simp [intOf]; omega
        · obtain rfl : e = 4 := by omega
          rw [upd_all (by simp) (by simp)] at h1
          have hsl := Lib.hid (show (bv (shiftB box c)).length = 16 by simp)
          have hsb := Lib.hid (shiftB_lt (t := box) (fun x h => box_lt h) sb'.out)
          have hsn := Lib.hid (shiftB_length box c)
          generalize hse : shiftB box c = s at *
          have hse := Lib.hid hse
          by_cases hn13 : (n : Int) + 1 < 14
          · have sb := hS.b
            have hcs := Lib.hid (fun w => hcol.out s w hsn.out hsb.out)
            rw [hmixE.out s hsb.out] at hcs
            go_wp2_with (first
              | refine wpList_loadW rfl 54 (.tmp 9) rfl 16 arrR16 gx rfl 54 _ h1 hsl.out ?_
              | (go_at_call 36; refine (hcs.out _).mono ?_; rintro e w8 ⟨rfl, hB8⟩)
              | refine wpList_storeW rfl 54 (.tmp 9) (.tmp 51) rfl 16 arrR16 gx rfl (bv (mix s)) rfl 54 _ (h1.keep hB8) ?_ ?_ (ones_bv _) ?_)
            · simp
            · exact hsl.out
            intro w9 h1 hK9
            have hS := (hS.call hB8).keeps hK9 hgx.out
            have hz : Hid (d = xorl (mix s) (rkey K (n + 1))) := by show _ = _; rw [hnext.out, sround, if_pos (by omega), hse.out]
            have hzl := Lib.hid (show (bv (mix s)).length = 16 by simp)
            have hzb := Lib.hid (mix_lt hsb.out)
            have hzn := Lib.hid (mix_length s)
            clear hcs
            generalize mix s = z at *
            clear sb hK9 hB8
            go_wp2
            have a1 : IntKind.i64.wrap ((n : Int) + 1) = (n : Int) + 1 := IntWalk.i64_in _ (by omega)
            have a2 : (0 : Int) ≤ (n : Int) + 1 := by omega
            have a3 : (n : Int) + 1 < 15 := by omega
            have a4 : ((n : Int) + 1).toNat = n + 1 := by omega
            have h1d := h1.drew
            have skd := hS.drew.k
            have EK : Hid (((bv K).drop ((n + 1) * 16)).take 16 = bv (rkey K (n + 1))) := by show _ = _; rw [bv_seg, Nat.mul_comm]; rfl
            go_still_tail 4, (by kernel_rfl)
            refine wpStill_loadW rfl 54 (.tmp 9) rfl 16 arrR16 gx rfl 54 _ h1d hzl.out ?_
            repeat still_step
            refine wpStill_loadA rfl 54 (.tmp 54) rfl 16 arrR16 _ _ rfl 78 _ skd (by rw [hKl.out]; omega) (bv (rkey K (n + 1))) EK.out ?_
            refine wpStill_nil ?_
            change wpList _ _ _ _ _ (World.drew _)
            clear a1 a2 a3 a4
            have hS := hS.drew
            have sb := hS.b
            go_wp2_with (first
              | (go_at_call 35; refine (hsum.out z (rkey K (n + 1)) _ hzn.out (rkey_length Kl.out (by omega)) hzb.out (rkey_lt Kb.out _)).mono ?_; rintro e w8 ⟨rfl, hB8⟩)
              | refine wpList_storeW rfl 54 (.tmp 5) (.tmp 56) rfl 16 arrR16 _ rfl (bv (xorl z (rkey K (n + 1)))) rfl 54 _ (sb.keep hB8) ?_ ?_ (ones_bv _) ?_)
            · rw [bv_length, xorl_length (by rw [hzn.out, rkey_length Kl.out (by omega)]), hzn.out]
            · rw [bv_length, sl.out]
            intro w9 h9 hK9
            rw [← hz.out] at h9
            have hS9 : Sr w g0 g2 g3 gk K d w9 := (hS.call hB8).put hK9 h9
            clear sb hS h9 hK9 hB8 h1 h1d skd
            rw [HD.out] at hS9
            go_wp2
            go_roundw
            case rel => exact ⟨n + 1, by omega, by go_num, hS9⟩
            case measure => simp [intOf]; omega
          · obtain rfl : n = 13 := by omega
            have hz : Hid (d = xorl s (rkey K (13 + 1))) := by show _ = _; rw [hnext.out, sround, if_neg (by omega), hse.out]
            have hzl := hsl
            have hzb := hsb
            have hzn := hsn
            obtain ⟨z, rfl⟩ : ∃ z, z = s := ⟨_, rfl⟩
            go_wp2
            have a1 : IntKind.i64.wrap (14) = 14 := IntWalk.i64_in _ (by omega)
            have a2 : (0 : Int) ≤ 14 := by omega
            have a3 : 14 < 15 := by omega
            have a4 : (14 : Int).toNat = 14 := by omega
            have h1d := h1.drew
            have skd := hS.drew.k
            have EK : Hid (((bv K).drop (14 * 16)).take 16 = bv (rkey K 14)) := by show _ = _; rw [bv_seg, Nat.mul_comm]; rfl
            go_still_tail 4, (by kernel_rfl)
            refine wpStill_loadW rfl 54 (.tmp 9) rfl 16 arrR16 gx rfl 54 _ h1d hzl.out ?_
            repeat still_step
            refine wpStill_loadA rfl 54 (.tmp 54) rfl 16 arrR16 _ _ rfl 78 _ skd (by rw [hKl.out]; omega) (bv (rkey K 14)) EK.out ?_
            refine wpStill_nil ?_
            change wpList _ _ _ _ _ (World.drew _)
            clear a1 a2 a3 a4
            have hS := hS.drew
            have sb := hS.b
            go_wp2_with (first
              | (go_at_call 35; refine (hsum.out z (rkey K 14) _ hzn.out (rkey_length Kl.out (by omega)) hzb.out (rkey_lt Kb.out _)).mono ?_; rintro e w8 ⟨rfl, hB8⟩)
              | refine wpList_storeW rfl 54 (.tmp 5) (.tmp 56) rfl 16 arrR16 _ rfl (bv (xorl z (rkey K 14))) rfl 54 _ (sb.keep hB8) ?_ ?_ (ones_bv _) ?_)
            · rw [bv_length, xorl_length (by rw [hzn.out, rkey_length Kl.out (by omega)]), hzn.out]
            · rw [bv_length, sl.out]
            intro w9 h9 hK9
            rw [← hz.out] at h9
            have hS9 : Sr w g0 g2 g3 gk K d w9 := (hS.call hB8).put hK9 h9
            clear sb hS h9 hK9 hB8 h1 h1d skd
            rw [HD.out] at hS9
            go_wp2
            go_roundw
            case rel => exact ⟨14, by omega, by go_num, hS9⟩
            case measure => simp [intOf]
    · obtain rfl : n = 14 := by omega
      have sl := Lib.hid (show (bv (sealN box K b 14)).length = 16 by rw [bv_length]; exact sealN_length (t := box) Kl.out Hb.out (n := 14) (by omega))
      have sb := hS.b
      have sr := hS.r
      have hB := hS.below
      have ho := Lib.hid (show w.heap.size ≤ g3 by have := hS.o0; have := hS.o1; have := hS.o2; omega)
      clear hS
      rw [show sealN box K b 14 = R from HR.out] at sb sl
      go_wp2_with (first
        | refine wpList_loadW rfl 54 (.tmp 5) rfl 16 arrR16 _ rfl 54 _ sb sl.out ?_
        | refine wpList_storeW rfl 54 (.tmp 6) (.tmp 57) rfl 16 arrR16 _ rfl (bv R) rfl 54 _ sr sl.out (by simp) (ones_bv _) ?_)
      intro w9 h9 hK9
      go_wp2
      exact bodyPost_ret (v := .agg (bv R).toArray) (res_cell Try.results25 _ _ _ 54 _ arrR16 sl.out rfl h9) rfl (hRet.out _ (hB.trans (hK9.below hB.size (by intro b hb; simp only [List.mem_singleton] at hb; subst hb; exact ho.out))))
end Go.Proofs.Ytokphnfhajljmaa
