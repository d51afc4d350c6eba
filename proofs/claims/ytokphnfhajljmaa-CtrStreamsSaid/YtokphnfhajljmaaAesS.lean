/- Contracts of package aes: Rounds, Seal. -/
import Derived.Test.YtokphnfhajljmaaAesE
import Derived.Test.YtokphnfhajljmaaAesR
set_option linter.unusedVariables false
set_option linter.unusedSimpArgs false
namespace Go.Proofs.Ytokphnfhajljmaa
open Go.RowKit
open Go.Proofs.PlainAes

theorem tbl_len (f : Nat → Nat) : (bv (tbl f)).length = 256 := by simp [tbl]
theorem Byt.keys {k : List Nat} (bk : Byt k) : Byt (keys box k) := keys_lt (fun x h => box_lt h) bk

/-- What lies there while a block is sealed. -/
structure Sx (w : World) (gt gk : Nat) (K b : List Nat) (wr : World) : Prop where
  b : Blk wr (w.heap.size + 1) 55 (bv b)
  r : Blk wr (w.heap.size + 1 + 1) 55 (bv (zeros 16))
  t : Blk wr gt 37 (bv (tbl box))
  k : Blk wr gk 73 (bv K)
  below : Below w.heap.size w wr
  o1 : w.heap.size + 1 + 1 < gt
  o2 : gt < gk
section
variable {w wr wr' : World} {gt gk g : Nat} {K b b' : List Nat}
theorem Sx.call (h : Sx w gt gk K b wr) (hB : Below wr.heap.size wr wr') : Sx w gt gk K b wr' := ⟨h.b.keep hB, h.r.keep hB, h.t.keep hB, h.k.keep hB, below_call h.below h.below.size hB, h.o1, h.o2⟩
theorem Sx.keeps0 (h : Sx w gt gk K b wr) (hB : Keeps [] wr wr') : Sx w gt gk K b wr' := h.call (hB.below (Nat.le_refl _) (by simp))
theorem Sx.keeps (h : Sx w gt gk K b wr) (hk : Keeps [g] wr wr') (hg : gk < g) : Sx w gt gk K b wr' := by
  have h1 := h.o1
  have h2 := h.o2
  exact ⟨h.b.keeps hk (by simp; omega), h.r.keeps hk (by simp; omega), h.t.keeps hk (by simp; omega), h.k.keeps hk (by simp; omega), h.below.trans (hk.below h.below.size (by simp; omega)), h1, h2⟩
theorem Sx.put (h : Sx w gt gk K b wr) (hk : Keeps [w.heap.size + 1] wr wr') (hb : Blk wr' (w.heap.size + 1) 55 (bv b')) : Sx w gt gk K b' wr' := by
  have h1 := h.o1
  have h2 := h.o2
  exact ⟨hb, h.r.keeps hk (by simp), h.t.keeps hk (by simp; omega), h.k.keeps hk (by simp; omega), h.below.trans (hk.below h.below.size (by simp)), h1, h2⟩
theorem Sx.drew (h : Sx w gt gk K b wr) : Sx w gt gk K b wr.drew := ⟨h.b, h.r, h.t, h.k, h.below.drew, h.o1, h.o2⟩
end

set_option maxRecDepth 100000 in
set_option maxHeartbeats 4000000 in
theorem seal_any (k b : List Nat) (w : World) (hk : k.length = 32) (bk : Byt k) (hb : b.length = 16) (bb : Byt b) : Calls Try.prog 20 #[.agg (bv k).toArray, .agg (bv b).toArray] w (RetA (sealB box (keys box k) b) w) := by
  have htb := Lib.hid (fun w => table_box w)
  have hex := Lib.hid (fun gt w h => expand_any k gt w hk bk h)
  have hsum := Lib.hid (fun a b w ha hb ba bb => asum_any a b w ha hb ba bb)
  have hmix := Lib.hid (fun b w hb bb => amix_any b w hb bb)
  have hkl := Lib.hid (show (bv k).length = 32 by simp [hk])
  have Kl := Lib.hid (keys_length box hk)
  have Kb := Lib.hid (bk.keys)
  have Hb := Lib.hid hb
  have Bb := Lib.hid bb
  have hKl := Lib.hid (show (bv (keys box k)).length = 240 by simp [keys_length box hk])
  clear hk bk hb bb
  generalize keys box k = K at *
  generalize hR : sealB box K b = R
  have HR := Lib.hid hR
  clear hR
  go_enter Try.func20, Try.ntmps20
  go_wp2_with (refine wpList_allocA rfl 55 rfl (bv (zeros 16)) (by kernel_rfl) ?_)
  intro w1 h1 hK1 hz1
  have h0 := ((Blk.new_at (w := w) (t := 28) (cs := (bv k).toArray) rfl rfl).alloc (.cells (bv b).toArray 55)).keeps hK1 (by simp)
  have hb0 := (Blk.new_at (w := w.alloc (.cells (bv k).toArray 28)) (n := w.heap.size + 1) (t := 55) (cs := (bv b).toArray) (by simp) rfl).keeps hK1 (by simp)
  simp only [List.size_toArray] at h0 hb0
  have hB : Below w.heap.size w w1 := (((Below.refl _ _).alloc (Nat.le_refl _) _).alloc (by simp) _).trans (hK1.below (by simp; omega) (by simp))
  clear hK1
  go_wp2_with (first
    | (go_at_call 28; refine (htb.out _).mono ?_; rintro e w2 ⟨rfl, hB2⟩)
    | refine wpList_allocA rfl 37 rfl (bv (zeros 256)) (by kernel_rfl) ?_)
  intro w3 h3 hK3 hz3
  have hgt : w.heap.size + 1 + 1 < w2.heap.size := by have := hB2.size; omega
  have h1 := (h1.keep hB2).keeps hK3 (by simp)
  have h0 := (h0.keep hB2).keeps hK3 (by simp)
  have hb0 := (hb0.keep hB2).keeps hK3 (by simp)
  have hB := (below_call hB hB.size hB2).trans (hK3.below (by have := hB.size; have := hB2.size; omega) (by simp))
  clear hK3 hB2
  generalize w2.heap.size = gt at *
  go_wp2_with (refine wpList_storeW rfl 37 (.tmp 5) (.tmp 10) rfl 256 arrT gt rfl (bv (tbl box)) rfl 37 _ h3 (tbl_len _) (by simp) (ones_bv _) ?_)
  intro w4 h4 hK4
  have h1 := h1.keeps hK4 (by simp; omega)
  have h0 := h0.keeps hK4 (by simp; omega)
  have hb0 := hb0.keeps hK4 (by simp; omega)
  have hB := hB.trans (hK4.below hB.size (by simp; omega))
  clear hK4 h3
  go_wp2_with (first
    | refine wpList_loadW rfl 28 (.tmp 2) rfl 32 arrK _ rfl 28 _ h0 hkl.out ?_
    | (go_at_call 30; refine (hex.out gt _ h4).mono ?_; rintro e w5 ⟨rfl, hB5⟩)
    | refine wpList_allocA rfl 73 rfl (bv (zeros 240)) (by kernel_rfl) ?_)
  intro w6 h6 hK6 hz6
  have hgk : gt < w5.heap.size := Nat.lt_of_lt_of_le h4.lt hB5.size
  have h1 := (h1.keep hB5).keeps hK6 (by simp)
  have h4 := (h4.keep hB5).keeps hK6 (by simp)
  have hb0 := (hb0.keep hB5).keeps hK6 (by simp)
  have hB := (below_call hB hB.size hB5).trans (hK6.below (by have := hB.size; have := hB5.size; omega) (by simp))
  clear hK6 hB5 h0
  generalize w5.heap.size = gk at *
  go_wp2_with (refine wpList_storeW rfl 73 (.tmp 6) (.tmp 12) rfl 240 arrR gk rfl (bv K) rfl 73 _ h6 hKl.out (by simp) (ones_bv _) ?_)
  intro w7 h7 hK7
  have hS : Sx w gt gk K b w7 := ⟨hb0.keeps hK7 (by simp; omega), h1.keeps hK7 (by simp; omega), h4.keeps hK7 (by simp; omega), h7, hB.trans (hK7.below hB.size (by simp; omega)), hgt, hgk⟩
  clear hb0 h1 h4 h7 h6 hB hK7 hgt hgk
  have hbl := Lib.hid (show (bv b).length = 16 by simp [Hb.out])
  have sb := hS.b
  have sk := hS.k
  have EK : Hid (((bv K).drop 0).take 16 = bv (rkey K 0)) := by show _ = _; rw [bv_seg]; rfl
  go_wp2_with (first
    | refine wpList_loadW rfl 55 (.tmp 3) rfl 16 arrB _ rfl 55 _ sb hbl.out ?_
    | refine wpList_loadA rfl 55 (.tmp 14) rfl 16 arrB _ _ rfl 73 _ sk (by rw [hKl.out]; simp) (bv (rkey K 0)) (by simpa using EK.out) ?_
    | (go_at_call 31; refine (hsum.out b (rkey K 0) _ Hb.out (rkey_length Kl.out (by decide)) Bb.out (rkey_lt Kb.out 0)).mono ?_; rintro e w8 ⟨rfl, hB8⟩)
    | refine wpList_storeW rfl 55 (.tmp 3) (.tmp 16) rfl 16 arrB _ rfl (bv (xorl b (rkey K 0))) rfl 55 _ (sb.keep hB8) ?_ ?_ (ones_bv _) ?_)
  · rw [bv_length]; exact sealN_length (t := box) Kl.out Hb.out (n := 0) (by decide)
  · exact hbl.out
  intro w9 h9 hK9
  have hS9 : Sx w gt gk K (sealN box K b 0) w9 := (hS.call hB8).put hK9 h9
  clear sb sk hS h9 hK9 hB8 hz1 hz3 hz6
  go_wp2
  go_loopw [7] (fun i wr => ∃ n : Nat, n ≤ 14 ∧ i = .int .i64 ((n : Int) + 1) ∧ Sx w gt gk K (sealN box K b n) wr) (fun i _ => (15 - intOf i).toNat)
  case atStart => exact ⟨0, Nat.zero_le _, rfl, hS9⟩
  case round =>
    clear hS9
    obtain ⟨n, hn, rfl, hS⟩ := hrel
    by_cases hlt : (n : Int) + 1 ≤ 14
    · have sl := Lib.hid (sealN_length (t := box) Kl.out Hb.out (n := n) (by omega))
      have sb' := Lib.hid (sealN_lt (t := box) (fun x h => box_lt h) Kb.out Bb.out n)
      have hnext : Hid (sealN box K b (n + 1) = sround box K (n + 1) (sealN box K b n)) := rfl
      generalize sealN box K b n = c at *
      obtain ⟨d, hd⟩ : ∃ d, d = sealN box K b (n + 1) := ⟨_, rfl⟩
      rw [← hd] at hnext
      have HD := Lib.hid hd
      clear hd
      have hgx : gk < wr.heap.size := hS.k.lt
      go_wp2_with (refine wpList_allocA rfl 55 rfl (bv (zeros 16)) (by kernel_rfl) ?_)
      intro w1 h1 hK1 hz1
      have hS1 := hS.keeps0 hK1
      clear hK1 hS
      generalize wr.heap.size = gx at *
      go_wp2
      go_loopw [21] (fun i wr => ∃ j : Nat, j ≤ 16 ∧ i = .int .i64 (j : Int) ∧ Blk wr gx 55 (bv (upd (shiftB box c) (zeros 16) j)) ∧ Sx w gt gk K c wr) (fun i _ => (16 - intOf i).toNat)
      case atStart => exact ⟨0, Nat.zero_le _, rfl, by rw [upd_zero]; exact h1, hS1⟩
      case round =>
        clear h1 hS1
        obtain ⟨j, hj, rfl, h1, hS⟩ := hrel
        by_cases hj16 : (j : Int) < 16
        · have hs := Lib.hid (upd_set (new := shiftB box c) (old := zeros 16) (k := j) (by simp) (by simp; omega) (mk_get _ (by omega)))
          have c0 := hS.b.byte (i := (j + 4 * (j % 4)) % 16) (by rw [sl.out]; omega)
          have hX := gd_lt sb'.out ((j + 4 * (j % 4)) % 16)
          have c1 := hS.t.byte (i := gd c ((j + 4 * (j % 4)) % 16)) (by simp [tbl, hX])
          rw [tbl, gd_mk _ hX] at c1
          have c2 := h1.cell j
          rw [bv_get, upd_get (by simp) (Nat.le_refl _) (by simp; omega), zeros_get (by omega)] at c2
          simp only [Option.map_some] at c2
          have f2 := h1.frozen j
          generalize gd c ((j + 4 * (j % 4)) % 16) = X at *
          generalize box X = Y at *
          have hXI : (X : Int) < 256 := by omega
          go_wp2
          go_roundw
          case rel =>
            refine ⟨j + 1, by omega, by go_num, ?_, hS.keeps ((Keeps.refl [gx] _).setCell (by simp) _) hgx⟩
            rw [← hs.out, ← bv_set]
            exact h1.set_ j _
          case measure => simp [intOf]; omega
        · obtain rfl : j = 16 := by omega
          rw [upd_all (by simp) (by simp)] at h1
          have hsl := Lib.hid (show (bv (shiftB box c)).length = 16 by simp)
          have hsb := Lib.hid (shiftB_lt (t := box) (fun x h => box_lt h) sb'.out)
          have hsn := Lib.hid (shiftB_length box c)
          generalize hse : shiftB box c = s at *
          have hse := Lib.hid hse
          by_cases hn13 : (n : Int) + 1 < 14
          · have sb := hS.b
            go_wp2_with (first
              | refine wpList_loadW rfl 55 (.tmp 8) rfl 16 arrB gx rfl 55 _ h1 hsl.out ?_
              | (go_at_call 32; refine (hmix.out s _ hsn.out hsb.out).mono ?_; rintro e w8 ⟨rfl, hB8⟩)
              | refine wpList_storeW rfl 55 (.tmp 8) (.tmp 40) rfl 16 arrB gx rfl (bv (mix s)) rfl 55 _ (h1.keep hB8) ?_ ?_ (ones_bv _) ?_)
            · simp
            · exact hsl.out
            intro w9 h1 hK9
            have hS := (hS.call hB8).keeps hK9 hgx
            have hz : Hid (d = xorl (mix s) (rkey K (n + 1))) := by show _ = _; rw [hnext.out, sround, if_pos (by omega), hse.out]
            have hzl := Lib.hid (show (bv (mix s)).length = 16 by simp)
            have hzb := Lib.hid (mix_lt hsb.out)
            have hzn := Lib.hid (mix_length s)
            generalize mix s = z at *
            clear sb hK9 hB8
            go_wp2
            have a1 : IntKind.i64.wrap ((n : Int) + 1) = (n : Int) + 1 := IntWalk.i64_in _ (by omega)
            have a2 : (0 : Int) ≤ (n : Int) + 1 := by omega
            have a3 : (n : Int) + 1 < 15 := by omega
            have a4 : ((n : Int) + 1).toNat = n + 1 := by omega
            have h1d := h1.drew
            have skd := hS.drew.k
            have EK : Hid (((bv K).drop ((n + 1) * 16)).take 16 = bv (rkey K (n + 1))) := by show _ = _; rw [bv_seg, Nat.mul_comm]; rfl
            go_still_tail 4, (by kernel_rfl)
            refine wpStill_loadW rfl 55 (.tmp 8) rfl 16 arrB gx rfl 55 _ h1d hzl.out ?_
            repeat still_step
            refine wpStill_loadA rfl 55 (.tmp 43) rfl 16 arrB _ _ rfl 73 _ skd (by rw [hKl.out]; omega) (bv (rkey K (n + 1))) EK.out ?_
            refine wpStill_nil ?_
            change wpList _ _ _ _ _ (World.drew _)
            clear a1 a2 a3 a4
            have hS := hS.drew
            have sb := hS.b
            go_wp2_with (first
              | (go_at_call 31; refine (hsum.out z (rkey K (n + 1)) _ hzn.out (rkey_length Kl.out (by omega)) hzb.out (rkey_lt Kb.out _)).mono ?_; rintro e w8 ⟨rfl, hB8⟩)
              | refine wpList_storeW rfl 55 (.tmp 3) (.tmp 45) rfl 16 arrB _ rfl (bv (xorl z (rkey K (n + 1)))) rfl 55 _ (sb.keep hB8) ?_ ?_ (ones_bv _) ?_)
            · rw [bv_length, xorl_length (by rw [hzn.out, rkey_length Kl.out (by omega)]), hzn.out]
            · rw [bv_length, sl.out]
            intro w9 h9 hK9
            rw [← hz.out] at h9
            have hS9 : Sx w gt gk K d w9 := (hS.call hB8).put hK9 h9
            clear sb hS h9 hK9 hB8 h1 h1d skd
            rw [HD.out] at hS9
            go_wp2
            go_roundw
            case rel => exact ⟨n + 1, by omega, by go_num, hS9⟩
            case measure => simp [intOf]; omega
          · obtain rfl : n = 13 := by omega
            have hz : Hid (d = xorl s (rkey K (13 + 1))) := by show _ = _; rw [hnext.out, sround, if_neg (by omega), hse.out]
            have hzl := hsl
            have hzb := hsb
            have hzn := hsn
            obtain ⟨z, rfl⟩ : ∃ z, z = s := ⟨_, rfl⟩
            go_wp2
            have a1 : IntKind.i64.wrap (14) = 14 := IntWalk.i64_in _ (by omega)
            have a2 : (0 : Int) ≤ 14 := by omega
            have a3 : 14 < 15 := by omega
            have a4 : (14 : Int).toNat = 14 := by omega
            have h1d := h1.drew
            have skd := hS.drew.k
            have EK : Hid (((bv K).drop (14 * 16)).take 16 = bv (rkey K 14)) := by show _ = _; rw [bv_seg, Nat.mul_comm]; rfl
            go_still_tail 4, (by kernel_rfl)
            refine wpStill_loadW rfl 55 (.tmp 8) rfl 16 arrB gx rfl 55 _ h1d hzl.out ?_
            repeat still_step
            refine wpStill_loadA rfl 55 (.tmp 43) rfl 16 arrB _ _ rfl 73 _ skd (by rw [hKl.out]; omega) (bv (rkey K 14)) EK.out ?_
            refine wpStill_nil ?_
            change wpList _ _ _ _ _ (World.drew _)
            clear a1 a2 a3 a4
            have hS := hS.drew
            have sb := hS.b
            go_wp2_with (first
              | (go_at_call 31; refine (hsum.out z (rkey K 14) _ hzn.out (rkey_length Kl.out (by omega)) hzb.out (rkey_lt Kb.out _)).mono ?_; rintro e w8 ⟨rfl, hB8⟩)
              | refine wpList_storeW rfl 55 (.tmp 3) (.tmp 45) rfl 16 arrB _ rfl (bv (xorl z (rkey K 14))) rfl 55 _ (sb.keep hB8) ?_ ?_ (ones_bv _) ?_)
            · rw [bv_length, xorl_length (by rw [hzn.out, rkey_length Kl.out (by omega)]), hzn.out]
            · rw [bv_length, sl.out]
            intro w9 h9 hK9
            rw [← hz.out] at h9
            have hS9 : Sx w gt gk K d w9 := (hS.call hB8).put hK9 h9
            clear sb hS h9 hK9 hB8 h1 h1d skd
            rw [HD.out] at hS9
            go_wp2
            go_roundw
            case rel => exact ⟨14, by omega, by go_num, hS9⟩
            case measure => simp [intOf]
    · obtain rfl : n = 14 := by omega
      have sl := Lib.hid (show (bv (sealN box K b 14)).length = 16 by rw [bv_length]; exact sealN_length (t := box) Kl.out Hb.out (n := 14) (by omega))
      have sb := hS.b
      have sr := hS.r
      have hB := hS.below
      clear hS
      rw [show sealN box K b 14 = R from HR.out] at sb sl
      go_wp2_with (first
        | refine wpList_loadW rfl 55 (.tmp 3) rfl 16 arrB _ rfl 55 _ sb sl.out ?_
        | refine wpList_storeW rfl 55 (.tmp 4) (.tmp 46) rfl 16 arrB _ rfl (bv R) rfl 55 _ sr sl.out (by simp) (ones_bv _) ?_)
      intro w9 h9 hK9
      go_wp2
      exact bodyPost_ret (v := .agg (bv R).toArray) (res_cell Try.results20 _ _ _ 55 _ arrB sl.out rfl h9) rfl ⟨rfl, hB.trans (hK9.below hB.size (by simp; omega))⟩
end Go.Proofs.Ytokphnfhajljmaa
