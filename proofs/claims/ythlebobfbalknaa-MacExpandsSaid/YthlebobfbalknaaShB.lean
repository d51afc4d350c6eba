/- Contracts of package sha: take. -/
import Derived.Test.YthlebobfbalknaaShA
set_option linter.unusedVariables false
set_option linter.unusedSimpArgs false
namespace Go.Proofs.Ythlebobfbalknaa
open Go.RowKit
open Go.Proofs.PlainAes
open Go.Proofs.PlainSha

theorem eight {l : List Nat} (h : l.length = 8) : ∃ a b c d e f g k, l = [a, b, c, d, e, f, g, k] := by
  match l, h with
  | [a, b, c, d, e, f, g, k], _ => exact ⟨a, b, c, d, e, f, g, k, rfl⟩
theorem arr8s : ArrTy Try.prog 72 8 := ⟨_, Try.underlying72, rfl, by kernel_rfl⟩

set_option maxRecDepth 100000 in
set_option maxHeartbeats 2000000 in
theorem take_any (s K b : List Nat) (v : Value) (gk ok : Nat) (w : World) (hs : s.length = 8) (bs : Wds s) (hK : K.length = 64) (bK : Wds K) (hv : Sl w v (bv b)) (hb : b.length = 64) (bb : Byt b) (hk : At w gk ok (wv K)) :
    Calls Try.prog 32 #[.agg (wv s).toArray, v, .pointer (some ⟨gk, ok, none⟩)] w (RetV (takeS K s b) w) := by
  have hsp := Lib.hid (fun w h => spread_any v b w h hb bb)
  have hmx := Lib.hid (fun (x : Nat) hx a b c a' b' c' ea eb ec a1 a2 b1 b2 c1 c2 w => mix_at x hx a b c a' b' c' ea eb ec a1 a2 b1 b2 c1 c2 w)
  have hT : takeS K s b = mk 8 (fun i => (gd (roundsN K (spread b) s 64) i + gd s i) % 4294967296) := rfl
  have hWl := Lib.hid (spread_length b)
  have hWw := Lib.hid (spread_wds bb)
  have hkI : Hid (gk < w.heap.size) := cell_lt (hk 0 _ (gd_wv (by omega)))
  have hRl := Lib.hid (takeS_length K s b)
  have hRg := Lib.hid (show ∀ i, i < 8 → gd (takeS K s b) i = (gd (roundsN K (spread b) s 64) i + gd s i) % 4294967296 from fun i hi => by rw [hT, gd_mk _ hi])
  clear hT
  generalize takeS K s b = R at *
  change Hid (∀ w, _ → Calls _ _ _ w (RetV (spread b) w)) at hsp
  generalize spread b = W at *
  have Hs := Lib.hid hs
  have Bs := Lib.hid bs
  have HK := Lib.hid hK
  have BK := Lib.hid bK
  have Hk := Lib.hid hk
  have Hv := Lib.hid hv
  clear hs bs hK bK hk hv hb bb
  go_enter Try.func32, Try.ntmps32
  go_wp2_with fail
  refine (hsp.out _ (Hv.out.keep (((Below.refl _ _).alloc (Nat.le_refl _) _).alloc (by simp) _))).mono ?_
  rintro e w2 ⟨rfl, hB2⟩
  have hs0 : Blk w2 w.heap.size 72 (wv s) := ((Blk.new_at (w := w) (t := 72) (cs := (wv s).toArray) rfl rfl).alloc _).keep hB2
  have ho0 : Blk w2 (w.heap.size + 1) 72 (wv (zeros 8)) := (Blk.new_at (w := w.alloc (.cells (wv s).toArray 72)) (n := w.heap.size + 1) (t := 72) (by simp) rfl).keep hB2
  have hB : Below w.heap.size w w2 := below_call (((Below.refl _ _).alloc (Nat.le_refl _) _).alloc (by simp) _) (by simp; omega) hB2
  clear hB2
  have hgW : w.heap.size + 1 < w2.heap.size := ho0.lt
  go_wp2_with (refine wpList_allocA rfl 73 rfl (wv (zeros 64)) (by kernel_rfl) ?_)
  intro w3 hw hK3 hz3
  replace hs0 := hs0.keeps hK3 (by simp)
  replace ho0 := ho0.keeps hK3 (by simp)
  replace hB := hB.trans (hK3.below hB.size (by simp))
  clear hK3
  generalize w2.heap.size = gW at *
  have hWL := Lib.hid (show (wv W).length = 64 by simp [hWl.out])
  have hSL := Lib.hid (show (wv s).length = 8 by simp [Hs.out])
  go_wp2_with (refine wpList_storeW rfl 73 (.tmp 7) (.tmp 20) rfl 64 arr64w gW rfl (wv W) rfl 73 _ hw hWL.out (by simp) (ones_wv _) ?_)
  intro w4 hw hK4
  replace hs0 := hs0.keeps hK4 (by simp; omega)
  replace ho0 := ho0.keeps hK4 (by simp; omega)
  replace hB := hB.trans (hK4.below hB.size (by simp; omega))
  clear hK4
  go_wp2_with (first | refine wpList_loadW rfl 72 (.tmp 3) rfl 8 arr8s _ rfl 72 _ hs0 hSL.out ?_ | refine wpList_allocA rfl 72 rfl (wv (zeros 8)) (by kernel_rfl) ?_)
  intro w5 hx hK5 hz5
  replace hs0 := hs0.keeps hK5 (by simp)
  replace ho0 := ho0.keeps hK5 (by simp)
  have hgX : gW < w4.heap.size := hw.lt
  replace hw := hw.keeps hK5 (by simp)
  replace hB := hB.trans (hK5.below hB.size (by simp))
  clear hK5 hz5 hz3
  generalize w4.heap.size = gX at *
  go_wp2_with (refine wpList_storeW rfl 72 (.tmp 8) (.tmp 21) rfl 8 arr8s gX rfl (wv s) rfl 72 _ hx hSL.out (by simp) (ones_wv _) ?_)
  intro w6 hx hK6
  replace hs0 := hs0.keeps hK6 (by simp; omega)
  replace ho0 := ho0.keeps hK6 (by simp; omega)
  replace hw := hw.keeps hK6 (by simp; omega)
  replace hB := hB.trans (hK6.below hB.size (by simp; omega))
  clear hK6
  go_wp2
  go_loopw [22] (fun i wr => ∃ n : Nat, (n : Int) ≤ 64 ∧ i = .int .i64 (n : Int) ∧ Blk wr w.heap.size 72 (wv s) ∧ Blk wr (w.heap.size + 1) 72 (wv (zeros 8)) ∧ Blk wr gW 73 (wv W) ∧ Blk wr gX 72 (wv (roundsN K W s n)) ∧ Below w.heap.size w wr) (fun i _ => 64 - (intOf i).toNat)
  case atStart => exact ⟨0, by omega, rfl, hs0, ho0, hw, hx, hB⟩
  case round =>
    clear hs0 ho0 hw hx hB
    obtain ⟨n, hn, rfl, hs0, ho0, hw, hx, hB⟩ := hrel
    by_cases hlt : (n : Int) < 64
    · have hkn := Hk.out n _ (gd_wv (by have := HK.out; omega))
      rw [← (bcell hB).1 gk (ok + n) hkI.out] at hkn
      have hwn := hw.cell n
      rw [gd_wv (by have := hWl.out; omega)] at hwn
      have lk := BK.out.gd n
      have lw := hWw.out.gd n
      have hst : Hid (roundsN K W s (n + 1) = rstep (roundsN K W s n) (gd K n) (gd W n)) := rfl
      have hxw := roundsN_wds (K := K) (W := W) Bs.out n
      have hxl := roundsN_length (K := K) (W := W) Hs.out n
      generalize gd K n = kn at *
      generalize gd W n = wn at *
      generalize roundsN K W s n = X at *
      obtain ⟨x0, x1, x2, x3, x4, x5, x6, x7, rfl⟩ := eight hxl
      clear hxl
      have l0 : x0 < 4294967296 := hxw _ (by simp)
      have l1 : x1 < 4294967296 := hxw _ (by simp)
      have l2 : x2 < 4294967296 := hxw _ (by simp)
      have l3 : x3 < 4294967296 := hxw _ (by simp)
      have l4 : x4 < 4294967296 := hxw _ (by simp)
      have l5 : x5 < 4294967296 := hxw _ (by simp)
      have l6 : x6 < 4294967296 := hxw _ (by simp)
      have l7 : x7 < 4294967296 := hxw _ (by simp)
      have c0 : wr.cell? ⟨gX, 0, none⟩ = some (.int .u32 (x0 : Int)) := hx.cell 0
      have c1 : wr.cell? ⟨gX, 1, none⟩ = some (.int .u32 (x1 : Int)) := hx.cell 1
      have c2 : wr.cell? ⟨gX, 2, none⟩ = some (.int .u32 (x2 : Int)) := hx.cell 2
      have c4 : wr.cell? ⟨gX, 4, none⟩ = some (.int .u32 (x4 : Int)) := hx.cell 4
      have c5 : wr.cell? ⟨gX, 5, none⟩ = some (.int .u32 (x5 : Int)) := hx.cell 5
      have c6 : wr.cell? ⟨gX, 6, none⟩ = some (.int .u32 (x6 : Int)) := hx.cell 6
      have c7 : wr.cell? ⟨gX, 7, none⟩ = some (.int .u32 (x7 : Int)) := hx.cell 7
      clear hxw
      have M1 := mixW_lt 26 21 7 l4
      have M2 := mixW_lt 30 19 10 l0
      have hm1 := Lib.hid (fun w => hmx.out x4 l4 6 11 25 26 21 7 rfl rfl rfl (by decide) (by decide) (by decide) (by decide) (by decide) (by decide) w)
      have hm2 := Lib.hid (fun w => hmx.out x0 l0 2 13 22 30 19 10 rfl rfl rfl (by decide) (by decide) (by decide) (by decide) (by decide) (by decide) w)
      have et1 : Hid (t1 [x0, x1, x2, x3, x4, x5, x6, x7] kn wn = (x7 + mixW x4 26 21 7 + (x6 ^^^ (x4 &&& (x5 ^^^ x6))) + kn + wn) % 4294967296) := rfl
      have et2 : Hid (t2 [x0, x1, x2, x3, x4, x5, x6, x7] = (mixW x0 30 19 10 + ((x0 &&& (x1 ||| x2)) ||| (x1 &&& x2))) % 4294967296) := rfl
      have hst2 : Hid (roundsN K W s (n + 1) = [(t1 [x0, x1, x2, x3, x4, x5, x6, x7] kn wn + t2 [x0, x1, x2, x3, x4, x5, x6, x7]) % 4294967296, x0, x1, x2, (x3 + t1 [x0, x1, x2, x3, x4, x5, x6, x7] kn wn) % 4294967296, x4, x5, x6]) := hst
      clear hst
      generalize mixW x4 26 21 7 = m1 at *
      generalize mixW x0 30 19 10 = m2 at *
      obtain ⟨q1, z1⟩ := x32 l5 l6
      obtain ⟨q2, z2⟩ := a32 l4 z1
      obtain ⟨q3, z3⟩ := x32 l6 z2
      generalize x6 ^^^ (x4 &&& (x5 ^^^ x6)) = ch at *
      generalize x4 &&& (x5 ^^^ x6) = u2 at *
      generalize x5 ^^^ x6 = u1 at *
      obtain ⟨q4, z4⟩ := o32 l1 l2
      obtain ⟨q5, z5⟩ := a32 l0 z4
      obtain ⟨q6, z6⟩ := a32 l1 l2
      obtain ⟨q7, z7⟩ := o32 z5 z6
      generalize (x0 &&& (x1 ||| x2)) ||| (x1 &&& x2) = mj at *
      generalize x0 &&& (x1 ||| x2) = u3 at *
      generalize x1 ||| x2 = u4 at *
      generalize x1 &&& x2 = u5 at *
      obtain ⟨a1, g1, ga1, gb1⟩ := wrap32 x7 m1
      obtain ⟨a2, g2, ga2, gb2⟩ := wrap32 a1 ch
      obtain ⟨a3, g3, ga3, gb3⟩ := wrap32 a2 kn
      obtain ⟨T1, g4, ga4, gb4⟩ := wrap32 a3 wn
      obtain ⟨T2, g5, ga5, gb5⟩ := wrap32 m2 mj
      obtain ⟨y0, g6, ga6, gb6⟩ := wrap32 T1 T2
      obtain ⟨y4, g7, ga7, gb7⟩ := wrap32 x3 T1
      have hst3 : Hid (roundsN K W s (n + 1) = [y0, x0, x1, x2, y4, x4, x5, x6]) := by
        show _ = _
        rw [hst2.out, et1.out, et2.out, gb6, gb7, ← sum5 gb1 gb2 gb3 gb4, ← gb5]
      clear gb1 gb2 gb3 gb4 gb5 gb6 gb7 et1 et2 hst2
      go_wp2
      go_quiet (fail)
      replace c0 : (wr.drewN nq).cell? ⟨gX, 0, none⟩ = _ := c0
      replace c1 : (wr.drewN nq).cell? ⟨gX, 1, none⟩ = _ := c1
      replace c2 : (wr.drewN nq).cell? ⟨gX, 2, none⟩ = _ := c2
      replace c4 : (wr.drewN nq).cell? ⟨gX, 4, none⟩ = _ := c4
      replace c5 : (wr.drewN nq).cell? ⟨gX, 5, none⟩ = _ := c5
      replace c6 : (wr.drewN nq).cell? ⟨gX, 6, none⟩ = _ := c6
      replace c7 : (wr.drewN nq).cell? ⟨gX, 7, none⟩ = _ := c7
      replace hkn : (wr.drewN nq).cell? ⟨gk, ok + n, none⟩ = _ := hkn
      replace hwn : (wr.drewN nq).cell? ⟨gW, n, none⟩ = _ := hwn
      replace hs0 := hs0.drewN nq
      replace ho0 := ho0.drewN nq
      replace hw := hw.drewN nq
      replace hx := hx.drewN nq
      replace hB := below_drewN hB nq
      generalize wr.drewN nq = wr at *
      go_wp2
      go_quiet ((go_at_call 45; exact Calls.quiet_of_same (hm1.out _)))
      replace c0 : (wr.drewN nq).cell? ⟨gX, 0, none⟩ = _ := c0
      replace c1 : (wr.drewN nq).cell? ⟨gX, 1, none⟩ = _ := c1
      replace c2 : (wr.drewN nq).cell? ⟨gX, 2, none⟩ = _ := c2
      replace c4 : (wr.drewN nq).cell? ⟨gX, 4, none⟩ = _ := c4
      replace c5 : (wr.drewN nq).cell? ⟨gX, 5, none⟩ = _ := c5
      replace c6 : (wr.drewN nq).cell? ⟨gX, 6, none⟩ = _ := c6
      replace c7 : (wr.drewN nq).cell? ⟨gX, 7, none⟩ = _ := c7
      replace hkn : (wr.drewN nq).cell? ⟨gk, ok + n, none⟩ = _ := hkn
      replace hwn : (wr.drewN nq).cell? ⟨gW, n, none⟩ = _ := hwn
      replace hs0 := hs0.drewN nq
      replace ho0 := ho0.drewN nq
      replace hw := hw.drewN nq
      replace hx := hx.drewN nq
      replace hB := below_drewN hB nq
      generalize wr.drewN nq = wr at *
      go_wp2
      go_quiet (fail)
      replace c0 : (wr.drewN nq).cell? ⟨gX, 0, none⟩ = _ := c0
      replace c1 : (wr.drewN nq).cell? ⟨gX, 1, none⟩ = _ := c1
      replace c2 : (wr.drewN nq).cell? ⟨gX, 2, none⟩ = _ := c2
      replace c4 : (wr.drewN nq).cell? ⟨gX, 4, none⟩ = _ := c4
      replace c5 : (wr.drewN nq).cell? ⟨gX, 5, none⟩ = _ := c5
      replace c6 : (wr.drewN nq).cell? ⟨gX, 6, none⟩ = _ := c6
      replace c7 : (wr.drewN nq).cell? ⟨gX, 7, none⟩ = _ := c7
      replace hkn : (wr.drewN nq).cell? ⟨gk, ok + n, none⟩ = _ := hkn
      replace hwn : (wr.drewN nq).cell? ⟨gW, n, none⟩ = _ := hwn
      replace hs0 := hs0.drewN nq
      replace ho0 := ho0.drewN nq
      replace hw := hw.drewN nq
      replace hx := hx.drewN nq
      replace hB := below_drewN hB nq
      generalize wr.drewN nq = wr at *
      go_wp2_with (go_at_call 45; refine (hm2.out _).mono ?_; rintro e w' ⟨rfl, rfl⟩)
      go_still_tail 2, (by kernel_rfl)
      go_wp2_with (refine wpList_copyA rfl (.tmp 72) (.tmp 73) 56 56 rfl 70 Try.underlying56 (by kernel_rfl) gX _ _ _ rfl ⟨gX, 0, none⟩ _ _ rfl 72 _ hx (wv [x0, x1, x2, x3, x4, x5, x6]) ?_ ?_ ?_ (ones_wv _) ?_)
      · rfl
      · intro j v hj
        have h1 : (wv [x0, x1, x2, x3, x4, x5, x6, x7])[0 + j]? = some v := by
          rw [Nat.zero_add]
          exact (List.getElem?_append_left (l₁ := wv [x0, x1, x2, x3, x4, x5, x6]) (l₂ := wv [x7]) (List.getElem?_eq_some_iff.1 hj).1).trans hj
        exact (hx.cellAdd 0 j).trans h1
      · show (1 + 7 : Nat) ≤ 8; decide
      intro w7 hx7 hK7
      replace hx7 : Blk w7 gX 72 (wv [x0, x0, x1, x2, x3, x4, x5, x6]) := hx7
      replace hs0 := hs0.drew.keeps hK7 (by simp; omega)
      replace ho0 := ho0.drew.keeps hK7 (by simp; omega)
      replace hw := hw.drew.keeps hK7 (by simp; omega)
      replace hB := hB.drew.trans (hK7.below hB.drew.size (by simp; omega))
      clear hK7 hx c0 c1 c2 c4 c5 c6 c7 hkn hwn
      have c0 : w7.cell? ⟨gX, 0, none⟩ = some (.int .u32 (x0 : Int)) := hx7.cell 0
      have c4 : w7.cell? ⟨gX, 4, none⟩ = some (.int .u32 (x3 : Int)) := hx7.cell 4
      have f0 := hx7.frozen 0
      have f4 := hx7.frozen 4
      go_wp2
      go_roundw
      case rel =>
        refine ⟨n + 1, by omega, by go_num, (hs0.far (by simp; omega) _).far (by simp; omega) _, (ho0.far (by simp; omega) _).far (by simp; omega) _, (hw.far (by simp; omega) _).far (by simp; omega) _, ?_, (hB.setCell (by simp; omega) _).setCell (by simp; omega) _⟩
        rw [hst3.out]
        exact (hx7.set_ 0 _).set_ 4 _
      case measure => simp [intOf]; omega
    · obtain rfl : n = 64 := by omega
      have hxw := roundsN_wds (K := K) (W := W) Bs.out 64
      have hxl := roundsN_length (K := K) (W := W) Hs.out 64
      generalize roundsN K W s 64 = X at *
      have Hx := Lib.hid hxl
      have Wx := Lib.hid hxw
      clear hxl hxw
      go_wp2
      go_loopw [85] (fun i wr => ∃ k : Nat, (k : Int) ≤ 8 ∧ i = .int .i64 (k : Int) ∧ Blk wr w.heap.size 72 (wv s) ∧ Blk wr (w.heap.size + 1) 72 (wv (zeros 8)) ∧ Blk wr gX 72 (wv (upd R X k)) ∧ Below w.heap.size w wr) (fun i _ => 8 - (intOf i).toNat)
      case atStart => exact ⟨0, by omega, rfl, hs0, ho0, by rw [upd_zero]; exact hx, hB⟩
      case round =>
        clear hs0 ho0 hw hx hB
        obtain ⟨k, hk, rfl, hs0, ho0, hx, hB⟩ := hrel
        by_cases hlt : (k : Int) < 8
        · have c0 := hx.cell k
          rw [wv_get, upd_get (by rw [hRl.out, Hx.out]) (Nat.le_refl _) (by rw [Hx.out]; omega), gd_get (by rw [Hx.out]; omega)] at c0
          simp only [Option.map_some] at c0
          have f0 := hx.frozen k
          have d0 := hs0.cell k
          rw [gd_wv (by have := Hs.out; omega)] at d0
          have HS := Lib.hid (upd_set (new := R) (old := X) (k := k) (by rw [hRl.out, Hx.out]) (by rw [Hx.out]; omega) (gd_get (by rw [hRl.out]; omega)))
          have hr := hRg.out k (by omega)
          have l1 := Wx.out.gd k
          have l2 := Bs.out.gd k
          generalize gd X k = x at *
          generalize gd s k = y at *
          generalize gd R k = r at *
          obtain ⟨a1, g1, ga1, gb1⟩ := wrap32 x y
          obtain rfl : r = a1 := hr.trans gb1.symm
          clear gb1 hr
          go_wp2
          go_still_tail 8, (by kernel_rfl)
          change wpList _ _ _ _ _ wr.drew
          go_wp2
          go_roundw
          case rel =>
            refine ⟨k + 1, by omega, by go_num, (hs0.drew).far (by simp; omega) _, (ho0.drew).far (by simp; omega) _, ?_, hB.drew.setCell (by simp; omega) _⟩
            rw [← HS.out, ← wv_set]
            exact hx.drew.set_ k _
          case measure => simp [intOf]; omega
        · obtain rfl : k = 8 := by omega
          rw [upd_all hRl.out Hx.out] at hx
          have hxl := Lib.hid (show (wv R).length = 8 by simp [hRl.out])
          go_wp2_with (first | refine wpList_loadW rfl 72 (.tmp 8) rfl 8 arr8s _ rfl 72 _ hx hxl.out ?_ | refine wpList_storeW rfl 72 (.tmp 6) (.tmp 97) rfl 8 arr8s _ rfl (wv R) rfl 72 _ ho0 hxl.out (by simp) (ones_wv _) ?_)
          intro w' h4 hK
          go_wp2
          exact bodyPost_ret (v := .agg (wv R).toArray) (res_cell Try.results32 _ _ _ 72 _ arr8s hxl.out rfl h4) rfl ⟨rfl, hB.trans (hK.below hB.size (by simp))⟩
end Go.Proofs.Ythlebobfbalknaa
