/- Contract of package aes: round keys. -/
import Derived.Test.YtokphnfhajljmaaAesT
import Derived.Test.YtokphnfhajljmaaAesQ
import Derived.Test.YtokphnfhajljmaaArrB
set_option linter.unusedVariables false
set_option linter.unusedSimpArgs false
namespace Go.Proofs.Ytokphnfhajljmaa
open Go.RowKit
open Go.Proofs.PlainAes

theorem arrK : ArrTy Try.prog 28 32 := ⟨_, Try.underlying28, rfl, by kernel_rfl⟩
theorem arrR : ArrTy Try.prog 73 240 := ⟨_, Try.underlying73, rfl, by kernel_rfl⟩
theorem arrW : ArrTy Try.prog 86 240 := ⟨_, Try.underlying86, rfl, by kernel_rfl⟩
theorem arr4 : ArrTy Try.prog 82 4 := ⟨_, Try.underlying82, rfl, by kernel_rfl⟩

/-- K are the round keys of k. -/
structure KeyRow (k K : List Nat) : Prop where
  len : K.length = 240
  byt : Byt K
  lo : ∀ n, n < 8 → seg K (4 * n) 4 = seg k (4 * n) 4
  hi : ∀ n, 8 ≤ n → n < 60 → ∀ j, j < 4 → gd K (4 * n + j) = gd K (4 * (n - 8) + j) ^^^ gd (kmid box n (seg K (4 * n - 4) 4)) j
theorem keyRow {k : List Nat} (hk : k.length = 32) (bk : Byt k) : KeyRow k (keys box k) :=
  ⟨keys_length _ hk, keys_lt (fun x h => box_lt h) bk, fun n hn => keys_low _ hk hn, fun n h8 hn j hj => keys_high _ hk h8 hn hj⟩

theorem Blk.byte {w : World} {g t : Nat} {l : List Nat} (h : Blk w g t (bv l)) {i : Nat} (hi : i < l.length) : w.cell? ⟨g, i, none⟩ = some (.int .u8 ((gd l i : Nat) : Int)) := by
  rw [h.cell, bv_some (gd_get hi)]
/-- What lies there while words are made. -/
structure Ex (w : World) (k K : List Nat) (m : Nat) (wr : World) : Prop where
  k : Blk wr w.heap.size 28 (bv k)
  o : Blk wr (w.heap.size + 1) 73 (bv (zeros 240))
  ws : Blk wr (w.heap.size + 1 + 1) 86 (bv (upd K (zeros 240) m))
  below : Below w.heap.size w wr
theorem Ex.keeps {w : World} {k K : List Nat} {m : Nat} {wr wr' : World} {g : Nat} (h : Ex w k K m wr) (hk : Keeps [g] wr wr') (hg : w.heap.size + 1 + 1 < g) : Ex w k K m wr' :=
  ⟨h.k.keeps hk (by simp; omega), h.o.keeps hk (by simp; omega), h.ws.keeps hk (by simp; omega), h.below.trans (hk.below h.below.size (by simp; omega))⟩
theorem Ex.keeps0 {w : World} {k K : List Nat} {m : Nat} {wr wr' : World} (h : Ex w k K m wr) (hk : Keeps [] wr wr') : Ex w k K m wr' :=
  ⟨h.k.keeps hk (by simp), h.o.keeps hk (by simp), h.ws.keeps hk (by simp), h.below.trans (hk.below h.below.size (by simp))⟩
theorem Ex.drew {w : World} {k K : List Nat} {m : Nat} {wr : World} (h : Ex w k K m wr) : Ex w k K m wr.drew := ⟨h.k, h.o, h.ws, h.below.drew⟩
theorem Ex.put {w : World} {k K : List Nat} {m n : Nat} {wr wr' : World} (h : Ex w k K m wr) (hk : Keeps [w.heap.size + 1 + 1] wr wr') (hw : Blk wr' (w.heap.size + 1 + 1) 86 (bv (upd K (zeros 240) n))) : Ex w k K n wr' :=
  ⟨h.k.keeps hk (by simp; omega), h.o.keeps hk (by simp), hw, h.below.trans (hk.below h.below.size (by simp; omega))⟩
theorem Ex.set {w : World} {k K : List Nat} {m : Nat} {wr : World} (h : Ex w k K m wr) (hK : K.length = 240) (hm : m < 240) : Ex w k K (m + 1) (wr.setCell ⟨w.heap.size + 1 + 1, m, none⟩ (.int .u8 ((gd K m : Nat) : Int))) := by
  refine h.put ((Keeps.refl _ _).setCell (by simp) _) ?_
  rw [← upd_set (by simp [hK]) (by simpa using hm) (gd_get (by omega)), ← bv_set]
  exact h.ws.set_ m _

set_option maxRecDepth 100000 in
set_option maxHeartbeats 4000000 in
theorem expand_any (k : List Nat) (gt : Nat) (w : World) (hk : k.length = 32) (bk : Byt k) (hT : Blk w gt 37 (bv (tbl box))) :
    Calls Try.prog 30 #[.agg (bv k).toArray, .pointer (some ⟨gt, 0, none⟩)] w (RetA (keys box k) w) := by
  have HK := Lib.hid (keyRow hk bk)
  have Hk := Lib.hid hk
  have Bk := Lib.hid bk
  have HT := Lib.hid hT
  have hgt := Lib.hid (HT.out.lt)
  clear hk bk hT
  generalize keys box k = K at *
  go_enter Try.func30, Try.ntmps30
  go_wp2_with (first | refine wpList_allocA rfl 73 rfl (bv (zeros 240)) (by kernel_rfl) ?_)
  intro w1 h1 hK1 hz1
  go_wp2_with (first | refine wpList_allocA rfl 86 rfl (bv (zeros 240)) (by kernel_rfl) ?_)
  intro w2 h2 hK2 hz2
  have hE : Ex w k K 0 w2 := by
    refine ⟨?_, h1.keeps hK2 (by simp), by simpa [upd_zero] using h2, ?_⟩
    · have := (Blk.new_at (w := w) (t := 28) (cs := (bv k).toArray) rfl rfl)
      exact (this.keeps hK1 (by simp)).keeps hK2 (by simp)
    · exact (((Below.refl _ _).alloc (Nat.le_refl _) _).trans (hK1.below (by simp) (by simp))).trans (hK2.below (by omega) (by simp))
  clear hK1 hK2 h1 h2
  go_wp2
  go_loopw [12] (fun i wr => ∃ n : Nat, n ≤ 60 ∧ i = .int .i64 (n : Int) ∧ Ex w k K (4 * n) wr) (fun i _ => 60 - (intOf i).toNat)
  case atStart => exact ⟨0, Nat.zero_le _, rfl, hE⟩
  case round =>
    clear hE hz1 hz2
    obtain ⟨n, hn, rfl, hE⟩ := hrel
    by_cases hlt : (n : Int) < 60
    · have E1 : Hid ((4 : Int) * (n : Int) = ((4 * n : Nat) : Int)) := by show _ = _; omega
      by_cases h8 : (n : Int) < 8
      · have hlo := Lib.hid (HK.out.lo n (by omega))
        have EL : Hid (((bv k).drop (4 * n)).take 4 = bv (seg K (4 * n) 4)) := by show _ = _; rw [hlo.out, bv_seg]; rfl
        have sl := seg_length (l := K) (o := 4 * n) (n := 4) (by have := HK.out.len; omega)
        have h0 := hE.k
        have h2 := hE.ws
        have SL := Lib.hid sl
        clear sl
        go_wp2_with (first
          | refine wpList_sliceA rfl 28 (.tmp 2) (.tmp 19) (.tmp 22) rfl 32 5 1 Try.underlying28 (by kernel_rfl) w.heap.size 0 rfl _ _ rfl rfl (4 * n) (4 * n + 4) E1.out (by have := E1.out; omega) (by omega) (by omega) (by omega) ?_
          | refine wpList_arrayAt rfl 82 (.tmp 23) rfl 4 5 Try.underlying82 _ _ _ rfl (by omega) ?_
          | refine wpList_loadA rfl 82 (.tmp 24) rfl 4 arr4 _ _ rfl 28 (bv k) h0 (by have := Hk.out; simp; omega) (bv (seg K (4 * n) 4)) (by simpa using EL.out) ?_
          | refine wpList_storeA rfl 82 (.tmp 26) (.tmp 25) rfl 4 arr4 _ _ rfl (bv (seg K (4 * n) 4)) rfl 86 _ h2 ?_ ?_ (ones_bv _) ?_)
        · simp [SL.out]
        · rw [bv_length, upd_length (by simp [HK.out.len]) (by simp; omega)]; simp; omega
        intro w3 h2' hK3
        have hE' : Ex w k K (4 * (n + 1)) w3 := by
          refine hE.put hK3 ?_
          rw [putL_bv, SL.out, show n * 4 = 4 * n from by omega] at h2'
          have := upd_put (new := K) (old := zeros 240) (k := 4 * n) (n := 4) (by simp [HK.out.len]) (by simp; omega)
          rw [show 4 * (n + 1) = 4 * n + 4 from by omega, ← this]
          exact h2'
        clear h0 h2 h2' hE hK3
        go_wp2
        go_roundw
        case rel => exact ⟨n + 1, by omega, by go_num, hE'⟩
        case measure => simp [intOf]; omega
      · have hhi := Lib.hid (HK.out.hi n (by omega) (by omega))
        have sl := seg_length (l := K) (o := 4 * n - 4) (n := 4) (by have := HK.out.len; omega)
        have sb := seg_lt HK.out.byt (4 * n - 4) 4
        have EL : Hid (((bv (upd K (zeros 240) (4 * n))).drop (4 * n - 4)).take 4 = bv (seg K (4 * n - 4) 4)) := by
          show _ = _
          rw [bv_seg]
          congr 1
          unfold upd
          rw [List.drop_append_of_le_length (by have := HK.out.len; simp; omega), List.take_append_of_le_length (by have := HK.out.len; simp; omega), List.drop_take, List.take_take]
          unfold seg
          congr 1
          omega
        generalize seg K (4 * n - 4) 4 = x at *
        have SL := Lib.hid sl
        have SB := Lib.hid sb
        have h2 := hE.ws
        have hul : Hid ((bv (upd K (zeros 240) (4 * n))).length = 240) := by show _ = _; rw [bv_length, upd_length (by simp [HK.out.len]) (by simp; omega)]; simp
        clear sl sb
        have h1n : (1 : Int) ≤ n := by omega
        rcases (by omega : n % 8 = 0 ∨ n % 8 = 4 ∨ n % 4 ≠ 0) with hc | hc | hc
        · have t8 : (((n : Nat) : Int) % 8 == 0) = true := by simp; omega
          have t4 : (((n : Nat) : Int) % 4 == 0) = true := by simp; omega
          have HC := Lib.hid hc
          clear hc
          go_wp2_with (first
            | refine wpList_loadA rfl 82 (.tmp 29) rfl 4 arr4 _ _ rfl 86 _ h2 (by rw [hul.out]; simp; omega) (bv x) (by rw [← EL.out, Nat.sub_mul, Nat.mul_comm n 4]) ?_
            | refine wpList_allocA rfl 82 rfl (bv (zeros 4)) (by kernel_rfl) ?_)
          intro w3 h3 hK3 hz3
          have hE3 := hE.keeps0 hK3
          have hgx := Lib.hid (show w.heap.size + 1 + 1 < wr.heap.size from hE.ws.lt)
          clear hK3 hE h2 hul
          generalize wr.heap.size = gx at *
          have hgt2 : Hid (gx ≠ gt) := by
            have h1 := hgx.out
            have h2 := hgt.out
            show gx ≠ gt
            omega
          go_wp2_with (first | refine wpList_storeW rfl 82 (.tmp 7) (.tmp 30) rfl 4 arr4 gx rfl (bv x) rfl 82 _ h3 ?_ ?_ (ones_bv _) ?_)
          · simp [SL.out]
          · simp
          intro w4 h4 hK4
          have hE4 := hE3.keeps hK4 hgx.out
          clear hE3 h3 hK4
          have c0 := h4.byte (i := 0) (by rw [SL.out]; decide)
          have c1 := h4.byte (i := 1) (by rw [SL.out]; decide)
          have c2 := h4.byte (i := 2) (by rw [SL.out]; decide)
          have c3 := h4.byte (i := 3) (by rw [SL.out]; decide)
          go_wp2_with (first | refine wpList_storeW rfl 82 (.tmp 7) (.tmp 42) rfl 4 arr4 gx rfl (bv [gd x 1, gd x 2, gd x 3, gd x 0]) rfl 82 _ h4 ?_ ?_ (ones_bv _) ?_)
          · simp
          · simp [SL.out]
          intro w5 h5 hK5
          have hE5 := hE4.keeps hK5 hgx.out
          rw [show [gd x 1, gd x 2, gd x 3, gd x 0] = kturn n x by rw [kturn, if_pos HC.out]] at h5
          clear hE4 h4 hK5 c0 c1 c2 c3
          have hyl := Lib.hid (kturn_length (n := n) SL.out)
          have hyb := Lib.hid (kturn_lt (n := n) SB.out)
          generalize hy : kturn n x = y at *
          have hy := Lib.hid hy
          go_wp2
          go_loopw [46] (fun i wr => ∃ j : Nat, j ≤ 4 ∧ i = .int .i64 (j : Int) ∧ Blk wr gx 82 (bv (upd (mk 4 (fun j => box (gd y j))) y j)) ∧ Ex w k K (4 * n) wr) (fun i _ => 4 - (intOf i).toNat)
          case atStart => exact ⟨0, Nat.zero_le _, rfl, by rw [upd_zero]; exact h5, hE5⟩
          case round =>
            clear h5 hE5
            obtain ⟨j, hj, rfl, h5, hE5⟩ := hrel
            by_cases hj4 : (j : Int) < 4
            · have c0 := h5.cell j
              have f0 := h5.frozen j
              rw [bv_get, upd_get (by simp [hyl.out]) (Nat.le_refl _) (by have := hyl.out; omega), gd_get (by have := hyl.out; omega)] at c0
              simp only [Option.map_some] at c0
              have hs := Lib.hid (upd_set (new := mk 4 (fun j => box (gd y j))) (old := y) (k := j) (by simp [hyl.out]) (by have := hyl.out; omega) (mk_get _ (by omega)))
              have hX := gd_lt hyb.out j
              have c1 := (HT.out.keep hE5.below).byte (i := gd y j) (by simp [tbl, hX])
              rw [tbl, gd_mk _ hX] at c1
              generalize gd y j = X at *
              generalize box X = Y at *
              have hXI : (X : Int) < 256 := by omega
              go_wp2
              go_still_tail 9, (by kernel_rfl)
              change wpList _ _ _ _ _ wr.drew
              go_wp2
              go_roundw
              case rel =>
                refine ⟨j + 1, by omega, by go_num, ?_, hE5.drew.keeps ((Keeps.refl [gx] _).setCell (by simp) _) hgx.out⟩
                rw [← hs.out, ← bv_set]
                exact h5.drew.set_ j _
              case measure => simp [intOf]; omega
            · obtain rfl : j = 4 := by omega
              rw [upd_all (by simp) hyl.out, show mk 4 (fun j => box (gd y j)) = ksub box n y by rw [ksub, if_pos (by have := HC.out; omega)]] at h5
              have hzl := Lib.hid (ksub_length (t := box) (n := n) hyl.out)
              have hzb := Lib.hid (ksub_lt (t := box) (fun x h => box_lt h) (n := n) hyb.out)
              generalize hz : ksub box n y = z at *
              have hz := Lib.hid hz
              have c0 := h5.byte (i := 0) (by rw [hzl.out]; decide)
              have f0 := h5.frozen 0
              obtain ⟨q, hq⟩ : ∃ q, q = n / 8 := ⟨_, rfl⟩
              have hq1 : (1 : Int) ≤ q := by omega
              have hq7 : (q : Int) ≤ 7 := by omega
              have a1 : IntKind.i64.wrap ((n : Int) / 8) = (q : Int) := by rw [IntWalk.i64_in _ (by omega)]; omega
              have a2 : IntKind.i64.wrap ((q : Int) - 1) = (q : Int) - 1 := IntWalk.i64_in _ (by omega)
              have a3 : (0 : Int) ≤ (q : Int) - 1 := by omega
              have a4 : ((q : Int) - 1).toNat = q - 1 := by omega
              have a5 : min (q - 1) 8 = q - 1 := by omega
              have HQ := Lib.hid hq
              clear hq
              have a6 : bits .xor .u8 ((gd z 0 : Nat) : Int) (IntKind.u8.wrap (2 ^ (q - 1))) = ((gd z 0 ^^^ (2 ^ (q - 1) % 256) : Nat) : Int) := by
                have e : IntKind.u8.wrap (2 ^ (q - 1)) = ((2 ^ (q - 1) % 256 : Nat) : Int) := by rw [IntKind.wrap_u8]; simp
                rw [e, u8_xor_nat _ _ (gd_lt hzb.out 0) (Nat.mod_lt _ (by decide))]
              have h6 := h5.drew.set_ 0 (.int .u8 ((gd z 0 ^^^ (2 ^ (q - 1) % 256) : Nat) : Int))
              rw [bv_set] at h6
              have hE6 := hE5.drew.keeps ((Keeps.refl [gx] _).setCell (p := ⟨gx, 0, none⟩) (by simp) (.int .u8 ((gd z 0 ^^^ (2 ^ (q - 1) % 256) : Nat) : Int))) hgx.out
              have hu : z.set 0 (gd z 0 ^^^ (2 ^ (q - 1) % 256)) = kmid box n x := by
                unfold kmid
                rw [hy.out, hz.out, krc, if_pos HC.out, HQ.out]
              rw [hu] at h6
              generalize gd z 0 ^^^ (2 ^ (q - 1) % 256) = Z0 at *
              have h6 := Lib.hid h6
              have hE6 := Lib.hid hE6
              clear hu hE5 h5
              go_wp2
              go_still_tail 8, (by kernel_rfl)
              change wpList _ _ _ _ _ wr.drew
              clear a1 a2 a3 a4 a5 a6 hq1 hq7
              go_wp2
              have h6 := h6.out
              have hE6 := hE6.out
              obtain ⟨u, HU⟩ : ∃ u, Hid (u = kmid box n x) := ⟨_, rfl⟩
              rw [← HU.out] at h6
              have ul := Lib.hid (show u.length = 4 by rw [HU.out]; exact krc_length (ksub_length (kturn_length SL.out)))
              have ub := Lib.hid (show Byt u by rw [HU.out]; exact krc_lt (ksub_lt (fun x h => box_lt h) (kturn_lt SB.out)))
              go_loopw [70] (fun i wr => ∃ j : Nat, j ≤ 4 ∧ i = .int .i64 (j : Int) ∧ Blk wr gx 82 (bv u) ∧ Ex w k K (4 * n + j) wr) (fun i _ => 4 - (intOf i).toNat)
              case atStart => exact ⟨0, Nat.zero_le _, rfl, h6, hE6⟩
              case round =>
                clear h6 hE6
                obtain ⟨j, hj, rfl, h6, hE6⟩ := hrel
                by_cases hj4 : (j : Int) < 4
                · have hKl := HK.out.len
                  have c0 := hE6.ws.cell ((n - 8) * 4 + j)
                  rw [bv_get, upd_get_new (by simp [hKl]) (by omega) (by simp; omega), gd_get (by omega)] at c0
                  simp only [Option.map_some] at c0
                  have c1 := h6.byte (i := j) (by have := ul.out; omega)
                  have c2 := hE6.ws.cell (n * 4 + j)
                  rw [bv_get, upd_get (by simp [hKl]) (by omega) (by simp; omega), zeros_get (by omega)] at c2
                  simp only [Option.map_some] at c2
                  have f2 := hE6.ws.frozen (n * 4 + j)
                  have hk := hhi.out j (by omega)
                  rw [← HU.out, show 4 * (n - 8) + j = (n - 8) * 4 + j from by omega] at hk
                  obtain ⟨q1, q2⟩ := x8 (gd_lt HK.out.byt ((n - 8) * 4 + j)) (gd_lt ub.out j)
                  rw [← hk] at q1
                  have hE7 := Ex.set hE6.drew hKl (m := 4 * n + j) (by omega)
                  rw [show 4 * n + j = n * 4 + j from by omega] at hE7
                  rw [show 4 * n + j = n * 4 + j from by omega] at q1
                  generalize gd K (n * 4 + j) = Y at *
                  generalize gd K ((n - 8) * 4 + j) = X at *
                  generalize gd u j = V at *
                  have hE7 := Lib.hid hE7
                  clear hk q2 hKl
                  have b1 : IntKind.i64.wrap ((n : Int) - 8) = (n : Int) - 8 := IntWalk.i64_in _ (by omega)
                  have b2 : (0 : Int) ≤ (n : Int) - 8 := by omega
                  have b3 : (n : Int) - 8 < 60 := by omega
                  have b4 : ((n : Int) - 8).toNat = n - 8 := by omega
                  go_wp2
                  go_still_tail 14, (by kernel_rfl)
                  change wpList _ _ _ _ _ wr.drew
                  clear b1 b2 b3 b4
                  go_wp2
                  go_roundw
                  case rel => exact ⟨j + 1, by omega, by go_num, (h6.drew).far (by simp; have := hgx.out; omega) _, by rw [show 4 * n + (j + 1) = n * 4 + j + 1 from by omega]; exact hE7.out⟩
                  case measure => simp [intOf]; omega
                · obtain rfl : j = 4 := by omega
                  go_wp2
                  go_roundw
                  case rel => exact ⟨n + 1, by omega, by go_num, hE6⟩
                  case measure => simp [intOf]; omega
        · have t8 : (((n : Nat) : Int) % 8 == 0) = false := by simp; omega
          have t4 : (((n : Nat) : Int) % 4 == 0) = true := by simp; omega
          have HC := Lib.hid hc
          clear hc
          go_wp2_with (first
            | refine wpList_loadA rfl 82 (.tmp 29) rfl 4 arr4 _ _ rfl 86 _ h2 (by rw [hul.out]; simp; omega) (bv x) (by rw [← EL.out, Nat.sub_mul, Nat.mul_comm n 4]) ?_
            | refine wpList_allocA rfl 82 rfl (bv (zeros 4)) (by kernel_rfl) ?_)
          intro w3 h3 hK3 hz3
          have hE3 := hE.keeps0 hK3
          have hgx := Lib.hid (show w.heap.size + 1 + 1 < wr.heap.size from hE.ws.lt)
          clear hK3 hE h2 hul
          generalize wr.heap.size = gx at *
          have hgt2 : Hid (gx ≠ gt) := by
            have h1 := hgx.out
            have h2 := hgt.out
            show gx ≠ gt
            omega
          go_wp2_with (first | refine wpList_storeW rfl 82 (.tmp 7) (.tmp 30) rfl 4 arr4 gx rfl (bv x) rfl 82 _ h3 ?_ ?_ (ones_bv _) ?_)
          · simp [SL.out]
          · simp
          intro w4 h4 hK4
          have hE4 := hE3.keeps hK4 hgx.out
          clear hE3 h3 hK4
          have h5 : Blk w4 gx 82 (bv (kturn n x)) := by rw [kturn, if_neg (by have := HC.out; omega)]; exact h4
          have hE5 := hE4
          clear hE4 h4
          have hyl := Lib.hid (kturn_length (n := n) SL.out)
          have hyb := Lib.hid (kturn_lt (n := n) SB.out)
          generalize hy : kturn n x = y at *
          have hy := Lib.hid hy
          go_wp2
          go_loopw [46] (fun i wr => ∃ j : Nat, j ≤ 4 ∧ i = .int .i64 (j : Int) ∧ Blk wr gx 82 (bv (upd (mk 4 (fun j => box (gd y j))) y j)) ∧ Ex w k K (4 * n) wr) (fun i _ => 4 - (intOf i).toNat)
          case atStart => exact ⟨0, Nat.zero_le _, rfl, by rw [upd_zero]; exact h5, hE5⟩
          case round =>
            clear h5 hE5
            obtain ⟨j, hj, rfl, h5, hE5⟩ := hrel
            by_cases hj4 : (j : Int) < 4
            · have c0 := h5.cell j
              have f0 := h5.frozen j
              rw [bv_get, upd_get (by simp [hyl.out]) (Nat.le_refl _) (by have := hyl.out; omega), gd_get (by have := hyl.out; omega)] at c0
              simp only [Option.map_some] at c0
              have hs := Lib.hid (upd_set (new := mk 4 (fun j => box (gd y j))) (old := y) (k := j) (by simp [hyl.out]) (by have := hyl.out; omega) (mk_get _ (by omega)))
              have hX := gd_lt hyb.out j
              have c1 := (HT.out.keep hE5.below).byte (i := gd y j) (by simp [tbl, hX])
              rw [tbl, gd_mk _ hX] at c1
              generalize gd y j = X at *
              generalize box X = Y at *
              have hXI : (X : Int) < 256 := by omega
              go_wp2
              go_still_tail 9, (by kernel_rfl)
              change wpList _ _ _ _ _ wr.drew
              go_wp2
              go_roundw
              case rel =>
                refine ⟨j + 1, by omega, by go_num, ?_, hE5.drew.keeps ((Keeps.refl [gx] _).setCell (by simp) _) hgx.out⟩
                rw [← hs.out, ← bv_set]
                exact h5.drew.set_ j _
              case measure => simp [intOf]; omega
            · obtain rfl : j = 4 := by omega
              rw [upd_all (by simp) hyl.out, show mk 4 (fun j => box (gd y j)) = ksub box n y by rw [ksub, if_pos (by have := HC.out; omega)]] at h5
              have hzl := Lib.hid (ksub_length (t := box) (n := n) hyl.out)
              have hzb := Lib.hid (ksub_lt (t := box) (fun x h => box_lt h) (n := n) hyb.out)
              generalize hz : ksub box n y = z at *
              have hz := Lib.hid hz
              have hu : z = kmid box n x := by
                unfold kmid
                rw [hy.out, hz.out, krc, if_neg (by have := HC.out; omega)]
              have h6 := h5
              have hE6 := hE5
              clear h5 hE5
              go_wp2
              obtain ⟨u, HU⟩ : ∃ u, Hid (u = kmid box n x) := ⟨_, rfl⟩
              rw [show z = u from by rw [HU.out]; exact hu] at h6
              have ul := Lib.hid (show u.length = 4 by rw [HU.out]; exact krc_length (ksub_length (kturn_length SL.out)))
              have ub := Lib.hid (show Byt u by rw [HU.out]; exact krc_lt (ksub_lt (fun x h => box_lt h) (kturn_lt SB.out)))
              go_loopw [70] (fun i wr => ∃ j : Nat, j ≤ 4 ∧ i = .int .i64 (j : Int) ∧ Blk wr gx 82 (bv u) ∧ Ex w k K (4 * n + j) wr) (fun i _ => 4 - (intOf i).toNat)
              case atStart => exact ⟨0, Nat.zero_le _, rfl, h6, hE6⟩
              case round =>
                clear h6 hE6
                obtain ⟨j, hj, rfl, h6, hE6⟩ := hrel
                by_cases hj4 : (j : Int) < 4
                · have hKl := HK.out.len
                  have c0 := hE6.ws.cell ((n - 8) * 4 + j)
                  rw [bv_get, upd_get_new (by simp [hKl]) (by omega) (by simp; omega), gd_get (by omega)] at c0
                  simp only [Option.map_some] at c0
                  have c1 := h6.byte (i := j) (by have := ul.out; omega)
                  have c2 := hE6.ws.cell (n * 4 + j)
                  rw [bv_get, upd_get (by simp [hKl]) (by omega) (by simp; omega), zeros_get (by omega)] at c2
                  simp only [Option.map_some] at c2
                  have f2 := hE6.ws.frozen (n * 4 + j)
                  have hk := hhi.out j (by omega)
                  rw [← HU.out, show 4 * (n - 8) + j = (n - 8) * 4 + j from by omega] at hk
                  obtain ⟨q1, q2⟩ := x8 (gd_lt HK.out.byt ((n - 8) * 4 + j)) (gd_lt ub.out j)
                  rw [← hk] at q1
                  have hE7 := Ex.set hE6.drew hKl (m := 4 * n + j) (by omega)
                  rw [show 4 * n + j = n * 4 + j from by omega] at hE7
                  rw [show 4 * n + j = n * 4 + j from by omega] at q1
                  generalize gd K (n * 4 + j) = Y at *
                  generalize gd K ((n - 8) * 4 + j) = X at *
                  generalize gd u j = V at *
                  have hE7 := Lib.hid hE7
                  clear hk q2 hKl
                  have b1 : IntKind.i64.wrap ((n : Int) - 8) = (n : Int) - 8 := IntWalk.i64_in _ (by omega)
                  have b2 : (0 : Int) ≤ (n : Int) - 8 := by omega
                  have b3 : (n : Int) - 8 < 60 := by omega
                  have b4 : ((n : Int) - 8).toNat = n - 8 := by omega
                  go_wp2
                  go_still_tail 14, (by kernel_rfl)
                  change wpList _ _ _ _ _ wr.drew
                  clear b1 b2 b3 b4
                  go_wp2
                  go_roundw
                  case rel => exact ⟨j + 1, by omega, by go_num, (h6.drew).far (by simp; have := hgx.out; omega) _, by rw [show 4 * n + (j + 1) = n * 4 + j + 1 from by omega]; exact hE7.out⟩
                  case measure => simp [intOf]; omega
                · obtain rfl : j = 4 := by omega
                  go_wp2
                  go_roundw
                  case rel => exact ⟨n + 1, by omega, by go_num, hE6⟩
                  case measure => simp [intOf]; omega
        · have t8 : (((n : Nat) : Int) % 8 == 0) = false := by simp; omega
          have t4 : (((n : Nat) : Int) % 4 == 0) = false := by simp; omega
          have HC := Lib.hid hc
          clear hc
          go_wp2_with (first
            | refine wpList_loadA rfl 82 (.tmp 29) rfl 4 arr4 _ _ rfl 86 _ h2 (by rw [hul.out]; simp; omega) (bv x) (by rw [← EL.out, Nat.sub_mul, Nat.mul_comm n 4]) ?_
            | refine wpList_allocA rfl 82 rfl (bv (zeros 4)) (by kernel_rfl) ?_)
          intro w3 h3 hK3 hz3
          have hE3 := hE.keeps0 hK3
          have hgx := Lib.hid (show w.heap.size + 1 + 1 < wr.heap.size from hE.ws.lt)
          clear hK3 hE h2 hul
          generalize wr.heap.size = gx at *
          have hgt2 : Hid (gx ≠ gt) := by
            have h1 := hgx.out
            have h2 := hgt.out
            show gx ≠ gt
            omega
          go_wp2_with (first | refine wpList_storeW rfl 82 (.tmp 7) (.tmp 30) rfl 4 arr4 gx rfl (bv x) rfl 82 _ h3 ?_ ?_ (ones_bv _) ?_)
          · simp [SL.out]
          · simp
          intro w4 h4 hK4
          have hE4 := hE3.keeps hK4 hgx.out
          clear hE3 h3 hK4
          have hu : x = kmid box n x := by
            unfold kmid
            rw [kturn, if_neg (by have := HC.out; omega), ksub, if_neg HC.out, krc, if_neg (by have := HC.out; omega)]
          have h6 := h4
          have hE6 := hE4
          clear h4 hE4
          go_wp2
          obtain ⟨u, HU⟩ : ∃ u, Hid (u = kmid box n x) := ⟨_, rfl⟩
          rw [show bv x = bv u from by rw [HU.out]; exact congrArg bv hu] at h6
          clear hu
          have ul := Lib.hid (show u.length = 4 by rw [HU.out]; exact krc_length (ksub_length (kturn_length SL.out)))
          have ub := Lib.hid (show Byt u by rw [HU.out]; exact krc_lt (ksub_lt (fun x h => box_lt h) (kturn_lt SB.out)))
          go_loopw [70] (fun i wr => ∃ j : Nat, j ≤ 4 ∧ i = .int .i64 (j : Int) ∧ Blk wr gx 82 (bv u) ∧ Ex w k K (4 * n + j) wr) (fun i _ => 4 - (intOf i).toNat)
          case atStart => exact ⟨0, Nat.zero_le _, rfl, h6, hE6⟩
          case round =>
            clear h6 hE6
            obtain ⟨j, hj, rfl, h6, hE6⟩ := hrel
            by_cases hj4 : (j : Int) < 4
            · have hKl := HK.out.len
              have c0 := hE6.ws.cell ((n - 8) * 4 + j)
              rw [bv_get, upd_get_new (by simp [hKl]) (by omega) (by simp; omega), gd_get (by omega)] at c0
              simp only [Option.map_some] at c0
              have c1 := h6.byte (i := j) (by have := ul.out; omega)
              have c2 := hE6.ws.cell (n * 4 + j)
              rw [bv_get, upd_get (by simp [hKl]) (by omega) (by simp; omega), zeros_get (by omega)] at c2
              simp only [Option.map_some] at c2
              have f2 := hE6.ws.frozen (n * 4 + j)
              have hk := hhi.out j (by omega)
              rw [← HU.out, show 4 * (n - 8) + j = (n - 8) * 4 + j from by omega] at hk
              obtain ⟨q1, q2⟩ := x8 (gd_lt HK.out.byt ((n - 8) * 4 + j)) (gd_lt ub.out j)
              rw [← hk] at q1
              have hE7 := Ex.set hE6.drew hKl (m := 4 * n + j) (by omega)
              rw [show 4 * n + j = n * 4 + j from by omega] at hE7
              rw [show 4 * n + j = n * 4 + j from by omega] at q1
              generalize gd K (n * 4 + j) = Y at *
              generalize gd K ((n - 8) * 4 + j) = X at *
              generalize gd u j = V at *
              have hE7 := Lib.hid hE7
              clear hk q2 hKl
              have b1 : IntKind.i64.wrap ((n : Int) - 8) = (n : Int) - 8 := IntWalk.i64_in _ (by omega)
              have b2 : (0 : Int) ≤ (n : Int) - 8 := by omega
              have b3 : (n : Int) - 8 < 60 := by omega
              have b4 : ((n : Int) - 8).toNat = n - 8 := by omega
              go_wp2
              go_still_tail 14, (by kernel_rfl)
              change wpList _ _ _ _ _ wr.drew
              clear b1 b2 b3 b4
              go_wp2
              go_roundw
              case rel => exact ⟨j + 1, by omega, by go_num, (h6.drew).far (by simp; have := hgx.out; omega) _, by rw [show 4 * n + (j + 1) = n * 4 + j + 1 from by omega]; exact hE7.out⟩
              case measure => simp [intOf]; omega
            · obtain rfl : j = 4 := by omega
              go_wp2
              go_roundw
              case rel => exact ⟨n + 1, by omega, by go_num, hE6⟩
              case measure => simp [intOf]; omega
    · obtain rfl : n = 60 := by omega
      have hKl := HK.out.len
      have h1 := hE.o
      have h2 := hE.ws
      have hB := hE.below
      have hul : (bv K).length = 240 := by simp [hKl]
      rw [show 4 * 60 = 240 from rfl, upd_all hKl (by simp)] at h2
      clear hE
      have HKl := Lib.hid hKl
      clear hKl
      go_wp2_with (first | refine wpList_loadW rfl 86 (.tmp 5) rfl 240 arrW _ rfl 86 _ h2 hul ?_)
      clear h2 hul
      obtain ⟨wo, rfl⟩ : ∃ wo : World, wo = wr := ⟨_, rfl⟩
      go_loopw [90] (fun i wr => ∃ i' : Nat, i' ≤ 60 ∧ i = .int .i64 (i' : Int) ∧ Blk wr (w.heap.size + 1) 73 (bv (upd K (zeros 240) (4 * i'))) ∧ Below w.heap.size w wr) (fun i _ => 60 - (intOf i).toNat)
      case atStart => exact ⟨0, Nat.zero_le _, rfl, by simpa [upd_zero] using h1, hB⟩
      case round =>
        clear h1 hB
        obtain ⟨i, hi, rfl, h1, hB⟩ := hrel
        by_cases hlt : (i : Int) < 60
        · have EL : Hid (((bv K).drop (i * 4)).take 4 = bv (seg K (4 * i) 4)) := by show _ = _; rw [bv_seg, Nat.mul_comm i 4]; rfl
          have SL := Lib.hid (seg_length (l := K) (o := 4 * i) (n := 4) (by have := HKl.out; omega))
          have hgo := Lib.hid (show w.heap.size + 1 < wr.heap.size from h1.lt)
          go_wp2_with (first
            | refine wpList_indexA rfl 86 (.tmp 89) (.tmp 90) rfl 60 82 4 Try.underlying86 arr4 (bv K) rfl i rfl (by omega) _ EL.out ?_
            | refine wpList_allocA rfl 82 rfl (bv (zeros 4)) (by kernel_rfl) ?_)
          intro w3 h3 hK3 hz3
          have h1 := h1.keeps hK3 (by simp)
          have hB := hB.trans (hK3.below hB.size (by simp))
          clear hK3
          generalize wr.heap.size = gx at *
          go_wp2_with (first | refine wpList_storeW rfl 82 (.tmp 11) (.tmp 93) rfl 4 arr4 gx rfl (bv (seg K (4 * i) 4)) rfl 82 _ h3 ?_ ?_ (ones_bv _) ?_)
          · simp [SL.out]
          · simp
          intro w4 h4 hK4
          have h1 := h1.keeps hK4 (by simp; have := hgo.out; omega)
          have hB := hB.trans (hK4.below hB.size (by simp; have := hgo.out; omega))
          clear h3 hK4
          go_wp2
          obtain ⟨q, hq⟩ : ∃ q, q = i / 4 := ⟨_, rfl⟩
          obtain ⟨r, hr⟩ : ∃ r, r = i % 4 := ⟨_, rfl⟩
          have HQ : Hid (i = 4 * q + r ∧ r < 4 ∧ q < 15) := by show _ ∧ _ ∧ _; omega
          have a1 : IntKind.i64.wrap ((i : Int) / 4) = (q : Int) := by rw [IntWalk.i64_in _ (by omega)]; omega
          have a2 : (i : Int).tmod 4 = (r : Int) := by rw [Int.tmod_eq_emod_of_nonneg (by omega)]; omega
          have a3 : (q : Int) < 15 := by omega
          have a4 : (r : Int) < 4 := by omega
          have a5 : IntKind.i64.wrap (4 * (r : Int)) = 4 * (r : Int) := IntWalk.i64_in _ (by omega)
          clear hq hr
          go_still_tail 8, (by kernel_rfl)
          refine wpStill_sliceA_l rfl 55 (.tmp 96) (.tmp 99) rfl 16 5 1 Try.underlying55 (by kernel_rfl) _ _ rfl _ rfl (4 * r) (by omega) (by have := HQ.out; omega) ?_
          repeat still_step
          refine wpStill_nil ?_
          change wpList _ _ _ _ _ w4.drew
          clear a1 a2 a3 a4 a5
          have h1 := h1.drew
          have h4 := h4.drew
          have hul : Hid ((bv (upd K (zeros 240) (4 * i))).length = 240) := by show _ = _; rw [bv_length, upd_length (by simp [HKl.out]) (by simp; omega)]; simp
          go_wp2_with (refine wpList_copyA rfl (.tmp 100) (.tmp 101) 32 32 rfl 5 Try.underlying32 (by kernel_rfl) (w.heap.size + 1) _ _ _ rfl ⟨gx, 0, none⟩ _ _ rfl 73 _ h1 (bv (seg K (4 * i) 4)) ?_ ?_ ?_ (ones_bv _) ?_)
          · rw [bv_length, SL.out]; exact (Nat.min_eq_left (by have := HQ.out; omega)).symm
          · intro j v hj
            rw [h4.cellAdd, Nat.zero_add]
            exact hj
          · rw [hul.out, bv_length, SL.out]; have := HQ.out; omega
          intro w5 h5 hK5
          have h5' : Blk w5 (w.heap.size + 1) 73 (bv (upd K (zeros 240) (4 * (i + 1)))) := by
            rw [putL_bv, SL.out, show q * 16 + 4 * r = 4 * i from by have := HQ.out; omega] at h5
            have := upd_put (new := K) (old := zeros 240) (k := 4 * i) (n := 4) (by simp [HKl.out]) (by simp; omega)
            rw [show 4 * (i + 1) = 4 * i + 4 from by omega, ← this]
            exact h5
          have hB' := hB.drew.trans (hK5.below hB.drew.size (by simp))
          clear h1 h4 h5 hK5 hB hul
          go_wp2
          go_roundw
          case rel => exact ⟨i + 1, by omega, by go_num, h5', hB'⟩
          case measure => simp [intOf]; omega
        · obtain rfl : i = 60 := by omega
          rw [show 4 * 60 = 240 from rfl, upd_all HKl.out (by simp)] at h1
          have hul : (bv K).length = 240 := by simp [HKl.out]
          go_wp2_with (first | refine wpList_loadW rfl 73 (.tmp 4) rfl 240 arrR _ rfl 73 _ h1 hul ?_ | refine wpList_storeW rfl 73 (.tmp 4) (.tmp 104) rfl 240 arrR _ rfl (bv K) rfl 73 _ h1 hul hul (ones_bv _) ?_)
          intro w' h4 hK
          go_wp2
          exact bodyPost_ret (v := .agg (bv K).toArray) (res_cell Try.results30 _ _ _ 73 _ arrR hul rfl h4) rfl ⟨rfl, hB.trans (hK.below hB.size (by simp))⟩
end Go.Proofs.Ytokphnfhajljmaa
