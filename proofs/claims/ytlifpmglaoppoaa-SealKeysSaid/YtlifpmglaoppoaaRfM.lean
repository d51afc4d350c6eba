/- Contracts of banyanref03: padded, turned. -/
import Derived.Test.YtlifpmglaoppoaaScH
import Derived.Test.YtlifpmglaoppoaaQ12P3
set_option linter.unusedVariables false
set_option linter.unusedSimpArgs false
namespace Go.Proofs.Ytlifpmglaoppoaa
open Go.RowKit
open Go.Proofs.PlainAes
open Go.Proofs.PlainSha
open Go.Proofs.PlainMac

theorem made_bytes (w : World) (n : Nat) : Blk (w.alloc (.cells (madeCells #[.int .u8 0] n) 5)) w.heap.size 5 (bv (zeros n)) := by
  have := Blk.new w 5 (madeCells #[.int .u8 0] n)
  rw [toList_madeCells_one] at this
  simpa [bv, zeros] using this
theorem hash_sl {w : World} {g t : Nat} {O : List Nat} (h : Blk w g t (bv O)) (hl : (bv O).length = 32) : Sl w (.slice (some ⟨g, 0, none⟩) 32 32) (bv O) := by
  have h := Sl.of_blk h (show 32 ≤ 32 from Nat.le_refl _) (Nat.le_of_eq hl.symm) (by unfold maxLen; omega)
  rw [List.take_of_length_le (Nat.le_of_eq hl)] at h
  exact h
set_option maxRecDepth 100000 in
set_option maxHeartbeats 1000000 in
theorem rpadded_core (AH AK A : Option Addr) (cH cK n c : Nat) (k : List Nat) (w : World) (sH : Sl w (.slice AH 8 cH) (wv H0)) (sK : Sl w (.slice AK 64 cK) (wv K0)) (hs : Sl w (.slice A n c) (bv k)) (bk : Byt k) (hlk : (k.length : Int) ≤ 549755813888) :
    Calls Try.prog 77 #[.agg #[.slice AH 8 cH, .slice AK 64 cK], .slice A n c] w fun e w' => ∃ g, e = .returned (.slice (some ⟨g, 0, none⟩) 64 64) ∧ Blk w' g 5 (bv (padK k)) ∧ Below w.heap.size w w' := by
  have hw := Lib.hid (fun w (a : Sl w (.slice AH 8 cH) (wv H0)) (b : Sl w (.slice AK 64 cK) (wv K0)) (d : Sl w (.slice A n c) (bv k)) => with_any _ _ _ k w a b d bk hlk)
  have hmk : ∀ w, (Instr.makeSlice 22 (.int .i64 64) (.int .i64 64)).run Try.prog w = .ok (.slice (some ⟨w.heap.size, 0, none⟩) 64 64) (w.alloc (.cells (madeCells #[.int .u8 0] 64) 5)) :=
    run_make_row' (P := Try.prog) 22 5 (.int .u8 0) 1 Try.underlying22 (by kernel_rfl) rfl .i64 .i64 64 (by omega) (by omega)
  have hn : n = k.length := by obtain ⟨_, _, e, _⟩ := hs; injection e with _ e _; simpa using e
  subst hn
  have hK : Hid (padK k = (if 64 < k.length then shaL k else k) ++ List.replicate (64 - (if 64 < k.length then shaL k else k).length) 0) := rfl
  have hhl := Lib.hid (shaL_len k)
  generalize padK k = P at *
  have hc0 := Blk.new w 103 #[.slice AH 8 cH, .slice AK 64 cK]
  have hB0 := (Below.refl w.heap.size w).alloc (Nat.le_refl _) (.cells #[.slice AH 8 cH, .slice AK 64 cK] 103)
  replace hs := Lib.hid hs
  replace sH := Lib.hid sH
  replace sK := Lib.hid sK
  clear bk
  by_cases hlt : (64 : Int) < (k.length : Int)
  · have hw1 := Lib.hid (hw.out _ (sH.out.keep hB0) (sK.out.keep hB0) (hs.out.keep hB0))
    have hK2 : Hid (P = shaL k ++ List.replicate (64 - (shaL k).length) 0) := by
      show _ = _
      rw [hK.out, if_pos (by omega)]
    clear hK hw
    have hOl := Lib.hid (show (bv (shaL k)).length = 32 by rw [bv_length, hhl.out])
    go_enter Try.func77, Try.ntmps77
    go_wp2_with (refine wpList_loadW rfl 103 (.tmp 2) rfl 2 arrC w.heap.size rfl 103 _ hc0 rfl ?_)
    refine hw1.out.mono ?_
    rintro e w2 ⟨rfl, hB2⟩
    generalize shaL k = O at *
    have hB2' := below_call hB0 (by simp) hB2
    clear hB0 hB2 hw1 hc0
    go_wp2_with (refine wpList_allocA rfl 26 rfl (bv (zeros 32)) (by kernel_rfl) ?_)
    intro w3 h3 hK3 hz3
    have hB3 := hB2'.trans (hK3.below hB2'.size (by simp))
    have hg5 := hB2'.size
    clear hK3 hB2' hz3
    generalize w2.heap.size = g5 at *
    go_wp2_with (refine wpList_storeW rfl 26 (.tmp 5) (.tmp 12) rfl 32 arrH g5 rfl (bv O) rfl 26 _ h3 hOl.out (by simp) (ones_bv _) ?_)
    intro w4 h4 hK4
    have hB4 := hB3.trans (hK4.below hB3.size (by simp; omega))
    have sl4 := (hash_sl h4 hOl.out).keep ((Below.refl w4.heap.size w4).alloc (Nat.le_refl _) (.cells (madeCells #[.int .u8 0] 64) 5))
    have h6 := made_bytes w4 64
    have hB6 := hB4.alloc hB4.size (.cells (madeCells #[.int .u8 0] 64) 5)
    have hg := hB4.size
    clear hK4 h3 hB3 h4 hB4
    go_wp2_with (refine wpList_copySl rfl (.tmp 15) (.tmp 16) 22 22 rfl 5 Try.underlying22 (by kernel_rfl) w4.heap.size 0 64 64 rfl _ (bv O) rfl sl4 5 _ h6 ?_ (ones_bv _) ?_)
    · rw [hOl.out]; simp
    intro w7 h7 hK7
    rw [put_zeros (by rw [hhl.out]; decide), ← hK2.out] at h7
    have hB7 := hB6.trans (hK7.below hB6.size (by simp; omega))
    clear hK7 hB6 h6 sl4
    go_wp2
    go_ret
    exact ⟨_, rfl, h7, hB7⟩
  · have hK2 : Hid (P = k ++ List.replicate (64 - k.length) 0) := by
      show _ = _
      rw [hK.out, if_neg (by omega)]
    clear hK hw hhl
    have sl4 := (hs.out.keep hB0).keep ((Below.refl _ _).alloc (Nat.le_refl _) (.cells (madeCells #[.int .u8 0] 64) 5))
    have h6 := made_bytes (w.alloc (.cells #[.slice AH 8 cH, .slice AK 64 cK] 103)) 64
    have hB6 := hB0.alloc hB0.size (.cells (madeCells #[.int .u8 0] 64) 5)
    clear hB0 hc0
    go_enter Try.func77, Try.ntmps77
    go_wp2_with (refine wpList_copySl rfl (.tmp 15) (.tmp 16) 22 22 rfl 5 Try.underlying22 (by kernel_rfl) (w.heap.size + 1) 0 64 64 rfl _ (bv k) rfl sl4 5 _ (by simpa using h6) ?_ (ones_bv _) ?_)
    · first | exact Nat.min_le_right _ _ | (simp; exact Nat.min_le_right _ _)
    intro w7 h7 hK7
    rw [put_zeros (by omega), ← hK2.out] at h7
    have hB7 := hB6.trans (hK7.below hB6.size (by simp))
    clear hK7 hB6 h6 sl4
    go_wp2
    go_ret
    exact ⟨_, rfl, h7, hB7⟩

set_option maxRecDepth 100000 in
set_option maxHeartbeats 1000000 in
theorem rturned_any (A : Option Addr) (c x : Nat) (K : List Nat) (w : World) (hs : Sl w (.slice A 64 c) (bv K)) (hKl : K.length = 64) (bK : Byt K) (hx : (x : Int) ≤ 255) :
    Calls Try.prog 78 #[.slice A 64 c, .int .u8 (x : Int)] w fun e w' => ∃ g, e = .returned (.slice (some ⟨g, 0, none⟩) 64 64) ∧ w.heap.size ≤ g ∧ Blk w' g 5 (bv (xk K x)) ∧ Below w.heap.size w w' := by
  have hmk : ∀ w, (Instr.makeSlice 22 (.int .i64 64) (.int .i64 64)).run Try.prog w = .ok (.slice (some ⟨w.heap.size, 0, none⟩) 64 64) (w.alloc (.cells (madeCells #[.int .u8 0] 64) 5)) :=
    run_make_row' (P := Try.prog) 22 5 (.int .u8 0) 1 Try.underlying22 (by kernel_rfl) rfl .i64 .i64 64 (by omega) (by omega)
  have HKl := Lib.hid hKl
  have hXl := Lib.hid (show (xk K x).length = 64 by rw [xk_len, hKl])
  have hXg := Lib.hid (fun k (hk : k < 64) => xk_get (b := x) (show k < K.length by omega))
  have bKg := Lib.hid (fun k => gd_lt bK k)
  have Hs := Lib.hid hs
  have h6 := made_bytes w 64
  have hB6 := (Below.refl w.heap.size w).alloc (Nat.le_refl _) (.cells (madeCells #[.int .u8 0] 64) 5)
  clear hs hKl bK
  generalize hXe : xk K x = X at *
  clear hXe
  go_enter Try.func78, Try.ntmps78
  go_wp2
  go_loopw [12] (fun i wr => ∃ k : Nat, (k : Int) ≤ 64 ∧ i = .int .i64 (k : Int) ∧ Blk wr w.heap.size 5 (bv (upd X (zeros 64) k)) ∧ Below w.heap.size w wr) (fun i _ => 64 - (intOf i).toNat)
  case atStart => exact ⟨0, by omega, rfl, by rw [upd_zero]; exact h6, hB6⟩
  case round =>
    clear h6 hB6
    obtain ⟨k, hk, rfl, hb, hB⟩ := hrel
    by_cases hlt : (k : Int) < 64
    · obtain ⟨gk, ok, rfl, hkc⟩ := (Hs.out.keep hB).at_ (k := k) (u := .int .u8 ((gd K k : Nat) : Int)) (by rw [bv_get, gd_get (by rw [HKl.out]; omega)]; rfl)
      have c0 := hb.cell k
      rw [bv_get, upd_get (by rw [hXl.out]; simp) (Nat.le_refl _) (by simp; omega), zeros_get (by omega)] at c0
      simp only [Option.map_some] at c0
      have f0 := hb.frozen k
      have HS := Lib.hid (upd_set (new := X) (old := zeros 64) (k := k) (by rw [hXl.out]; simp) (by simp; omega) (hXg.out k (by omega)))
      have q1 := (x8m (bKg.out k) (show x < 256 by omega)).1
      generalize gd K k = y at *
      go_wp2
      go_roundw
      case rel =>
        refine ⟨k + 1, by omega, by go_num, ?_, hB.setCell (by simp) _⟩
        rw [← HS.out, ← bv_set]
        exact hb.set_ k _
      case measure => simp [intOf]; omega
    · obtain rfl : k = 64 := by omega
      rw [upd_all hXl.out (by simp)] at hb
      go_wp2
      go_ret
      exact ⟨_, rfl, Nat.le_refl _, hb, hB⟩
end Go.Proofs.Ytlifpmglaoppoaa
