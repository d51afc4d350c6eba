/- The walk of DevOwn. -/
import Derived.Test.YtkpefffephbhnaaDevI
import Derived.Test.YtkpefffephbhnaaSlC
set_option linter.unusedVariables false
set_option linter.unusedSimpArgs false
namespace Go.Proofs.Ytkpefffephbhnaa.w_DevOwn
open Go.RowKit Go.Maps
open Go.Proofs.PlainDev

set_option maxRecDepth 100000 in
set_option maxHeartbeats 1000000 in
theorem walkN (a : Nat) (ha0 : (a : Int) ≤ 255) (b : Nat) (hb0 : (b : Int) ≤ 255) (w : World) : Calls Try.prog 5 #[.int .u8 (a : Int), .int .u8 (b : Int)] w fun e w' => e = .returned (.bool true) ∧ Below w.heap.size w w' := by
  have hal := Lib.hid (fun w => alive06 w)
  have hnew := Lib.hid (fun w => new_x 16 w (by decide) (by decide))
  have hsec := Lib.hid (fun w => sector_any a b w ha0 hb0)
  have hsl := Lib.hid (secL_sec (f := a) (b := b) (by omega) (by omega))
  have h0 := Lib.hid (show (secL a b)[0]? = some a from rfl)
  have h1 := Lib.hid (show (secL a b)[1]? = some b from rfl)
  have h2 := Lib.hid (show (secL a b)[2]? = some b from rfl)
  generalize secL a b = l at *
  go_enter Try.func5, Try.ntmps5
  go_wp2_with fail
  refine (hal.out w).mono ?_
  rintro e w0 ⟨rfl, B0⟩
  have hC := Lib.hid B0.size
  go_wp2_with fail
  refine (hnew.out w0).mono ?_
  rintro e w1 ⟨g, L1, rfl, H1, B1⟩
  have B1' := B0.trans (B1.mono B0.size)
  have Hle := Lib.hid B1.size
  clear B0 B1
  generalize w0.heap.size = B at *
  go_wp2_with fail
  refine (hsec.out w1).mono ?_
  rintro e w2 ⟨k2, rfl, b2, g2, B2⟩
  have B2' := B1'.trans (B2.mono B1'.size)
  have hk2 := H1.fresh g2
  have H1w : Hid (B ≤ w1.heap.size) := Hle.out
  replace H1 := H1.keep B2
  have hw := Lib.hid (write_free H1 (free_new _) (by decide) 2 (by decide) k2 _ l hsl.out b2 hk2)
  clear B2
  go_wp2_with fail
  refine hw.out.mono ?_
  rintro e w3 ⟨L3, rfl, H3, S3⟩
  have b3 := b2.keeps S3.keeps (by simpa using hk2)
  have H3w := Lib.hid (H1w.out)
  have B3 := H1.go S3 B2' hC.out
  have hk3 := S3.out hk2 b2.lt
  clear H1 B1' B2' b2 S3 hw hk2
  have c0 := blk_cell b3 h0.out
  have f0 := b3.frozen 0
  go_wp2_with fail
  have K4 : Keeps [k2] w3 (w3.setCell ⟨k2, 0, none⟩ (.int .u8 (((a : Int) + 1) % 256))) := (Keeps.refl [k2] w3).setCell (p := ⟨k2, 0, none⟩) (by simp) _
  have H4 := H3.keeps K4 (fun k hk => by simp; rintro rfl; exact hk3 hk)
  have B4 := B3.trans (K4.below B3.size (by simp; exact Nat.le_trans hC.out (Nat.le_trans (H3w.out) g2)))
  clear c0 f0 H3 K4 B3 b3
  generalize w3.setCell ⟨k2, 0, none⟩ (.int .u8 (((a : Int) + 1) % 256)) = w4 at *
  have hr := Lib.hid (show Calls Try.prog _ _ _ (RetRd l w4) from read_x H4 (by decide) 2 (by decide) (show 2 < 16 by decide) rfl)
  refine hr.out.mono ?_
  rintro e w5 ⟨k5, rfl, b5, g5, B5⟩
  have H5 := H4.keep B5
  have hk5 := H4.fresh g5
  have B5' := B4.trans (B5.mono B4.size)
  have h5w : Hid (w.heap.size ≤ k5) := Nat.le_trans B4.size g5
  have c1 := blk_cell b5 h1.out
  have f1 := b5.frozen 1
  clear hr H4 B4 B5 g5 b5
  go_wp2_with fail
  have K6 : Keeps [k5] w5 (w5.setCell ⟨k5, 1, none⟩ (.int .u8 (((b : Int) + 1) % 256))) := (Keeps.refl [k5] w5).setCell (p := ⟨k5, 1, none⟩) (by simp) _
  have H6 := H5.keeps K6 (fun k hk => by simp; rintro rfl; exact hk5 hk)
  have B6 := B5'.trans (K6.below B5'.size (by simp; exact h5w.out))
  clear c1 f1 H5 K6 B5' h5w
  generalize w5.setCell ⟨k5, 1, none⟩ (.int .u8 (((b : Int) + 1) % 256)) = w6 at *
  have hf := Lib.hid (flush_free H6 ⟨rfl, rfl⟩ (by decide))
  refine hf.out.mono ?_
  rintro e w7 ⟨L7, rfl, H7, S7⟩
  have B7 := H6.go S7 B6 hC.out
  have hp := Lib.hid (show Calls Try.prog _ _ _ (RetPk l w7) from peek_x H7 2 (by decide) (show 2 < 16 by decide))
  clear hf H6 B6 S7
  go_wp2_with fail
  refine hp.out.mono ?_
  rintro e w8 ⟨v8, rfl, own8, B8⟩
  obtain ⟨k8, c8, rfl, -, -⟩ := own_form own8 (by decide)
  obtain ⟨k8', e8, gk8, hk8, f8, c8', -⟩ := own_set own8 (i := 2) (by decide)
  injection e8 with e8
  injection e8 with e8
  subst e8
  rw [bv_get, h2.out] at c8'
  simp only [Option.map_some] at c8'
  have H8 := H7.keep B8
  have hk8' := H7.fresh gk8
  have B8' := B7.trans (B8.mono B7.size)
  have h8w : Hid (w.heap.size ≤ k8) := Nat.le_trans B7.size gk8
  clear hp own8 B8 hk8 gk8 B7
  go_wp2_with fail
  have K9 : Keeps [k8] w8 (w8.setCell ⟨k8, 2, none⟩ (.int .u8 (((b : Int) + 1) % 256))) := (Keeps.refl [k8] w8).setCell (p := ⟨k8, 2, none⟩) (by simp) _
  have H9 := H8.keeps K9 (fun k hk => by simp; rintro rfl; exact hk8' hk)
  have B9 := B8'.trans (K9.below B8'.size (by simp; exact h8w.out))
  clear c8' f8 H8 K9 B8' h8w
  generalize w8.setCell ⟨k8, 2, none⟩ (.int .u8 (((b : Int) + 1) % 256)) = w9 at *
  have hr := Lib.hid (show Calls Try.prog _ _ _ (RetRd l w9) from read_x H9 (by decide) 2 (by decide) (show 2 < 16 by decide) rfl)
  refine hr.out.mono ?_
  rintro e w10 ⟨k10, rfl, b10, g10, B10⟩
  have B10' := B9.trans (B10.mono B9.size)
  clear hr H9 B9 B10
  go_wp2_with fail
  refine (hsec.out w10).mono ?_
  rintro e w11 ⟨k11, rfl, b11, g11, B11⟩
  have B11' := B10'.trans (B11.mono B10'.size)
  have hsm := Lib.hid (same_any _ _ l l w11 (sl512 (b10.keep B11) hsl.out.1) (sl512 b11 hsl.out.1) hsl.out.2 hsl.out.2)
  rw [decide_eq_true rfl] at hsm
  clear B10' B11 b10 b11
  go_wp2_with fail
  refine hsm.out.mono ?_
  rintro e w12 ⟨rfl, rfl⟩
  go_wp2
  go_ret
  exact ⟨rfl, B11'⟩
theorem walk (a : Int) (ha : 0 ≤ a) (ha2 : a ≤ 255) (b : Int) (hb : 0 ≤ b) (hb2 : b ≤ 255) (w : World) : Calls Try.prog 5 #[.int .u8 a, .int .u8 b] w fun e w' => e = .returned (.bool true) ∧ Below w.heap.size w w' := by
  obtain ⟨n, rfl⟩ := Int.eq_ofNat_of_zero_le ha
  obtain ⟨m, rfl⟩ := Int.eq_ofNat_of_zero_le hb
  exact walkN n ha2 m hb2 w
end Go.Proofs.Ytkpefffephbhnaa.w_DevOwn
