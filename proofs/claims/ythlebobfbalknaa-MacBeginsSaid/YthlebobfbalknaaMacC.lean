/- Contracts of package mac: Mac, Fits, Derive. -/
import Derived.Test.YthlebobfbalknaaMacB
set_option linter.unusedVariables false
set_option linter.unusedSimpArgs false
namespace Go.Proofs.Ythlebobfbalknaa
open Go.RowKit
open Go.Proofs.PlainAes
open Go.Proofs.PlainSha
open Go.Proofs.PlainMac

theorem pads_eq : (bv [54, 92]).toArray = #[.int .u8 54, .int .u8 92] := rfl
theorem xk_shaL_len (K m : List Nat) (b : Nat) : (shaL (xk K b ++ m)).length = 32 := shaL_len _

theorem idx2a (w : World) : (Instr.index 53 (.agg #[.int .u8 54, .int .u8 92]) (.int .i64 0)).run Try.prog w = .ok (.int .u8 54) w := by
  have hu : Try.prog.underlying 53 = some (.array 2 5) := Try.underlying53
  have hs : (sizeOf 5).run Try.prog w = .ok 1 w := by kernel_rfl
  have ha : (isAgg 5).run Try.prog w = .ok false w := by kernel_rfl
  simp [Instr.index, asIntOf, Sem.run_bind, run_underlying hu, hs, ha, part]
theorem idx2b (w : World) : (Instr.index 53 (.agg #[.int .u8 54, .int .u8 92]) (.int .i64 1)).run Try.prog w = .ok (.int .u8 92) w := by
  have hu : Try.prog.underlying 53 = some (.array 2 5) := Try.underlying53
  have hs : (sizeOf 5).run Try.prog w = .ok 1 w := by kernel_rfl
  have ha : (isAgg 5).run Try.prog w = .ok false w := by kernel_rfl
  simp [Instr.index, asIntOf, Sem.run_bind, run_underlying hu, hs, ha, part]
set_option maxRecDepth 100000 in
set_option maxHeartbeats 2000000 in
theorem mac_core (A A2 : Option Addr) (n c n2 c2 : Nat) (k m : List Nat) (w : World) (hs : Sl w (.slice A n c) (bv k)) (hm : Sl w (.slice A2 n2 c2) (bv m)) (bk : Byt k) (bm : Byt m) (hlk : (k.length : Int) ≤ 549755813888) (hlm : (m.length : Int) ≤ 549755813888) :
    Calls Try.prog 9 #[.slice A n c, .slice A2 n2 c2] w (RetH (macL k m) w) := by
  have hpad := Lib.hid (fun w (h : Sl w (.slice A n c) (bv k)) => pad_any _ k w h bk hlk)
  have hp := Lib.hid (fun w => pads_any w)
  rw [pads_eq] at hp
  have hKl := padK_len k
  have hKb := padK_byt bk
  have hOe : Hid (macL k m = shaL (xk (padK k) 92 ++ shaL (xk (padK k) 54 ++ m))) := rfl
  have hOl := Lib.hid (show (bv (macL k m)).length = 32 by rw [bv_length, macL_len])
  have hu1 := Lib.hid (fun g w (h : Blk w g 45 (bv (padK k))) (h2 : Sl w (.slice A2 n2 c2) (bv m)) => under_any 54 (padK k) m g _ w h hKl hKb (by decide) h2 bm hlm)
  have hu2 := Lib.hid (fun g v w (h : Blk w g 45 (bv (padK k))) h2 => under_any 92 (padK k) (shaL (xk (padK k) 54 ++ m)) g v w h hKl hKb (by decide) h2 (shaL_byt _) (by rw [shaL_len]; decide))
  have hHl := Lib.hid (show (bv (shaL (xk (padK k) 54 ++ m))).length = 32 by rw [bv_length, shaL_len])
  rw [← hOe.out] at hu2
  change Hid (∀ g w, _ → _ → Calls _ _ #[.int .u8 54, _, _] _ _) at hu1
  change Hid (∀ g v w, _ → _ → Calls _ _ #[.int .u8 92, _, _] _ _) at hu2
  have hKl2 := Lib.hid (show (bv (padK k)).length = 64 by rw [bv_length, hKl])
  replace hs := Lib.hid hs
  replace hm := Lib.hid hm
  clear hOe hKl hKb bk bm hlk hlm
  generalize macL k m = O at *
  generalize padK k = K at *
  generalize shaL (xk K 54 ++ m) = H1 at *
  go_enter Try.func9, Try.ntmps9
  go_wp2_with (refine wpList_allocA rfl 25 rfl (bv (zeros 32)) (by kernel_rfl) ?_)
  intro w1 h1 hK1 hz1
  have hB1 := (Below.refl w.heap.size w).trans (hK1.below (Nat.le_refl _) (by simp))
  have hpad1 := Lib.hid (hpad.out w1 (hs.out.keep hB1))
  clear hK1 hz1
  go_wp2_with fail
  refine hpad1.out.mono ?_
  rintro e w2 ⟨rfl, hB2⟩
  have h2 := h1.keep hB2
  have hB2' := below_call hB1 hB1.size hB2
  clear h1 hB1 hB2 hpad1
  go_wp2_with (refine wpList_allocA rfl 45 rfl (bv (zeros 64)) (by kernel_rfl) ?_)
  intro w3 h3 hK3 hz3
  have hp3 := h2.keeps hK3 (by simp)
  have hB3 := hB2'.trans (hK3.below hB2'.size (by simp))
  have hg := h2.lt
  clear hK3 h2 hB2' hz3
  generalize w2.heap.size = g5 at *
  go_wp2_with (refine wpList_storeW rfl 45 (.tmp 5) (.tmp 11) rfl 64 arr64b g5 rfl (bv K) rfl 45 _ h3 hKl2.out (by simp) (ones_bv _) ?_)
  intro w4 h4 hK4
  have hp4 := hp3.keeps hK4 (by simp; omega)
  have hB4 := hB3.trans (hK4.below hB3.size (by simp; omega))
  clear hK4 h3 hp3 hB3
  go_wp2_with fail
  refine (hp.out _).mono ?_
  rintro e w5 ⟨rfl, hB5⟩
  have h5 := h4.keep hB5
  have hp5 := hp4.keep hB5
  have hB5' := below_call hB4 hB4.size hB5
  clear h4 hp4 hB4 hB5
  go_wp2
  go_loopw [7, 15] (fun r i wr => Blk wr g5 45 (bv K) ∧ Below w.heap.size w wr ∧ ((i = .int .i64 0 ∧ r = .slice A2 n2 c2 ∧ Blk wr w.heap.size 25 (bv (zeros 32))) ∨ (i = .int .i64 1 ∧ r = .slice (some ⟨w.heap.size, 0, none⟩) 32 32 ∧ Blk wr w.heap.size 25 (bv H1)) ∨ (i = .int .i64 2 ∧ Blk wr w.heap.size 25 (bv O)))) (fun _ i _ => 2 - (intOf i).toNat)
  case atStart => exact ⟨h5, hB5', .inl ⟨rfl, rfl, hp5⟩⟩
  case round =>
    clear h5 hp5 hB5'
    obtain ⟨hk, hB, hrel⟩ := hrel
    rcases hrel with ⟨rfl, rfl, hr⟩ | ⟨rfl, rfl, hr⟩ | ⟨rfl, hr⟩
    · have i0 := idx2a
      have hc := Lib.hid (hu1.out g5 wr hk (hm.out.keep hB))
      go_wp2_with fail
      refine hc.out.mono ?_
      rintro e w6 ⟨rfl, hB6⟩
      have hk6 := hk.keep hB6
      have hr6 := hr.keep hB6
      have hB6' := below_call hB hB.size hB6
      clear hk hr hB hB6 hc
      go_wp2_with (refine wpList_storeW rfl 25 (.tmp 4) (.tmp 21) rfl 32 arrH w.heap.size rfl (bv H1) rfl 25 _ hr6 hHl.out (by simp) (ones_bv _) ?_)
      intro w7 hr7 hK7
      have hk7 := hk6.keeps hK7 (by simp; omega)
      have hB7 := hB6'.trans (hK7.below hB6'.size (by simp))
      clear hK7 hr6 hk6 hB6'
      go_wp2
      go_roundw
      case rel => exact ⟨hk7, hB7, .inr (.inl ⟨by go_num, rfl, hr7⟩)⟩
      case measure => simp [intOf]
    · have hsl : Sl wr (.slice (some ⟨w.heap.size, 0, none⟩) 32 32) (bv H1) := by
        have h := Sl.of_blk hr (show 32 ≤ 32 from Nat.le_refl _) (Nat.le_of_eq hHl.out.symm) (by unfold maxLen; omega)
        rw [List.take_of_length_le (Nat.le_of_eq hHl.out)] at h
        exact h
      have i0 := idx2b
      have hc := Lib.hid (hu2.out g5 _ wr hk hsl)
      go_wp2_with fail
      refine hc.out.mono ?_
      rintro e w6 ⟨rfl, hB6⟩
      have hk6 := hk.keep hB6
      have hr6 := hr.keep hB6
      have hB6' := below_call hB hB.size hB6
      clear hk hr hB hB6 hc hsl
      go_wp2_with (refine wpList_storeW rfl 25 (.tmp 4) (.tmp 21) rfl 32 arrH w.heap.size rfl (bv O) rfl 25 _ hr6 hOl.out hHl.out (ones_bv _) ?_)
      intro w7 hr7 hK7
      have hk7 := hk6.keeps hK7 (by simp; omega)
      have hB7 := hB6'.trans (hK7.below hB6'.size (by simp))
      clear hK7 hr6 hk6 hB6'
      go_wp2
      go_roundw
      case rel => exact ⟨hk7, hB7, .inr (.inr ⟨by go_num, hr7⟩)⟩
      case measure => simp [intOf]
    · go_wp2_with (first | refine wpList_loadW rfl 25 (.tmp 4) rfl 32 arrH _ rfl 25 _ hr hOl.out ?_ | refine wpList_storeW rfl 25 (.tmp 4) (.tmp 24) rfl 32 arrH _ rfl (bv O) rfl 25 _ hr hOl.out hOl.out (ones_bv _) ?_)
      intro w6 h6 hK6
      go_wp2
      exact bodyPost_ret (v := .agg (bv O).toArray) (res_cell Try.results9 _ _ _ 25 _ arrH hOl.out rfl h6) rfl ⟨rfl, hB.trans (hK6.below hB.size (by simp))⟩
theorem mac_any (v v2 : Value) (k m : List Nat) (w : World) (hs : Sl w v (bv k)) (hm : Sl w v2 (bv m)) (bk : Byt k) (bm : Byt m) (hlk : (k.length : Int) ≤ 549755813888) (hlm : (m.length : Int) ≤ 549755813888) :
    Calls Try.prog 9 #[v, v2] w (RetH (macL k m) w) := by
  obtain ⟨A, c, rfl, _⟩ := id hs
  obtain ⟨A2, c2, rfl, _⟩ := id hm
  exact mac_core A A2 _ c _ c2 k m w hs hm bk bm hlk hlm
end Go.Proofs.Ythlebobfbalknaa
