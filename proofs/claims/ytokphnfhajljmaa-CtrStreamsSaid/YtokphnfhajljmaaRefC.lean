/- Contracts of banyanref04: boxed. -/
import Derived.Test.YtokphnfhajljmaaRefB
set_option linter.unusedVariables false
set_option linter.unusedSimpArgs false
namespace Go.Proofs.PlainAes
/-- A bit of the box, so many of five summed. -/
def bacc (x i : Nat) : Nat → Nat
  | 0 => bit 99 i
  | k + 1 => bacc x i k ^^^ bit x ((i + 8 - k) % 8)
theorem bacc_le (x i : Nat) : ∀ k, bacc x i k ≤ 1
  | 0 => bit_le _ _
  | k + 1 => by
    have h1 := bacc_le x i k
    have h2 := bit_le x ((i + 8 - k) % 8)
    unfold bacc
    rcases (by omega : bacc x i k = 0 ∨ bacc x i k = 1) with e | e <;> rcases (by omega : bit x ((i + 8 - k) % 8) = 0 ∨ bit x ((i + 8 - k) % 8) = 1) with f | f <;> simp [e, f]
theorem bacc_table : (List.range 256).all (fun x => (List.range 8).all fun i => bacc x i 5 == bit (boxed x) i) = true := by decide +kernel
theorem bacc_all {x i : Nat} (hx : x < 256) (hi : i < 8) : bacc x i 5 = bit (boxed x) i := by
  have := List.all_eq_true.1 (List.all_eq_true.1 bacc_table x (List.mem_range.2 hx)) i (List.mem_range.2 hi)
  simpa using this
end Go.Proofs.PlainAes
namespace Go.Proofs.Ytokphnfhajljmaa
open Go.RowKit
open Go.Proofs.PlainAes

set_option maxRecDepth 100000 in
set_option maxHeartbeats 2000000 in
theorem rboxed_any (x : Nat) (w : World) (hx : (x : Int) ≤ 255) : Calls Try.prog 27 #[.int .u8 (x : Int)] w fun e w' => e = .returned (.int .u8 (boxed x : Nat)) ∧ Below w.heap.size w w' := by
  have hmk : ∀ w, (Instr.makeSlice 32 (.int .i64 8) (.int .i64 8)).run Try.prog w = .ok (.slice (some ⟨w.heap.size, 0, none⟩) 8 8) (w.alloc (.cells (madeCells #[.int .u8 0] 8) 5)) :=
    run_make_row' (P := Try.prog) 32 5 (.int .u8 0) 1 Try.underlying32 (by kernel_rfl) rfl .i64 .i64 8 (by omega) (by omega)
  have hba : Hid (∀ w, Calls Try.prog 37 #[.int .u64 (x : Int), .int .i64 8] w fun e w' => e = .returned (.slice (some ⟨w.heap.size, 0, none⟩) 8 8) ∧ Blk w' w.heap.size 5 (bv (bitsL x 8)) ∧ Below w.heap.size w w') := Lib.hid (fun w => xbits_any x 8 w (by omega) (by decide))
  have hbb : Hid (∀ w, Calls Try.prog 37 #[.int .u64 99, .int .i64 8] w fun e w' => e = .returned (.slice (some ⟨w.heap.size, 0, none⟩) 8 8) ∧ Blk w' w.heap.size 5 (bv (bitsL 99 8)) ∧ Below w.heap.size w w') := Lib.hid (fun w => xbits_any 99 8 w (by decide) (by decide))
  have hall := Lib.hid (fun i (hi : i < 8) => bacc_all (x := x) (i := i) (by omega) hi)
  have hbx := boxed_lt (x := x) (by omega)
  have hB8 : Hid (∀ i, i < 8 → (bitsL (boxed x) 8)[i]? = some (bacc x i 5)) := fun i hi => by
    rw [gd_get (l := bitsL (boxed x) 8) (i := i) (by simpa using hi), gd_bitsL hi, hall.out i hi]
  have hBl := Lib.hid (bitsL_length (boxed x) 8)
  have hof := Lib.hid (fun v w (h : Sl w v (bv (bitsL (boxed x) 8))) => xof_any v (bitsL (boxed x) 8) w h (fun b hb => by
    obtain ⟨i, hi, rfl⟩ := List.mem_map.1 (show b ∈ (List.range 8).map (bit (boxed x)) from hb)
    exact bit_le _ _) (by simp))
  rw [ofL_bits] at hof
  have e8 : boxed x % 2 ^ 8 = boxed x := Nat.mod_eq_of_lt (by simpa using hbx)
  rw [e8] at hof
  have b7 : IntKind.u8.wrap ((boxed x : Nat) : Int) = ((boxed x : Nat) : Int) := by rw [IntKind.wrap_u8]; omega
  clear hall e8 hbx
  generalize bitsL (boxed x) 8 = B at *
  generalize boxed x = Z at *
  go_enter Try.func27, Try.ntmps27
  go_wp2_with fail
  refine (hba.out _).mono ?_
  rintro e w1 ⟨rfl, hl, hB1⟩
  go_wp2_with fail
  refine (hbb.out _).mono ?_
  rintro e w2 ⟨rfl, hc, hB2⟩
  have g0 := Lib.hid hl.lt
  have g1 := Lib.hid hc.lt
  have g2 := Lib.hid hB1.size
  replace hl := (hl.keep hB2).alloc (.cells (madeCells #[.int .u8 0] 8) 5)
  replace hc := hc.alloc (.cells (madeCells #[.int .u8 0] 8) 5)
  have hB3 := (below_call hB1 hB1.size hB2).alloc (by have := g0.out; have := g1.out; omega) (.cells (madeCells #[.int .u8 0] 8) 5)
  have hz : Blk (w2.alloc (.cells (madeCells #[.int .u8 0] 8) 5)) w2.heap.size 5 (bv (upd B (zeros 8) 0)) := by
    have := Blk.new w2 5 (madeCells #[.int .u8 0] 8)
    rw [madeCells_one'] at this
    rw [upd_zero]
    simpa [bv, zeros] using this
  clear hB1 hB2
  go_wp2
  go_loopw [15] (fun s wr => ∃ i : Nat, (i : Int) ≤ 8 ∧ s = .int .i64 (i : Int) ∧ Blk wr w.heap.size 5 (bv (bitsL x 8)) ∧ Blk wr w1.heap.size 5 (bv (bitsL 99 8)) ∧ Blk wr w2.heap.size 5 (bv (upd B (zeros 8) i)) ∧ Below w.heap.size w wr) (fun s _ => 8 - (intOf s).toNat)
  case atStart => exact ⟨0, by omega, rfl, hl, hc, hz, hB3⟩
  case round =>
    clear hl hc hz hB3
    obtain ⟨i, hi, rfl, hl, hc, hz, hB⟩ := hrel
    by_cases hlt : (i : Int) < 8
    · have c1 := hc.cell i
      rw [bv_some ((gd_get (l := bitsL 99 8) (i := i) (by simp; omega)).trans (by rw [gd_bitsL (show i < 8 by omega)]))] at c1
      have c0 := hz.cell i
      rw [bv_get, upd_get (by rw [hBl.out]; simp) (Nat.le_refl _) (by simp; omega), zeros_get (by omega)] at c0
      simp only [Option.map_some] at c0
      have f0 := hz.frozen i
      have hrow : Hid (∀ v : Nat, Blk (wr.setCell ⟨w2.heap.size, i, none⟩ (.int .u8 (v : Int))) w2.heap.size 5 (bv ((upd B (zeros 8) i).set i v))) := fun v => by rw [← bv_set]; exact hz.set_ i _
      have hl0 : Blk (wr.setCell ⟨w2.heap.size, i, none⟩ (.int .u8 ((bit 99 i : Nat) : Int))) w.heap.size 5 (bv (bitsL x 8)) := hl.far (by simp; have := g0.out; have := g1.out; have := g2.out; omega) _
      have hc0 : Blk (wr.setCell ⟨w2.heap.size, i, none⟩ (.int .u8 ((bit 99 i : Nat) : Int))) w1.heap.size 5 (bv (bitsL 99 8)) := hc.far (by simp; have := g1.out; omega) _
      have hz0 := hrow.out (bit 99 i)
      have hB0 : Below w.heap.size w (wr.setCell ⟨w2.heap.size, i, none⟩ (.int .u8 ((bit 99 i : Nat) : Int))) := hB.setCell (by simp; have := g0.out; have := g1.out; have := g2.out; omega) _
      have hlen : Hid ((upd B (zeros 8) i).length = 8) := by show _ = _; rw [upd_length (by rw [hBl.out]; simp) (by simp; omega)]; simp
      have hend : Hid ((upd B (zeros 8) i).set i (bacc x i 5) = upd B (zeros 8) (i + 1)) := upd_set (new := B) (old := zeros 8) (k := i) (by rw [hBl.out]; simp) (by simp; omega) (hB8.out i (by omega))
      clear hrow
      generalize upd B (zeros 8) i = R at *
      go_wp2
      go_loopw [7] (fun s wr => ∃ k : Nat, (k : Int) ≤ 5 ∧ s = .int .i64 (k : Int) ∧ Blk wr w.heap.size 5 (bv (bitsL x 8)) ∧ Blk wr w1.heap.size 5 (bv (bitsL 99 8)) ∧ Blk wr w2.heap.size 5 (bv (R.set i (bacc x i k))) ∧ Below w.heap.size w wr) (fun s _ => 5 - (intOf s).toNat)
      case atStart => exact ⟨0, by omega, rfl, hl0, hc0, hz0, hB0⟩
      case round =>
        clear hl hc hz hB hl0 hc0 hz0 hB0 c0 c1 f0
        obtain ⟨k, hk, rfl, hl, hc, hz, hB⟩ := hrel
        by_cases hlk : (k : Int) < 5
        · obtain ⟨r, hr⟩ : ∃ r, Hid (r = (i + 8 - k) % 8) := ⟨_, rfl⟩
          have b1 : IntKind.i64.wrap ((i : Int) - (k : Int)) = (i : Int) - (k : Int) := IntWalk.i64_in _ (by omega)
          have b2 : IntKind.i64.wrap ((i : Int) - (k : Int) + 8) = (i : Int) - (k : Int) + 8 := IntWalk.i64_in _ (by omega)
          have b3 : Int.tmod ((i : Int) - (k : Int) + 8) 8 = (r : Int) := by rw [hr.out, Int.tmod_eq_emod_of_nonneg (by omega)]; omega
          have b5 : (r : Int) < 8 := by have := hr.out; omega
          have b6 : (0 : Int) ≤ (r : Int) := by omega
          have c2 := hl.cell r
          rw [bv_some ((gd_get (l := bitsL x 8) (i := r) (by simp; omega)).trans (by rw [gd_bitsL (show r < 8 by omega)]))] at c2
          have c0 := hz.cell i
          rw [bv_some (show (R.set i (bacc x i k))[i]? = some (bacc x i k) by rw [List.getElem?_set, if_pos rfl, if_pos (by rw [hlen.out]; omega)])] at c0
          have f0 := hz.frozen i
          have hy1 := bacc_le x i k
          have hy2 := bit_le x r
          obtain ⟨hq, -⟩ := x8' (a := bacc x i k) (b := bit x r) (by omega) (by omega)
          have hst : Hid (bacc x i k ^^^ bit x r = bacc x i (k + 1)) := by show _ = _; rw [bacc, hr.out]
          rw [hst.out] at hq
          have hset : Hid (Blk (wr.drew.setCell ⟨w2.heap.size, i, none⟩ (.int .u8 ((bacc x i (k + 1) : Nat) : Int))) w2.heap.size 5 (bv (R.set i (bacc x i (k + 1))))) := by
            have h := hz.drew.set_ i (.int .u8 ((bacc x i (k + 1) : Nat) : Int))
            rw [bv_set, List.set_set] at h
            exact h
          clear hst hr
          generalize hy' : bacc x i (k + 1) = y' at *
          replace hy' := Lib.hid hy'
          generalize hyk : bacc x i k = y at *
          generalize bit x r = z at *
          go_wp2
          go_still_tail 14, (by kernel_rfl)
          change wpList _ _ _ _ _ wr.drew
          clear b1 b2 b3
          have hq' := hq
          go_wp2
          go_roundw
          case rel => exact ⟨k + 1, by omega, by go_num, (hl.drew).far (by simp; have := g0.out; have := g1.out; have := g2.out; omega) _, (hc.drew).far (by simp; have := g1.out; omega) _, (by rw [hy'.out]; exact hset.out), hB.drew.setCell (by simp; have := g0.out; have := g1.out; have := g2.out; omega) _⟩
          case measure => simp [intOf]; omega
        · obtain rfl : k = 5 := by omega
          rw [hend.out] at hz
          go_wp2
          go_roundw
          case rel => exact ⟨i + 1, by omega, by go_num, hl, hc, hz, hB⟩
          case measure => simp [intOf]; omega
    · obtain rfl : i = 8 := by omega
      rw [upd_all hBl.out (by simp)] at hz
      have sl : Sl wr (.slice (some ⟨w2.heap.size, 0, none⟩) 8 8) (bv B) := by
        have h := Sl.of_blk (n := 8) (c := 8) hz (by decide) (by simp [hBl.out]) (by unfold maxLen; omega)
        rwa [List.take_of_length_le (by simp [hBl.out])] at h
      have ho := Lib.hid (hof.out _ _ sl)
      clear hz sl hl hc
      go_wp2_with fail
      refine ho.out.mono ?_
      rintro e w' ⟨rfl, rfl⟩
      go_wp2
      go_ret
      exact ⟨rfl, hB⟩
end Go.Proofs.Ytokphnfhajljmaa
