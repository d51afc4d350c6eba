/- Contracts of banyanref04: Times. -/
import Derived.Test.YtokphnfhajljmaaRefA
set_option linter.unusedVariables false
set_option linter.unusedSimpArgs false
namespace Go.Proofs.Ytokphnfhajljmaa
open Go.RowKit
open Go.Proofs.PlainAes

theorem x8' {a b : Nat} (ha : a < 256) (hb : b < 256) : bits .xor .u8 (a : Int) (b : Int) = ((a ^^^ b : Nat) : Int) ∧ a ^^^ b < 256 := ⟨u8_xor_nat a b ha hb, xor_lt ha hb⟩
def katA : Array Value := #[.int .i64 8, .int .i64 4, .int .i64 3, .int .i64 1, .int .i64 0]
theorem index5i (i : Nat) (v : Value) (h : katA[i]? = some v) (w : World) : (Instr.index 83 (.agg katA) (.int .i64 (i : Int))).run Try.prog w = .ok v w := by
  have hu := Try.underlying83
  have hi : i < 5 := by
    rcases Nat.lt_or_ge i 5 with h1 | h1
    · exact h1
    · rw [Array.getElem?_eq_none (by simpa [katA] using h1)] at h; cases h
  have ha : (isAgg 3).run Try.prog w = .ok false w := by
    unfold isAgg
    rw [Sem.run_bind, run_underlying Try.underlying3 w]
    rfl
  have hs : (sizeOf 3).run Try.prog w = .ok 1 w := by
    have hq : (Try.prog.info? 3).map (·.size) = some 1 := by kernel_rfl
    cases hq2 : Try.prog.info? 3 with
    | none => simp [hq2] at hq
    | some i0 => 
      have : i0.size = 1 := by simpa [hq2] using hq
      simp [sizeOf, typeInfo, hq2, this]
  simp [Instr.index, asIntOf, Sem.run_bind, run_underlying hu, hi, hs, ha, part, h]
set_option maxRecDepth 100000 in
set_option maxHeartbeats 2000000 in
theorem rtimes_any (a b : Nat) (w : World) (ha : (a : Int) ≤ 255) (hb : (b : Int) ≤ 255) : Calls Try.prog 26 #[.int .u8 (a : Int), .int .u8 (b : Int)] w fun e w' => e = .returned (.int .u8 (mul a b : Nat)) ∧ Below w.heap.size w w' := by
  have hmk : ∀ w, (Instr.makeSlice 32 (.int .i64 15) (.int .i64 15)).run Try.prog w = .ok (.slice (some ⟨w.heap.size, 0, none⟩) 15 15) (w.alloc (.cells (madeCells #[.int .u8 0] 15) 5)) :=
    run_make_row' (P := Try.prog) 32 5 (.int .u8 0) 1 Try.underlying32 (by kernel_rfl) rfl .i64 .i64 15 (by omega) (by omega)
  have hba : Hid (∀ w, Calls Try.prog 37 #[.int .u64 (a : Int), .int .i64 8] w fun e w' => e = .returned (.slice (some ⟨w.heap.size, 0, none⟩) 8 8) ∧ Blk w' w.heap.size 5 (bv (bitsL a 8)) ∧ Below w.heap.size w w') := Lib.hid (fun w => xbits_any a 8 w (by omega) (by omega))
  have hbb : Hid (∀ w, Calls Try.prog 37 #[.int .u64 (b : Int), .int .i64 8] w fun e w' => e = .returned (.slice (some ⟨w.heap.size, 0, none⟩) 8 8) ∧ Blk w' w.heap.size 5 (bv (bitsL b 8)) ∧ Below w.heap.size w w') := Lib.hid (fun w => xbits_any b 8 w (by omega) (by omega))
  go_enter Try.func26, Try.ntmps26
  go_wp2_with (first
    | (go_at_call 37; (with_reducible refine (hba.out _).mono ?_); rintro e w1 ⟨rfl, hx, hB1⟩)
    | (go_at_call 37; (with_reducible refine (hbb.out _).mono ?_); rintro e w2 ⟨rfl, hy, hB2⟩))
  have g0 := Lib.hid hx.lt
  have g1 := Lib.hid hy.lt
  replace hx := (hx.keep hB2).alloc (.cells (madeCells #[.int .u8 0] 15) 5)
  replace hy := hy.alloc (.cells (madeCells #[.int .u8 0] 15) 5)
  have hB3 := (below_call hB1 hB1.size hB2).alloc (by have := g0.out; have := g1.out; omega) (.cells (madeCells #[.int .u8 0] 15) 5)
  have hz : Blk (w2.alloc (.cells (madeCells #[.int .u8 0] 15) 5)) w2.heap.size 5 (bv (bitsL 0 15)) := by
    have := Blk.new w2 5 (madeCells #[.int .u8 0] 15)
    rw [madeCells_one'] at this
    rw [bitsL_zero]
    simpa [bv] using this
  clear hB1 hB2
  go_loopw [22] (fun s wr => ∃ i : Nat, (i : Int) ≤ 8 ∧ s = .int .i64 (i : Int) ∧ Blk wr w.heap.size 5 (bv (bitsL a 8)) ∧ Blk wr w1.heap.size 5 (bv (bitsL b 8)) ∧ Blk wr w2.heap.size 5 (bv (bitsL (clN a b i) 15)) ∧ Below w.heap.size w wr) (fun s _ => 8 - (intOf s).toNat)
  case atStart => exact ⟨0, by omega, rfl, hx, hy, hz, hB3⟩
  case round =>
    clear hx hy hz hB3
    obtain ⟨i, hi, rfl, hx, hy, hz, hB⟩ := hrel
    by_cases hlt : (i : Int) < 8
    · have z0 : Blk wr w2.heap.size 5 (bv (bitsL (clK a b i 0) 15)) := by rw [clK_zero]; exact hz
      go_wp2
      go_loopw [27] (fun s wr => ∃ k : Nat, (k : Int) ≤ 8 ∧ s = .int .i64 (k : Int) ∧ Blk wr w.heap.size 5 (bv (bitsL a 8)) ∧ Blk wr w1.heap.size 5 (bv (bitsL b 8)) ∧ Blk wr w2.heap.size 5 (bv (bitsL (clK a b i k) 15)) ∧ Below w.heap.size w wr) (fun s _ => 8 - (intOf s).toNat)
      case atStart => exact ⟨0, by omega, rfl, hx, hy, z0, hB⟩
      case round =>
        clear hx hy hz hB z0
        obtain ⟨k, hk, rfl, hx, hy, hz, hB⟩ := hrel
        by_cases hlk : (k : Int) < 8
        · have c1 := hx.cell i
          rw [bv_some ((gd_get (l := bitsL a 8) (i := i) (by simp; omega)).trans (by rw [gd_bitsL (show i < 8 by omega)]))] at c1
          have c2 := hy.cell k
          rw [bv_some ((gd_get (l := bitsL b 8) (i := k) (by simp; omega)).trans (by rw [gd_bitsL (show k < 8 by omega)]))] at c2
          have c0 := hz.cell (i + k)
          have f0 := hz.frozen (i + k)
          rw [bv_some ((gd_get (l := bitsL (clK a b i k) 15) (i := i + k) (by simp; omega)).trans (by rw [gd_bitsL (show i + k < 15 by omega)]))] at c0
          have hx1 := bit_le a i
          have hy1 := bit_le b k
          have hc1 := bit_le (clK a b i k) (i + k)
          have hxy : bit a i * bit b k ≤ 1 := Nat.mul_le_mul hx1 hy1
          have hst := Lib.hid (bitsL_set (clK a b i k) 15 (i + k) (bit a i * bit b k) hxy (by omega))
          have hck := Lib.hid (clK_step a b i k)
          have m1 : IntKind.u8.wrap ((bit a i : Int) * (bit b k : Int)) = ((bit a i * bit b k : Nat) : Int) := by rw [IntKind.wrap_u8, ← Int.natCast_mul]; omega
          obtain ⟨hq, -⟩ := x8' (a := bit (clK a b i k) (i + k)) (b := bit a i * bit b k) (by omega) (by omega)
          replace hz := Lib.hid hz
          generalize bit a i * bit b k = p at *
          generalize bit a i = x at *
          generalize bit b k = y at *
          generalize bit (clK a b i k) (i + k) = c at *
          have hik : (i : Int) + (k : Int) < 15 := by omega
          have b1 : IntKind.i64.wrap ((i : Int) + (k : Int)) = (i : Int) + (k : Int) := IntWalk.i64_in _ (by omega)
          have b2 : (0 : Int) ≤ (i : Int) + (k : Int) := by omega
          have b4 : ((i : Int) + (k : Int)).toNat = i + k := by omega
          go_wp2
          go_still_tail 17, (by kernel_rfl)
          change wpList _ _ _ _ _ wr.drew
          clear b1 b2 b4
          go_wp2
          go_roundw
          case rel =>
            refine ⟨k + 1, by omega, by go_num, (hx.drew).far (by simp; have := g0.out; have := g1.out; omega) _, (hy.drew).far (by simp; have := g1.out; omega) _, ?_, hB.drew.setCell (by simp; have := g0.out; have := g1.out; omega) _⟩
            rw [← hck.out, ← hst.out, ← bv_set]
            exact hz.out.drew.set_ (i + k) _
          case measure => simp [intOf]; omega
        · obtain rfl : k = 8 := by omega
          rw [clK_all a b i (by omega)] at hz
          go_wp2
          go_roundw
          case rel => exact ⟨i + 1, by omega, by go_num, hx, hy, hz, hB⟩
          case measure => simp [intOf]; omega
    · obtain rfl : i = 8 := by omega
      have hred : redN (clN a b 8) 7 % 256 = mul a b := rmul_eq (by omega) (by omega)
      replace hred := Lib.hid hred
      generalize clN a b 8 = O at *
      go_wp2
      go_loopw [10] (fun s wr => ∃ q : Nat, 7 ≤ (q : Int) ∧ (q : Int) ≤ 14 ∧ s = .int .i64 (q : Int) ∧ Blk wr w2.heap.size 5 (bv (bitsL (redN O (14 - q)) 15)) ∧ Below w.heap.size w wr) (fun s _ => (intOf s).toNat)
      case atStart => exact ⟨14, by omega, by omega, rfl, hz, hB⟩
      case round =>
        clear hx hy hz hB
        obtain ⟨q, hq7, hq14, rfl, hz, hB⟩ := hrel
        by_cases hlj : 8 ≤ (q : Int)
        · have hR : Hid (redN O (14 - (q - 1)) = red (redN O (14 - q)) q) := by
            show _ = _
            rw [show 14 - (q - 1) = (14 - q) + 1 from by omega, redN, show 14 - (14 - q) = q from by omega]
          generalize redN O (14 - q) = R at *
          have c0 := hz.cell q
          rw [bv_some ((gd_get (l := bitsL R 15) (i := q) (by simp; omega)).trans (by rw [gd_bitsL (show q < 15 by omega)]))] at c0
          by_cases hbit : bit R q = 1
          · rw [hbit] at c0
            have hRf : Hid (redN O (14 - (q - 1)) = flips R q 5) := by
              show _ = _
              rw [hR.out, red, if_pos hbit, flips_all R q (by omega) (by omega)]
            have z0 : Blk wr w2.heap.size 5 (bv (bitsL (flips R q 0) 15)) := hz
            clear hR hbit
            go_wp2
            go_loopw [59] (fun s wr => ∃ m : Nat, (m : Int) ≤ 5 ∧ s = .int .i64 (m : Int) ∧ Blk wr w2.heap.size 5 (bv (bitsL (flips R q m) 15)) ∧ Below w.heap.size w wr) (fun s _ => 5 - (intOf s).toNat)
            case atStart => exact ⟨0, by omega, rfl, z0, hB⟩
            case round =>
              clear hz hB z0 c0
              obtain ⟨m, hm, rfl, hz, hB⟩ := hrel
              by_cases hlm : (m : Int) < 5
              · have hk8 : kat m ≤ 8 := by unfold kat; split <;> omega
                have c1 := hz.cell (q - 8 + kat m)
                have f1 := hz.frozen (q - 8 + kat m)
                rw [bv_some ((gd_get (l := bitsL (flips R q m) 15) (i := q - 8 + kat m) (by simp; omega)).trans (by rw [gd_bitsL (show q - 8 + kat m < 15 by omega)]))] at c1
                have hst := Lib.hid (bitsL_set (flips R q m) 15 (q - 8 + kat m) 1 (by decide) (by omega))
                rw [Nat.one_mul] at hst
                have hfl : Hid (flips R q (m + 1) = flips R q m ^^^ 2 ^ (q - 8 + kat m)) := rfl
                have hy1 := bit_le (flips R q m) (q - 8 + kat m)
                obtain ⟨hx1, -⟩ := x8' (a := bit (flips R q m) (q - 8 + kat m)) (b := 1) (by omega) (by omega)
                replace hx1 : bits .xor .u8 ((bit (flips R q m) (q - 8 + kat m) : Nat) : Int) 1 = ((bit (flips R q m) (q - 8 + kat m) ^^^ 1 : Nat) : Int) := hx1
                replace hz := Lib.hid hz
                generalize bit (flips R q m) (q - 8 + kat m) = y at *
                obtain ⟨q8, hq8⟩ : ∃ q8, Hid (q8 = q - 8) := ⟨_, rfl⟩
                rw [← hq8.out] at c1 f1 hst hfl
                have b0 : (q : Int) - 8 = (q8 : Int) := by have := hq8.out; omega
                have b5 : (q8 : Int) ≤ 6 := by have := hq8.out; omega
                obtain ⟨t, ht⟩ : ∃ t, Hid (t = q8 + kat m) := ⟨_, rfl⟩
                rw [← ht.out] at c1 f1 hst hfl
                have b6 : (t : Int) < 15 := by have := ht.out; omega
                have hkk : (m = 0 ∧ kat m = 8) ∨ (m = 1 ∧ kat m = 4) ∨ (m = 2 ∧ kat m = 3) ∨ (m = 3 ∧ kat m = 1) ∨ (m = 4 ∧ kat m = 0) := by
                  rcases (by omega : m = 0 ∨ m = 1 ∨ m = 2 ∨ m = 3 ∨ m = 4) with rfl | rfl | rfl | rfl | rfl <;> simp [kat]
                have fin : Hid (Blk (wr.setCell ⟨w2.heap.size, t, none⟩ (.int .u8 ((y ^^^ 1 : Nat) : Int))) w2.heap.size 5 (bv (bitsL (flips R q (m + 1)) 15))) := by
                  show Blk _ _ _ _
                  rw [hfl.out, ← hst.out, ← bv_set]
                  exact hz.out.set_ t _
                rcases hkk with ⟨rfl, hk⟩ | ⟨rfl, hk⟩ | ⟨rfl, hk⟩ | ⟨rfl, hk⟩ | ⟨rfl, hk⟩
                · have b7 : (q8 : Int) + 8 = (t : Int) := by have := ht.out; omega
                  have hix : ∀ w, (Instr.index 83 (.agg #[.int .i64 8, .int .i64 4, .int .i64 3, .int .i64 1, .int .i64 0]) (.int .i64 0)).run Try.prog w = .ok (.int .i64 8) w := fun w => index5i 0 _ rfl w
                  clear ht hk hq8 hk8
                  go_wp2
                  go_roundw
                  case rel => exact ⟨1, by omega, rfl, fin.out, hB.setCell (by simp; have := g0.out; have := g1.out; omega) _⟩
                  case measure => simp [intOf]
                · have b7 : (q8 : Int) + 4 = (t : Int) := by have := ht.out; omega
                  have hix : ∀ w, (Instr.index 83 (.agg #[.int .i64 8, .int .i64 4, .int .i64 3, .int .i64 1, .int .i64 0]) (.int .i64 1)).run Try.prog w = .ok (.int .i64 4) w := fun w => index5i 1 _ rfl w
                  clear ht hk hq8 hk8
                  go_wp2
                  go_roundw
                  case rel => exact ⟨2, by omega, rfl, fin.out, hB.setCell (by simp; have := g0.out; have := g1.out; omega) _⟩
                  case measure => simp [intOf]
                · have b7 : (q8 : Int) + 3 = (t : Int) := by have := ht.out; omega
                  have hix : ∀ w, (Instr.index 83 (.agg #[.int .i64 8, .int .i64 4, .int .i64 3, .int .i64 1, .int .i64 0]) (.int .i64 2)).run Try.prog w = .ok (.int .i64 3) w := fun w => index5i 2 _ rfl w
                  clear ht hk hq8 hk8
                  go_wp2
                  go_roundw
                  case rel => exact ⟨3, by omega, rfl, fin.out, hB.setCell (by simp; have := g0.out; have := g1.out; omega) _⟩
                  case measure => simp [intOf]
                · have b7 : (q8 : Int) + 1 = (t : Int) := by have := ht.out; omega
                  have hix : ∀ w, (Instr.index 83 (.agg #[.int .i64 8, .int .i64 4, .int .i64 3, .int .i64 1, .int .i64 0]) (.int .i64 3)).run Try.prog w = .ok (.int .i64 1) w := fun w => index5i 3 _ rfl w
                  clear ht hk hq8 hk8
                  go_wp2
                  go_roundw
                  case rel => exact ⟨4, by omega, rfl, fin.out, hB.setCell (by simp; have := g0.out; have := g1.out; omega) _⟩
                  case measure => simp [intOf]
                · have b7 : (q8 : Int) + 0 = (t : Int) := by have := ht.out; omega
                  have hix : ∀ w, (Instr.index 83 (.agg #[.int .i64 8, .int .i64 4, .int .i64 3, .int .i64 1, .int .i64 0]) (.int .i64 4)).run Try.prog w = .ok (.int .i64 0) w := fun w => index5i 4 _ rfl w
                  have b8 : (q8 : Int) = (t : Int) := by omega
                  clear ht hk hq8 hk8
                  go_wp2
                  go_roundw
                  case rel => exact ⟨5, by omega, rfl, fin.out, hB.setCell (by simp; have := g0.out; have := g1.out; omega) _⟩
                  case measure => simp [intOf]
              · obtain rfl : m = 5 := by omega
                rw [← hRf.out] at hz
                have b9 : (q : Int) - 1 = ((q - 1 : Nat) : Int) := by omega
                go_wp2
                go_roundw
                case rel => exact ⟨q - 1, by omega, by omega, rfl, hz, hB⟩
                case measure => simp [intOf]; omega
          · have h0 : bit R q = 0 := by have := bit_le R q; omega
            rw [h0] at c0
            have hRf : Hid (redN O (14 - (q - 1)) = R) := by
              show _ = _
              rw [hR.out, red, if_neg hbit]
            rw [← hRf.out] at hz
            have b9 : (q : Int) - 1 = ((q - 1 : Nat) : Int) := by omega
            clear hR hbit h0
            go_wp2
            go_roundw
            case rel => exact ⟨q - 1, by omega, by omega, rfl, hz, hB⟩
            case measure => simp [intOf]; omega
        · obtain rfl : q = 7 := by omega
          have sl : Sl wr (.slice (some ⟨w2.heap.size, 0, none⟩) 8 15) (bv (bitsL (redN O 7) 8)) := by
            have h := Sl.of_blk (n := 8) (c := 15) hz (by decide) (by simp) (by unfold maxLen; omega)
            rw [show (bv (bitsL (redN O (14 - 7)) 15)).take 8 = bv (bitsL (redN O 7) 8) from by unfold bv; rw [← List.map_take, take_bitsL _ (by decide)]] at h
            exact h
          have hof := Lib.hid (xof_any _ (bitsL (redN O 7) 8) wr sl (fun b hb => by
            obtain ⟨i, hi, rfl⟩ := List.mem_map.1 (show b ∈ (List.range 8).map (bit (redN O 7)) from hb)
            exact bit_le _ _) (by simp))
          rw [ofL_bits] at hof
          have e8 : redN O 7 % 2 ^ 8 = mul a b := hred.out
          rw [e8] at hof
          have b7 : IntKind.u8.wrap ((mul a b : Nat) : Int) = ((mul a b : Nat) : Int) := by
            have := mul_lt (a := a) b (by omega)
            rw [IntKind.wrap_u8]; omega
          clear hz sl hred e8
          go_wp2_with fail
          refine hof.out.mono ?_
          rintro e w' ⟨rfl, rfl⟩
          go_wp2
          go_ret
          exact ⟨rfl, hB⟩
end Go.Proofs.Ytokphnfhajljmaa
