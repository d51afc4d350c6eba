/- Several texts in one (written by mergetop.py): RefA RefB RefC RefE RefG RefF RefH RefI RefK RefL. -/
import Derived.Test.YtlifpmglaoppoaaArr
import Derived.Test.YtlifpmglaoppoaaRefP
import Derived.Deep.OwnRows
import Derived.Test.YtlifpmglaoppoaaQ12P2
import Derived.Test.YtlifpmglaoppoaaRgx
import Derived.Deep.Cut
set_option linter.unusedVariables false
set_option linter.unusedSimpArgs false

/- Contracts of banyanref01: Bits, Of. -/
namespace Go.Proofs.Ytlifpmglaoppoaa
open Go.RowKit
open Go.Proofs.PlainAes
theorem madeCells_one' (v : Value) (m : Nat) : (madeCells #[v] m).toList = List.replicate m v := by
  apply List.ext_getElem
  · simp [madeCells]
  · intro i h1 h2
    simp [madeCells, Nat.mod_one]

set_option maxHeartbeats 1000000 in
theorem xbits_any (x n : Nat) (w : World) (hx : (x : Int) ≤ 18446744073709551615) (hn : (n : Int) ≤ 281474976710656) :
    Calls Try.prog 48 #[.int .u64 (x : Int), .int .i64 (n : Int)] w fun e w' => e = .returned (.slice (some ⟨w.heap.size, 0, none⟩) n n) ∧ Blk w' w.heap.size 5 (bv (bitsL x n)) ∧ Below w.heap.size w w' := by
  have hmk : ∀ w, (Instr.makeSlice 22 (.int .i64 (n : Int)) (.int .i64 (n : Int))).run Try.prog w = .ok (.slice (some ⟨w.heap.size, 0, none⟩) n n) (w.alloc (.cells (madeCells #[.int .u8 0] n) 5)) :=
    run_make_row' (P := Try.prog) 22 5 (.int .u8 0) 1 Try.underlying22 (by kernel_rfl) rfl .i64 .i64 n (by omega) (by omega)
  go_enter Try.func48, Try.ntmps48
  go_wp2
  go_loopw [0, 11] (fun y i wr => ∃ (k : Nat) (z : Nat), (k : Int) ≤ n ∧ i = .int .i64 (k : Int) ∧ y = .int .u64 (z : Int) ∧ (z : Int) ≤ 18446744073709551615 ∧ Hid (z = x / 2 ^ k) ∧ Below w.heap.size w wr ∧ Blk wr w.heap.size 5 (bv (upd (bitsL x n) (zeros n) k))) (fun _ i _ => n - (intOf i).toNat)
  case atStart =>
    refine ⟨0, x, by omega, rfl, rfl, hx, by show _ = _; simp, (Below.refl _ _).alloc (Nat.le_refl _) _, ?_⟩
    have := Blk.new w 5 (madeCells #[.int .u8 0] n)
    rw [madeCells_one'] at this
    rw [upd_zero]
    simpa [bv, zeros] using this
  case round =>
    obtain ⟨k, z, hk, rfl, rfl, hz, hzx, hB, hb⟩ := hrel
    by_cases hlt : (k : Int) < n
    · have c0 := hb.cell k
      have f0 := hb.frozen k
      rw [bv_get, upd_get (by simp) (Nat.le_refl _) (by simp; omega), zeros_get (by omega)] at c0
      simp only [Option.map_some] at c0
      have HS := Lib.hid (upd_set (new := bitsL x n) (old := zeros n) (k := k) (by simp) (by simp; omega) ((gd_get (by simp; omega)).trans (by rw [gd_bitsL (show k < n by omega), bit, ← hzx.out])))
      go_wp2
      go_roundw
      case rel =>
        refine ⟨k + 1, z / 2, by omega, by simp, by simp, by omega, ?_, hB.setCell (by simp) _, ?_⟩
        · show _ = _
          rw [hzx.out, Nat.div_div_eq_div_mul, Nat.pow_succ]
        · rw [← HS.out, ← bv_set]
          exact hb.set_ k _
      case measure => simp [intOf]; omega
    · obtain rfl : n = k := by omega
      rw [upd_all (by simp) (by simp)] at hb
      go_wp2
      go_ret
      exact ⟨rfl, hb, hB⟩

theorem xofL_lt : ∀ (l : List Nat), (∀ b ∈ l, b ≤ 1) → ofL l < 2 ^ l.length
  | [], _ => by simp [ofL]
  | b :: l, h => by
    have h1 := xofL_lt l (fun c hc => h c (by simp [hc]))
    have h2 := h b (by simp)
    simp only [ofL, List.length_cons, Nat.pow_succ]
    omega
theorem xdrop_cons (l : List Nat) (j : Nat) (h : j < l.length) : ofL (l.drop j) = ofL (l.drop (j + 1)) * 2 + l[j] := by
  rw [List.drop_eq_getElem_cons h, ofL]

set_option maxHeartbeats 1000000 in
theorem xof_core (A : Option Addr) (c : Nat) (l : List Nat) (w : World) (h3 : 0 < (bv l).length → ∃ g o, A = some ⟨g, o, none⟩ ∧ ∀ i u, (bv l)[i]? = some u → w.cell? ⟨g, o + i, none⟩ = some u) (hl : ∀ b ∈ l, b ≤ 1) (hn : l.length ≤ 63) :
    Calls Try.prog 49 #[.slice A l.length c] w fun e w' => e = .returned (.int .u64 (ofL l : Nat)) ∧ w = w' := by
  have hnI : (l.length : Int) ≤ 63 := by omega
  go_enter Try.func49, Try.ntmps49
  go_wp2
  go_loop [3, 4] (fun x i => ∃ (j z : Nat), j ≤ l.length ∧ i = .int .i64 ((j : Int) - 1) ∧ x = .int .u64 (z : Int) ∧ Hid (z = ofL (l.drop j))) (fun _ i => (intOf i + 1).toNat)
  case atStart => exact ⟨l.length, 0, Nat.le_refl _, by simp, rfl, by show _ = _; simp [ofL]⟩
  case round =>
    obtain ⟨j, z, hj, rfl, rfl, hz⟩ := hrel
    by_cases h0 : j = 0
    · subst h0
      clear h3
      go_wp2
      go_ret
      refine ⟨?_, rfl⟩
      have hz' : z = ofL (l.drop 0) := hz
      rw [List.drop_zero] at hz'
      rw [← hz']
      rfl
    · obtain ⟨m, rfl⟩ : ∃ m, j = m + 1 := ⟨j - 1, by omega⟩
      obtain ⟨g, o, rfl, hc⟩ := h3 (by simp; omega)
      have hml : m < l.length := by omega
      have hc' := hc m (.int .u8 ((l[m] : Nat) : Int)) (by rw [bv_get, List.getElem?_eq_getElem hml]; rfl)
      have hb := hl l[m] (List.getElem_mem hml)
      have hlt := xofL_lt (l.drop (m + 1)) (fun b hb => hl b (List.mem_of_mem_drop hb))
      have hz' : z = ofL (l.drop (m + 1)) := hz
      rw [← hz'] at hlt
      have hpp : (2 : Nat) ^ (l.drop (m + 1)).length ≤ 2 ^ 62 := Nat.pow_le_pow_right (by omega) (by simp; omega)
      have hz2 : (z : Int) ≤ 4611686018427387904 := by omega
      have hdc := xdrop_cons l m hml
      rw [← hz'] at hdc
      have HD := Lib.hid hdc
      clear hdc hz' hlt hpp hz hc h3 hl
      generalize l[m] = cc at *
      have hb' : (cc : Int) ≤ 1 := by omega
      go_wp2
      go_round
      case rel => exact ⟨m, z * 2 + cc, by omega, by simp, by simp, HD.out.symm⟩
      case measure => simp [intOf]

theorem xof_any (v : Value) (l : List Nat) (w : World) (h : Sl w v (bv l)) (hl : ∀ b ∈ l, b ≤ 1) (hn : l.length ≤ 63) :
    Calls Try.prog 49 #[v] w fun e w' => e = .returned (.int .u64 (ofL l : Nat)) ∧ w = w' := by
  obtain ⟨A, c, rfl, h1, h2, h3⟩ := h
  rw [bv_length]
  exact xof_core A c l w h3 hl hn

end Go.Proofs.Ytlifpmglaoppoaa

/- Contracts of banyanref04: Times. -/
namespace Go.Proofs.Ytlifpmglaoppoaa
open Go.RowKit
open Go.Proofs.PlainAes

theorem x8' {a b : Nat} (ha : a < 256) (hb : b < 256) : bits .xor .u8 (a : Int) (b : Int) = ((a ^^^ b : Nat) : Int) ∧ a ^^^ b < 256 := ⟨u8_xor_nat a b ha hb, xor_lt ha hb⟩
def katA : Array Value := #[.int .i64 8, .int .i64 4, .int .i64 3, .int .i64 1, .int .i64 0]
theorem index5i (i : Nat) (v : Value) (h : katA[i]? = some v) (w : World) : (Instr.index 97 (.agg katA) (.int .i64 (i : Int))).run Try.prog w = .ok v w := by
  have hu := Try.underlying97
  have hi : i < 5 := by
    rcases Nat.lt_or_ge i 5 with h1 | h1
    · exact h1
    · rw [Array.getElem?_eq_none (by simpa [katA] using h1)] at h; cases h
  have ha : (isAgg 3).run Try.prog w = .ok false w := by
    unfold isAgg
    rw [Sem.run_bind, run_underlying Try.underlying3 w]
    rfl
  have hs : (sizeOf 3).run Try.prog w = .ok 1 w := by
    have hq : (Try.prog.info? 3).map (·.size) = some 1 := by kernel_rfl
    cases hq2 : Try.prog.info? 3 with
    | none => simp [hq2] at hq
    | some i0 => 
      have : i0.size = 1 := by simpa [hq2] using hq
      simp [sizeOf, typeInfo, hq2, this]
  simp [Instr.index, asIntOf, Sem.run_bind, run_underlying hu, hi, hs, ha, part, h]
set_option maxRecDepth 100000 in
set_option maxHeartbeats 2000000 in
theorem xtimes_any (a b : Nat) (w : World) (ha : (a : Int) ≤ 255) (hb : (b : Int) ≤ 255) : Calls Try.prog 28 #[.int .u8 (a : Int), .int .u8 (b : Int)] w fun e w' => e = .returned (.int .u8 (mul a b : Nat)) ∧ Below w.heap.size w w' := by
  have hmk : ∀ w, (Instr.makeSlice 22 (.int .i64 15) (.int .i64 15)).run Try.prog w = .ok (.slice (some ⟨w.heap.size, 0, none⟩) 15 15) (w.alloc (.cells (madeCells #[.int .u8 0] 15) 5)) :=
    run_make_row' (P := Try.prog) 22 5 (.int .u8 0) 1 Try.underlying22 (by kernel_rfl) rfl .i64 .i64 15 (by omega) (by omega)
  have hba : Hid (∀ w, Calls Try.prog 48 #[.int .u64 (a : Int), .int .i64 8] w fun e w' => e = .returned (.slice (some ⟨w.heap.size, 0, none⟩) 8 8) ∧ Blk w' w.heap.size 5 (bv (bitsL a 8)) ∧ Below w.heap.size w w') := Lib.hid (fun w => xbits_any a 8 w (by omega) (by omega))
  have hbb : Hid (∀ w, Calls Try.prog 48 #[.int .u64 (b : Int), .int .i64 8] w fun e w' => e = .returned (.slice (some ⟨w.heap.size, 0, none⟩) 8 8) ∧ Blk w' w.heap.size 5 (bv (bitsL b 8)) ∧ Below w.heap.size w w') := Lib.hid (fun w => xbits_any b 8 w (by omega) (by omega))
  go_enter Try.func28, Try.ntmps28
  go_wp2_with (first
    | (go_at_call 48; (with_reducible refine (hba.out _).mono ?_); rintro e w1 ⟨rfl, hx, hB1⟩)
    | (go_at_call 48; (with_reducible refine (hbb.out _).mono ?_); rintro e w2 ⟨rfl, hy, hB2⟩))
  have g0 := Lib.hid hx.lt
  have g1 := Lib.hid hy.lt
  replace hx := (hx.keep hB2).alloc (.cells (madeCells #[.int .u8 0] 15) 5)
  replace hy := hy.alloc (.cells (madeCells #[.int .u8 0] 15) 5)
  have hB3 := (below_call hB1 hB1.size hB2).alloc (by have := g0.out; have := g1.out; omega) (.cells (madeCells #[.int .u8 0] 15) 5)
  have hz : Blk (w2.alloc (.cells (madeCells #[.int .u8 0] 15) 5)) w2.heap.size 5 (bv (bitsL 0 15)) := by
    have := Blk.new w2 5 (madeCells #[.int .u8 0] 15)
    rw [madeCells_one'] at this
    rw [bitsL_zero]
    simpa [bv] using this
  clear hB1 hB2
  go_loopw [22] (fun s wr => ∃ i : Nat, (i : Int) ≤ 8 ∧ s = .int .i64 (i : Int) ∧ Blk wr w.heap.size 5 (bv (bitsL a 8)) ∧ Blk wr w1.heap.size 5 (bv (bitsL b 8)) ∧ Blk wr w2.heap.size 5 (bv (bitsL (clN a b i) 15)) ∧ Below w.heap.size w wr) (fun s _ => 8 - (intOf s).toNat)
  case atStart => exact ⟨0, by omega, rfl, hx, hy, hz, hB3⟩
  case round =>
    clear hx hy hz hB3
    obtain ⟨i, hi, rfl, hx, hy, hz, hB⟩ := hrel
    by_cases hlt : (i : Int) < 8
    · have z0 : Blk wr w2.heap.size 5 (bv (bitsL (clK a b i 0) 15)) := by rw [clK_zero]; exact hz
      go_wp2
      go_loopw [27] (fun s wr => ∃ k : Nat, (k : Int) ≤ 8 ∧ s = .int .i64 (k : Int) ∧ Blk wr w.heap.size 5 (bv (bitsL a 8)) ∧ Blk wr w1.heap.size 5 (bv (bitsL b 8)) ∧ Blk wr w2.heap.size 5 (bv (bitsL (clK a b i k) 15)) ∧ Below w.heap.size w wr) (fun s _ => 8 - (intOf s).toNat)
      case atStart => exact ⟨0, by omega, rfl, hx, hy, z0, hB⟩
      case round =>
        clear hx hy hz hB z0
        obtain ⟨k, hk, rfl, hx, hy, hz, hB⟩ := hrel
        by_cases hlk : (k : Int) < 8
        · have c1 := hx.cell i
          rw [bv_some ((gd_get (l := bitsL a 8) (i := i) (by simp; omega)).trans (by rw [gd_bitsL (show i < 8 by omega)]))] at c1
          have c2 := hy.cell k
          rw [bv_some ((gd_get (l := bitsL b 8) (i := k) (by simp; omega)).trans (by rw [gd_bitsL (show k < 8 by omega)]))] at c2
          have c0 := hz.cell (i + k)
          have f0 := hz.frozen (i + k)
          rw [bv_some ((gd_get (l := bitsL (clK a b i k) 15) (i := i + k) (by simp; omega)).trans (by rw [gd_bitsL (show i + k < 15 by omega)]))] at c0
          have hx1 := bit_le a i
          have hy1 := bit_le b k
          have hc1 := bit_le (clK a b i k) (i + k)
          have hxy : bit a i * bit b k ≤ 1 := Nat.mul_le_mul hx1 hy1
          have hst := Lib.hid (bitsL_set (clK a b i k) 15 (i + k) (bit a i * bit b k) hxy (by omega))
          have hck := Lib.hid (clK_step a b i k)
          have m1 : IntKind.u8.wrap ((bit a i : Int) * (bit b k : Int)) = ((bit a i * bit b k : Nat) : Int) := by rw [IntKind.wrap_u8, ← Int.natCast_mul]; omega
          obtain ⟨hq, -⟩ := x8' (a := bit (clK a b i k) (i + k)) (b := bit a i * bit b k) (by omega) (by omega)
          replace hz := Lib.hid hz
          generalize bit a i * bit b k = p at *
          generalize bit a i = x at *
          generalize bit b k = y at *
          generalize bit (clK a b i k) (i + k) = c at *
          have hik : (i : Int) + (k : Int) < 15 := by omega
          have b1 : IntKind.i64.wrap ((i : Int) + (k : Int)) = (i : Int) + (k : Int) := IntWalk.i64_in _ (by omega)
          have b2 : (0 : Int) ≤ (i : Int) + (k : Int) := by omega
          have b4 : ((i : Int) + (k : Int)).toNat = i + k := by omega
          go_wp2
          go_still_tail 17, (by kernel_rfl)
          change wpList _ _ _ _ _ wr.drew
          clear b1 b2 b4
          go_wp2
          go_roundw
          case rel =>
            refine ⟨k + 1, by omega, by go_num, (hx.drew).far (by simp; have := g0.out; have := g1.out; omega) _, (hy.drew).far (by simp; have := g1.out; omega) _, ?_, hB.drew.setCell (by simp; have := g0.out; have := g1.out; omega) _⟩
            rw [← hck.out, ← hst.out, ← bv_set]
            exact hz.out.drew.set_ (i + k) _
          case measure => simp [intOf]; omega
        · obtain rfl : k = 8 := by omega
          rw [clK_all a b i (by omega)] at hz
          go_wp2
          go_roundw
          case rel => exact ⟨i + 1, by omega, by go_num, hx, hy, hz, hB⟩
          case measure => simp [intOf]; omega
    · obtain rfl : i = 8 := by omega
      have hred : redN (clN a b 8) 7 % 256 = mul a b := rmul_eq (by omega) (by omega)
      replace hred := Lib.hid hred
      generalize clN a b 8 = O at *
      go_wp2
      go_loopw [10] (fun s wr => ∃ q : Nat, 7 ≤ (q : Int) ∧ (q : Int) ≤ 14 ∧ s = .int .i64 (q : Int) ∧ Blk wr w2.heap.size 5 (bv (bitsL (redN O (14 - q)) 15)) ∧ Below w.heap.size w wr) (fun s _ => (intOf s).toNat)
      case atStart => exact ⟨14, by omega, by omega, rfl, hz, hB⟩
      case round =>
        clear hx hy hz hB
        obtain ⟨q, hq7, hq14, rfl, hz, hB⟩ := hrel
        by_cases hlj : 8 ≤ (q : Int)
        · have hR : Hid (redN O (14 - (q - 1)) = red (redN O (14 - q)) q) := by
            show _ = _
            rw [show 14 - (q - 1) = (14 - q) + 1 from by omega, redN, show 14 - (14 - q) = q from by omega]
          generalize redN O (14 - q) = R at *
          have c0 := hz.cell q
          rw [bv_some ((gd_get (l := bitsL R 15) (i := q) (by simp; omega)).trans (by rw [gd_bitsL (show q < 15 by omega)]))] at c0
          by_cases hbit : bit R q = 1
          · rw [hbit] at c0
            have hRf : Hid (redN O (14 - (q - 1)) = flips R q 5) := by
              show _ = _
              rw [hR.out, red, if_pos hbit, flips_all R q (by omega) (by omega)]
            have z0 : Blk wr w2.heap.size 5 (bv (bitsL (flips R q 0) 15)) := hz
            clear hR hbit
            go_wp2
            go_loopw [59] (fun s wr => ∃ m : Nat, (m : Int) ≤ 5 ∧ s = .int .i64 (m : Int) ∧ Blk wr w2.heap.size 5 (bv (bitsL (flips R q m) 15)) ∧ Below w.heap.size w wr) (fun s _ => 5 - (intOf s).toNat)
            case atStart => exact ⟨0, by omega, rfl, z0, hB⟩
            case round =>
              clear hz hB z0 c0
              obtain ⟨m, hm, rfl, hz, hB⟩ := hrel
              by_cases hlm : (m : Int) < 5
              · have hk8 : kat m ≤ 8 := by unfold kat; split <;> omega
                have c1 := hz.cell (q - 8 + kat m)
                have f1 := hz.frozen (q - 8 + kat m)
                rw [bv_some ((gd_get (l := bitsL (flips R q m) 15) (i := q - 8 + kat m) (by simp; omega)).trans (by rw [gd_bitsL (show q - 8 + kat m < 15 by omega)]))] at c1
                have hst := Lib.hid (bitsL_set (flips R q m) 15 (q - 8 + kat m) 1 (by decide) (by omega))
                rw [Nat.one_mul] at hst
                have hfl : Hid (flips R q (m + 1) = flips R q m ^^^ 2 ^ (q - 8 + kat m)) := rfl
                have hy1 := bit_le (flips R q m) (q - 8 + kat m)
                obtain ⟨hx1, -⟩ := x8' (a := bit (flips R q m) (q - 8 + kat m)) (b := 1) (by omega) (by omega)
                replace hx1 : bits .xor .u8 ((bit (flips R q m) (q - 8 + kat m) : Nat) : Int) 1 = ((bit (flips R q m) (q - 8 + kat m) ^^^ 1 : Nat) : Int) := hx1
                replace hz := Lib.hid hz
                generalize bit (flips R q m) (q - 8 + kat m) = y at *
                obtain ⟨q8, hq8⟩ : ∃ q8, Hid (q8 = q - 8) := ⟨_, rfl⟩
                rw [← hq8.out] at c1 f1 hst hfl
                have b0 : (q : Int) - 8 = (q8 : Int) := by have := hq8.out; omega
                have b5 : (q8 : Int) ≤ 6 := by have := hq8.out; omega
                obtain ⟨t, ht⟩ : ∃ t, Hid (t = q8 + kat m) := ⟨_, rfl⟩
                rw [← ht.out] at c1 f1 hst hfl
                have b6 : (t : Int) < 15 := by have := ht.out; omega
                have hkk : (m = 0 ∧ kat m = 8) ∨ (m = 1 ∧ kat m = 4) ∨ (m = 2 ∧ kat m = 3) ∨ (m = 3 ∧ kat m = 1) ∨ (m = 4 ∧ kat m = 0) := by
                  rcases (by omega : m = 0 ∨ m = 1 ∨ m = 2 ∨ m = 3 ∨ m = 4) with rfl | rfl | rfl | rfl | rfl <;> simp [kat]
                have fin : Hid (Blk (wr.setCell ⟨w2.heap.size, t, none⟩ (.int .u8 ((y ^^^ 1 : Nat) : Int))) w2.heap.size 5 (bv (bitsL (flips R q (m + 1)) 15))) := by
                  show Blk _ _ _ _
                  rw [hfl.out, ← hst.out, ← bv_set]
                  exact hz.out.set_ t _
                rcases hkk with ⟨rfl, hk⟩ | ⟨rfl, hk⟩ | ⟨rfl, hk⟩ | ⟨rfl, hk⟩ | ⟨rfl, hk⟩
                · have b7 : (q8 : Int) + 8 = (t : Int) := by have := ht.out; omega
                  have hix : ∀ w, (Instr.index 97 (.agg #[.int .i64 8, .int .i64 4, .int .i64 3, .int .i64 1, .int .i64 0]) (.int .i64 0)).run Try.prog w = .ok (.int .i64 8) w := fun w => index5i 0 _ rfl w
                  clear ht hk hq8 hk8
                  go_wp2
                  go_roundw
                  case rel => exact ⟨1, by omega, rfl, fin.out, hB.setCell (by simp; have := g0.out; have := g1.out; omega) _⟩
                  case measure => simp [intOf]
                · have b7 : (q8 : Int) + 4 = (t : Int) := by have := ht.out; omega
                  have hix : ∀ w, (Instr.index 97 (.agg #[.int .i64 8, .int .i64 4, .int .i64 3, .int .i64 1, .int .i64 0]) (.int .i64 1)).run Try.prog w = .ok (.int .i64 4) w := fun w => index5i 1 _ rfl w
                  clear ht hk hq8 hk8
                  go_wp2
                  go_roundw
                  case rel => exact ⟨2, by omega, rfl, fin.out, hB.setCell (by simp; have := g0.out; have := g1.out; omega) _⟩
                  case measure => simp [intOf]
                · have b7 : (q8 : Int) + 3 = (t : Int) := by have := ht.out; omega
                  have hix : ∀ w, (Instr.index 97 (.agg #[.int .i64 8, .int .i64 4, .int .i64 3, .int .i64 1, .int .i64 0]) (.int .i64 2)).run Try.prog w = .ok (.int .i64 3) w := fun w => index5i 2 _ rfl w
                  clear ht hk hq8 hk8
                  go_wp2
                  go_roundw
                  case rel => exact ⟨3, by omega, rfl, fin.out, hB.setCell (by simp; have := g0.out; have := g1.out; omega) _⟩
                  case measure => simp [intOf]
                · have b7 : (q8 : Int) + 1 = (t : Int) := by have := ht.out; omega
                  have hix : ∀ w, (Instr.index 97 (.agg #[.int .i64 8, .int .i64 4, .int .i64 3, .int .i64 1, .int .i64 0]) (.int .i64 3)).run Try.prog w = .ok (.int .i64 1) w := fun w => index5i 3 _ rfl w
                  clear ht hk hq8 hk8
                  go_wp2
                  go_roundw
                  case rel => exact ⟨4, by omega, rfl, fin.out, hB.setCell (by simp; have := g0.out; have := g1.out; omega) _⟩
                  case measure => simp [intOf]
                · have b7 : (q8 : Int) + 0 = (t : Int) := by have := ht.out; omega
                  have hix : ∀ w, (Instr.index 97 (.agg #[.int .i64 8, .int .i64 4, .int .i64 3, .int .i64 1, .int .i64 0]) (.int .i64 4)).run Try.prog w = .ok (.int .i64 0) w := fun w => index5i 4 _ rfl w
                  have b8 : (q8 : Int) = (t : Int) := by omega
                  clear ht hk hq8 hk8
                  go_wp2
                  go_roundw
                  case rel => exact ⟨5, by omega, rfl, fin.out, hB.setCell (by simp; have := g0.out; have := g1.out; omega) _⟩
                  case measure => simp [intOf]
              · obtain rfl : m = 5 := by omega
                rw [← hRf.out] at hz
                have b9 : (q : Int) - 1 = ((q - 1 : Nat) : Int) := by omega
                go_wp2
                go_roundw
                case rel => exact ⟨q - 1, by omega, by omega, rfl, hz, hB⟩
                case measure => simp [intOf]; omega
          · have h0 : bit R q = 0 := by have := bit_le R q; omega
            rw [h0] at c0
            have hRf : Hid (redN O (14 - (q - 1)) = R) := by
              show _ = _
              rw [hR.out, red, if_neg hbit]
            rw [← hRf.out] at hz
            have b9 : (q : Int) - 1 = ((q - 1 : Nat) : Int) := by omega
            clear hR hbit h0
            go_wp2
            go_roundw
            case rel => exact ⟨q - 1, by omega, by omega, rfl, hz, hB⟩
            case measure => simp [intOf]; omega
        · obtain rfl : q = 7 := by omega
          have sl : Sl wr (.slice (some ⟨w2.heap.size, 0, none⟩) 8 15) (bv (bitsL (redN O 7) 8)) := by
            have h := Sl.of_blk (n := 8) (c := 15) hz (by decide) (by simp) (by unfold maxLen; omega)
            rw [show (bv (bitsL (redN O (14 - 7)) 15)).take 8 = bv (bitsL (redN O 7) 8) from by unfold bv; rw [← List.map_take, take_bitsL _ (by decide)]] at h
            exact h
          have hof := Lib.hid (xof_any _ (bitsL (redN O 7) 8) wr sl (fun b hb => by
            obtain ⟨i, hi, rfl⟩ := List.mem_map.1 (show b ∈ (List.range 8).map (bit (redN O 7)) from hb)
            exact bit_le _ _) (by simp))
          rw [ofL_bits] at hof
          have e8 : redN O 7 % 2 ^ 8 = mul a b := hred.out
          rw [e8] at hof
          have b7 : IntKind.u8.wrap ((mul a b : Nat) : Int) = ((mul a b : Nat) : Int) := by
            have := mul_lt (a := a) b (by omega)
            rw [IntKind.wrap_u8]; omega
          clear hz sl hred e8
          go_wp2_with fail
          refine hof.out.mono ?_
          rintro e w' ⟨rfl, rfl⟩
          go_wp2
          go_ret
          exact ⟨rfl, hB⟩
end Go.Proofs.Ytlifpmglaoppoaa

/- Contracts of banyanref04: boxed. -/
namespace Go.Proofs.PlainAes
/-- A bit of the box, so many of five summed. -/
def bacc (x i : Nat) : Nat → Nat
  | 0 => bit 99 i
  | k + 1 => bacc x i k ^^^ bit x ((i + 8 - k) % 8)
theorem bacc_le (x i : Nat) : ∀ k, bacc x i k ≤ 1
  | 0 => bit_le _ _
  | k + 1 => by
    have h1 := bacc_le x i k
    have h2 := bit_le x ((i + 8 - k) % 8)
    unfold bacc
    rcases (by omega : bacc x i k = 0 ∨ bacc x i k = 1) with e | e <;> rcases (by omega : bit x ((i + 8 - k) % 8) = 0 ∨ bit x ((i + 8 - k) % 8) = 1) with f | f <;> simp [e, f]
theorem bacc_table : (List.range 256).all (fun x => (List.range 8).all fun i => bacc x i 5 == bit (boxed x) i) = true := by decide +kernel
theorem bacc_all {x i : Nat} (hx : x < 256) (hi : i < 8) : bacc x i 5 = bit (boxed x) i := by
  have := List.all_eq_true.1 (List.all_eq_true.1 bacc_table x (List.mem_range.2 hx)) i (List.mem_range.2 hi)
  simpa using this
end Go.Proofs.PlainAes
namespace Go.Proofs.Ytlifpmglaoppoaa
open Go.RowKit
open Go.Proofs.PlainAes

set_option maxRecDepth 100000 in
set_option maxHeartbeats 2000000 in
theorem rboxed_any (x : Nat) (w : World) (hx : (x : Int) ≤ 255) : Calls Try.prog 29 #[.int .u8 (x : Int)] w fun e w' => e = .returned (.int .u8 (boxed x : Nat)) ∧ Below w.heap.size w w' := by
  have hmk : ∀ w, (Instr.makeSlice 22 (.int .i64 8) (.int .i64 8)).run Try.prog w = .ok (.slice (some ⟨w.heap.size, 0, none⟩) 8 8) (w.alloc (.cells (madeCells #[.int .u8 0] 8) 5)) :=
    run_make_row' (P := Try.prog) 22 5 (.int .u8 0) 1 Try.underlying22 (by kernel_rfl) rfl .i64 .i64 8 (by omega) (by omega)
  have hba : Hid (∀ w, Calls Try.prog 48 #[.int .u64 (x : Int), .int .i64 8] w fun e w' => e = .returned (.slice (some ⟨w.heap.size, 0, none⟩) 8 8) ∧ Blk w' w.heap.size 5 (bv (bitsL x 8)) ∧ Below w.heap.size w w') := Lib.hid (fun w => xbits_any x 8 w (by omega) (by decide))
  have hbb : Hid (∀ w, Calls Try.prog 48 #[.int .u64 99, .int .i64 8] w fun e w' => e = .returned (.slice (some ⟨w.heap.size, 0, none⟩) 8 8) ∧ Blk w' w.heap.size 5 (bv (bitsL 99 8)) ∧ Below w.heap.size w w') := Lib.hid (fun w => xbits_any 99 8 w (by decide) (by decide))
  have hall := Lib.hid (fun i (hi : i < 8) => bacc_all (x := x) (i := i) (by omega) hi)
  have hbx := boxed_lt (x := x) (by omega)
  have hB8 : Hid (∀ i, i < 8 → (bitsL (boxed x) 8)[i]? = some (bacc x i 5)) := fun i hi => by
    rw [gd_get (l := bitsL (boxed x) 8) (i := i) (by simpa using hi), gd_bitsL hi, hall.out i hi]
  have hBl := Lib.hid (bitsL_length (boxed x) 8)
  have hof := Lib.hid (fun v w (h : Sl w v (bv (bitsL (boxed x) 8))) => xof_any v (bitsL (boxed x) 8) w h (fun b hb => by
    obtain ⟨i, hi, rfl⟩ := List.mem_map.1 (show b ∈ (List.range 8).map (bit (boxed x)) from hb)
    exact bit_le _ _) (by simp))
  rw [ofL_bits] at hof
  have e8 : boxed x % 2 ^ 8 = boxed x := Nat.mod_eq_of_lt (by simpa using hbx)
  rw [e8] at hof
  have b7 : IntKind.u8.wrap ((boxed x : Nat) : Int) = ((boxed x : Nat) : Int) := by rw [IntKind.wrap_u8]; omega
  clear hall e8 hbx
  generalize bitsL (boxed x) 8 = B at *
  generalize boxed x = Z at *
  go_enter Try.func29, Try.ntmps29
  go_wp2_with fail
  refine (hba.out _).mono ?_
  rintro e w1 ⟨rfl, hl, hB1⟩
  go_wp2_with fail
  refine (hbb.out _).mono ?_
  rintro e w2 ⟨rfl, hc, hB2⟩
  have g0 := Lib.hid hl.lt
  have g1 := Lib.hid hc.lt
  have g2 := Lib.hid hB1.size
  replace hl := (hl.keep hB2).alloc (.cells (madeCells #[.int .u8 0] 8) 5)
  replace hc := hc.alloc (.cells (madeCells #[.int .u8 0] 8) 5)
  have hB3 := (below_call hB1 hB1.size hB2).alloc (by have := g0.out; have := g1.out; omega) (.cells (madeCells #[.int .u8 0] 8) 5)
  have hz : Blk (w2.alloc (.cells (madeCells #[.int .u8 0] 8) 5)) w2.heap.size 5 (bv (upd B (zeros 8) 0)) := by
    have := Blk.new w2 5 (madeCells #[.int .u8 0] 8)
    rw [madeCells_one'] at this
    rw [upd_zero]
    simpa [bv, zeros] using this
  clear hB1 hB2
  go_wp2
  go_loopw [15] (fun s wr => ∃ i : Nat, (i : Int) ≤ 8 ∧ s = .int .i64 (i : Int) ∧ Blk wr w.heap.size 5 (bv (bitsL x 8)) ∧ Blk wr w1.heap.size 5 (bv (bitsL 99 8)) ∧ Blk wr w2.heap.size 5 (bv (upd B (zeros 8) i)) ∧ Below w.heap.size w wr) (fun s _ => 8 - (intOf s).toNat)
  case atStart => exact ⟨0, by omega, rfl, hl, hc, hz, hB3⟩
  case round =>
    clear hl hc hz hB3
    obtain ⟨i, hi, rfl, hl, hc, hz, hB⟩ := hrel
    by_cases hlt : (i : Int) < 8
    · have c1 := hc.cell i
      rw [bv_some ((gd_get (l := bitsL 99 8) (i := i) (by simp; omega)).trans (by rw [gd_bitsL (show i < 8 by omega)]))] at c1
      have c0 := hz.cell i
      rw [bv_get, upd_get (by rw [hBl.out]; simp) (Nat.le_refl _) (by simp; omega), zeros_get (by omega)] at c0
      simp only [Option.map_some] at c0
      have f0 := hz.frozen i
      have hrow : Hid (∀ v : Nat, Blk (wr.setCell ⟨w2.heap.size, i, none⟩ (.int .u8 (v : Int))) w2.heap.size 5 (bv ((upd B (zeros 8) i).set i v))) := fun v => by rw [← bv_set]; exact hz.set_ i _
      have hl0 : Blk (wr.setCell ⟨w2.heap.size, i, none⟩ (.int .u8 ((bit 99 i : Nat) : Int))) w.heap.size 5 (bv (bitsL x 8)) := hl.far (by simp; have := g0.out; have := g1.out; have := g2.out; omega) _
      have hc0 : Blk (wr.setCell ⟨w2.heap.size, i, none⟩ (.int .u8 ((bit 99 i : Nat) : Int))) w1.heap.size 5 (bv (bitsL 99 8)) := hc.far (by simp; have := g1.out; omega) _
      have hz0 := hrow.out (bit 99 i)
      have hB0 : Below w.heap.size w (wr.setCell ⟨w2.heap.size, i, none⟩ (.int .u8 ((bit 99 i : Nat) : Int))) := hB.setCell (by simp; have := g0.out; have := g1.out; have := g2.out; omega) _
      have hlen : Hid ((upd B (zeros 8) i).length = 8) := by show _ = _; rw [upd_length (by rw [hBl.out]; simp) (by simp; omega)]; simp
      have hend : Hid ((upd B (zeros 8) i).set i (bacc x i 5) = upd B (zeros 8) (i + 1)) := upd_set (new := B) (old := zeros 8) (k := i) (by rw [hBl.out]; simp) (by simp; omega) (hB8.out i (by omega))
      clear hrow
      generalize upd B (zeros 8) i = R at *
      go_wp2
      go_loopw [7] (fun s wr => ∃ k : Nat, (k : Int) ≤ 5 ∧ s = .int .i64 (k : Int) ∧ Blk wr w.heap.size 5 (bv (bitsL x 8)) ∧ Blk wr w1.heap.size 5 (bv (bitsL 99 8)) ∧ Blk wr w2.heap.size 5 (bv (R.set i (bacc x i k))) ∧ Below w.heap.size w wr) (fun s _ => 5 - (intOf s).toNat)
      case atStart => exact ⟨0, by omega, rfl, hl0, hc0, hz0, hB0⟩
      case round =>
        clear hl hc hz hB hl0 hc0 hz0 hB0 c0 c1 f0
        obtain ⟨k, hk, rfl, hl, hc, hz, hB⟩ := hrel
        by_cases hlk : (k : Int) < 5
        · obtain ⟨r, hr⟩ : ∃ r, Hid (r = (i + 8 - k) % 8) := ⟨_, rfl⟩
          have b1 : IntKind.i64.wrap ((i : Int) - (k : Int)) = (i : Int) - (k : Int) := IntWalk.i64_in _ (by omega)
          have b2 : IntKind.i64.wrap ((i : Int) - (k : Int) + 8) = (i : Int) - (k : Int) + 8 := IntWalk.i64_in _ (by omega)
          have b3 : Int.tmod ((i : Int) - (k : Int) + 8) 8 = (r : Int) := by rw [hr.out, Int.tmod_eq_emod_of_nonneg (by omega)]; omega
          have b5 : (r : Int) < 8 := by have := hr.out; omega
          have b6 : (0 : Int) ≤ (r : Int) := by omega
          have c2 := hl.cell r
          rw [bv_some ((gd_get (l := bitsL x 8) (i := r) (by simp; omega)).trans (by rw [gd_bitsL (show r < 8 by omega)]))] at c2
          have c0 := hz.cell i
          rw [bv_some (show (R.set i (bacc x i k))[i]? = some (bacc x i k) by rw [List.getElem?_set, if_pos rfl, if_pos (by rw [hlen.out]; omega)])] at c0
          have f0 := hz.frozen i
          have hy1 := bacc_le x i k
          have hy2 := bit_le x r
          obtain ⟨hq, -⟩ := x8' (a := bacc x i k) (b := bit x r) (by omega) (by omega)
          have hst : Hid (bacc x i k ^^^ bit x r = bacc x i (k + 1)) := by show _ = _; rw [bacc, hr.out]
          rw [hst.out] at hq
          have hset : Hid (Blk (wr.drew.setCell ⟨w2.heap.size, i, none⟩ (.int .u8 ((bacc x i (k + 1) : Nat) : Int))) w2.heap.size 5 (bv (R.set i (bacc x i (k + 1))))) := by
            have h := hz.drew.set_ i (.int .u8 ((bacc x i (k + 1) : Nat) : Int))
            rw [bv_set, List.set_set] at h
            exact h
          clear hst hr
          generalize hy' : bacc x i (k + 1) = y' at *
          replace hy' := Lib.hid hy'
          generalize hyk : bacc x i k = y at *
          generalize bit x r = z at *
          go_wp2
          go_still_tail 14, (by kernel_rfl)
          change wpList _ _ _ _ _ wr.drew
          clear b1 b2 b3
          have hq' := hq
          go_wp2
          go_roundw
          case rel => exact ⟨k + 1, by omega, by go_num, (hl.drew).far (by simp; have := g0.out; have := g1.out; have := g2.out; omega) _, (hc.drew).far (by simp; have := g1.out; omega) _, (by rw [hy'.out]; exact hset.out), hB.drew.setCell (by simp; have := g0.out; have := g1.out; have := g2.out; omega) _⟩
          case measure => simp [intOf]; omega
        · obtain rfl : k = 5 := by omega
          rw [hend.out] at hz
          go_wp2
          go_roundw
          case rel => exact ⟨i + 1, by omega, by go_num, hl, hc, hz, hB⟩
          case measure => simp [intOf]; omega
    · obtain rfl : i = 8 := by omega
      rw [upd_all hBl.out (by simp)] at hz
      have sl : Sl wr (.slice (some ⟨w2.heap.size, 0, none⟩) 8 8) (bv B) := by
        have h := Sl.of_blk (n := 8) (c := 8) hz (by decide) (by simp [hBl.out]) (by unfold maxLen; omega)
        rwa [List.take_of_length_le (by simp [hBl.out])] at h
      have ho := Lib.hid (hof.out _ _ sl)
      clear hz sl hl hc
      go_wp2_with fail
      refine ho.out.mono ?_
      rintro e w' ⟨rfl, rfl⟩
      go_wp2
      go_ret
      exact ⟨rfl, hB⟩
end Go.Proofs.Ytlifpmglaoppoaa

/- The document's table: plain laws. -/
namespace Go.Proofs.PlainAes
set_option maxRecDepth 100000
/-- The powers of 3. -/
def p3 : Nat → Nat
  | 0 => 1
  | i + 1 => mul (p3 i) 3
def powT : List Nat := [1, 3, 5, 15, 17, 51, 85, 255, 26, 46, 114, 150, 161, 248, 19, 53, 95, 225, 56, 72, 216, 115, 149, 164, 247, 2, 6, 10, 30, 34, 102, 170, 229, 52, 92, 228, 55, 89, 235, 38, 106, 190, 217, 112, 144, 171, 230, 49, 83, 245, 4, 12, 20, 60, 68, 204, 79, 209, 104, 184, 211, 110, 178, 205, 76, 212, 103, 169, 224, 59, 77, 215, 98, 166, 241, 8, 24, 40, 120, 136, 131, 158, 185, 208, 107, 189, 220, 127, 129, 152, 179, 206, 73, 219, 118, 154, 181, 196, 87, 249, 16, 48, 80, 240, 11, 29, 39, 105, 187, 214, 97, 163, 254, 25, 43, 125, 135, 146, 173, 236, 47, 113, 147, 174, 233, 32, 96, 160, 251, 22, 58, 78, 210, 109, 183, 194, 93, 231, 50, 86, 250, 21, 63, 65, 195, 94, 226, 61, 71, 201, 64, 192, 91, 237, 44, 116, 156, 191, 218, 117, 159, 186, 213, 100, 172, 239, 42, 126, 130, 157, 188, 223, 122, 142, 137, 128, 155, 182, 193, 88, 232, 35, 101, 175, 234, 37, 111, 177, 200, 67, 197, 84, 252, 31, 33, 99, 165, 244, 7, 9, 27, 45, 119, 153, 176, 203, 70, 202, 69, 207, 74, 222, 121, 139, 134, 145, 168, 227, 62, 66, 198, 81, 243, 14, 18, 54, 90, 238, 41, 123, 141, 140, 143, 138, 133, 148, 167, 242, 13, 23, 57, 75, 221, 124, 132, 151, 162, 253, 28, 36, 108, 180, 199, 82, 246, 1]
theorem p3_lt : ∀ i, p3 i < 256
  | 0 => by decide
  | i + 1 => mul_lt 3 (p3_lt i)
theorem powT_step : (List.range 255).all (fun i => mul (gd powT i) 3 == gd powT (i + 1)) = true := by decide +kernel
theorem gd_powT : ∀ i, i < 256 → gd powT i = p3 i
  | 0, _ => by decide +kernel
  | i + 1, h => by
    have h1 := gd_powT i (by omega)
    have h2 := List.all_eq_true.1 powT_step i (List.mem_range.2 (by omega))
    rw [beq_iff_eq, h1] at h2
    rw [← h2, p3]
theorem powT_len : powT.length = 256 := by decide +kernel
theorem powT_byt : ∀ x ∈ powT, x < 256 := by decide +kernel
/-- The table, so many of its places laid. -/
def tabN : Nat → List Nat
  | 0 => (List.replicate 256 0).set 0 (boxed 0)
  | j + 1 => (tabN j).set (gd powT j) (boxed (gd powT (255 - j)))
theorem tabN_len : ∀ j, (tabN j).length = 256
  | 0 => by simp [tabN]
  | j + 1 => by rw [tabN, List.length_set]; exact tabN_len j
theorem tab_all : tabN 255 = mk 256 box := by decide +kernel
end Go.Proofs.PlainAes

/- Contract of banyanref04: sum. -/
namespace Go.Proofs.Ytlifpmglaoppoaa
open Go.RowKit
open Go.Proofs.PlainAes

theorem arrR16 : ArrTy Try.prog 71 16 := ⟨_, Try.underlying71, rfl, by kernel_rfl⟩
set_option maxRecDepth 100000 in
set_option maxHeartbeats 1000000 in
theorem rsum_any (a b : List Nat) (w : World) (ha : a.length = 16) (hb : b.length = 16) (ba : Byt a) (bb : Byt b) : Calls Try.prog 80 #[.agg (bv a).toArray, .agg (bv b).toArray] w (RetA (xorl a b) w) := by
  have hxl := xorl_length (a := a) (b := b) (by omega)
  have Hx := Lib.hid hxl
  have Ha := Lib.hid ha
  have Hb := Lib.hid hb
  have Ba := Lib.hid ba
  have Bb := Lib.hid bb
  clear hxl ha hb ba bb
  go_enter Try.func80, Try.ntmps80
  go_wp2
  go_loopw [6] (fun i wr => ∃ k : Nat, k ≤ 16 ∧ i = .int .i64 k ∧ Blk wr w.heap.size 71 (bv (upd (xorl a b) a k)) ∧ Blk wr (w.heap.size + 1) 71 (bv b) ∧ Blk wr (w.heap.size + 1 + 1) 71 (bv (zeros 16)) ∧ Below w.heap.size w wr) (fun i _ => 16 - (intOf i).toNat)
  case atStart =>
    refine ⟨0, Nat.zero_le _, rfl, ?_, ?_, ?_, ?_⟩
    · rw [upd_zero]
      exact ((Blk.new_at rfl rfl).alloc _).alloc _
    · exact (Blk.new_at (by simp) (by simp)).alloc _
    · exact Blk.new_at (by simp) rfl
    · exact (((Below.refl _ _).alloc (Nat.le_refl _) _).alloc (by simp) _).alloc (by simp; omega) _
  case round =>
    obtain ⟨k, hk, rfl, h1, h2, h3, hB⟩ := hrel
    by_cases hlt : (k : Int) < 16
    · obtain ⟨x, hx⟩ := get_lt (l := a) (k := k) (by have := Ha.out; omega)
      obtain ⟨y, hy⟩ := get_lt (l := b) (k := k) (by have := Hb.out; omega)
      have c1 := h1.cell k
      have f1 := h1.frozen k
      have c2 := h2.cell k
      rw [bv_some hy] at c2
      rw [bv_get, upd_get (by have := Ha.out; have := Hx.out; omega) (Nat.le_refl _) (by have := Ha.out; omega), hx] at c1
      simp only [Option.map_some] at c1
      obtain ⟨hxy, hl⟩ := x8 (Ba.out.get hx) (Bb.out.get hy)
      have hs := upd_set (k := k) (by have := Ha.out; have := Hx.out; omega) (by have := Ha.out; omega) (xorl_get hx hy)
      have HS := Lib.hid hs
      clear hs hx hy
      go_wp2
      go_still_tail 8, (by kernel_rfl)
      change wpList _ _ _ _ _ wr.drew
      go_wp2
      go_roundw
      case rel =>
        refine ⟨k + 1, by omega, by go_num, ?_, (h2.drew).far (by simp) _, (h3.drew).far (by simp; omega) _, hB.drew.setCell (by simp) _⟩
        rw [← HS.out, ← bv_set]
        exact h1.drew.set_ k _
      case measure => simp [intOf]; omega
    · obtain rfl : k = 16 := by omega
      rw [upd_all (by have := Ha.out; have := Hx.out; omega) Ha.out] at h1
      have hxl : (bv (xorl a b)).length = 16 := by have := Ha.out; have := Hx.out; simp; omega
      go_wp2_with (first | refine wpList_loadW rfl 71 (.tmp 2) rfl 16 arrR16 _ rfl 71 _ h1 hxl ?_ | refine wpList_storeW rfl 71 (.tmp 4) (.tmp 18) rfl 16 arrR16 _ rfl (bv (xorl a b)) rfl 71 _ h3 hxl (by simp) (ones_bv _) ?_)
      intro w' h4 hK
      go_wp2
      exact bodyPost_ret (v := .agg (bv (xorl a b)).toArray) (res_cell Try.results80 _ _ _ 71 _ arrR16 hxl rfl h4) rfl ⟨rfl, hB.trans (hK.below hB.size (by simp; omega))⟩
end Go.Proofs.Ytlifpmglaoppoaa

/- Contract of banyanref04: Table. -/
namespace Go.Proofs.Ytlifpmglaoppoaa
open Go.RowKit
open Go.Proofs.PlainAes

theorem upd_lo {α : Type} {new old : List α} {k i : Nat} (hi : i < k) (hk : k ≤ new.length) : (upd new old k)[i]? = new[i]? := by
  unfold upd
  rw [List.getElem?_append_left (by simp; omega), List.getElem?_take, if_pos hi]
theorem arrT256 : ArrTy Try.prog 38 256 := ⟨_, Try.underlying38, rfl, by kernel_rfl⟩
set_option maxRecDepth 100000 in
set_option maxHeartbeats 4000000 in
theorem rtable_any (w : World) : Calls Try.prog 13 #[] w (RetA (mk 256 box) w) := by
  have hti := Lib.hid (fun (k : Nat) (hk : (k : Int) ≤ 255) w => xtimes_any k 3 w hk (by decide))
  have hb0 := Lib.hid (fun w => rboxed_any 0 w (by decide))
  have hbo := Lib.hid (fun (k : Nat) (hk : (k : Int) ≤ 255) w => rboxed_any k w hk)
  have hPl := Lib.hid powT_len
  have hPb := Lib.hid (fun i => gd_lt powT_byt i)
  have hst : Hid (∀ q, q < 255 → mul (gd powT q) 3 = gd powT (q + 1)) := fun q hq => by rw [gd_powT q (by omega), gd_powT (q + 1) (by omega), p3]
  have hP0 : Hid (powT[0]? = some 1) := by show _ = _; decide +kernel
  have hT0 : Hid (tabN 0 = (zeros 256).set 0 (boxed 0)) := rfl
  have hTs : Hid (∀ j, tabN (j + 1) = (tabN j).set (gd powT j) (boxed (gd powT (255 - j)))) := fun j => rfl
  have hTl0 := Lib.hid tabN_len
  have hfin := Lib.hid tab_all
  have hML : Hid ((bv (mk 256 box)).length = 256) := by show _ = _; simp
  have hR : Hid (∀ w', Below w.heap.size w w' → RetA (mk 256 box) w (.returned (.agg (bv (mk 256 box)).toArray)) w') := fun w' h => ⟨rfl, h⟩
  generalize RetA (mk 256 box) w = RX at *
  generalize mk 256 box = TB at *
  generalize boxed 0 = bx0 at *
  go_enter Try.func13, Try.ntmps13
  go_wp2_with (refine wpList_allocA rfl 38 rfl (bv (zeros 256)) (by kernel_rfl) ?_)
  intro w1 h0 hK1 hz1
  have hB := (Below.refl w.heap.size w).trans (hK1.below (Nat.le_refl _) (by simp))
  clear hK1 hz1
  have ga := Lib.hid h0.lt
  go_wp2_with (refine wpList_allocA rfl 38 rfl (bv (zeros 256)) (by kernel_rfl) ?_)
  intro w2 h1 hK2 hz2
  replace h0 := h0.keeps hK2 (by simp)
  have gb := Lib.hid h1.lt
  have gc := Lib.hid hB.size
  replace hB := hB.trans (hK2.below hB.size (by simp))
  clear hK2 hz2
  go_wp2_with (refine wpList_allocA rfl 38 rfl (bv (zeros 256)) (by kernel_rfl) ?_)
  intro w3 h2 hK3 hz3
  replace h0 := h0.keeps hK3 (by simp)
  replace h1 := h1.keeps hK3 (by simp)
  replace hB := hB.trans (hK3.below hB.size (by simp))
  clear hK3
  have g01 : Hid (w.heap.size < w1.heap.size) := ga
  have g12 : Hid (w1.heap.size < w2.heap.size) := gb
  have gw1 : Hid (w.heap.size ≤ w1.heap.size) := gc
  clear ga gb gc hz3
  generalize hg0 : w.heap.size = g0 at h0 g01 gw1
  replace hg0 := Lib.hid hg0
  generalize w1.heap.size = g1 at *
  generalize w2.heap.size = g2 at *
  have gw0 : Hid (w.heap.size ≤ g0) := by show _ ≤ _; rw [hg0.out]; exact Nat.le_refl _
  have gw1' : Hid (w.heap.size ≤ g1) := by show _ ≤ _; rw [hg0.out]; exact gw1.out
  have c0 := h2.cell 0
  rw [bv_get, zeros_get (by decide)] at c0
  simp only [Option.map_some] at c0
  have f0 := h2.frozen 0
  have h2a : Hid (Blk (w3.setCell ⟨g2, 0, none⟩ (.int .u8 1)) g2 38 (bv (upd powT (zeros 256) (0 + 1)))) := by
    have h := h2.set_ 0 (.int .u8 ((1 : Nat) : Int))
    rw [bv_set] at h
    rw [← upd_set (new := powT) (old := zeros 256) (k := 0) (by rw [hPl.out]; simp) (by simp) hP0.out, upd_zero]
    exact h
  have h0a : Hid (Blk (w3.setCell ⟨g2, 0, none⟩ (.int .u8 1)) g0 38 (bv (zeros 256))) := h0.far (by simp; have := g01.out; have := g12.out; omega) _
  have h1a : Hid (Blk (w3.setCell ⟨g2, 0, none⟩ (.int .u8 1)) g1 38 (bv (zeros 256))) := h1.far (by simp; have := g12.out; omega) _
  have hBa : Hid (Below w.heap.size w (w3.setCell ⟨g2, 0, none⟩ (.int .u8 1))) := hB.setCell (by simp; have := g12.out; have := gw1'.out; omega) _
  clear h0 h1 h2 hB
  go_wp2
  go_loopw [3] (fun s wr => ∃ q : Nat, (q : Int) ≤ 255 ∧ s = .int .i64 ((q : Int) + 1) ∧ Blk wr g0 38 (bv (zeros 256)) ∧ Blk wr g1 38 (bv (zeros 256)) ∧ Blk wr g2 38 (bv (upd powT (zeros 256) (q + 1))) ∧ Below w.heap.size w wr) (fun s _ => 256 - (intOf s).toNat)
  case atStart => exact ⟨0, by omega, rfl, h0a.out, h1a.out, h2a.out, hBa.out⟩
  case round =>
    clear h0a h1a h2a hBa c0 f0
    obtain ⟨q, hq, rfl, h0, h1, h2, hB⟩ := hrel
    by_cases hlt : (q : Int) < 255
    · have cq := h2.cell q
      rw [bv_get, upd_lo (by omega) (by rw [hPl.out]; omega), gd_get (by rw [hPl.out]; omega)] at cq
      simp only [Option.map_some] at cq
      have hx := hPb.out q
      have hs := hst.out q (by omega)
      have hnew := Lib.hid (gd_get (l := powT) (i := q + 1) (by rw [hPl.out]; omega))
      generalize gd powT q = x at *
      have ht := Lib.hid (fun w => hti.out x (by omega) w)
      rw [hs] at ht
      generalize gd powT (q + 1) = y at *
      clear hs hx
      replace h2 := Lib.hid h2
      go_wp2_with fail
      refine (ht.out _).mono ?_
      rintro en wa ⟨rfl, hBx⟩
      replace h0 := h0.keep hBx
      replace h1 := h1.keep hBx
      replace h2 := h2.out.keep hBx
      replace hB := below_call hB hB.size hBx
      clear hBx cq ht
      have cq := h2.cell (q + 1)
      rw [bv_get, upd_get (by rw [hPl.out]; simp) (Nat.le_refl _) (by simp; omega), zeros_get (by omega)] at cq
      simp only [Option.map_some] at cq
      have fq := h2.frozen (q + 1)
      have hset : Hid (Blk (wa.setCell ⟨g2, q + 1, none⟩ (.int .u8 (y : Int))) g2 38 (bv (upd powT (zeros 256) (q + 1 + 1)))) := by
        rw [← upd_set (new := powT) (old := zeros 256) (k := q + 1) (by rw [hPl.out]; simp) (by simp; omega) hnew.out, ← bv_set]
        exact h2.set_ (q + 1) _
      have b4 : ((q : Int) + 1).toNat = q + 1 := by omega
      replace h2 := Lib.hid h2
      go_wp2
      go_roundw
      case rel => exact ⟨q + 1, by omega, by go_num, h0.far (by simp; have := g01.out; have := g12.out; omega) _, h1.far (by simp; have := g12.out; omega) _, hset.out, hB.setCell (by simp; have := g12.out; have := gw1'.out; omega) _⟩
      case measure => simp [intOf]; omega
    · obtain rfl : q = 255 := by omega
      rw [upd_all hPl.out (by simp)] at h2
      clear hP0 hst hti
      replace h2 := Lib.hid h2
      go_wp2_with fail
      refine (hb0.out _).mono ?_
      rintro en wa ⟨rfl, hBx⟩
      replace h0 := h0.keep hBx
      replace h1 := h1.keep hBx
      replace h2 := h2.out.keep hBx
      replace hB := below_call hB hB.size hBx
      clear hBx hb0
      have c0 := h1.cell 0
      rw [bv_get, zeros_get (by decide)] at c0
      simp only [Option.map_some] at c0
      have f0 := h1.frozen 0
      have h1a : Hid (Blk (wa.setCell ⟨g1, 0, none⟩ (.int .u8 (bx0 : Int))) g1 38 (bv (tabN 0))) := by
        rw [hT0.out, ← bv_set]
        exact h1.set_ 0 _
      have h0a : Hid (Blk (wa.setCell ⟨g1, 0, none⟩ (.int .u8 (bx0 : Int))) g0 38 (bv (zeros 256))) := h0.far (by simp; have := g01.out; omega) _
      have h2a : Hid (Blk (wa.setCell ⟨g1, 0, none⟩ (.int .u8 (bx0 : Int))) g2 38 (bv powT)) := h2.far (by simp; have := g12.out; omega) _
      have hBa : Hid (Below w.heap.size w (wa.setCell ⟨g1, 0, none⟩ (.int .u8 (bx0 : Int)))) := hB.setCell (by simp; have := gw1'.out; omega) _
      clear h0 h1 h2 hB
      go_wp2
      go_loopw [4] (fun s wr => ∃ j : Nat, (j : Int) ≤ 255 ∧ s = .int .i64 (j : Int) ∧ Blk wr g0 38 (bv (zeros 256)) ∧ Blk wr g1 38 (bv (tabN j)) ∧ Blk wr g2 38 (bv powT) ∧ Below w.heap.size w wr) (fun s _ => 255 - (intOf s).toNat)
      case atStart => exact ⟨0, by omega, rfl, h0a.out, h1a.out, h2a.out, hBa.out⟩
      case round =>
        clear h0a h1a h2a hBa c0 f0 hT0
        obtain ⟨j, hj, rfl, h0, h1, h2, hB⟩ := hrel
        by_cases hlj : (j : Int) < 255
        · obtain ⟨d, hd⟩ : ∃ d, Hid (d = 255 - j) := ⟨_, rfl⟩
          have b1 : (255 : Int) - (j : Int) = (d : Int) := by have := hd.out; omega
          have b2 : IntKind.i64.wrap (d : Int) = (d : Int) := IntWalk.i64_in _ (by have := hd.out; omega)
          have b3 : (d : Int) ≤ 255 := by have := hd.out; omega
          have b5 : (0 : Int) ≤ (j : Int) := by omega
          have hTl := Lib.hid (hTl0.out j)
          have hpx : Hid ((bv powT)[j]? = some (.int .u8 ((gd powT j : Nat) : Int))) := bv_some (gd_get (by rw [hPl.out]; omega))
          have hpy : Hid ((bv powT)[d]? = some (.int .u8 ((gd powT d : Nat) : Int))) := bv_some (gd_get (by rw [hPl.out]; omega))
          have hbx := Lib.hid (fun w => hbo.out (gd powT d) (by have := hPb.out d; omega) w)
          have hx := hPb.out j
          have hnext : Hid (tabN (j + 1) = (tabN j).set (gd powT j) (boxed (gd powT d))) := by show _ = _; rw [hTs.out, hd.out]
          generalize gd powT j = x at *
          generalize gd powT d = y at *
          generalize boxed y = z at *
          have b6 : (x : Int) ≤ 255 := by omega
          clear hd hx
          go_upto_region 11 with fail
          refine wp_region_held_drew (S := fun w' => w'.cell? ⟨g2, j, none⟩ = some (.int .u8 (x : Int)) ∧ w'.cell? ⟨g2, d, none⟩ = some (.int .u8 (y : Int))) (by kernel_rfl) ⟨(h2.drew.cell j).trans hpx.out, (h2.drew.cell d).trans hpy.out⟩ (fun hH => ?_)
          refine takeH_move (o := ⟨some 23, _, _, _, _, _⟩) (i := 0) rfl (by kernel_rfl) (by kernel_rfl) (by kernel_rfl) (fun _ _ _ _ h => h) rfl (.tmp 4) rfl (.int .i64 (j : Int)) rfl hH ?_
          simp only [Act.put, List.setIfInBounds_toArray, List.set_cons_zero, List.set_cons_succ, Nat.zero_add, decide_true, beq_self_eq_true]
          refine takeH_S (o := ⟨some 24, _, _, _, _, _⟩) (i := 1) rfl (by kernel_rfl) (by kernel_rfl) (by kernel_rfl) (fun _ _ _ _ h => h) rfl (.pointer (some ⟨g2, j, none⟩)) (fun w _ => by go_simp; intro hh; omega) hH ?_
          simp only [Act.put, List.setIfInBounds_toArray, List.set_cons_zero, List.set_cons_succ, Nat.zero_add, decide_true, beq_self_eq_true]
          refine takeH_cell (o := ⟨some 25, _, _, _, _, _⟩) (i := 2) rfl (by kernel_rfl) (by kernel_rfl) (by kernel_rfl) (fun _ _ _ _ h => h) rfl 5 (.tmp 24) rfl Try.underlying5 rfl g2 j rfl (.int .u8 (x : Int)) (fun w h => h.1) hH ?_
          simp only [Act.put, List.setIfInBounds_toArray, List.set_cons_zero, List.set_cons_succ, Nat.zero_add, decide_true, beq_self_eq_true]
          refine takeH_move (o := ⟨some 26, _, _, _, _, _⟩) (i := 3) rfl (by kernel_rfl) (by kernel_rfl) (by kernel_rfl) (fun _ _ _ _ h => h) rfl (.tmp 4) rfl (.int .i64 (j : Int)) rfl hH ?_
          simp only [Act.put, List.setIfInBounds_toArray, List.set_cons_zero, List.set_cons_succ, Nat.zero_add, decide_true, beq_self_eq_true]
          refine takeH_S (o := ⟨some 27, _, _, _, _, _⟩) (i := 4) rfl (by kernel_rfl) (by kernel_rfl) (by kernel_rfl) (fun _ _ _ _ h => h) rfl (.int .i64 (d : Int)) (fun w _ => by go_simp) hH ?_
          simp only [Act.put, List.setIfInBounds_toArray, List.set_cons_zero, List.set_cons_succ, Nat.zero_add, decide_true, beq_self_eq_true]
          refine takeH_S (o := ⟨some 28, _, _, _, _, _⟩) (i := 5) rfl (by kernel_rfl) (by kernel_rfl) (by kernel_rfl) (fun _ _ _ _ h => h) rfl (.pointer (some ⟨g2, d, none⟩)) (fun w _ => by go_simp; intro hh; omega) hH ?_
          simp only [Act.put, List.setIfInBounds_toArray, List.set_cons_zero, List.set_cons_succ, Nat.zero_add, decide_true, beq_self_eq_true]
          refine takeH_cell (o := ⟨some 29, _, _, _, _, _⟩) (i := 6) rfl (by kernel_rfl) (by kernel_rfl) (by kernel_rfl) (fun _ _ _ _ h => h) rfl 5 (.tmp 28) rfl Try.underlying5 rfl g2 d rfl (.int .u8 (y : Int)) (fun w h => h.2) hH ?_
          simp only [Act.put, List.setIfInBounds_toArray, List.set_cons_zero, List.set_cons_succ, Nat.zero_add, decide_true, beq_self_eq_true]
          refine wpAnyH_ready (rs := [7]) (by kernel_rfl) (by simp) ?_
          refine AllReadyH.cons rfl (fun K1 hK1 => ?_) AllReadyH.nil
          rw [if_pos (by rfl)]
          go_wp2_with fail
          refine (hbx.out _).mono ?_
          rintro en wa ⟨rfl, hBa⟩
          have hbw : Below wr.heap.size wr wa := below_call ((Below.refl wr.heap.size wr).drew) ((Below.refl wr.heap.size wr).drew).size hBa
          refine hK1.out _ _ ⟨((h2.keep hbw).cell j).trans hpx.out, ((h2.keep hbw).cell d).trans hpy.out⟩ (fun hH => ?_)
          clear hK1 K1 hBa
          refine takeH_S (o := ⟨some 31, _, _, _, _, _⟩) (i := 8) rfl (by kernel_rfl) (by kernel_rfl) (by kernel_rfl) (fun _ _ _ _ h => h) rfl (.pointer (some ⟨g1, x, none⟩)) (fun w _ => by go_simp; intro hh; omega) hH ?_
          simp only [Act.put, List.setIfInBounds_toArray, List.set_cons_zero, List.set_cons_succ, Nat.zero_add, decide_true, beq_self_eq_true]
          refine wpAnyH_ready (rs := [9]) (by kernel_rfl) (by simp) ?_
          refine AllReadyH.cons rfl (fun K1 hK1 => ?_) AllReadyH.nil
          rw [if_pos (by rfl)]
          have c1 := (h1.keep hbw).cell x
          rw [bv_some (gd_get (l := tabN j) (i := x) (by rw [hTl.out]; omega))] at c1
          have f1 := (h1.keep hbw).frozen x
          have hset := Lib.hid ((h1.keep hbw).set_ x (.int .u8 (z : Int)))
          have hk0 : Hid (Blk (wa.setCell ⟨g1, x, none⟩ (.int .u8 (z : Int))) g0 38 (bv (zeros 256))) := (h0.keep hbw).far (by simp; have := g01.out; omega) _
          have hk2 : Hid (Blk (wa.setCell ⟨g1, x, none⟩ (.int .u8 (z : Int))) g2 38 (bv powT)) := (h2.keep hbw).far (by simp; have := g12.out; omega) _
          have hBf : Hid (Below w.heap.size w (wa.setCell ⟨g1, x, none⟩ (.int .u8 (z : Int)))) := (below_call hB hB.size hbw).setCell (by simp; have := gw1'.out; omega) _
          go_wp2_with fail
          refine hK1.out _ _ ⟨(hk2.out.cell j).trans hpx.out, (hk2.out.cell d).trans hpy.out⟩ (fun hH => ?_)
          clear hK1 K1 c1 f1
          refine wpAnyH_done (by kernel_rfl) ?_ _
          clear hH h0 h1 h2 hB
          go_wp2
          go_roundw
          case rel => exact ⟨j + 1, by omega, by go_num, hk0.out, by rw [hnext.out, ← bv_set]; exact hset.out, hk2.out, hBf.out⟩
          case measure => simp [intOf]; omega
        · obtain rfl : j = 255 := by omega
          rw [hfin.out] at h1
          go_wp2_with (first
            | refine wpList_loadW rfl 38 (.tmp 1) rfl 256 arrT256 _ rfl 38 _ h1 hML.out ?_
            | refine wpList_storeW rfl 38 (.tmp 0) (.tmp 32) rfl 256 arrT256 _ rfl (bv TB) rfl 38 _ h0 hML.out (by simp) (ones_bv _) ?_)
          intro wf hf hKf
          go_wp2
          exact bodyPost_ret (v := .agg (bv TB).toArray) (res_cell Try.results13 _ _ _ 38 _ arrT256 hML.out rfl hf) rfl (hR.out _ (hB.trans (hKf.below hB.size (by intro b hb; simp only [List.mem_singleton] at hb; subst hb; exact gw0.out))))
end Go.Proofs.Ytlifpmglaoppoaa

/- Contract of banyanref04: columns. -/
namespace Go.Proofs.PlainAes
/-- A place of the columns mixed by four numbers: so many summed. -/
def colK (m b : List Nat) (c i : Nat) : Nat → Nat
  | 0 => 0
  | k + 1 => colK m b c i k ^^^ mul (gd m k) (gd b (4 * c + (i + k) % 4))
def colL (m b : List Nat) : List Nat := mk 16 (fun p => colK m b (p / 4) (p % 4) 4)
theorem colK_lt {m : List Nat} (hm : ∀ x ∈ m, x < 256) (b : List Nat) (c i : Nat) : ∀ k, colK m b c i k < 256
  | 0 => by unfold colK; decide
  | k + 1 => xor_lt (colK_lt hm b c i k) (mul_lt _ (gd_lt hm k))
end Go.Proofs.PlainAes
namespace Go.Proofs.Ytlifpmglaoppoaa
open Go.RowKit
open Go.Proofs.PlainAes

theorem set_same {l : List Nat} {p v : Nat} (h : l[p]? = some v) : l.set p v = l := by
  apply List.ext_getElem?
  intro i
  rw [List.getElem?_set]
  split
  · next e => subst e; split <;> simp_all
  · rfl
set_option maxRecDepth 100000 in
set_option maxHeartbeats 4000000 in
theorem rcolumns_any (b by4 : List Nat) (w : World) (hb : b.length = 16) (hm : by4.length = 4) (bb : Byt b) (bm : Byt by4) :
    Calls Try.prog 81 #[.agg (bv b).toArray, .agg (bv by4).toArray] w (RetA (colL by4 b) w) := by
  have htm := Lib.hid (fun (x y : Nat) (hx : (x : Int) ≤ 255) (hy : (y : Int) ≤ 255) w => xtimes_any x y w hx hy)
  have hbl := Lib.hid hb
  have hml := Lib.hid hm
  have hbb := Lib.hid (fun i => gd_lt bb i)
  have hbm := Lib.hid (fun i => gd_lt bm i)
  have hcl := Lib.hid (fun c i k => colK_lt bm b c i k)
  have hRl : Hid ((colL by4 b).length = 16) := by show _ = _; simp [colL]
  have hRg : Hid (∀ c i, c < 4 → i < 4 → (colL by4 b)[4 * c + i]? = some (colK by4 b c i 4)) := fun c i hc hi => by
    unfold colL
    rw [mk_get _ (by omega), show (4 * c + i) / 4 = c from by omega, show (4 * c + i) % 4 = i from by omega]
  have hRet : Hid (∀ w', Below w.heap.size w w' → RetA (colL by4 b) w (.returned (.agg (bv (colL by4 b)).toArray)) w') := fun w' h => ⟨rfl, h⟩
  have hRbl : Hid ((bv (colL by4 b)).length = 16) := by show _ = _; simp [colL]
  clear hb hm bb bm
  generalize RetA (colL by4 b) w = RX at *
  generalize colL by4 b = RR at *
  go_enter Try.func81, Try.ntmps81
  go_wp2_with (refine wpList_allocA rfl 71 rfl (bv (zeros 16)) (by kernel_rfl) ?_)
  intro w1 h4 hK1 hz1
  have h2 := ((Blk.new_at (w := w) (t := 71) (cs := (bv b).toArray) rfl rfl).alloc (.cells (bv by4).toArray 119)).keeps hK1 (by simp)
  have h3 := (Blk.new_at (w := w.alloc (.cells (bv b).toArray 71)) (t := 119) (cs := (bv by4).toArray) rfl rfl).keeps hK1 (by simp)
  simp only [List.size_toArray, World.size_alloc] at h2 h3 h4
  have hB : Below w.heap.size w w1 := (((Below.refl _ _).alloc (Nat.le_refl _) _).alloc (by simp) _).trans (hK1.below (by simp; omega) (by simp))
  clear hK1 hz1
  have ga := Lib.hid h4.lt
  go_wp2_with (refine wpList_allocA rfl 71 rfl (bv (zeros 16)) (by kernel_rfl) ?_)
  intro w2 h5 hK2 hz2
  replace h2 := h2.keeps hK2 (by simp)
  replace h3 := h3.keeps hK2 (by simp)
  replace h4 := h4.keeps hK2 (by simp)
  replace hB := hB.trans (hK2.below hB.size (by simp))
  clear hK2 hz2
  have g25 : Hid (w.heap.size < w1.heap.size) := by show _ < _; have := ga.out; omega
  have g35 : Hid (w.heap.size + 1 < w1.heap.size) := by show _ < _; have := ga.out; omega
  have g45 : Hid (w.heap.size + 1 + 1 < w1.heap.size) := ga
  have gw4 : Hid (w.heap.size ≤ w.heap.size + 1 + 1) := by show _ ≤ _; omega
  have gw5 : Hid (w.heap.size ≤ w1.heap.size) := by show _ ≤ _; have := ga.out; omega
  clear ga
  generalize w1.heap.size = g5 at *
  generalize w.heap.size + 1 + 1 = g4 at *
  generalize w.heap.size + 1 = g3 at *
  generalize hg2 : w.heap.size = g2 at h2 g25
  replace hg2 := Lib.hid hg2
  have z0 : Hid (Blk w2 g5 71 (bv (upd RR (zeros 16) (4 * 0)))) := by show Blk _ _ _ _; rw [Nat.mul_zero, upd_zero]; exact h5
  clear h5
  go_wp2
  go_loopw [6] (fun s wr => ∃ c : Nat, (c : Int) ≤ 4 ∧ s = .int .i64 (c : Int) ∧ Blk wr g2 71 (bv b) ∧ Blk wr g3 119 (bv by4) ∧ Blk wr g4 71 (bv (zeros 16)) ∧ Blk wr g5 71 (bv (upd RR (zeros 16) (4 * c))) ∧ Below w.heap.size w wr) (fun s _ => 4 - (intOf s).toNat)
  case atStart => exact ⟨0, by omega, rfl, h2, h3, h4, z0.out, hB⟩
  case round =>
    clear h2 h3 h4 z0 hB
    obtain ⟨c, hc, rfl, h2, h3, h4, h5, hB⟩ := hrel
    by_cases hlc : (c : Int) < 4
    · go_wp2
      go_loopw [7] (fun s wr => ∃ i : Nat, (i : Int) ≤ 4 ∧ s = .int .i64 (i : Int) ∧ Blk wr g2 71 (bv b) ∧ Blk wr g3 119 (bv by4) ∧ Blk wr g4 71 (bv (zeros 16)) ∧ Blk wr g5 71 (bv (upd RR (zeros 16) (4 * c + i))) ∧ Below w.heap.size w wr) (fun s _ => 4 - (intOf s).toNat)
      case atStart => exact ⟨0, by omega, rfl, h2, h3, h4, h5, hB⟩
      case round =>
        clear h2 h3 h4 h5 hB
        obtain ⟨i, hi, rfl, h2, h3, h4, h5, hB⟩ := hrel
        by_cases hli : (i : Int) < 4
        · have hend : Hid ((upd RR (zeros 16) (4 * c + i)).set (4 * c + i) (colK by4 b c i 4) = upd RR (zeros 16) (4 * c + (i + 1))) := by
            show _ = _
            rw [← Nat.add_assoc]
            exact upd_set (by rw [hRl.out]; simp) (by simp; omega) (hRg.out c i (by omega) (by omega))
          have hrl : Hid ((upd RR (zeros 16) (4 * c + i)).length = 16) := by show _ = _; rw [upd_length (by rw [hRl.out]; simp) (by simp; omega)]; simp
          have z1 : Hid (Blk wr g5 71 (bv ((upd RR (zeros 16) (4 * c + i)).set (4 * c + i) (colK by4 b c i 0)))) := by
            show Blk _ _ _ _
            rw [set_same (by rw [upd_get (by rw [hRl.out]; simp) (Nat.le_refl _) (by simp; omega), zeros_get (by omega)]; rfl)]
            exact h5
          clear h5
          generalize upd RR (zeros 16) (4 * c + i) = ROW at *
          go_wp2
          go_loopw [8] (fun s wr => ∃ k : Nat, (k : Int) ≤ 4 ∧ s = .int .i64 (k : Int) ∧ Blk wr g2 71 (bv b) ∧ Blk wr g3 119 (bv by4) ∧ Blk wr g4 71 (bv (zeros 16)) ∧ Blk wr g5 71 (bv (ROW.set (4 * c + i) (colK by4 b c i k))) ∧ Below w.heap.size w wr) (fun s _ => 4 - (intOf s).toNat)
          case atStart => exact ⟨0, by omega, rfl, h2, h3, h4, z1.out, hB⟩
          case round =>
            clear h2 h3 h4 z1 hB
            obtain ⟨k, hk, rfl, h2, h3, h4, h5, hB⟩ := hrel
            by_cases hlk : (k : Int) < 4
            · obtain ⟨c4, hc4⟩ : ∃ c4, Hid (c4 = 4 * c) := ⟨_, rfl⟩
              obtain ⟨p, hp⟩ : ∃ p, Hid (p = 4 * c + i) := ⟨_, rfl⟩
              obtain ⟨r, hr⟩ : ∃ r, Hid (r = (i + k) % 4) := ⟨_, rfl⟩
              obtain ⟨q, hq⟩ : ∃ q, Hid (q = 4 * c + (i + k) % 4) := ⟨_, rfl⟩
              have b1 : (4 : Int) * (c : Int) = (c4 : Int) := by have := hc4.out; omega
              have b2 : (c4 : Int) + (i : Int) = (p : Int) := by have := hc4.out; have := hp.out; omega
              have b3 : Int.tmod ((i : Int) + (k : Int)) 4 = (r : Int) := by rw [hr.out, Int.tmod_eq_emod_of_nonneg (by omega)]; omega
              have b4 : (c4 : Int) + (r : Int) = (q : Int) := by have := hc4.out; have := hq.out; have := hr.out; omega
              have b5 : (p : Int) < 16 := by have := hp.out; omega
              have b6 : (q : Int) < 16 := by have := hq.out; omega
              have b7 : (c4 : Int) ≤ 12 := by have := hc4.out; omega
              have b8 : (r : Int) ≤ 3 := by have := hr.out; omega
              have w1_ : IntKind.i64.wrap (c4 : Int) = (c4 : Int) := IntWalk.i64_in _ (by omega)
              have w2_ : IntKind.i64.wrap (p : Int) = (p : Int) := IntWalk.i64_in _ (by omega)
              have w3_ : IntKind.i64.wrap ((i : Int) + (k : Int)) = (i : Int) + (k : Int) := IntWalk.i64_in _ (by omega)
              have w4_ : IntKind.i64.wrap (q : Int) = (q : Int) := IntWalk.i64_in _ (by omega)
              rw [← hp.out] at h5
              have hpy : Hid ((bv by4)[k]? = some (.int .u8 ((gd by4 k : Nat) : Int))) := bv_some (gd_get (by rw [hml.out]; omega))
              have hpx : Hid ((bv b)[q]? = some (.int .u8 ((gd b q : Nat) : Int))) := bv_some (gd_get (by rw [hbl.out]; omega))
              have hpu : Hid ((bv (ROW.set p (colK by4 b c i k)))[p]? = some (.int .u8 ((colK by4 b c i k : Nat) : Int))) := bv_some (by rw [List.getElem?_set, if_pos rfl, if_pos (by rw [hrl.out]; omega)])
              have hti := Lib.hid (fun w => htm.out (gd by4 k) (gd b q) (by have := hbm.out k; omega) (by have := hbb.out q; omega) w)
              have hnx : Hid (colK by4 b c i (k + 1) = colK by4 b c i k ^^^ mul (gd by4 k) (gd b q)) := by show _ = _; rw [colK, hq.out]
              have hzz := (x8' (a := colK by4 b c i k) (b := mul (gd by4 k) (gd b q)) (hcl.out c i k) (mul_lt _ (hbm.out k))).1
              rw [← hnx.out] at hzz
              have hnext : Hid (bv (ROW.set (4 * c + i) (colK by4 b c i (k + 1))) = (bv (ROW.set p (colK by4 b c i k))).set p (.int .u8 ((colK by4 b c i (k + 1) : Nat) : Int))) := by
                show _ = _
                rw [← hp.out, bv_set, List.set_set]
              clear hnx
              generalize hv : colK by4 b c i (k + 1) = v at *
              replace hv := Lib.hid hv
              generalize colK by4 b c i k = u at *
              generalize mul (gd by4 k) (gd b q) = z at *
              generalize gd by4 k = y at *
              generalize gd b q = x at *
              clear hc4 hp hr hq
              go_upto_region 11 with fail
              refine wp_region_held_drew (S := fun w' => w'.cell? ⟨g3, k, none⟩ = some (.int .u8 (y : Int)) ∧ w'.cell? ⟨g2, q, none⟩ = some (.int .u8 (x : Int))) (by kernel_rfl) ⟨(h3.drew.cell k).trans hpy.out, (h2.drew.cell q).trans hpx.out⟩ (fun hH => ?_)
              refine takeH_move (o := ⟨some 21, _, _, _, _, _⟩) (i := 0) rfl (by kernel_rfl) (by kernel_rfl) (by kernel_rfl) (fun _ _ _ _ h => h) rfl (.tmp 6) rfl (.int .i64 (c : Int)) rfl hH ?_
              simp only [Act.put, List.setIfInBounds_toArray, List.set_cons_zero, List.set_cons_succ, Nat.zero_add, decide_true, beq_self_eq_true]
              refine takeH_S (o := ⟨some 22, _, _, _, _, _⟩) (i := 1) rfl (by kernel_rfl) (by kernel_rfl) (by kernel_rfl) (fun _ _ _ _ h => h) rfl (.int .i64 (c4 : Int)) (fun w _ => by go_simp) hH ?_
              simp only [Act.put, List.setIfInBounds_toArray, List.set_cons_zero, List.set_cons_succ, Nat.zero_add, decide_true, beq_self_eq_true]
              refine takeH_move (o := ⟨some 23, _, _, _, _, _⟩) (i := 2) rfl (by kernel_rfl) (by kernel_rfl) (by kernel_rfl) (fun _ _ _ _ h => h) rfl (.tmp 7) rfl (.int .i64 (i : Int)) rfl hH ?_
              simp only [Act.put, List.setIfInBounds_toArray, List.set_cons_zero, List.set_cons_succ, Nat.zero_add, decide_true, beq_self_eq_true]
              refine takeH_S (o := ⟨some 24, _, _, _, _, _⟩) (i := 3) rfl (by kernel_rfl) (by kernel_rfl) (by kernel_rfl) (fun _ _ _ _ h => h) rfl (.int .i64 (p : Int)) (fun w _ => by go_simp) hH ?_
              simp only [Act.put, List.setIfInBounds_toArray, List.set_cons_zero, List.set_cons_succ, Nat.zero_add, decide_true, beq_self_eq_true]
              refine takeH_S (o := ⟨some 25, _, _, _, _, _⟩) (i := 4) rfl (by kernel_rfl) (by kernel_rfl) (by kernel_rfl) (fun _ _ _ _ h => h) rfl (.pointer (some ⟨g5, p, none⟩)) (fun w _ => by go_simp; try (intro hh; omega)) hH ?_
              simp only [Act.put, List.setIfInBounds_toArray, List.set_cons_zero, List.set_cons_succ, Nat.zero_add, decide_true, beq_self_eq_true]
              refine takeH_move (o := ⟨some 27, _, _, _, _, _⟩) (i := 6) rfl (by kernel_rfl) (by kernel_rfl) (by kernel_rfl) (fun _ _ _ _ h => h) rfl (.tmp 8) rfl (.int .i64 (k : Int)) rfl hH ?_
              simp only [Act.put, List.setIfInBounds_toArray, List.set_cons_zero, List.set_cons_succ, Nat.zero_add, decide_true, beq_self_eq_true]
              refine takeH_S (o := ⟨some 28, _, _, _, _, _⟩) (i := 7) rfl (by kernel_rfl) (by kernel_rfl) (by kernel_rfl) (fun _ _ _ _ h => h) rfl (.pointer (some ⟨g3, k, none⟩)) (fun w _ => by go_simp; try (intro hh; omega)) hH ?_
              simp only [Act.put, List.setIfInBounds_toArray, List.set_cons_zero, List.set_cons_succ, Nat.zero_add, decide_true, beq_self_eq_true]
              refine takeH_cell (o := ⟨some 29, _, _, _, _, _⟩) (i := 8) rfl (by kernel_rfl) (by kernel_rfl) (by kernel_rfl) (fun _ _ _ _ h => h) rfl 5 (.tmp 28) rfl Try.underlying5 rfl g3 k rfl (.int .u8 (y : Int)) (fun w h => h.1) hH ?_
              simp only [Act.put, List.setIfInBounds_toArray, List.set_cons_zero, List.set_cons_succ, Nat.zero_add, decide_true, beq_self_eq_true]
              refine takeH_move (o := ⟨some 30, _, _, _, _, _⟩) (i := 9) rfl (by kernel_rfl) (by kernel_rfl) (by kernel_rfl) (fun _ _ _ _ h => h) rfl (.tmp 6) rfl (.int .i64 (c : Int)) rfl hH ?_
              simp only [Act.put, List.setIfInBounds_toArray, List.set_cons_zero, List.set_cons_succ, Nat.zero_add, decide_true, beq_self_eq_true]
              refine takeH_S (o := ⟨some 31, _, _, _, _, _⟩) (i := 10) rfl (by kernel_rfl) (by kernel_rfl) (by kernel_rfl) (fun _ _ _ _ h => h) rfl (.int .i64 (c4 : Int)) (fun w _ => by go_simp) hH ?_
              simp only [Act.put, List.setIfInBounds_toArray, List.set_cons_zero, List.set_cons_succ, Nat.zero_add, decide_true, beq_self_eq_true]
              refine takeH_move (o := ⟨some 32, _, _, _, _, _⟩) (i := 11) rfl (by kernel_rfl) (by kernel_rfl) (by kernel_rfl) (fun _ _ _ _ h => h) rfl (.tmp 7) rfl (.int .i64 (i : Int)) rfl hH ?_
              simp only [Act.put, List.setIfInBounds_toArray, List.set_cons_zero, List.set_cons_succ, Nat.zero_add, decide_true, beq_self_eq_true]
              refine takeH_move (o := ⟨some 33, _, _, _, _, _⟩) (i := 12) rfl (by kernel_rfl) (by kernel_rfl) (by kernel_rfl) (fun _ _ _ _ h => h) rfl (.tmp 8) rfl (.int .i64 (k : Int)) rfl hH ?_
              simp only [Act.put, List.setIfInBounds_toArray, List.set_cons_zero, List.set_cons_succ, Nat.zero_add, decide_true, beq_self_eq_true]
              refine takeH_S (o := ⟨some 34, _, _, _, _, _⟩) (i := 13) rfl (by kernel_rfl) (by kernel_rfl) (by kernel_rfl) (fun _ _ _ _ h => h) rfl (.int .i64 ((i : Int) + (k : Int))) (fun w _ => by go_simp) hH ?_
              simp only [Act.put, List.setIfInBounds_toArray, List.set_cons_zero, List.set_cons_succ, Nat.zero_add, decide_true, beq_self_eq_true]
              refine takeH_S (o := ⟨some 35, _, _, _, _, _⟩) (i := 14) rfl (by kernel_rfl) (by kernel_rfl) (by kernel_rfl) (fun _ _ _ _ h => h) rfl (.int .i64 (r : Int)) (fun w _ => by go_simp) hH ?_
              simp only [Act.put, List.setIfInBounds_toArray, List.set_cons_zero, List.set_cons_succ, Nat.zero_add, decide_true, beq_self_eq_true]
              refine takeH_S (o := ⟨some 36, _, _, _, _, _⟩) (i := 15) rfl (by kernel_rfl) (by kernel_rfl) (by kernel_rfl) (fun _ _ _ _ h => h) rfl (.int .i64 (q : Int)) (fun w _ => by go_simp) hH ?_
              simp only [Act.put, List.setIfInBounds_toArray, List.set_cons_zero, List.set_cons_succ, Nat.zero_add, decide_true, beq_self_eq_true]
              refine takeH_S (o := ⟨some 37, _, _, _, _, _⟩) (i := 16) rfl (by kernel_rfl) (by kernel_rfl) (by kernel_rfl) (fun _ _ _ _ h => h) rfl (.pointer (some ⟨g2, q, none⟩)) (fun w _ => by go_simp; try (intro hh; omega)) hH ?_
              simp only [Act.put, List.setIfInBounds_toArray, List.set_cons_zero, List.set_cons_succ, Nat.zero_add, decide_true, beq_self_eq_true]
              refine takeH_cell (o := ⟨some 38, _, _, _, _, _⟩) (i := 17) rfl (by kernel_rfl) (by kernel_rfl) (by kernel_rfl) (fun _ _ _ _ h => h) rfl 5 (.tmp 37) rfl Try.underlying5 rfl g2 q rfl (.int .u8 (x : Int)) (fun w h => h.2) hH ?_
              simp only [Act.put, List.setIfInBounds_toArray, List.set_cons_zero, List.set_cons_succ, Nat.zero_add, decide_true, beq_self_eq_true]
              refine wpAnyH_ready (rs := [5, 18]) (by kernel_rfl) (by simp) ?_
              refine AllReadyH.cons rfl (fun K1 hK1 => ?_) (AllReadyH.cons rfl (fun K1 hK1 => ?_) AllReadyH.nil)
              · rw [if_pos (by rfl)]
                have c1 := (h5.drew).cell p
                rw [hpu.out] at c1
                go_wp2_with fail
                refine hK1.out _ _ hH (fun hH => ?_)
                clear hK1 K1 c1
                refine wpAnyH_ready (rs := [18]) (by kernel_rfl) (by simp) ?_
                refine AllReadyH.cons rfl (fun K1 hK1 => ?_) AllReadyH.nil
                rw [if_pos (by rfl)]
                go_wp2_with fail
                refine (hti.out _).mono ?_
                rintro en wa ⟨rfl, hBa⟩
                have hbw : Below wr.heap.size wr wa := below_call ((Below.refl wr.heap.size wr).drew) ((Below.refl wr.heap.size wr).drew).size hBa
                refine hK1.out _ _ ⟨((h3.keep hbw).cell k).trans hpy.out, ((h2.keep hbw).cell q).trans hpx.out⟩ (fun hH => ?_)
                clear hK1 K1 hBa
                refine takeH_S (o := ⟨some 40, _, _, _, _, _⟩) (i := 19) rfl (by kernel_rfl) (by kernel_rfl) (by kernel_rfl) (fun _ _ _ _ h => h) rfl (.int .u8 (v : Int)) (fun w _ => by go_simp) hH ?_
                simp only [Act.put, List.setIfInBounds_toArray, List.set_cons_zero, List.set_cons_succ, Nat.zero_add, decide_true, beq_self_eq_true]
                refine takeH_S (o := ⟨some 41, _, _, _, _, _⟩) (i := 20) rfl (by kernel_rfl) (by kernel_rfl) (by kernel_rfl) (fun _ _ _ _ h => h) rfl (.pointer (some ⟨g5, p, none⟩)) (fun w _ => by go_simp; try (intro hh; omega)) hH ?_
                simp only [Act.put, List.setIfInBounds_toArray, List.set_cons_zero, List.set_cons_succ, Nat.zero_add, decide_true, beq_self_eq_true]
                refine wpAnyH_ready (rs := [21]) (by kernel_rfl) (by simp) ?_
                refine AllReadyH.cons rfl (fun K1 hK1 => ?_) AllReadyH.nil
                rw [if_pos (by rfl)]
                have c1 := (h5.keep hbw).cell p
                rw [hpu.out] at c1
                have f1 := (h5.keep hbw).frozen p
                have hset := Lib.hid ((h5.keep hbw).set_ p (.int .u8 (v : Int)))
                have hk2 : Hid (Blk (wa.setCell ⟨g5, p, none⟩ (.int .u8 (v : Int))) g2 71 (bv b)) := (h2.keep hbw).far (by simp; have := g25.out; omega) _
                have hk3 : Hid (Blk (wa.setCell ⟨g5, p, none⟩ (.int .u8 (v : Int))) g3 119 (bv by4)) := (h3.keep hbw).far (by simp; have := g35.out; omega) _
                have hk4 : Hid (Blk (wa.setCell ⟨g5, p, none⟩ (.int .u8 (v : Int))) g4 71 (bv (zeros 16))) := (h4.keep hbw).far (by simp; have := g45.out; omega) _
                have hBf : Hid (Below w.heap.size w (wa.setCell ⟨g5, p, none⟩ (.int .u8 (v : Int)))) := (below_call hB hB.size hbw).setCell (by simp; have := gw5.out; omega) _
                go_wp2_with fail
                refine hK1.out _ _ ⟨(hk3.out.cell k).trans hpy.out, (hk2.out.cell q).trans hpx.out⟩ (fun hH => ?_)
                clear hK1 K1 c1 f1
                refine wpAnyH_done (by kernel_rfl) ?_ _
                clear hH
                go_wp2
                go_roundw
                case rel => exact ⟨k + 1, by omega, by go_num, hk2.out, hk3.out, hk4.out, by rw [hv.out, hnext.out]; exact hset.out, hBf.out⟩
                case measure => simp [intOf]; omega
              · rw [if_pos (by rfl)]
                go_wp2_with fail
                refine (hti.out _).mono ?_
                rintro en wa ⟨rfl, hBa⟩
                have hbw : Below wr.heap.size wr wa := below_call ((Below.refl wr.heap.size wr).drew) ((Below.refl wr.heap.size wr).drew).size hBa
                refine hK1.out _ _ ⟨((h3.keep hbw).cell k).trans hpy.out, ((h2.keep hbw).cell q).trans hpx.out⟩ (fun hH => ?_)
                clear hK1 K1 hBa
                refine wpAnyH_ready (rs := [5]) (by kernel_rfl) (by simp) ?_
                refine AllReadyH.cons rfl (fun K1 hK1 => ?_) AllReadyH.nil
                rw [if_pos (by rfl)]
                have c1 := (h5.keep hbw).cell p
                rw [hpu.out] at c1
                go_wp2_with fail
                refine hK1.out _ _ hH (fun hH => ?_)
                clear hK1 K1 c1
                refine takeH_S (o := ⟨some 40, _, _, _, _, _⟩) (i := 19) rfl (by kernel_rfl) (by kernel_rfl) (by kernel_rfl) (fun _ _ _ _ h => h) rfl (.int .u8 (v : Int)) (fun w _ => by go_simp) hH ?_
                simp only [Act.put, List.setIfInBounds_toArray, List.set_cons_zero, List.set_cons_succ, Nat.zero_add, decide_true, beq_self_eq_true]
                refine takeH_S (o := ⟨some 41, _, _, _, _, _⟩) (i := 20) rfl (by kernel_rfl) (by kernel_rfl) (by kernel_rfl) (fun _ _ _ _ h => h) rfl (.pointer (some ⟨g5, p, none⟩)) (fun w _ => by go_simp; try (intro hh; omega)) hH ?_
                simp only [Act.put, List.setIfInBounds_toArray, List.set_cons_zero, List.set_cons_succ, Nat.zero_add, decide_true, beq_self_eq_true]
                refine wpAnyH_ready (rs := [21]) (by kernel_rfl) (by simp) ?_
                refine AllReadyH.cons rfl (fun K1 hK1 => ?_) AllReadyH.nil
                rw [if_pos (by rfl)]
                have c1 := (h5.keep hbw).cell p
                rw [hpu.out] at c1
                have f1 := (h5.keep hbw).frozen p
                have hset := Lib.hid ((h5.keep hbw).set_ p (.int .u8 (v : Int)))
                have hk2 : Hid (Blk (wa.setCell ⟨g5, p, none⟩ (.int .u8 (v : Int))) g2 71 (bv b)) := (h2.keep hbw).far (by simp; have := g25.out; omega) _
                have hk3 : Hid (Blk (wa.setCell ⟨g5, p, none⟩ (.int .u8 (v : Int))) g3 119 (bv by4)) := (h3.keep hbw).far (by simp; have := g35.out; omega) _
                have hk4 : Hid (Blk (wa.setCell ⟨g5, p, none⟩ (.int .u8 (v : Int))) g4 71 (bv (zeros 16))) := (h4.keep hbw).far (by simp; have := g45.out; omega) _
                have hBf : Hid (Below w.heap.size w (wa.setCell ⟨g5, p, none⟩ (.int .u8 (v : Int)))) := (below_call hB hB.size hbw).setCell (by simp; have := gw5.out; omega) _
                go_wp2_with fail
                refine hK1.out _ _ ⟨(hk3.out.cell k).trans hpy.out, (hk2.out.cell q).trans hpx.out⟩ (fun hH => ?_)
                clear hK1 K1 c1 f1
                refine wpAnyH_done (by kernel_rfl) ?_ _
                clear hH
                go_wp2
                go_roundw
                case rel => exact ⟨k + 1, by omega, by go_num, hk2.out, hk3.out, hk4.out, by rw [hv.out, hnext.out]; exact hset.out, hBf.out⟩
                case measure => simp [intOf]; omega
            · obtain rfl : k = 4 := by omega
              rw [hend.out] at h5
              go_wp2
              go_roundw
              case rel => exact ⟨i + 1, by omega, by go_num, h2, h3, h4, h5, hB⟩
              case measure => simp [intOf]; omega
        · obtain rfl : i = 4 := by omega
          rw [show 4 * c + 4 = 4 * (c + 1) from by omega] at h5
          go_wp2
          go_roundw
          case rel => exact ⟨c + 1, by omega, by go_num, h2, h3, h4, h5, hB⟩
          case measure => simp [intOf]; omega
    · obtain rfl : c = 4 := by omega
      rw [upd_all hRl.out (by simp)] at h5
      go_wp2_with (first
        | refine wpList_loadW rfl 71 (.tmp 5) rfl 16 arrR16 _ rfl 71 _ h5 hRbl.out ?_
        | refine wpList_storeW rfl 71 (.tmp 4) (.tmp 42) rfl 16 arrR16 _ rfl (bv RR) rfl 71 _ h4 hRbl.out (by simp) (ones_bv _) ?_)
      intro wf hf hKf
      go_wp2
      exact bodyPost_ret (v := .agg (bv RR).toArray) (res_cell Try.results81 _ _ _ 71 _ arrR16 hRbl.out rfl hf) rfl (hRet.out _ (hB.trans (hKf.below hB.size (by intro b hb; simp only [List.mem_singleton] at hb; subst hb; exact gw4.out))))
end Go.Proofs.Ytlifpmglaoppoaa

/- The document's columns are the program's mix. -/
namespace Go.Proofs.PlainAes
theorem mul2 : ∀ x, x < 256 → mul 2 x = dbl x := cases8 (by decide +kernel)
theorem mul3 : ∀ x, x < 256 → mul 3 x = dbl x ^^^ x := cases8 (by decide +kernel)
theorem mul1 : ∀ x, x < 256 → mul 1 x = x := cases8 (by decide +kernel)
theorem colK_mix (b : List Nat) (hb : ∀ x ∈ b, x < 256) (c i : Nat) (hi : i < 4) : colK [2, 3, 1, 1] b c i 4 = mixAt b (4 * c + i) := by
  have hx := fun j => gd_lt hb j
  have e : colK [2, 3, 1, 1] b c i 4 = (((0 ^^^ mul 2 (gd b (4 * c + (i + 0) % 4))) ^^^ mul 3 (gd b (4 * c + (i + 1) % 4))) ^^^ mul 1 (gd b (4 * c + (i + 2) % 4))) ^^^ mul 1 (gd b (4 * c + (i + 3) % 4)) := rfl
  rw [e, mul2 _ (hx _), mul3 _ (hx _), mul1 _ (hx _), mul1 _ (hx _)]
  unfold mixAt all4
  rw [show (4 * c + i) / 4 * 4 = 4 * c from by omega, show (4 * c + i) % 4 = i from by omega, dbl_xor (hx _) (hx _)]
  rcases (by omega : i = 0 ∨ i = 1 ∨ i = 2 ∨ i = 3) with rfl | rfl | rfl | rfl
  all_goals
    simp only [Nat.add_zero, Nat.zero_xor, Nat.reduceAdd, Nat.reduceMod]
    generalize gd b (4 * c) = p
    generalize gd b (4 * c + 1) = q
    generalize gd b (4 * c + 2) = r
    generalize gd b (4 * c + 3) = s
    apply Nat.eq_of_testBit_eq
    intro j
    simp only [Nat.testBit_xor]
    cases (dbl p).testBit j <;> cases (dbl q).testBit j <;> cases (dbl r).testBit j <;> cases (dbl s).testBit j <;> cases p.testBit j <;> cases q.testBit j <;> cases r.testBit j <;> cases s.testBit j <;> rfl
theorem colL_mix (b : List Nat) (hb : ∀ x ∈ b, x < 256) : colL [2, 3, 1, 1] b = mix b := by
  unfold colL mix mk
  refine List.map_congr_left (fun p hp => ?_)
  rw [colK_mix b hb _ _ (Nat.mod_lt _ (by decide))]
  congr 1
  omega
end Go.Proofs.PlainAes

/- Contract of banyanref04: Rounds. -/
namespace Go.Proofs.PlainAes
theorem kmid0 {t : Nat → Nat} {n : Nat} {x : List Nat} (h : n % 8 = 0) : kmid t n x = [t (gd x 1) ^^^ (2 ^ (n / 8 - 1) % 256), t (gd x 2), t (gd x 3), t (gd x 0)] := by
  unfold kmid kturn ksub krc
  rw [if_pos h, if_pos (by omega), if_pos h]
  rfl
theorem kmid4 {t : Nat → Nat} {n : Nat} {x : List Nat} (h : n % 8 = 4) : kmid t n x = [t (gd x 0), t (gd x 1), t (gd x 2), t (gd x 3)] := by
  unfold kmid kturn ksub krc
  rw [if_neg (by omega), if_pos (by omega), if_neg (by omega)]
  rfl
theorem kmidE {t : Nat → Nat} {n : Nat} {x : List Nat} (h : n % 4 ≠ 0) : kmid t n x = x := by
  unfold kmid kturn ksub krc
  rw [if_neg (by omega), if_neg (by omega), if_neg (by omega)]
/-- The power at hand ahead of word n. -/
def pwr (n : Nat) : Nat := 2 ^ ((n + 7) / 8 - 1) % 256
theorem pwr_all : (List.range 60).all (fun n => decide (pwr n < 256) && (if n % 8 = 0 ∧ 8 ≤ n then decide (mul (pwr n) 2 = pwr (n + 1)) && decide (pwr n = 2 ^ (n / 8 - 1) % 256) else decide (pwr (n + 1) = pwr n) || decide (n < 8))) = true := by decide +kernel
theorem pwr_lt {n : Nat} (h : n < 60) : pwr n < 256 := Nat.mod_lt _ (by decide)
theorem pwr_at {n : Nat} (h : n < 60) (h8 : 8 ≤ n) (hc : n % 8 = 0) : mul (pwr n) 2 = pwr (n + 1) ∧ pwr n = 2 ^ (n / 8 - 1) % 256 := by
  have := List.all_eq_true.1 pwr_all n (List.mem_range.2 h)
  rw [if_pos ⟨hc, h8⟩] at this
  simp only [Bool.and_eq_true, decide_eq_true_eq] at this
  exact ⟨this.2.1, this.2.2⟩
theorem pwr_else {n : Nat} (h : n < 60) (h8 : 8 ≤ n) (hc : n % 8 ≠ 0) : pwr (n + 1) = pwr n := by
  unfold pwr
  rw [show (n + 1 + 7) / 8 = (n + 7) / 8 from by omega]
end Go.Proofs.PlainAes
namespace Go.Proofs.Ytlifpmglaoppoaa
open Go.RowKit
open Go.Proofs.PlainAes

theorem arrR15 : ArrTy Try.prog 138 240 := ⟨_, Try.underlying138, rfl, by kernel_rfl⟩

section
variable {P : Program} {ops : Array Oper} {rest : List Oper} {o : Oper} {a : Act} {w : World}
theorem wpStill_sliceA {QS : Act → Prop} (hgd : o.guard = none) (ty : TypeId) (x lo hi : Operand) (ho : o.op = .slice ty x (some lo) (some hi) none) (len el s : Nat) (hu : P.underlying ty = some (.array len el)) (hs : (P.info? el).map (·.size) = some s)
    (g off : Nat) (hx : a.eval x = .pointer (some ⟨g, off, none⟩)) (li hii : Int) (hlo : a.eval lo = .int .i64 li) (hhi : a.eval hi = .int .i64 hii) (l h : Nat) (e1 : li = l) (e2 : hii = h) (h1 : l ≤ h) (h2 : h ≤ len) (h3 : l < len)
    (hk : wpStill P ops w QS rest (a.put o.dst (.slice (some ⟨g, off + l * s, none⟩) (h - l) (len - l)))) : wpStill P ops w QS (o :: rest) a := by
  refine wpStill_step fun K hK => ?_
  have hw : Region.wanted o (yielded ops a.tmps) = true := by simp [Region.wanted, hgd]
  rw [if_pos hw]
  unfold Oper.still execOp
  simp only [ho, hx, hlo, hhi, Option.map_some, Option.map_none, Sem.run_bind, run_sliceA_lh hu hs g off l h li hii e1 e2 h1 h2 h3, Result.andThen_ok, Sem.run_pure]
  exact ⟨rfl, hK _ hk⟩
end
/-- What lies there while words are made. -/
structure Rx (w : World) (g0 g1 g2 g3 : Nat) (k K : List Nat) (m : Nat) (wr : World) : Prop where
  t : Blk wr g0 38 (bv (tbl box))
  k : Blk wr g1 24 (bv k)
  o : Blk wr g2 138 (bv (zeros 240))
  ws : Blk wr g3 120 (bv (upd K (zeros 240) m))
  below : Below w.heap.size w wr
  o0 : w.heap.size ≤ g0
  o1 : g0 < g1
  o2 : g1 < g2
  o3 : g2 < g3
section
variable {w wr wr' : World} {g0 g1 g2 g3 g : Nat} {k K : List Nat} {m n : Nat}
theorem Rx.call (h : Rx w g0 g1 g2 g3 k K m wr) (hB : Below wr.heap.size wr wr') : Rx w g0 g1 g2 g3 k K m wr' :=
  ⟨h.t.keep hB, h.k.keep hB, h.o.keep hB, h.ws.keep hB, below_call h.below h.below.size hB, h.o0, h.o1, h.o2, h.o3⟩
theorem Rx.keeps0 (h : Rx w g0 g1 g2 g3 k K m wr) (hB : Keeps [] wr wr') : Rx w g0 g1 g2 g3 k K m wr' := h.call (hB.below (Nat.le_refl _) (by simp))
theorem Rx.keeps (h : Rx w g0 g1 g2 g3 k K m wr) (hk : Keeps [g] wr wr') (hg : g3 < g) : Rx w g0 g1 g2 g3 k K m wr' := by
  have h0 := h.o0
  have h1 := h.o1
  have h2 := h.o2
  have h3 := h.o3
  exact ⟨h.t.keeps hk (by simp; omega), h.k.keeps hk (by simp; omega), h.o.keeps hk (by simp; omega), h.ws.keeps hk (by simp; omega), h.below.trans (hk.below h.below.size (by simp; omega)), h0, h1, h2, h3⟩
theorem Rx.drew (h : Rx w g0 g1 g2 g3 k K m wr) : Rx w g0 g1 g2 g3 k K m wr.drew := ⟨h.t, h.k, h.o, h.ws, h.below.drew, h.o0, h.o1, h.o2, h.o3⟩
theorem Rx.put (h : Rx w g0 g1 g2 g3 k K m wr) (hk : Keeps [g3] wr wr') (hw : Blk wr' g3 120 (bv (upd K (zeros 240) n))) : Rx w g0 g1 g2 g3 k K n wr' := by
  have h0 := h.o0
  have h1 := h.o1
  have h2 := h.o2
  have h3 := h.o3
  exact ⟨h.t.keeps hk (by simp; omega), h.k.keeps hk (by simp; omega), h.o.keeps hk (by simp; omega), hw, h.below.trans (hk.below h.below.size (by simp; omega)), h0, h1, h2, h3⟩
theorem Rx.set (h : Rx w g0 g1 g2 g3 k K m wr) (hK : K.length = 240) (hm : m < 240) : Rx w g0 g1 g2 g3 k K (m + 1) (wr.setCell ⟨g3, m, none⟩ (.int .u8 ((gd K m : Nat) : Int))) := by
  refine h.put ((Keeps.refl _ _).setCell (by simp) _) ?_
  rw [← upd_set (by simp [hK]) (by simpa using hm) (gd_get (by omega)), ← bv_set]
  exact h.ws.set_ m _
end

set_option maxRecDepth 100000 in
set_option maxHeartbeats 4000000 in
theorem rrounds_any (k : List Nat) (w : World) (hk : k.length = 32) (bk : Byt k) :
    Calls Try.prog 79 #[.agg (bv (tbl box)).toArray, .agg (bv k).toArray] w (RetA (keys box k) w) := by
  have hti := Lib.hid (fun (x : Nat) (hx : (x : Int) ≤ 255) w => xtimes_any x 2 w hx (by decide))
  have HK := Lib.hid (keyRow hk bk)
  have Hk := Lib.hid hk
  have hKl0 : Hid ((bv (keys box k)).length = 240) := by show _ = _; simp [keys_length box hk]
  have hRet : Hid (∀ w', Below w.heap.size w w' → RetA (keys box k) w (.returned (.agg (bv (keys box k)).toArray)) w') := fun w' h => ⟨rfl, h⟩
  clear hk bk
  generalize RetA (keys box k) w = RX at *
  generalize keys box k = K at *
  go_enter Try.func79, Try.ntmps79
  go_wp2_with (first | refine wpList_allocA rfl 138 rfl (bv (zeros 240)) (by kernel_rfl) ?_)
  intro w1 h2 hK1 hz1
  have h0 := ((Blk.new_at (w := w) (t := 38) (cs := (bv (tbl box)).toArray) rfl rfl).alloc (.cells (bv k).toArray 24)).keeps hK1 (by simp)
  have h1 := (Blk.new_at (w := w.alloc (.cells (bv (tbl box)).toArray 38)) (t := 24) (cs := (bv k).toArray) rfl rfl).keeps hK1 (by simp)
  simp only [List.size_toArray, World.size_alloc] at h0 h1 h2
  have hB : Below w.heap.size w w1 := (((Below.refl _ _).alloc (Nat.le_refl _) _).alloc (by simp) _).trans (hK1.below (by simp; omega) (by simp))
  clear hK1 hz1
  have ga := Lib.hid h2.lt
  go_wp2_with (first | refine wpList_allocA rfl 120 rfl (bv (zeros 240)) (by kernel_rfl) ?_)
  intro w2 h3 hK2 hz2
  replace h0 := h0.keeps hK2 (by simp)
  replace h1 := h1.keeps hK2 (by simp)
  replace h2 := h2.keeps hK2 (by simp)
  replace hB := hB.trans (hK2.below hB.size (by simp))
  have hE : Rx w w.heap.size (w.heap.size + 1) (w.heap.size + 1 + 1) w1.heap.size k K 0 w2 := ⟨h0, h1, h2, by simpa [upd_zero] using h3, hB, Nat.le_refl _, by omega, by omega, ga.out⟩
  clear h0 h1 h2 h3 hB hK2 hz2 ga
  generalize w1.heap.size = g3 at *
  generalize w.heap.size + 1 + 1 = g2 at *
  generalize w.heap.size + 1 = g1 at *
  generalize hg0 : w.heap.size = g0 at hE
  replace hg0 := Lib.hid hg0
  go_wp2
  go_loopw [6] (fun i wr => ∃ n : Nat, (n : Int) ≤ 8 ∧ i = .int .i64 (n : Int) ∧ Rx w g0 g1 g2 g3 k K (4 * n) wr) (fun i _ => 8 - (intOf i).toNat)
  case atStart => exact ⟨0, by omega, rfl, hE⟩
  case round =>
    clear hE
    obtain ⟨n, hn, rfl, hE⟩ := hrel
    by_cases hlt : (n : Int) < 8
    · have hlo := Lib.hid (HK.out.lo n (by omega))
      have EK : Hid (((bv k).drop (4 * n)).take 4 = bv (seg K (4 * n) 4)) := by show _ = _; rw [hlo.out, bv_seg]; rfl
      have h1 := hE.drew.k
      have h3 := hE.drew.ws
      have a1 : IntKind.i64.wrap (4 * (n : Int)) = 4 * (n : Int) := IntWalk.i64_in _ (by omega)
      have a2 : IntKind.i64.wrap (4 * (n : Int) + 4) = 4 * (n : Int) + 4 := IntWalk.i64_in _ (by omega)
      have a3 : (n : Int) < 60 := by omega
      have sl := Lib.hid (seg_length (l := K) (o := 4 * n) (n := 4) (by have := HK.out.len; omega))
      go_wp2
      go_still_tail 9, (by kernel_rfl)
      refine wpStill_sliceA rfl 24 (.tmp 3) (.tmp 21) (.tmp 24) rfl 32 5 1 Try.underlying24 (by kernel_rfl) g1 0 rfl _ _ rfl rfl (4 * n) (4 * n + 4) (by omega) (by omega) (by omega) (by omega) (by omega) ?_
      refine wpStill_nil ?_
      change wpList _ _ _ _ _ wr.drew
      clear a1 a2 a3
      go_wp2_with (refine wpList_copyA rfl (.tmp 19) (.tmp 25) 22 22 rfl 5 Try.underlying22 (by kernel_rfl) g3 _ _ _ rfl ⟨g1, _, none⟩ _ _ rfl 120 _ h3 (bv (seg K (4 * n) 4)) ?_ ?_ ?_ (ones_bv _) ?_)
      · rw [bv_length, sl.out, Nat.add_sub_cancel_left]; rfl
      · intro j v hj
        rw [h1.cellAdd, Nat.zero_add]
        rw [← EK.out, List.getElem?_take] at hj
        split at hj
        · rw [List.getElem?_drop] at hj; simpa using hj
        · cases hj
      · rw [bv_length, sl.out, bv_length, upd_length (by simp [HK.out.len]) (by simp; omega)]; simp; omega
      intro w5 h5 hK5
      have hE' : Rx w g0 g1 g2 g3 k K (4 * (n + 1)) w5 := by
        refine hE.drew.put hK5 ?_
        rw [putL_bv, sl.out, show n * 4 = 4 * n from by omega] at h5
        have := upd_put (new := K) (old := zeros 240) (k := 4 * n) (n := 4) (by simp [HK.out.len]) (by simp; omega)
        rw [show 4 * (n + 1) = 4 * n + 4 from by omega, ← this]
        exact h5
      clear h1 h3 h5 hE hK5
      go_wp2
      go_roundw
      case rel => exact ⟨n + 1, by omega, by go_num, hE'⟩
      case measure => simp [intOf]; omega
    · obtain rfl : n = 8 := by omega
      go_wp2
      go_loopw [7, 8] (fun p i wr => ∃ n : Nat, (8 : Int) ≤ n ∧ (n : Int) ≤ 60 ∧ p = .int .u8 ((pwr n : Nat) : Int) ∧ i = .int .i64 (n : Int) ∧ Rx w g0 g1 g2 g3 k K (4 * n) wr) (fun _ i _ => 60 - (intOf i).toNat)
      case atStart => exact ⟨8, by omega, by omega, rfl, rfl, hE⟩
      case round =>
        clear hE
        obtain ⟨n, h8, hn, rfl, rfl, hE⟩ := hrel
        by_cases hlt : (n : Int) < 60
        · have hhi := Lib.hid (HK.out.hi n (by omega) (by omega))
          have sl := seg_length (l := K) (o := 4 * n - 4) (n := 4) (by have := HK.out.len; omega)
          have sb := seg_lt HK.out.byt (4 * n - 4) 4
          have EL : Hid (((bv (upd K (zeros 240) (4 * n))).drop (4 * n - 4)).take 4 = bv (seg K (4 * n - 4) 4)) := by
            show _ = _
            rw [bv_seg]
            congr 1
            unfold upd
            rw [List.drop_append_of_le_length (by have := HK.out.len; simp; omega), List.take_append_of_le_length (by have := HK.out.len; simp; omega), List.drop_take, List.take_take]
            unfold seg
            congr 1
            omega
          generalize seg K (4 * n - 4) 4 = x at *
          have SL := Lib.hid sl
          have SB := Lib.hid sb
          have h2 := hE.ws
          have hul : Hid ((bv (upd K (zeros 240) (4 * n))).length = 240) := by show _ = _; rw [bv_length, upd_length (by simp [HK.out.len]) (by simp; omega)]; simp
          clear sl sb
          have h1n : (1 : Int) ≤ n := by omega
          rcases (by omega : n % 8 = 0 ∨ n % 8 = 4 ∨ n % 4 ≠ 0) with hc | hc | hc
          · have t8 : (((n : Nat) : Int) % 8 == 0) = true := by simp; omega
            have t4 : (((n : Nat) : Int) % 8 == 4) = false := by simp; omega
            have hpw := Lib.hid (pwr_at (n := n) (by omega) (by omega) hc)
            have HM := Lib.hid (kmid0 (t := box) (x := x) hc)
            have hpl : (pwr n : Int) ≤ 255 := by have := pwr_lt (n := n) (by omega); omega
            rw [← hpw.out.2] at HM
            have hti1 := Lib.hid (fun w => hti.out (pwr n) hpl w)
            rw [hpw.out.1] at hti1
            clear hpw
            generalize hP : pwr n = P at *
            replace hP := Lib.hid hP
            generalize hP1 : pwr (n + 1) = P1 at *
            replace hP1 := Lib.hid hP1
            have HC := Lib.hid hc
            clear hc
            go_wp2_with (first
              | refine wpList_loadA rfl 119 (.tmp 33) rfl 4 arr4 _ _ rfl 120 _ h2 (by rw [hul.out]; simp; omega) (bv x) (by rw [← EL.out, Nat.sub_mul, Nat.mul_comm n 4]) ?_
              | refine wpList_allocA rfl 119 rfl (bv (zeros 4)) (by kernel_rfl) ?_)
            intro w3 h3 hK3 hz3
            have hE3 := hE.keeps0 hK3
            have hgx := Lib.hid (show g3 < wr.heap.size from hE.ws.lt)
            clear hK3 hE h2 hul
            generalize wr.heap.size = gx at *
            go_wp2_with (first | refine wpList_storeW rfl 119 (.tmp 9) (.tmp 34) rfl 4 arr4 gx rfl (bv x) rfl 119 _ h3 ?_ ?_ (ones_bv _) ?_)
            · simp [SL.out]
            · simp
            intro w4 h4 hK4
            have hE4 := hE3.keeps hK4 hgx.out
            clear hE3 h3 hK4
            have c0 := h4.drew.byte (i := 0) (by rw [SL.out]; decide)
            have c1 := h4.drew.byte (i := 1) (by rw [SL.out]; decide)
            have c2 := h4.drew.byte (i := 2) (by rw [SL.out]; decide)
            have c3 := h4.drew.byte (i := 3) (by rw [SL.out]; decide)
            have hX0 := gd_lt SB.out 0
            have d0 := hE4.drew.t.byte (i := gd x 0) (by simp [tbl, hX0])
            rw [tbl, gd_mk _ hX0] at d0
            have hY0 := box_lt hX0
            have hX1 := gd_lt SB.out 1
            have d1 := hE4.drew.t.byte (i := gd x 1) (by simp [tbl, hX1])
            rw [tbl, gd_mk _ hX1] at d1
            have hY1 := box_lt hX1
            have hX2 := gd_lt SB.out 2
            have d2 := hE4.drew.t.byte (i := gd x 2) (by simp [tbl, hX2])
            rw [tbl, gd_mk _ hX2] at d2
            have hY2 := box_lt hX2
            have hX3 := gd_lt SB.out 3
            have d3 := hE4.drew.t.byte (i := gd x 3) (by simp [tbl, hX3])
            rw [tbl, gd_mk _ hX3] at d3
            have hY3 := box_lt hX3
            obtain ⟨z1, z2⟩ := x8 hY1 (show P < 256 by omega)
            clear z2
            generalize gd x 0 = X0 at *
            generalize box X0 = Y0 at *
            have hXI0 : (X0 : Int) < 256 := by omega
            generalize gd x 1 = X1 at *
            generalize box X1 = Y1 at *
            have hXI1 : (X1 : Int) < 256 := by omega
            generalize gd x 2 = X2 at *
            generalize box X2 = Y2 at *
            have hXI2 : (X2 : Int) < 256 := by omega
            generalize gd x 3 = X3 at *
            generalize box X3 = Y3 at *
            have hXI3 : (X3 : Int) < 256 := by omega
            generalize hV : Y1 ^^^ P = V at *
            replace hV := Lib.hid hV
            clear hY0 hY1 hY2 hY3
            go_wp2
            go_still_tail 19, (by kernel_rfl)
            change wpList _ _ _ _ _ w4.drew
            clear c0 c1 c2 c3 d0 d1 d2 d3
            go_wp2_with (first | refine wpList_storeW rfl 119 (.tmp 9) (.tmp 56) rfl 4 arr4 gx rfl (bv [V, Y2, Y3, Y0]) rfl 119 _ h4.drew ?_ ?_ (ones_bv _) ?_)
            · simp
            · simp [SL.out]
            intro w5 h5 hK5
            have hE5 := hE4.drew.keeps hK5 hgx.out
            clear hE4 h4 hK5
            rw [← HM.out] at h5
            go_wp2_with fail
            refine (hti1.out _).mono ?_
            rintro en w6 ⟨rfl, hB6⟩
            have hE6 := hE5.call hB6
            have h6 := h5.keep hB6
            clear hE5 h5 hB6
            obtain ⟨u, HU⟩ : ∃ u, Hid (u = kmid box n x) := ⟨_, rfl⟩
            rw [← HU.out] at h6
            have ul := Lib.hid (show u.length = 4 by rw [HU.out]; exact krc_length (ksub_length (kturn_length SL.out)))
            have ub := Lib.hid (show Byt u by rw [HU.out]; exact krc_lt (ksub_lt (fun x h => box_lt h) (kturn_lt SB.out)))
            go_wp2
            go_loopw [79] (fun i wr => ∃ j : Nat, (j : Int) ≤ 4 ∧ i = .int .i64 (j : Int) ∧ Blk wr gx 119 (bv u) ∧ Rx w g0 g1 g2 g3 k K (4 * n + j) wr) (fun i _ => 4 - (intOf i).toNat)
            case atStart => exact ⟨0, by omega, rfl, h6, hE6⟩
            case round =>
              clear h6 hE6
              obtain ⟨j, hj, rfl, h6, hE6⟩ := hrel
              by_cases hj4 : (j : Int) < 4
              · have hKl := HK.out.len
                have c0 := hE6.ws.cell ((n - 8) * 4 + j)
                rw [bv_get, upd_get_new (by simp [hKl]) (by omega) (by simp; omega), gd_get (by omega)] at c0
                simp only [Option.map_some] at c0
                have c1 := h6.byte (i := j) (by have := ul.out; omega)
                have c2 := hE6.ws.cell (n * 4 + j)
                rw [bv_get, upd_get (by simp [hKl]) (by omega) (by simp; omega), zeros_get (by omega)] at c2
                simp only [Option.map_some] at c2
                have f2 := hE6.ws.frozen (n * 4 + j)
                have hk := hhi.out j (by omega)
                rw [← HU.out, show 4 * (n - 8) + j = (n - 8) * 4 + j from by omega] at hk
                obtain ⟨q1, q2⟩ := x8 (gd_lt HK.out.byt ((n - 8) * 4 + j)) (gd_lt ub.out j)
                rw [← hk] at q1
                have hE7 := Rx.set hE6.drew hKl (m := 4 * n + j) (by omega)
                rw [show 4 * n + j = n * 4 + j from by omega] at hE7
                rw [show 4 * n + j = n * 4 + j from by omega] at q1
                generalize gd K (n * 4 + j) = Y at *
                generalize gd K ((n - 8) * 4 + j) = X at *
                generalize gd u j = V at *
                have hE7 := Lib.hid hE7
                clear hk q2 hKl
                have b1 : IntKind.i64.wrap ((n : Int) - 8) = (n : Int) - 8 := IntWalk.i64_in _ (by omega)
                have b2 : (0 : Int) ≤ (n : Int) - 8 := by omega
                have b3 : (n : Int) - 8 < 60 := by omega
                have b4 : ((n : Int) - 8).toNat = n - 8 := by omega
                go_wp2
                go_still_tail 14, (by kernel_rfl)
                change wpList _ _ _ _ _ wr.drew
                clear b1 b2 b3 b4
                go_wp2
                go_roundw
                case rel => exact ⟨j + 1, by omega, by go_num, (h6.drew).far (by simp; have := hgx.out; omega) _, by rw [show 4 * n + (j + 1) = n * 4 + j + 1 from by omega]; exact hE7.out⟩
                case measure => simp [intOf]; omega
              · obtain rfl : j = 4 := by omega
                go_wp2
                go_roundw
                case rel => exact ⟨n + 1, by omega, by omega, by rw [hP1.out], by go_num, hE6⟩
                case measure => simp [intOf]; omega
          · have t8 : (((n : Nat) : Int) % 8 == 0) = false := by simp; omega
            have t4 : (((n : Nat) : Int) % 8 == 4) = true := by simp; omega
            have hpe := Lib.hid (pwr_else (n := n) (by omega) (by omega) (by omega))
            have HM := Lib.hid (kmid4 (t := box) (x := x) hc)
            generalize hP : pwr n = P at *
            replace hP := Lib.hid hP
            have HC := Lib.hid hc
            clear hc
            go_wp2_with (first
              | refine wpList_loadA rfl 119 (.tmp 33) rfl 4 arr4 _ _ rfl 120 _ h2 (by rw [hul.out]; simp; omega) (bv x) (by rw [← EL.out, Nat.sub_mul, Nat.mul_comm n 4]) ?_
              | refine wpList_allocA rfl 119 rfl (bv (zeros 4)) (by kernel_rfl) ?_)
            intro w3 h3 hK3 hz3
            have hE3 := hE.keeps0 hK3
            have hgx := Lib.hid (show g3 < wr.heap.size from hE.ws.lt)
            clear hK3 hE h2 hul
            generalize wr.heap.size = gx at *
            go_wp2_with (first | refine wpList_storeW rfl 119 (.tmp 9) (.tmp 34) rfl 4 arr4 gx rfl (bv x) rfl 119 _ h3 ?_ ?_ (ones_bv _) ?_)
            · simp [SL.out]
            · simp
            intro w4 h4 hK4
            have hE4 := hE3.keeps hK4 hgx.out
            clear hE3 h3 hK4
            have c0 := h4.drew.byte (i := 0) (by rw [SL.out]; decide)
            have c1 := h4.drew.byte (i := 1) (by rw [SL.out]; decide)
            have c2 := h4.drew.byte (i := 2) (by rw [SL.out]; decide)
            have c3 := h4.drew.byte (i := 3) (by rw [SL.out]; decide)
            have hX0 := gd_lt SB.out 0
            have d0 := hE4.drew.t.byte (i := gd x 0) (by simp [tbl, hX0])
            rw [tbl, gd_mk _ hX0] at d0
            have hY0 := box_lt hX0
            have hX1 := gd_lt SB.out 1
            have d1 := hE4.drew.t.byte (i := gd x 1) (by simp [tbl, hX1])
            rw [tbl, gd_mk _ hX1] at d1
            have hY1 := box_lt hX1
            have hX2 := gd_lt SB.out 2
            have d2 := hE4.drew.t.byte (i := gd x 2) (by simp [tbl, hX2])
            rw [tbl, gd_mk _ hX2] at d2
            have hY2 := box_lt hX2
            have hX3 := gd_lt SB.out 3
            have d3 := hE4.drew.t.byte (i := gd x 3) (by simp [tbl, hX3])
            rw [tbl, gd_mk _ hX3] at d3
            have hY3 := box_lt hX3
            generalize gd x 0 = X0 at *
            generalize box X0 = Y0 at *
            have hXI0 : (X0 : Int) < 256 := by omega
            generalize gd x 1 = X1 at *
            generalize box X1 = Y1 at *
            have hXI1 : (X1 : Int) < 256 := by omega
            generalize gd x 2 = X2 at *
            generalize box X2 = Y2 at *
            have hXI2 : (X2 : Int) < 256 := by omega
            generalize gd x 3 = X3 at *
            generalize box X3 = Y3 at *
            have hXI3 : (X3 : Int) < 256 := by omega
            clear hY0 hY1 hY2 hY3
            go_wp2
            go_still_tail 17, (by kernel_rfl)
            change wpList _ _ _ _ _ w4.drew
            clear c0 c1 c2 c3 d0 d1 d2 d3
            go_wp2_with (first | refine wpList_storeW rfl 119 (.tmp 9) (.tmp 78) rfl 4 arr4 gx rfl (bv [Y0, Y1, Y2, Y3]) rfl 119 _ h4.drew ?_ ?_ (ones_bv _) ?_)
            · simp
            · simp [SL.out]
            intro w5 h5 hK5
            have hE6 := hE4.drew.keeps hK5 hgx.out
            clear hE4 h4 hK5
            rw [← HM.out] at h5
            have h6 := h5
            clear h5
            obtain ⟨u, HU⟩ : ∃ u, Hid (u = kmid box n x) := ⟨_, rfl⟩
            rw [← HU.out] at h6
            have ul := Lib.hid (show u.length = 4 by rw [HU.out]; exact krc_length (ksub_length (kturn_length SL.out)))
            have ub := Lib.hid (show Byt u by rw [HU.out]; exact krc_lt (ksub_lt (fun x h => box_lt h) (kturn_lt SB.out)))
            go_wp2
            go_loopw [79] (fun i wr => ∃ j : Nat, (j : Int) ≤ 4 ∧ i = .int .i64 (j : Int) ∧ Blk wr gx 119 (bv u) ∧ Rx w g0 g1 g2 g3 k K (4 * n + j) wr) (fun i _ => 4 - (intOf i).toNat)
            case atStart => exact ⟨0, by omega, rfl, h6, hE6⟩
            case round =>
              clear h6 hE6
              obtain ⟨j, hj, rfl, h6, hE6⟩ := hrel
              by_cases hj4 : (j : Int) < 4
              · have hKl := HK.out.len
                have c0 := hE6.ws.cell ((n - 8) * 4 + j)
                rw [bv_get, upd_get_new (by simp [hKl]) (by omega) (by simp; omega), gd_get (by omega)] at c0
                simp only [Option.map_some] at c0
                have c1 := h6.byte (i := j) (by have := ul.out; omega)
                have c2 := hE6.ws.cell (n * 4 + j)
                rw [bv_get, upd_get (by simp [hKl]) (by omega) (by simp; omega), zeros_get (by omega)] at c2
                simp only [Option.map_some] at c2
                have f2 := hE6.ws.frozen (n * 4 + j)
                have hk := hhi.out j (by omega)
                rw [← HU.out, show 4 * (n - 8) + j = (n - 8) * 4 + j from by omega] at hk
                obtain ⟨q1, q2⟩ := x8 (gd_lt HK.out.byt ((n - 8) * 4 + j)) (gd_lt ub.out j)
                rw [← hk] at q1
                have hE7 := Rx.set hE6.drew hKl (m := 4 * n + j) (by omega)
                rw [show 4 * n + j = n * 4 + j from by omega] at hE7
                rw [show 4 * n + j = n * 4 + j from by omega] at q1
                generalize gd K (n * 4 + j) = Y at *
                generalize gd K ((n - 8) * 4 + j) = X at *
                generalize gd u j = V at *
                have hE7 := Lib.hid hE7
                clear hk q2 hKl
                have b1 : IntKind.i64.wrap ((n : Int) - 8) = (n : Int) - 8 := IntWalk.i64_in _ (by omega)
                have b2 : (0 : Int) ≤ (n : Int) - 8 := by omega
                have b3 : (n : Int) - 8 < 60 := by omega
                have b4 : ((n : Int) - 8).toNat = n - 8 := by omega
                go_wp2
                go_still_tail 14, (by kernel_rfl)
                change wpList _ _ _ _ _ wr.drew
                clear b1 b2 b3 b4
                go_wp2
                go_roundw
                case rel => exact ⟨j + 1, by omega, by go_num, (h6.drew).far (by simp; have := hgx.out; omega) _, by rw [show 4 * n + (j + 1) = n * 4 + j + 1 from by omega]; exact hE7.out⟩
                case measure => simp [intOf]; omega
              · obtain rfl : j = 4 := by omega
                go_wp2
                go_roundw
                case rel => exact ⟨n + 1, by omega, by omega, by rw [hpe.out], by go_num, hE6⟩
                case measure => simp [intOf]; omega
          · have t8 : (((n : Nat) : Int) % 8 == 0) = false := by simp; omega
            have t4 : (((n : Nat) : Int) % 8 == 4) = false := by simp; omega
            have hpe := Lib.hid (pwr_else (n := n) (by omega) (by omega) (by omega))
            have HM := Lib.hid (kmidE (t := box) (x := x) hc)
            generalize hP : pwr n = P at *
            replace hP := Lib.hid hP
            have HC := Lib.hid hc
            clear hc
            go_wp2_with (first
              | refine wpList_loadA rfl 119 (.tmp 33) rfl 4 arr4 _ _ rfl 120 _ h2 (by rw [hul.out]; simp; omega) (bv x) (by rw [← EL.out, Nat.sub_mul, Nat.mul_comm n 4]) ?_
              | refine wpList_allocA rfl 119 rfl (bv (zeros 4)) (by kernel_rfl) ?_)
            intro w3 h3 hK3 hz3
            have hE3 := hE.keeps0 hK3
            have hgx := Lib.hid (show g3 < wr.heap.size from hE.ws.lt)
            clear hK3 hE h2 hul
            generalize wr.heap.size = gx at *
            go_wp2_with (first | refine wpList_storeW rfl 119 (.tmp 9) (.tmp 34) rfl 4 arr4 gx rfl (bv x) rfl 119 _ h3 ?_ ?_ (ones_bv _) ?_)
            · simp [SL.out]
            · simp
            intro w4 h4 hK4
            have hE4 := hE3.keeps hK4 hgx.out
            clear hE3 h3 hK4
            have hE6 := hE4
            have h6 := h4
            clear hE4 h4
            obtain ⟨u, HU⟩ : ∃ u, Hid (u = kmid box n x) := ⟨_, rfl⟩
            rw [show x = u from by rw [HU.out, HM.out]] at h6
            have ul := Lib.hid (show u.length = 4 by rw [HU.out]; exact krc_length (ksub_length (kturn_length SL.out)))
            have ub := Lib.hid (show Byt u by rw [HU.out]; exact krc_lt (ksub_lt (fun x h => box_lt h) (kturn_lt SB.out)))
            go_wp2
            go_loopw [79] (fun i wr => ∃ j : Nat, (j : Int) ≤ 4 ∧ i = .int .i64 (j : Int) ∧ Blk wr gx 119 (bv u) ∧ Rx w g0 g1 g2 g3 k K (4 * n + j) wr) (fun i _ => 4 - (intOf i).toNat)
            case atStart => exact ⟨0, by omega, rfl, h6, hE6⟩
            case round =>
              clear h6 hE6
              obtain ⟨j, hj, rfl, h6, hE6⟩ := hrel
              by_cases hj4 : (j : Int) < 4
              · have hKl := HK.out.len
                have c0 := hE6.ws.cell ((n - 8) * 4 + j)
                rw [bv_get, upd_get_new (by simp [hKl]) (by omega) (by simp; omega), gd_get (by omega)] at c0
                simp only [Option.map_some] at c0
                have c1 := h6.byte (i := j) (by have := ul.out; omega)
                have c2 := hE6.ws.cell (n * 4 + j)
                rw [bv_get, upd_get (by simp [hKl]) (by omega) (by simp; omega), zeros_get (by omega)] at c2
                simp only [Option.map_some] at c2
                have f2 := hE6.ws.frozen (n * 4 + j)
                have hk := hhi.out j (by omega)
                rw [← HU.out, show 4 * (n - 8) + j = (n - 8) * 4 + j from by omega] at hk
                obtain ⟨q1, q2⟩ := x8 (gd_lt HK.out.byt ((n - 8) * 4 + j)) (gd_lt ub.out j)
                rw [← hk] at q1
                have hE7 := Rx.set hE6.drew hKl (m := 4 * n + j) (by omega)
                rw [show 4 * n + j = n * 4 + j from by omega] at hE7
                rw [show 4 * n + j = n * 4 + j from by omega] at q1
                generalize gd K (n * 4 + j) = Y at *
                generalize gd K ((n - 8) * 4 + j) = X at *
                generalize gd u j = V at *
                have hE7 := Lib.hid hE7
                clear hk q2 hKl
                have b1 : IntKind.i64.wrap ((n : Int) - 8) = (n : Int) - 8 := IntWalk.i64_in _ (by omega)
                have b2 : (0 : Int) ≤ (n : Int) - 8 := by omega
                have b3 : (n : Int) - 8 < 60 := by omega
                have b4 : ((n : Int) - 8).toNat = n - 8 := by omega
                go_wp2
                go_still_tail 14, (by kernel_rfl)
                change wpList _ _ _ _ _ wr.drew
                clear b1 b2 b3 b4
                go_wp2
                go_roundw
                case rel => exact ⟨j + 1, by omega, by go_num, (h6.drew).far (by simp; have := hgx.out; omega) _, by rw [show 4 * n + (j + 1) = n * 4 + j + 1 from by omega]; exact hE7.out⟩
                case measure => simp [intOf]; omega
              · obtain rfl : j = 4 := by omega
                go_wp2
                go_roundw
                case rel => exact ⟨n + 1, by omega, by omega, by rw [hpe.out], by go_num, hE6⟩
                case measure => simp [intOf]; omega
        · obtain rfl : n = 60 := by omega
          have hKl := HK.out.len
          have h1 := hE.o
          have h2 := hE.ws
          have hB := hE.below
          have hul : (bv K).length = 240 := by simp [hKl]
          rw [show 4 * 60 = 240 from rfl, upd_all hKl (by simp)] at h2
          have hg23 := Lib.hid hE.o3
          have hg02 := Lib.hid (show w.heap.size ≤ g2 by have := hE.o0; have := hE.o1; have := hE.o2; omega)
          clear hE
          have HKl := Lib.hid hKl
          clear hKl
          go_wp2_with (first | refine wpList_allocA rfl 138 rfl (bv (zeros 240)) (by kernel_rfl) ?_)
          intro w3 h3 hK3 hz3
          have hg34 := Lib.hid (show g3 < wr.heap.size from h2.lt)
          replace h1 := h1.keeps hK3 (by simp)
          replace h2 := h2.keeps hK3 (by simp)
          replace hB := hB.trans (hK3.below hB.size (by simp))
          clear hK3 hz3 hul
          generalize wr.heap.size = g4 at *
          go_wp2
          go_loopw [97] (fun i wr => ∃ i' : Nat, (i' : Int) ≤ 60 ∧ i = .int .i64 (i' : Int) ∧ Blk wr g2 138 (bv (zeros 240)) ∧ Blk wr g3 120 (bv K) ∧ Blk wr g4 138 (bv (upd K (zeros 240) (4 * i'))) ∧ Below w.heap.size w wr) (fun i _ => 60 - (intOf i).toNat)
          case atStart => exact ⟨0, by omega, rfl, h1, h2, by simpa [upd_zero] using h3, hB⟩
          case round =>
            clear h1 h2 h3 hB
            obtain ⟨i, hi, rfl, h1, h2, h3, hB⟩ := hrel
            by_cases hlt : (i : Int) < 60
            · have EL : Hid (((bv K).drop (4 * i)).take 4 = bv (seg K (4 * i) 4)) := by show _ = _; rw [bv_seg]; rfl
              have SL := Lib.hid (seg_length (l := K) (o := 4 * i) (n := 4) (by have := HKl.out; omega))
              obtain ⟨q, hq⟩ : ∃ q, q = i / 4 := ⟨_, rfl⟩
              obtain ⟨r, hr⟩ : ∃ r, r = i % 4 := ⟨_, rfl⟩
              have HQ : Hid (i = 4 * q + r ∧ r < 4 ∧ q < 15) := by show _ ∧ _ ∧ _; omega
              have a1 : IntKind.i64.wrap ((i : Int) / 4) = (q : Int) := by rw [IntWalk.i64_in _ (by omega)]; omega
              have a2 : (i : Int).tmod 4 = (r : Int) := by rw [Int.tmod_eq_emod_of_nonneg (by omega)]; omega
              have a3 : (q : Int) < 15 := by omega
              have a4 : (r : Int) < 4 := by omega
              have a5 : IntKind.i64.wrap (4 * (r : Int)) = 4 * (r : Int) := IntWalk.i64_in _ (by omega)
              clear hq hr
              go_wp2
              go_still_tail 10, (by kernel_rfl)
              refine wpStill_sliceA_l rfl 71 (.tmp 102) (.tmp 105) rfl 16 5 1 Try.underlying71 (by kernel_rfl) _ _ rfl _ rfl (4 * r) (by omega) (by have := HQ.out; omega) ?_
              repeat still_step
              refine wpStill_nil ?_
              change wpList _ _ _ _ _ wr.drew
              clear a1 a2 a3 a4 a5
              replace h1 := h1.drew
              replace h2 := h2.drew
              replace h3 := h3.drew
              have hul : Hid ((bv (upd K (zeros 240) (4 * i))).length = 240) := by show _ = _; rw [bv_length, upd_length (by simp [HKl.out]) (by simp; omega)]; simp
              go_wp2_with (refine wpList_copyA rfl (.tmp 106) (.tmp 109) 22 22 rfl 5 Try.underlying22 (by kernel_rfl) g4 _ _ _ rfl ⟨g3, _, none⟩ _ _ rfl 138 _ h3 (bv (seg K (4 * i) 4)) ?_ ?_ ?_ (ones_bv _) ?_)
              · rw [bv_length, SL.out]; exact (Nat.min_eq_left (by have := HQ.out; omega)).symm
              · intro j v hj
                rw [h2.cellAdd]
                rw [← EL.out, List.getElem?_take] at hj
                split at hj
                · rw [List.getElem?_drop] at hj; rw [Nat.mul_comm i 4]; simpa using hj
                · cases hj
              · rw [hul.out, bv_length, SL.out]; have := HQ.out; omega
              intro w5 h5 hK5
              have h5' : Blk w5 g4 138 (bv (upd K (zeros 240) (4 * (i + 1)))) := by
                rw [putL_bv, SL.out, show q * 16 + 4 * r = 4 * i from by have := HQ.out; omega] at h5
                have := upd_put (new := K) (old := zeros 240) (k := 4 * i) (n := 4) (by simp [HKl.out]) (by simp; omega)
                rw [show 4 * (i + 1) = 4 * i + 4 from by omega, ← this]
                exact h5
              have h1' := h1.keeps hK5 (by simp; have := hg23.out; have := hg34.out; omega)
              have h2' := h2.keeps hK5 (by simp; have := hg34.out; omega)
              have hB' := hB.drew.trans (hK5.below hB.drew.size (by simp; have := hg02.out; have := hg23.out; have := hg34.out; omega))
              clear h1 h2 h3 h5 hK5 hB hul
              go_wp2
              go_roundw
              case rel => exact ⟨i + 1, by omega, by go_num, h1', h2', h5', hB'⟩
              case measure => simp [intOf]; omega
            · obtain rfl : i = 60 := by omega
              rw [show 4 * 60 = 240 from rfl, upd_all HKl.out (by simp)] at h3
              have hul : Hid ((bv K).length = 240) := by show _ = _; simp [HKl.out]
              go_wp2_with (first
                | refine wpList_loadW rfl 138 (.tmp 11) rfl 240 arrR15 _ rfl 138 _ h3 hul.out ?_
                | refine wpList_storeW rfl 138 (.tmp 4) (.tmp 112) rfl 240 arrR15 _ rfl (bv K) rfl 138 _ h1 hul.out (by simp) (ones_bv _) ?_)
              intro w' h4 hK
              go_wp2
              exact bodyPost_ret (v := .agg (bv K).toArray) (res_cell Try.results79 _ _ _ 138 _ arrR15 hul.out rfl h4) rfl (hRet.out _ (hB.trans (hK.below hB.size (by intro b hb; simp only [List.mem_singleton] at hb; subst hb; exact hg02.out))))
end Go.Proofs.Ytlifpmglaoppoaa

/- Contract of banyanref04: Seal. -/
namespace Go.Proofs.Ytlifpmglaoppoaa
open Go.RowKit
open Go.Proofs.PlainAes

theorem arrK32 : ArrTy Try.prog 24 32 := ⟨_, Try.underlying24, rfl, by kernel_rfl⟩

/-- What lies there while a block is sealed. -/
structure Sr (w : World) (g0 g2 g3 gk : Nat) (K b : List Nat) (wr : World) : Prop where
  t : Blk wr g0 38 (bv (tbl box))
  b : Blk wr g2 71 (bv b)
  r : Blk wr g3 71 (bv (zeros 16))
  k : Blk wr gk 138 (bv K)
  below : Below w.heap.size w wr
  o0 : w.heap.size ≤ g0
  o1 : g0 < g2
  o2 : g2 < g3
  o3 : g3 < gk
section
variable {w wr wr' : World} {g0 g2 g3 gk g : Nat} {K b b' : List Nat}
theorem Sr.call (h : Sr w g0 g2 g3 gk K b wr) (hB : Below wr.heap.size wr wr') : Sr w g0 g2 g3 gk K b wr' :=
  ⟨h.t.keep hB, h.b.keep hB, h.r.keep hB, h.k.keep hB, below_call h.below h.below.size hB, h.o0, h.o1, h.o2, h.o3⟩
theorem Sr.keeps0 (h : Sr w g0 g2 g3 gk K b wr) (hB : Keeps [] wr wr') : Sr w g0 g2 g3 gk K b wr' := h.call (hB.below (Nat.le_refl _) (by simp))
theorem Sr.keeps (h : Sr w g0 g2 g3 gk K b wr) (hk : Keeps [g] wr wr') (hg : gk < g) : Sr w g0 g2 g3 gk K b wr' := by
  have h0 := h.o0
  have h1 := h.o1
  have h2 := h.o2
  have h3 := h.o3
  exact ⟨h.t.keeps hk (by simp; omega), h.b.keeps hk (by simp; omega), h.r.keeps hk (by simp; omega), h.k.keeps hk (by simp; omega), h.below.trans (hk.below h.below.size (by simp; omega)), h0, h1, h2, h3⟩
theorem Sr.put (h : Sr w g0 g2 g3 gk K b wr) (hk : Keeps [g2] wr wr') (hb : Blk wr' g2 71 (bv b')) : Sr w g0 g2 g3 gk K b' wr' := by
  have h0 := h.o0
  have h1 := h.o1
  have h2 := h.o2
  have h3 := h.o3
  exact ⟨h.t.keeps hk (by simp; omega), hb, h.r.keeps hk (by simp; omega), h.k.keeps hk (by simp; omega), h.below.trans (hk.below h.below.size (by simp; omega)), h0, h1, h2, h3⟩
theorem Sr.drew (h : Sr w g0 g2 g3 gk K b wr) : Sr w g0 g2 g3 gk K b wr.drew := ⟨h.t, h.b, h.r, h.k, h.below.drew, h.o0, h.o1, h.o2, h.o3⟩
end

set_option maxRecDepth 100000 in
set_option maxHeartbeats 4000000 in
theorem rseal_any (k b : List Nat) (w : World) (hk : k.length = 32) (bk : Byt k) (hb : b.length = 16) (bb : Byt b) :
    Calls Try.prog 66 #[.agg (bv (tbl box)).toArray, .agg (bv k).toArray, .agg (bv b).toArray] w (RetA (sealB box (keys box k) b) w) := by
  have hro := Lib.hid (fun w => rrounds_any k w hk bk)
  have hsum := Lib.hid (fun a b w ha hb ba bb => rsum_any a b w ha hb ba bb)
  have hcol := Lib.hid (fun (b : List Nat) w (hb : b.length = 16) (bb : Byt b) => rcolumns_any b [2, 3, 1, 1] w hb rfl bb (by intro x hx; simp only [List.mem_cons, List.not_mem_nil, or_false] at hx; omega))
  have hmixE := Lib.hid (fun (b : List Nat) (bb : Byt b) => colL_mix b bb)
  have hkl := Lib.hid (show (bv k).length = 32 by simp [hk])
  have Kl := Lib.hid (keys_length box hk)
  have Kb := Lib.hid (bk.keys)
  have Hb := Lib.hid hb
  have Bb := Lib.hid bb
  have hKl := Lib.hid (show (bv (keys box k)).length = 240 by simp [keys_length box hk])
  clear hk bk hb bb
  generalize keys box k = K at *
  have hRet : Hid (∀ w', Below w.heap.size w w' → RetA (sealB box K b) w (.returned (.agg (bv (sealB box K b)).toArray)) w') := fun w' h => ⟨rfl, h⟩
  generalize RetA (sealB box K b) w = RX at *
  generalize hR : sealB box K b = R at *
  have HR := Lib.hid hR
  clear hR
  go_enter Try.func66, Try.ntmps66
  go_wp2_with (refine wpList_allocA rfl 71 rfl (bv (zeros 16)) (by kernel_rfl) ?_)
  intro w1 h3 hK1 hz1
  have h0 := (((Blk.new_at (w := w) (t := 38) (cs := (bv (tbl box)).toArray) rfl rfl).alloc (.cells (bv k).toArray 24)).alloc (.cells (bv b).toArray 71)).keeps hK1 (by simp)
  have h1 := ((Blk.new_at (w := w.alloc (.cells (bv (tbl box)).toArray 38)) (t := 24) (cs := (bv k).toArray) rfl rfl).alloc (.cells (bv b).toArray 71)).keeps hK1 (by simp)
  have h2 := (Blk.new_at (w := (w.alloc (.cells (bv (tbl box)).toArray 38)).alloc (.cells (bv k).toArray 24)) (t := 71) (cs := (bv b).toArray) rfl rfl).keeps hK1 (by simp)
  simp only [List.size_toArray, World.size_alloc] at h0 h1 h2 h3
  have hB : Below w.heap.size w w1 := ((((Below.refl _ _).alloc (Nat.le_refl _) _).alloc (by simp) _).alloc (by simp; omega) _).trans (hK1.below (by simp; omega) (by simp))
  clear hK1 hz1
  go_wp2_with (first
    | refine wpList_loadW rfl 38 (.tmp 3) rfl 256 arrT256 _ rfl 38 _ h0 (tbl_len _) ?_
    | refine wpList_loadW rfl 24 (.tmp 4) rfl 32 arrK32 _ rfl 24 _ h1 hkl.out ?_
    | (go_at_call 79; refine (hro.out _).mono ?_; rintro e w2 ⟨rfl, hB2⟩)
    | refine wpList_allocA rfl 138 rfl (bv (zeros 240)) (by kernel_rfl) ?_)
  intro w3 h4 hK3 hz3
  have ho3 : Hid (w.heap.size + 1 + 1 + 1 < w2.heap.size) := by show _ < _; have := h3.lt; have := hB2.size; omega
  replace h0 := (h0.keep hB2).keeps hK3 (by simp)
  replace h2 := (h2.keep hB2).keeps hK3 (by simp)
  replace h3 := (h3.keep hB2).keeps hK3 (by simp)
  replace hB := (below_call hB hB.size hB2).trans (hK3.below (by have := hB.size; have := hB2.size; omega) (by simp))
  clear hK3 hB2 h1
  generalize w2.heap.size = gk at *
  go_wp2_with (refine wpList_storeW rfl 138 (.tmp 7) (.tmp 14) rfl 240 arrR15 gk rfl (bv K) rfl 138 _ h4 hKl.out (by simp) (ones_bv _) ?_)
  intro w7 h7 hK7
  have hS : Sr w w.heap.size (w.heap.size + 1 + 1) (w.heap.size + 1 + 1 + 1) gk K b w7 :=
    ⟨h0.keeps hK7 (by simp; have := ho3.out; omega), h2.keeps hK7 (by simp; have := ho3.out; omega), h3.keeps hK7 (by simp; have := ho3.out; omega), h7, hB.trans (hK7.below hB.size (by simp; have := ho3.out; omega)), Nat.le_refl _, by omega, by omega, ho3.out⟩
  clear h0 h2 h3 h4 h7 hB hK7 ho3 hz3
  generalize w.heap.size + 1 + 1 + 1 = g3 at *
  generalize w.heap.size + 1 + 1 = g2 at *
  generalize w.heap.size + 1 = g1 at *
  generalize hg0 : w.heap.size = g0 at hS
  replace hg0 := Lib.hid hg0
  have hbl := Lib.hid (show (bv b).length = 16 by simp [Hb.out])
  have sb := hS.b
  have sk := hS.k
  have EK : Hid (((bv K).drop 0).take 16 = bv (rkey K 0)) := by show _ = _; rw [bv_seg]; rfl
  go_wp2_with (first
    | refine wpList_loadW rfl 71 (.tmp 5) rfl 16 arrR16 _ rfl 71 _ sb hbl.out ?_
    | refine wpList_loadA rfl 71 (.tmp 16) rfl 16 arrR16 _ _ rfl 138 _ sk (by rw [hKl.out]; simp) (bv (rkey K 0)) (by simpa using EK.out) ?_
    | (go_at_call 80; refine (hsum.out b (rkey K 0) _ Hb.out (rkey_length Kl.out (by decide)) Bb.out (rkey_lt Kb.out 0)).mono ?_; rintro e w8 ⟨rfl, hB8⟩)
    | refine wpList_storeW rfl 71 (.tmp 5) (.tmp 18) rfl 16 arrR16 _ rfl (bv (xorl b (rkey K 0))) rfl 71 _ (sb.keep hB8) ?_ ?_ (ones_bv _) ?_)
  · rw [bv_length]; exact sealN_length (t := box) Kl.out Hb.out (n := 0) (by decide)
  · exact hbl.out
  intro w9 h9 hK9
  have hS9 : Sr w g0 g2 g3 gk K (sealN box K b 0) w9 := (hS.call hB8).put hK9 h9
  clear sb sk hS h9 hK9 hB8
  go_wp2
  go_loopw [8] (fun i wr => ∃ n : Nat, (n : Int) ≤ 14 ∧ i = .int .i64 ((n : Int) + 1) ∧ Sr w g0 g2 g3 gk K (sealN box K b n) wr) (fun i _ => (15 - intOf i).toNat)
  case atStart => exact ⟨0, by omega, rfl, hS9⟩
  case round =>
    clear hS9
    obtain ⟨n, hn, rfl, hS⟩ := hrel
    by_cases hlt : (n : Int) + 1 < 15
    · have sl := Lib.hid (sealN_length (t := box) Kl.out Hb.out (n := n) (by omega))
      have sb' := Lib.hid (sealN_lt (t := box) (fun x h => box_lt h) Kb.out Bb.out n)
      have hnext : Hid (sealN box K b (n + 1) = sround box K (n + 1) (sealN box K b n)) := rfl
      generalize sealN box K b n = c at *
      obtain ⟨d, hd⟩ : ∃ d, d = sealN box K b (n + 1) := ⟨_, rfl⟩
      rw [← hd] at hnext
      have HD := Lib.hid hd
      clear hd
      have hgx := Lib.hid (show gk < wr.heap.size from hS.k.lt)
      go_wp2_with (refine wpList_allocA rfl 71 rfl (bv (zeros 16)) (by kernel_rfl) ?_)
      intro w1 h1 hK1 hz1
      have hS1 := hS.keeps0 hK1
      clear hK1 hS hz1
      generalize wr.heap.size = gx at *
      go_wp2
      go_loopw [10] (fun i wr => ∃ e : Nat, (e : Int) ≤ 4 ∧ i = .int .i64 (e : Int) ∧ Blk wr gx 71 (bv (upd (shiftB box c) (zeros 16) (4 * e))) ∧ Sr w g0 g2 g3 gk K c wr) (fun i _ => (4 - intOf i).toNat)
      case atStart => exact ⟨0, by omega, rfl, by rw [Nat.mul_zero, upd_zero]; exact h1, hS1⟩
      case round =>
        clear h1 hS1
        obtain ⟨e, he, rfl, h1, hS⟩ := hrel
        by_cases he4 : (e : Int) < 4
        · go_wp2
          go_loopw [11] (fun i wr => ∃ r : Nat, (r : Int) ≤ 4 ∧ i = .int .i64 (r : Int) ∧ Blk wr gx 71 (bv (upd (shiftB box c) (zeros 16) (4 * e + r))) ∧ Sr w g0 g2 g3 gk K c wr) (fun i _ => (4 - intOf i).toNat)
          case atStart => exact ⟨0, by omega, rfl, h1, hS⟩
          case round =>
            clear h1 hS
            obtain ⟨r, hr, rfl, h1, hS⟩ := hrel
            by_cases hr4 : (r : Int) < 4
            · obtain ⟨p, hp⟩ : ∃ p, Hid (p = 4 * e + r) := ⟨_, rfl⟩
              obtain ⟨q, hq⟩ : ∃ q, Hid (q = (p + 4 * (p % 4)) % 16) := ⟨_, rfl⟩
              obtain ⟨s, hs⟩ : ∃ s, Hid (s = (e + r) % 4) := ⟨_, rfl⟩
              obtain ⟨e4, he4'⟩ : ∃ e4, Hid (e4 = 4 * e) := ⟨_, rfl⟩
              obtain ⟨s4, hs4⟩ : ∃ s4, Hid (s4 = 4 * s) := ⟨_, rfl⟩
              have hpq : q = 4 * s + r := by have h1 := hp.out; have h2 := hq.out; have h3 := hs.out; omega
              rw [← hp.out] at h1
              have b1 : (4 : Int) * (e : Int) = (e4 : Int) := by have := he4'.out; omega
              have b2 : (e4 : Int) + (r : Int) = (p : Int) := by have := he4'.out; have := hp.out; omega
              have b3 : Int.tmod ((e : Int) + (r : Int)) 4 = (s : Int) := by rw [hs.out, Int.tmod_eq_emod_of_nonneg (by omega)]; omega
              have b3' : (4 : Int) * (s : Int) = (s4 : Int) := by have := hs4.out; omega
              have b4 : (s4 : Int) + (r : Int) = (q : Int) := by have := hs4.out; omega
              have b5 : (p : Int) < 16 := by have := hp.out; omega
              have b6 : (q : Int) < 16 := by have := hq.out; omega
              have b7 : (e4 : Int) ≤ 12 := by have := he4'.out; omega
              have b8 : (s4 : Int) ≤ 12 := by have := hs4.out; have := hs.out; omega
              have b9 : (s : Int) ≤ 3 := by have := hs.out; omega
              clear hpq
              have hse := Lib.hid (upd_set (new := shiftB box c) (old := zeros 16) (k := p) (by simp) (by simp; omega) (mk_get _ (by omega)))
              rw [← hq.out] at hse
              have c0 := hS.b.byte (i := q) (by rw [sl.out]; omega)
              have hX := gd_lt sb'.out q
              have c1 := hS.t.byte (i := gd c q) (by simp [tbl, hX])
              rw [tbl, gd_mk _ hX] at c1
              have c2 := h1.cell p
              rw [bv_get, upd_get (by simp) (Nat.le_refl _) (by simp; omega), zeros_get (by omega)] at c2
              simp only [Option.map_some] at c2
              have f2 := h1.frozen p
              generalize gd c q = X at *
              generalize box X = Y at *
              have hXI : (X : Int) < 256 := by omega
              have hpr : Hid (p + 1 = 4 * e + (r + 1)) := by show _ = _; have := hp.out; omega
              have hset : Hid (Blk (wr.setCell ⟨gx, p, none⟩ (.int .u8 (Y : Int))) gx 71 (bv (upd (shiftB box c) (zeros 16) (p + 1)))) := by
                rw [← hse.out, ← bv_set]
                exact h1.set_ p _
              have hS' := Lib.hid (hS.keeps ((Keeps.refl [gx] wr).setCell (p := ⟨gx, p, none⟩) (by simp) (.int .u8 (Y : Int))) hgx.out)
              clear h1 hS
              go_wp2
              go_roundw
              case rel =>
                refine ⟨r + 1, by omega, by go_num, ?_, hS'.out⟩
                rw [← hpr.out]
                exact hset.out
              case measure => simp [intOf]; omega
            · obtain rfl : r = 4 := by omega
              rw [show 4 * e + 4 = 4 * (e + 1) from by omega] at h1
              go_wp2
              go_roundw
              case rel => exact ⟨e + 1, by omega, by go_num, h1, hS⟩
              case measure => simp [intOf]; omega
        · obtain rfl : e = 4 := by omega
          rw [upd_all (by simp) (by simp)] at h1
          have hsl := Lib.hid (show (bv (shiftB box c)).length = 16 by simp)
          have hsb := Lib.hid (shiftB_lt (t := box) (fun x h => box_lt h) sb'.out)
          have hsn := Lib.hid (shiftB_length box c)
          generalize hse : shiftB box c = s at *
          have hse := Lib.hid hse
          by_cases hn13 : (n : Int) + 1 < 14
          · have sb := hS.b
            have hcs := Lib.hid (fun w => hcol.out s w hsn.out hsb.out)
            rw [hmixE.out s hsb.out] at hcs
            go_wp2_with (first
              | refine wpList_loadW rfl 71 (.tmp 9) rfl 16 arrR16 gx rfl 71 _ h1 hsl.out ?_
              | (go_at_call 81; refine (hcs.out _).mono ?_; rintro e w8 ⟨rfl, hB8⟩)
              | refine wpList_storeW rfl 71 (.tmp 9) (.tmp 51) rfl 16 arrR16 gx rfl (bv (mix s)) rfl 71 _ (h1.keep hB8) ?_ ?_ (ones_bv _) ?_)
            · simp
            · exact hsl.out
            intro w9 h1 hK9
            have hS := (hS.call hB8).keeps hK9 hgx.out
            have hz : Hid (d = xorl (mix s) (rkey K (n + 1))) := by show _ = _; rw [hnext.out, sround, if_pos (by omega), hse.out]
            have hzl := Lib.hid (show (bv (mix s)).length = 16 by simp)
            have hzb := Lib.hid (mix_lt hsb.out)
            have hzn := Lib.hid (mix_length s)
            clear hcs
            generalize mix s = z at *
            clear sb hK9 hB8
            go_wp2
            have a1 : IntKind.i64.wrap ((n : Int) + 1) = (n : Int) + 1 := IntWalk.i64_in _ (by omega)
            have a2 : (0 : Int) ≤ (n : Int) + 1 := by omega
            have a3 : (n : Int) + 1 < 15 := by omega
            have a4 : ((n : Int) + 1).toNat = n + 1 := by omega
            have h1d := h1.drew
            have skd := hS.drew.k
            have EK : Hid (((bv K).drop ((n + 1) * 16)).take 16 = bv (rkey K (n + 1))) := by show _ = _; rw [bv_seg, Nat.mul_comm]; rfl
            go_still_tail 4, (by kernel_rfl)
            refine wpStill_loadW rfl 71 (.tmp 9) rfl 16 arrR16 gx rfl 71 _ h1d hzl.out ?_
            repeat still_step
            refine wpStill_loadA rfl 71 (.tmp 54) rfl 16 arrR16 _ _ rfl 138 _ skd (by rw [hKl.out]; omega) (bv (rkey K (n + 1))) EK.out ?_
            refine wpStill_nil ?_
            change wpList _ _ _ _ _ (World.drew _)
            clear a1 a2 a3 a4
            have hS := hS.drew
            have sb := hS.b
            go_wp2_with (first
              | (go_at_call 80; refine (hsum.out z (rkey K (n + 1)) _ hzn.out (rkey_length Kl.out (by omega)) hzb.out (rkey_lt Kb.out _)).mono ?_; rintro e w8 ⟨rfl, hB8⟩)
              | refine wpList_storeW rfl 71 (.tmp 5) (.tmp 56) rfl 16 arrR16 _ rfl (bv (xorl z (rkey K (n + 1)))) rfl 71 _ (sb.keep hB8) ?_ ?_ (ones_bv _) ?_)
            · rw [bv_length, xorl_length (by rw [hzn.out, rkey_length Kl.out (by omega)]), hzn.out]
            · rw [bv_length, sl.out]
            intro w9 h9 hK9
            rw [← hz.out] at h9
            have hS9 : Sr w g0 g2 g3 gk K d w9 := (hS.call hB8).put hK9 h9
            clear sb hS h9 hK9 hB8 h1 h1d skd
            rw [HD.out] at hS9
            go_wp2
            go_roundw
            case rel => exact ⟨n + 1, by omega, by go_num, hS9⟩
            case measure => simp [intOf]; omega
          · obtain rfl : n = 13 := by omega
            have hz : Hid (d = xorl s (rkey K (13 + 1))) := by show _ = _; rw [hnext.out, sround, if_neg (by omega), hse.out]
            have hzl := hsl
            have hzb := hsb
            have hzn := hsn
            obtain ⟨z, rfl⟩ : ∃ z, z = s := ⟨_, rfl⟩
            go_wp2
            have a1 : IntKind.i64.wrap (14) = 14 := IntWalk.i64_in _ (by omega)
            have a2 : (0 : Int) ≤ 14 := by omega
            have a3 : 14 < 15 := by omega
            have a4 : (14 : Int).toNat = 14 := by omega
            have h1d := h1.drew
            have skd := hS.drew.k
            have EK : Hid (((bv K).drop (14 * 16)).take 16 = bv (rkey K 14)) := by show _ = _; rw [bv_seg, Nat.mul_comm]; rfl
            go_still_tail 4, (by kernel_rfl)
            refine wpStill_loadW rfl 71 (.tmp 9) rfl 16 arrR16 gx rfl 71 _ h1d hzl.out ?_
            repeat still_step
            refine wpStill_loadA rfl 71 (.tmp 54) rfl 16 arrR16 _ _ rfl 138 _ skd (by rw [hKl.out]; omega) (bv (rkey K 14)) EK.out ?_
            refine wpStill_nil ?_
            change wpList _ _ _ _ _ (World.drew _)
            clear a1 a2 a3 a4
            have hS := hS.drew
            have sb := hS.b
            go_wp2_with (first
              | (go_at_call 80; refine (hsum.out z (rkey K 14) _ hzn.out (rkey_length Kl.out (by omega)) hzb.out (rkey_lt Kb.out _)).mono ?_; rintro e w8 ⟨rfl, hB8⟩)
              | refine wpList_storeW rfl 71 (.tmp 5) (.tmp 56) rfl 16 arrR16 _ rfl (bv (xorl z (rkey K 14))) rfl 71 _ (sb.keep hB8) ?_ ?_ (ones_bv _) ?_)
            · rw [bv_length, xorl_length (by rw [hzn.out, rkey_length Kl.out (by omega)]), hzn.out]
            · rw [bv_length, sl.out]
            intro w9 h9 hK9
            rw [← hz.out] at h9
            have hS9 : Sr w g0 g2 g3 gk K d w9 := (hS.call hB8).put hK9 h9
            clear sb hS h9 hK9 hB8 h1 h1d skd
            rw [HD.out] at hS9
            go_wp2
            go_roundw
            case rel => exact ⟨14, by omega, by go_num, hS9⟩
            case measure => simp [intOf]
    · obtain rfl : n = 14 := by omega
      have sl := Lib.hid (show (bv (sealN box K b 14)).length = 16 by rw [bv_length]; exact sealN_length (t := box) Kl.out Hb.out (n := 14) (by omega))
      have sb := hS.b
      have sr := hS.r
      have hB := hS.below
      have ho := Lib.hid (show w.heap.size ≤ g3 by have := hS.o0; have := hS.o1; have := hS.o2; omega)
      clear hS
      rw [show sealN box K b 14 = R from HR.out] at sb sl
      go_wp2_with (first
        | refine wpList_loadW rfl 71 (.tmp 5) rfl 16 arrR16 _ rfl 71 _ sb sl.out ?_
        | refine wpList_storeW rfl 71 (.tmp 6) (.tmp 57) rfl 16 arrR16 _ rfl (bv R) rfl 71 _ sr sl.out (by simp) (ones_bv _) ?_)
      intro w9 h9 hK9
      go_wp2
      exact bodyPost_ret (v := .agg (bv R).toArray) (res_cell Try.results66 _ _ _ 71 _ arrR16 sl.out rfl h9) rfl (hRet.out _ (hB.trans (hK9.below hB.size (by intro b hb; simp only [List.mem_singleton] at hb; subst hb; exact ho.out))))
end Go.Proofs.Ytlifpmglaoppoaa
