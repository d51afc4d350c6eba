/- Contract of banyanref02's Hex. -/
import Derived.Test.YtenpehhmomhooaaShX
import Derived.Test.YtenpehhmomhooaaScD
set_option linter.unusedVariables false
set_option linter.unusedSimpArgs false
namespace Go.Proofs.Ytenpehhmomhooaa
open Go.RowKit
open Go.Proofs.PlainAes
open Go.Proofs.PlainSha

def digs : ByteArray := { data := #[48, 49, 50, 51, 52, 53, 54, 55, 56, 57, 97, 98, 99, 100, 101, 102] }
theorem dig_slice (a : Nat) (h : a < 16) (w : World) : (Instr.sliceAt 9 (.string digs) (some (.int .u8 (a : Int))) (some (.int .u8 ((a : Int) + 1))) none).run Try.prog w = .ok (.string (bstr [hexd a])) w := by
  rcases (by omega : a = 0 ∨ a = 1 ∨ a = 2 ∨ a = 3 ∨ a = 4 ∨ a = 5 ∨ a = 6 ∨ a = 7 ∨ a = 8 ∨ a = 9 ∨ a = 10 ∨ a = 11 ∨ a = 12 ∨ a = 13 ∨ a = 14 ∨ a = 15) with rfl | rfl | rfl | rfl | rfl | rfl | rfl | rfl | rfl | rfl | rfl | rfl | rfl | rfl | rfl | rfl <;> kernel_rfl
theorem bstr_app (l m : List Nat) : bstr l ++ bstr m = bstr (l ++ m) := by
  apply ByteArray.ext
  simp [bstr]
theorem cat_run {P : Program} (l m : List Nat) (h : l.length + m.length ≤ 1000) (w : World) : (Op.stringOp .add (bstr l) (bstr m)).run P w = .ok (.string (bstr (l ++ m))) w := by
  have hs : ∀ l : List Nat, (bstr l).size = l.length := fun l => by simp [bstr, ByteArray.size]
  have hm : IntKind.i64.max = 9223372036854775807 := by decide
  unfold Op.stringOp
  simp only [hs, hm]
  rw [if_neg (by omega), bstr_app]
  rfl
set_option maxRecDepth 100000 in
set_option maxHeartbeats 1000000 in
theorem rhex_any (x : List Nat) (w : World) (hx : x.length = 32) (bx : Byt x) : Calls Try.prog 14 #[.agg (bv x).toArray] w fun e w' => e = .returned (.string (bstr (hexL x))) ∧ Below w.heap.size w w' := by
  have hxl := Lib.hid (show (bv x).length = 32 by rw [bv_length, hx])
  have hB0 := Lib.hid ((Below.refl w.heap.size w).alloc (Nat.le_refl _) (.cells (bv x).toArray 24))
  have h0 := Blk.new w 24 (bv x).toArray
  go_enter Try.func14, Try.ntmps14
  go_wp2_with (refine wpList_loadW rfl 24 (.tmp 1) rfl 32 arrH w.heap.size rfl 24 (bv x) h0 hxl.out ?_)
  go_loopw [3, 7] (fun s i wr => ∃ k : Nat, k ≤ 32 ∧ i = .int .i64 (k : Int) ∧ s = .string (bstr (hexL (x.take k))) ∧ Below w.heap.size w wr) (fun _ i _ => 32 - (intOf i).toNat)
  case atStart => exact ⟨0, by omega, rfl, rfl, hB0.out⟩
  case round =>
    obtain ⟨k, hk, rfl, rfl, hB⟩ := hrel
    by_cases hlt : (k : Int) < 32
    · have hix := fun w => index_byte x k hx (by omega) w
      have hc : gd x k < 256 := gd_lt bx k
      have hst := Lib.hid (show hexL (x.take (k + 1)) = hexL (x.take k) ++ ([hexd (gd x k / 16)] ++ [hexd (gd x k % 16)]) by
        rw [List.take_add_one, gd_get (by omega)]
        simp [hexL])
      generalize gd x k = c at *
      have e1 := fun w => dig_slice (c / 16) (by omega) w
      have e2 := fun w => dig_slice (c % 16) (by omega) w
      have hq1 : (c : Int) / 16 = ((c / 16 : Nat) : Int) := rfl
      have hq2 : (c : Int) % 16 = ((c % 16 : Nat) : Int) := rfl
      have hq3 : Int.tdiv (c : Int) 16 = ((c / 16 : Nat) : Int) := by rw [Int.tdiv_eq_ediv_of_nonneg (by omega)]; rfl
      have hq4 : Int.tmod (c : Int) 16 = ((c % 16 : Nat) : Int) := by rw [Int.tmod_eq_emod_of_nonneg (by omega)]; rfl
      have l1 : c / 16 < 16 := by omega
      have l2 : c % 16 < 16 := by omega
      generalize c / 16 = a at *
      generalize c % 16 = b at *
      have w3 : IntKind.u8.wrap (a : Int) = (a : Int) := by rw [IntKind.wrap_u8]; omega
      have w4 : IntKind.u8.wrap (b : Int) = (b : Int) := by rw [IntKind.wrap_u8]; omega
      have w1 : IntKind.u8.wrap ((a : Int) + 1) = (a : Int) + 1 := by rw [IntKind.wrap_u8]; omega
      have w2 : IntKind.u8.wrap ((b : Int) + 1) = (b : Int) + 1 := by rw [IntKind.wrap_u8]; omega
      unfold digs at e1 e2
      have c1 := fun w => cat_run (P := Try.prog) [hexd a] [hexd b] (by simp) w
      have hll : (hexL (x.take k)).length ≤ 64 := by rw [hexL_length, List.length_take]; omega
      have c2 := fun w => cat_run (P := Try.prog) (hexL (x.take k)) ([hexd a] ++ [hexd b]) (by simp; omega) w
      generalize [hexd a] ++ [hexd b] = Y at *
      generalize [hexd a] = Z1 at *
      generalize [hexd b] = Z2 at *
      clear hll
      go_wp2
      go_quiet (fail)
      replace hB := below_drewN hB nq
      generalize wr.drewN nq = w8 at *
      clear e1 e2 c1 c2 hix
      go_wp2
      go_roundw
      case rel => exact ⟨k + 1, by omega, by go_num, by rw [hst.out], hB⟩
      case measure => simp [intOf]; omega
    · obtain rfl : k = 32 := by omega
      rw [List.take_of_length_le (by omega)]
      go_wp2
      go_ret
      exact ⟨rfl, hB⟩
end Go.Proofs.Ytenpehhmomhooaa
