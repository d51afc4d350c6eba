/- The statements' own example (alive) of layer 2. -/
import Derived.Test.YtenpehhmomhooaaShX
import Derived.Test.YtenpehhmomhooaaShK
import Derived.Test.YtenpehhmomhooaaShN
import Derived.Lib.SlBytesConst
set_option linter.unusedVariables false
set_option linter.unusedSimpArgs false
namespace Go.Proofs.Ytenpehhmomhooaa
open Go.RowKit
open Go.Proofs.PlainAes
open Go.Proofs.PlainSha

theorem abc_byt : Byt abc := by
  intro x hx
  simp only [abc, List.mem_cons, List.not_mem_nil, or_false] at hx
  omega
def abcS : ByteArray := bstr (hexL (shaL abc))
theorem abcS_eq : (abcS.toList == [98, 97, 55, 56, 49, 54, 98, 102, 56, 102, 48, 49, 99, 102, 101, 97, 52, 49, 52, 49, 52, 48, 100, 101, 53, 100, 97, 101, 50, 50, 50, 51, 98, 48, 48, 51, 54, 49, 97, 51, 57, 54, 49, 55, 55, 97, 57, 99, 98, 52, 49, 48, 102, 102, 54, 49, 102, 50, 48, 48, 49, 53, 97, 100]) = true := by
  rw [ByteArray.toList_eq]
  unfold abcS
  rw [shaL_abc]
  decide +kernel
set_option maxRecDepth 100000 in
set_option maxHeartbeats 1000000 in
theorem alive_any (w : World) : Calls Try.prog 10 #[] w fun e w' => e = .returned (.bool true) ∧ Below w.heap.size w w' := by
  have hn := Lib.hid (fun w => sum_none w)
  have hsum := Lib.hid (fun v w h => shasum_any abc v w h abc_byt (by decide))
  have hhex : Hid (∀ w, Calls Try.prog 13 #[.agg (bv (shaL abc)).toArray] w fun e w' => e = .returned (.string abcS) ∧ Below w.heap.size w w') := Lib.hid (fun w => hex_any (shaL abc) w (outL_length _) (outL_byt _))
  have hs := Lib.hid abcS_eq
  have hz := Lib.hid (show (bv (zeros 32)).length = 32 by simp)
  have kc := fun (w : World) (C : Array Value) (n c : Nat) => Lib.run_convert_bytes_const (P := Try.prog) w 22 5 C n c Try.underlying22 Try.underlying5
  change Hid (∀ v w, _ → Calls _ _ _ w (RetH (shaL abc) w)) at hsum
  generalize shaL abc = X at *
  generalize abcS = S at *
  go_enter Try.func10, Try.ntmps10
  go_wp2_with fail
  refine (hn.out _).mono ?_
  rintro e w1 ⟨rfl, hB1⟩
  go_wp2_with (refine wpList_allocA rfl 24 rfl (bv (zeros 32)) (by kernel_rfl) ?_)
  intro w2 h2 hK2 hz2
  have hB2 := hB1.trans (hK2.below hB1.size (by simp))
  have hg2 : w.heap.size ≤ w1.heap.size := hB1.size
  clear hK2 hB1
  generalize w1.heap.size = g2 at *
  go_wp2_with (refine wpList_storeW rfl 24 (.tmp 2) (.tmp 7) rfl 32 arrH g2 rfl (bv (zeros 32)) rfl 24 _ h2 hz.out (by simp) (ones_bv _) ?_)
  intro w3 h3 hK3
  have hB3 := hB2.trans (hK3.below hB2.size (by simp; omega))
  clear hK3 h2 hB2 h3 hz2
  have hsl : Sl (w3.alloc (.cells #[.int .u8 97, .int .u8 98, .int .u8 99] 5 (3, 4))) (.slice (some ⟨w3.heap.size, 0, none⟩) 3 3) (bv abc) := Sl.of_new w3 #[.int .u8 97, .int .u8 98, .int .u8 99] 5 (3, 4) (by unfold maxLen; simp)
  have hsm := Lib.hid (hsum.out _ _ hsl)
  have hB4 : Below w.heap.size w (w3.alloc (.cells #[.int .u8 97, .int .u8 98, .int .u8 99] 5 (3, 4))) := hB3.alloc hB3.size _
  clear hsl hB3
  go_wp2_with fail
  refine hsm.out.mono ?_
  rintro e w5 ⟨rfl, hB5⟩
  have hB5' := below_call hB4 hB4.size hB5
  clear hB4 hB5
  go_wp2_with fail
  refine (hhex.out _).mono ?_
  rintro e w6 ⟨rfl, hB6⟩
  have hB6' := below_call hB5' hB5'.size hB6
  clear hB6 hB5'
  have hs := hs.out
  go_wp2
  go_ret
  exact ⟨rfl, hB6'⟩
end Go.Proofs.Ytenpehhmomhooaa
