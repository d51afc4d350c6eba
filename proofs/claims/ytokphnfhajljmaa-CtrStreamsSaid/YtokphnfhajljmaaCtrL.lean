/- The statements' own example (alive) of layer 5. -/
import Derived.Test.YtokphnfhajljmaaCtrC
set_option linter.unusedVariables false
set_option linter.unusedSimpArgs false
namespace Go.Proofs.Ytokphnfhajljmaa
open Go.RowKit
open Go.Proofs.PlainAes

def z32 : List Nat := List.replicate 32 0
def z16 : List Nat := List.replicate 16 0
def z12 : List Nat := List.replicate 12 0
def exE : List Nat := sealB box (keys box z32) z16
theorem ex_head : exE[0]? = some 220 := by decide +kernel
theorem ex_strm : strm z32 z12 0 16 = exE := by
  have h := sblk_mk (k := z32) (n := z12) (by simp [z32]) (by simp [z12]) 0
  rw [Nat.mul_zero] at h
  rw [← h]
  rfl
theorem ex_len : exE.length = 16 := sealB_length (keys_length box (by simp [z32])) (by simp [z16])
theorem z_byt (n : Nat) : Byt (List.replicate n 0) := by
  intro b hb
  rw [List.mem_replicate] at hb
  omega
theorem ex_byt : Byt exE := sealB_lt (fun x h => box_lt h) (keys_lt (fun x h => box_lt h) (z_byt 32)) (z_byt 16)
theorem zk : (#[.int .u8 0, .int .u8 0, .int .u8 0, .int .u8 0, .int .u8 0, .int .u8 0, .int .u8 0, .int .u8 0, .int .u8 0, .int .u8 0, .int .u8 0, .int .u8 0, .int .u8 0, .int .u8 0, .int .u8 0, .int .u8 0, .int .u8 0, .int .u8 0, .int .u8 0, .int .u8 0, .int .u8 0, .int .u8 0, .int .u8 0, .int .u8 0, .int .u8 0, .int .u8 0, .int .u8 0, .int .u8 0, .int .u8 0, .int .u8 0, .int .u8 0, .int .u8 0] : Array Value) = (bv z32).toArray := rfl
theorem zn : (#[.int .u8 0, .int .u8 0, .int .u8 0, .int .u8 0, .int .u8 0, .int .u8 0, .int .u8 0, .int .u8 0, .int .u8 0, .int .u8 0, .int .u8 0, .int .u8 0] : Array Value) = (bv z12).toArray := rfl
theorem zb : (#[.int .u8 0, .int .u8 0, .int .u8 0, .int .u8 0, .int .u8 0, .int .u8 0, .int .u8 0, .int .u8 0, .int .u8 0, .int .u8 0, .int .u8 0, .int .u8 0, .int .u8 0, .int .u8 0, .int .u8 0, .int .u8 0] : Array Value) = (bv z16).toArray := rfl

theorem exE_eq : sealB box (keys box z32) z16 = exE := rfl
theorem z32_len : z32.length = 32 := by simp [z32]
theorem z16_len : z16.length = 16 := by simp [z16]
theorem z12_len : z12.length = 12 := by simp [z12]
theorem z32_byt : Byt z32 := z_byt 32
theorem z16_byt : Byt z16 := z_byt 16
theorem z12_byt : Byt z12 := z_byt 12
theorem ex_stream (w : World) : Calls Try.prog 11 #[.agg (bv z32).toArray, .agg (bv z12).toArray, .int .i64 0, .int .i64 16] w (RetOK exE w) := by
  have h := stream_any z32 z12 0 16 w z32_len z32_byt z12_len z12_byt (by omega) (by omega)
  rw [ex_strm] at h
  exact h
theorem ex_sealed (w : World) : Calls Try.prog 20 #[.agg (bv z32).toArray, .agg (bv z16).toArray] w (RetA exE w) := by
  have h := seal_any z32 z16 w z32_len z32_byt z16_len z16_byt
  rw [exE_eq] at h
  exact h
attribute [irreducible] exE z32 z16 z12

set_option maxRecDepth 100000 in
set_option maxHeartbeats 1000000 in
theorem alive_any (w : World) : Calls Try.prog 9 #[] w fun e w' => e = .returned (.bool true) ∧ Below w.heap.size w w' := by
  have hst := Lib.hid (fun w => ex_stream w)
  have hse := Lib.hid (fun w => ex_sealed w)
  have hsame := Lib.hid (fun va vb w ha hb => same_any va vb exE exE w ha hb ex_byt ex_byt)
  have hel := Lib.hid ex_len
  have heh := Lib.hid ex_head
  have e1 := Lib.hid zk
  have e2 := Lib.hid zn
  have e3 := Lib.hid zb
  generalize exE = E at *
  generalize z32 = Z1 at *
  generalize z16 = Z2 at *
  generalize z12 = Z3 at *
  go_enter Try.func9, Try.ntmps9
  go_wp2_with (first
    | (go_at_call 11; rw [e1.out, e2.out]; refine (hst.out _).mono ?_; rintro e w2 ⟨v, rfl, own, hB2⟩; rw [hel.out] at own; obtain ⟨g, c, rfl, f1, f2⟩ := own_form own (by decide); replace own := Lib.hid own)
    | (go_at_call 20; rw [e1.out, e3.out]; refine (hse.out _).mono ?_; rintro e w5 ⟨rfl, hB5⟩)
    | refine wpList_allocA rfl 55 rfl (bv (zeros 16)) (by kernel_rfl) ?_)
  intro w3 h3 hK3 hz3
  have hgw : w2.heap.size ≤ w5.heap.size := hB5.size
  have hB3 : Below w2.heap.size w2 w3 := hB5.trans (hK3.below hB5.size (by simp))
  clear hK3 hB5 e1 e2 e3
  generalize w5.heap.size = g3 at *
  have hbl := Lib.hid (show (bv E).length = 16 by simp [hel.out])
  go_wp2_with (refine wpList_storeW rfl 55 (.tmp 3) (.tmp 12) rfl 16 arrB g3 rfl (bv E) rfl 55 _ h3 hbl.out (by simp) (ones_bv _) ?_)
  intro w4 h4 hK4
  have hB4 : Below w2.heap.size w2 w4 := hB3.trans (hK4.below hB3.size (by simp; omega))
  have own4 := own_keep own.out hB4
  have hBB := below_call hB2 hB2.size hB4
  have sl1 : Sl w4 (.slice (some ⟨g, 0, none⟩) 16 c) (bv E) := by
    have := Sl.of_own own4
    exact this
  have sl2 : Sl w4 (.slice (some ⟨g3, 0, none⟩) 16 16) (bv E) := by
    have := Sl.of_blk (n := 16) (c := 16) h4 (Nat.le_refl _) (by rw [hbl.out]; exact Nat.le_refl _) (by unfold maxLen; omega)
    rwa [List.take_of_length_le (by rw [hbl.out]; exact Nat.le_refl _)] at this
  have c1 := own4.cellAt 0 (by decide)
  rw [bv_get, heh.out] at c1
  simp only [Option.map_some] at c1
  have hsm := Lib.hid (hsame.out _ _ w4 sl1 sl2)
  rw [decide_true] at hsm
  clear own4 sl1 sl2 h3 hB3 hK4 own
  go_wp2_with fail
  refine hsm.out.mono ?_
  rintro e w6 ⟨rfl, rfl⟩
  go_wp2
  go_ret
  exact ⟨rfl, hBB⟩
end Go.Proofs.Ytokphnfhajljmaa
