/- The statements' own example (alive) of layer 2. -/
import Derived.Test.YtenpehhmomhooaaShX
import Derived.Lib.SlBytesConst
set_option linter.unusedVariables false
set_option linter.unusedSimpArgs false
namespace Go.Proofs.Ytenpehhmomhooaa
open Go.RowKit
open Go.Proofs.PlainAes
open Go.Proofs.PlainSha

theorem abc_byt : Byt abc := by
  intro x hx
  simp only [abc, List.mem_cons, List.not_mem_nil, or_false] at hx
  omega
theorem Sl.of_new (w : World) (cs : Array Value) (t : TypeId) (fr : Nat × Nat) (h : cs.size ≤ maxLen) : Sl (w.alloc (.cells cs t fr)) (.slice (some ⟨w.heap.size, 0, none⟩) cs.size cs.size) cs.toList := by
  refine ⟨some ⟨w.heap.size, 0, none⟩, cs.size, by simp, by simp, h, fun _ => ⟨w.heap.size, 0, rfl, fun i u hu => ?_⟩⟩
  have := cell_of_row (w.alloc (.cells cs t fr)) w.heap.size i cs t fr (heap_alloc_new w _)
  rw [Nat.zero_add, this]
  simpa using hu
def abcS : ByteArray := bstr (hexL (shaL abc))
theorem abcS_eq : (abcS.toList == [98, 97, 55, 56, 49, 54, 98, 102, 56, 102, 48, 49, 99, 102, 101, 97, 52, 49, 52, 49, 52, 48, 100, 101, 53, 100, 97, 101, 50, 50, 50, 51, 98, 48, 48, 51, 54, 49, 97, 51, 57, 54, 49, 55, 55, 97, 57, 99, 98, 52, 49, 48, 102, 102, 54, 49, 102, 50, 48, 48, 49, 53, 97, 100]) = true := by
  rw [ByteArray.toList_eq]
  unfold abcS
  rw [shaL_abc]
  decide +kernel
set_option maxRecDepth 100000 in
set_option maxHeartbeats 1000000 in
theorem alive_any (w : World) : Calls Try.prog 10 #[] w fun e w' => e = .returned (.bool true) ∧ Below w.heap.size w w' := by
  have hn := Lib.hid (fun w => sum_none w)
  have hsum := Lib.hid (fun v w h => shasum_any abc v w h abc_byt (by decide))
  have hhex : Hid (∀ w, Calls Try.prog 13 #[.agg (bv (shaL abc)).toArray] w fun e w' => e = .returned (.string abcS) ∧ Below w.heap.size w w') := Lib.hid (fun w => hex_any (shaL abc) w (outL_length _) (outL_byt _))
  have hs := Lib.hid abcS_eq
  have hz := Lib.hid (show (bv (zeros 32)).length = 32 by simp)
  have kc := fun (w : World) (C : Array Value) (n c : Nat) => Lib.run_convert_bytes_const (P := Try.prog) w 22 5 C n c Try.underlying22 Try.underlying5
  change Hid (∀ v w, _ → Calls _ _ _ w (RetH (shaL abc) w)) at hsum
  generalize shaL abc = X at *
  generalize abcS = S at *
  go_enter Try.func10, Try.ntmps10
  go_wp2_with fail
  refine (hn.out _).mono ?_
  rintro e w1 ⟨rfl, hB1⟩
  go_wp2_with (refine wpList_allocA rfl 24 rfl (bv (zeros 32)) (by kernel_rfl) ?_)
  intro w2 h2 hK2 hz2
  have hB2 := hB1.trans (hK2.below hB1.size (by simp))
  have hg2 : w.heap.size ≤ w1.heap.size := hB1.size
  clear hK2 hB1
  generalize w1.heap.size = g2 at *
  go_wp2_with (refine wpList_storeW rfl 24 (.tmp 2) (.tmp 7) rfl 32 arrH g2 rfl (bv (zeros 32)) rfl 24 _ h2 hz.out (by simp) (ones_bv _) ?_)
  intro w3 h3 hK3
  have hB3 := hB2.trans (hK3.below hB2.size (by simp; omega))
  clear hK3 h2 hB2 h3 hz2
  have hsl : Sl (w3.alloc (.cells #[.int .u8 97, .int .u8 98, .int .u8 99] 5 (3, 4))) (.slice (some ⟨w3.heap.size, 0, none⟩) 3 3) (bv abc) := Sl.of_new w3 #[.int .u8 97, .int .u8 98, .int .u8 99] 5 (3, 4) (by unfold maxLen; simp)
  have hsm := Lib.hid (hsum.out _ _ hsl)
  have hB4 : Below w.heap.size w (w3.alloc (.cells #[.int .u8 97, .int .u8 98, .int .u8 99] 5 (3, 4))) := hB3.alloc hB3.size _
  clear hsl hB3
  go_wp2_with fail
  refine hsm.out.mono ?_
  rintro e w5 ⟨rfl, hB5⟩
  have hB5' := below_call hB4 hB4.size hB5
  clear hB4 hB5
  go_wp2_with fail
  refine (hhex.out _).mono ?_
  rintro e w6 ⟨rfl, hB6⟩
  have hB6' := below_call hB5' hB5'.size hB6
  clear hB6 hB5'
  have hs := hs.out
  go_wp2
  go_ret
  exact ⟨rfl, hB6'⟩
/-! ### For the walks -/
theorem Hsh.row {w : World} {B g : Nat} {r : Option Nat} {l : List Nat} (h : Hsh w B g r l) : ∀ k, r = some k → B ≤ k ∧ k < w.heap.size := by
  obtain ⟨v, h1, h2, h3, h4, h5⟩ := h
  intro k hk
  exact h2.lt k (h3.trans hk)
theorem Hsh.lt {w : World} {B g : Nat} {r : Option Nat} {l : List Nat} (h : Hsh w B g r l) : B ≤ g ∧ g < w.heap.size := by
  obtain ⟨v, h1, h2, h3, h4, h5⟩ := h
  exact ⟨h5, h1.lt⟩
theorem Hsh.ne {w : World} {B g : Nat} {r : Option Nat} {l : List Nat} (h : Hsh w B g r l) : r ≠ some g := by
  obtain ⟨v, h1, h2, h3, h4, h5⟩ := h
  exact h4
/-- Apart from what a hasher that is written may turn. -/
theorem Hsh.other {w w' : World} {g B' h : Nat} {r r' : Option Nat} {l : List Nat} (hh : Hsh w B' h r' l) (hK : Keeps (g :: r.toList) w w') (h1 : h ≠ g) (h2 : r ≠ some h) (h3 : r' ≠ some g) (h4 : ∀ k, r' = some k → r ≠ some k) : Hsh w' B' h r' l := by
  refine hh.keeps hK ?_ ?_
  · intro hm
    simp only [List.mem_cons, Option.mem_toList] at hm
    rcases hm with e | e
    · exact h1 e
    · exact h2 e
  · intro k hk hm
    simp only [List.mem_cons, Option.mem_toList] at hm
    rcases hm with e | e
    · exact h3 (by rw [hk, e])
    · exact h4 k hk e
theorem Blk.other {w w' : World} {g b t : Nat} {r : Option Nat} {cs : List Value} (hb : Blk w b t cs) (hK : Keeps (g :: r.toList) w w') (h1 : b ≠ g) (h2 : r ≠ some b) : Blk w' b t cs := by
  refine hb.keeps hK ?_
  intro hm
  simp only [List.mem_cons, Option.mem_toList] at hm
  rcases hm with e | e
  · exact h1 e
  · exact h2 e
theorem Keeps.belowH {w w' : World} {B g : Nat} {r : Option Nat} (hK : Keeps (g :: r.toList) w w') (hB : B ≤ w.heap.size) (h1 : B ≤ g) (h2 : ∀ k, r = some k → B ≤ k) : Below B w w' :=
  hK.below hB (by
    intro b hm
    simp only [List.mem_cons, Option.mem_toList] at hm
    rcases hm with e | e
    · omega
    · exact h2 b e)
theorem take_seg1 (l : List Nat) (k : Nat) (h : k < l.length) : l.take k ++ seg l k 1 = l.take (k + 1) := by
  rw [seg, List.take_add]
theorem bytH : ByteArr Try.prog 24 32 := ⟨⟨_, Try.underlying24, Try.underlying5, by kernel_rfl⟩, by kernel_rfl⟩
theorem bvsh (l : List Nat) : (bv (shaL l)).length = 32 := by rw [bv_length]; exact outL_length _
theorem shlen (l : List Nat) : (shaL l).length = 32 := outL_length _
end Go.Proofs.Ytenpehhmomhooaa
