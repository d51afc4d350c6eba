/- Hashers in walks; rows of constants. -/
import Derived.Test.YthlebobfbalknaaShH
set_option linter.unusedVariables false
set_option linter.unusedSimpArgs false
namespace Go.Proofs.Ythlebobfbalknaa
open Go.RowKit
open Go.Proofs.PlainAes
open Go.Proofs.PlainSha

theorem Sl.of_new (w : World) (cs : Array Value) (t : TypeId) (fr : Nat × Nat) (h : cs.size ≤ maxLen) : Sl (w.alloc (.cells cs t fr)) (.slice (some ⟨w.heap.size, 0, none⟩) cs.size cs.size) cs.toList := by
  refine ⟨some ⟨w.heap.size, 0, none⟩, cs.size, by simp, by simp, h, fun _ => ⟨w.heap.size, 0, rfl, fun i u hu => ?_⟩⟩
  have := cell_of_row (w.alloc (.cells cs t fr)) w.heap.size i cs t fr (heap_alloc_new w _)
  rw [Nat.zero_add, this]
  simpa using hu
/-! ### For the walks -/
theorem Hsh.row {w : World} {B g : Nat} {r : Option Nat} {l : List Nat} (h : Hsh w B g r l) : ∀ k, r = some k → B ≤ k ∧ k < w.heap.size := by
  obtain ⟨v, h1, h2, h3, h4, h5⟩ := h
  intro k hk
  exact h2.lt k (h3.trans hk)
theorem Hsh.lt {w : World} {B g : Nat} {r : Option Nat} {l : List Nat} (h : Hsh w B g r l) : B ≤ g ∧ g < w.heap.size := by
  obtain ⟨v, h1, h2, h3, h4, h5⟩ := h
  exact ⟨h5, h1.lt⟩
theorem Hsh.ne {w : World} {B g : Nat} {r : Option Nat} {l : List Nat} (h : Hsh w B g r l) : r ≠ some g := by
  obtain ⟨v, h1, h2, h3, h4, h5⟩ := h
  exact h4
/-- Apart from what a hasher that is written may turn. -/
theorem Hsh.other {w w' : World} {g B' h : Nat} {r r' : Option Nat} {l : List Nat} (hh : Hsh w B' h r' l) (hK : Keeps (g :: r.toList) w w') (h1 : h ≠ g) (h2 : r ≠ some h) (h3 : r' ≠ some g) (h4 : ∀ k, r' = some k → r ≠ some k) : Hsh w' B' h r' l := by
  refine hh.keeps hK ?_ ?_
  · intro hm
    simp only [List.mem_cons, Option.mem_toList] at hm
    rcases hm with e | e
    · exact h1 e
    · exact h2 e
  · intro k hk hm
    simp only [List.mem_cons, Option.mem_toList] at hm
    rcases hm with e | e
    · exact h3 (by rw [hk, e])
    · exact h4 k hk e
theorem Blk.other {w w' : World} {g b t : Nat} {r : Option Nat} {cs : List Value} (hb : Blk w b t cs) (hK : Keeps (g :: r.toList) w w') (h1 : b ≠ g) (h2 : r ≠ some b) : Blk w' b t cs := by
  refine hb.keeps hK ?_
  intro hm
  simp only [List.mem_cons, Option.mem_toList] at hm
  rcases hm with e | e
  · exact h1 e
  · exact h2 e
theorem Keeps.belowH {w w' : World} {B g : Nat} {r : Option Nat} (hK : Keeps (g :: r.toList) w w') (hB : B ≤ w.heap.size) (h1 : B ≤ g) (h2 : ∀ k, r = some k → B ≤ k) : Below B w w' :=
  hK.below hB (by
    intro b hm
    simp only [List.mem_cons, Option.mem_toList] at hm
    rcases hm with e | e
    · omega
    · exact h2 b e)
theorem take_seg1 (l : List Nat) (k : Nat) (h : k < l.length) : l.take k ++ seg l k 1 = l.take (k + 1) := by
  rw [seg, List.take_add]
theorem bytH : ByteArr Try.prog 25 32 := ⟨⟨_, Try.underlying25, Try.underlying5, by kernel_rfl⟩, by kernel_rfl⟩
theorem bvsh (l : List Nat) : (bv (shaL l)).length = 32 := by rw [bv_length]; exact outL_length _
theorem shlen (l : List Nat) : (shaL l).length = 32 := outL_length _
end Go.Proofs.Ythlebobfbalknaa
