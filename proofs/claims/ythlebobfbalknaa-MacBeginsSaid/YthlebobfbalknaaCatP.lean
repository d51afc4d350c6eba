/- Rows, one behind the other. -/
import Derived.Test.YthlebobfbalknaaOwn2
import Derived.Test.YthlebobfbalknaaArrB
import Derived.Test.YthlebobfbalknaaShaP
set_option linter.unusedVariables false
set_option linter.unusedSimpArgs false
namespace Go.Proofs.Ythlebobfbalknaa
open Go.RowKit
open Go.Proofs.PlainAes

/-- The first rows, one behind the other. -/
def cat (ls : List (List Nat)) (k : Nat) : List Nat := (ls.take k).flatten
theorem cat_succ {ls : List (List Nat)} {k : Nat} {l : List Nat} (h : ls[k]? = some l) : cat ls (k + 1) = cat ls k ++ l := by
  unfold cat
  rw [List.take_add_one, h]
  simp
theorem cat_le (ls : List (List Nat)) (k : Nat) : (cat ls k).length ≤ (cat ls ls.length).length := by
  have e : cat ls ls.length = cat ls k ++ (ls.drop k).flatten := by
    unfold cat
    rw [List.take_length, ← List.flatten_append, List.take_append_drop]
  rw [e, List.length_append]
  exact Nat.le_add_right _ _
theorem cat_byt {ls : List (List Nat)} (h : ∀ l ∈ ls, Byt l) (k : Nat) : Byt (cat ls k) := by
  intro x hx
  unfold cat at hx
  obtain ⟨l, hl, hx⟩ := List.mem_flatten.1 hx
  exact h l (List.mem_of_mem_take hl) x hx
theorem cat_bound {ls : List (List Nat)} (h : ∀ l ∈ ls, l.length ≤ 140737488351232) : ∀ k, (cat ls k).length ≤ k * 140737488351232
  | 0 => by simp [cat]
  | k + 1 => by
    cases hk : ls[k]? with
    | none =>
      have e : cat ls (k + 1) = cat ls k := by
        unfold cat
        rw [List.take_add_one, hk]
        simp
      rw [e]
      exact Nat.le_trans (cat_bound h k) (Nat.mul_le_mul_right _ (Nat.le_succ k))
    | some l =>
      rw [cat_succ hk, List.length_append, Nat.succ_mul]
      exact Nat.add_le_add (cat_bound h k) (h l (List.mem_of_getElem? hk))

theorem cat_all (ls : List (List Nat)) : cat ls ls.length = ls.flatten := by
  unfold cat
  rw [List.take_length]
end Go.Proofs.Ythlebobfbalknaa
