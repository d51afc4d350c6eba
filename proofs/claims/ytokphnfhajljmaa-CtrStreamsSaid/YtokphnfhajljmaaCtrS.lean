/- A struct of layer 5's statements: what its cells read as. -/
import Derived.Test.YtokphnfhajljmaaSlC
import Derived.Test.YtokphnfhajljmaaCtrR
set_option linter.unusedVariables false
set_option linter.unusedSimpArgs false
namespace Go.Proofs.Ytokphnfhajljmaa
open Go.RowKit
open Go.Proofs.PlainAes
theorem arr32' : ArrTy Try.prog 22 32 := ⟨_, Try.underlying22, rfl, by kernel_rfl⟩
theorem arr12' : ArrTy Try.prog 29 12 := ⟨_, Try.underlying29, rfl, by kernel_rfl⟩
abbrev FourS (g : Nat) (k n : List Nat) (va vb : Value) (w : World) : Prop := w.rangeAt g 0 (bv k) ∧ w.rangeAt g 32 (bv n) ∧ w.cell? ⟨g, 44, none⟩ = some va ∧ w.cell? ⟨g, 45, none⟩ = some vb
theorem fourS {w : World} {g t : Nat} {k n : List Nat} {va vb : Value} (hk : k.length = 32) (hn : n.length = 12) (h0 : Blk w g t (bv k ++ (bv n ++ [va, vb]))) : FourS g k n va vb w := by
  have h : Blk w g t (bv k ++ bv n ++ [va, vb]) := by rwa [List.append_assoc]
  have hkl : (bv k).length = 32 := by simp [hk]
  have hnl : (bv n).length = 12 := by simp [hn]
  refine ⟨fun j v hv => ?_, fun j v hv => ?_, ?_, ?_⟩
  · have hj := (List.getElem?_eq_some_iff.1 hv).1
    rw [h.cell, Nat.zero_add, List.append_assoc, List.getElem?_append_left hj, hv]
  · have hj := (List.getElem?_eq_some_iff.1 hv).1
    rw [h.cell, List.append_assoc, List.getElem?_append_right (by omega), List.getElem?_append_left (by omega), ← hv]
    congr 1
    omega
  · rw [h.cell, List.getElem?_append_right (by simp [hk, hn])]
    simp [hk, hn]
  · rw [h.cell, List.getElem?_append_right (by simp [hk, hn])]
    simp [hk, hn]
theorem madeCells_one (v : Value) (m : Nat) : (madeCells #[v] m).toList = List.replicate m v := by
  apply List.ext_getElem
  · simp [madeCells]
  · intro i h1 h2
    simp [madeCells, Nat.mod_one]
theorem same_self (va vb : Value) (l : List Nat) (w : World) (ha : Sl w va (bv l)) (hb : Sl w vb (bv l)) (hl : ∀ b ∈ l, b < 256) :
    Calls Try.prog 15 #[va, vb] w fun e w' => e = .returned (.bool true) ∧ w = w' :=
  (same_any va vb l l w ha hb hl hl).mono fun e w' h => ⟨by rw [h.1, decide_eq_true rfl], h.2⟩
end Go.Proofs.Ytokphnfhajljmaa
