/- An argument that is a slice of bytes: nil, or not. -/
import Derived.Test.YtfhlenclnknnhaaOpenA
set_option linter.unusedVariables false
set_option linter.unusedSimpArgs false
namespace Go.Proofs.Ytfhlenclnknnhaa
open Go.ChangeShapes Go.WideShapes Go.ChangeAt Go.RowKit
set_option maxRecDepth 100000 in
theorem open_bytesN {H : Type} {enc : TypeId × Value → H} {W : World} {base : Nat} {v : Value} {d : DataW H} {p : List MemPlace}
    (hv : Value.okWide Try.prog W .any base 35 v) (h : DataW.Trod enc Try.prog W 0 (fun _ => true) true 35 v d p)
    (hs : ∀ el sp : List (DataW H), d = .slice el sp → (el.length + sp.length) * Try.checked.prog.bytesOf 5 ≤ reachBytes) :
    ∃ l : List Nat, Sl W v (bv l) ∧ (∀ b ∈ l, b < 256) ∧ l.length ≤ 140737488351232 ∧ ((∃ A n c, v = .slice (some A) n c) ∨ v = .slice none 0 0) := by
  obtain ⟨l, h1, h2, h3⟩ := open_bytes hv h hs
  refine ⟨l, h1, h2, h3, ?_⟩
  obtain ⟨a, len, cap, rfl⟩ := okWide_slice Try.underlying35 hv
  obtain ⟨fuel, hf⟩ := h
  rcases open_ints Try.underlying35 Try.underlying5 (by kernel_rfl) hf with ⟨hcs, _⟩ | ⟨x, l, c, zs, hcs, _⟩
  · simp [Value.cells] at hcs
    obtain ⟨rfl, rfl, rfl⟩ := hcs
    exact .inr rfl
  · simp [Value.cells] at hcs
    obtain ⟨rfl, rfl, rfl⟩ := hcs
    exact .inl ⟨_, _, _, rfl⟩
end Go.Proofs.Ytfhlenclnknnhaa
