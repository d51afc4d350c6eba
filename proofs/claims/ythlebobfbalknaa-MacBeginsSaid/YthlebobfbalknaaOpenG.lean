/- An argument that is a string, opened: it reads as a list of bytes. -/
import Derived.Test.YthlebobfbalknaaOpenA
import Derived.ChangeMaps5
set_option linter.unusedVariables false
set_option linter.unusedSimpArgs false
namespace Go.Proofs.Ythlebobfbalknaa
open Go.ChangeShapes Go.WideShapes Go.ChangeAt Go.RowKit

theorem bstr_of (s : ByteArray) : bstr (s.data.toList.map UInt8.toNat) = s := by
  unfold bstr
  rw [List.map_map]
  have e : (UInt8.ofNat ∘ UInt8.toNat) = id := by
    funext x
    simp
  rw [e, List.map_id]
set_option maxRecDepth 100000 in
theorem open_label {H : Type} {enc : TypeId × Value → H} {W : World} {base : Nat} {v : Value} {d : DataW H} {p : List MemPlace}
    (hv : Value.okWide Try.prog W .any base 9 v) (h : DataW.Trod enc Try.prog W 0 (fun _ => true) true 9 v d p)
    (hs : ∀ bytes : List UInt8, d = .lit (.string bytes) → bytes.length ≤ reachBytes) :
    ∃ l : List Nat, v = .string (bstr l) ∧ (∀ b ∈ l, b < 256) ∧ l.length ≤ 140737488351232 := by
  obtain ⟨s, rfl⟩ := okWide_string Try.underlying9 hv
  obtain ⟨fuel, hf⟩ := h
  obtain ⟨s', h, hx, hsz⟩ := DataW.trod_string Try.underlying9 hf
  simp [Value.cells] at h
  subst h
  simp only [Prod.mk.injEq] at hx
  have hr := hs _ hx.1
  simp only [reachBytes] at hr
  refine ⟨s.data.toList.map UInt8.toNat, by rw [bstr_of], ?_, by simpa using hr⟩
  intro b hb
  obtain ⟨x, -, rfl⟩ := List.mem_map.1 hb
  exact x.toNat_lt
end Go.Proofs.Ythlebobfbalknaa
