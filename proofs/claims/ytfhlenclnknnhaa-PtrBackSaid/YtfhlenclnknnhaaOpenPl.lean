/- A row of pointers' records, opened. -/
import Derived.Test.YtfhlenclnknnhaaOpenPt
import Derived.Test.YtfhlenclnknnhaaSlM
set_option linter.unusedVariables false
set_option linter.unusedSimpArgs false
namespace Go.Proofs.Ytfhlenclnknnhaa
open Go.ChangeShapes Go.WideShapes Go.ChangeAt Go.RowKit
open Go.Proofs.PlainPtr
theorem lift_rows {α : Type} (f : α → List Value) (ok : α → Prop) : ∀ rows : List (List Value), (∀ r ∈ rows, ∃ y, r = f y ∧ ok y) → ∃ l : List α, rows = l.map f ∧ ∀ y ∈ l, ok y
  | [], _ => ⟨[], rfl, by simp⟩
  | r :: rows, h => by
    obtain ⟨y, e, hy⟩ := h r List.mem_cons_self
    obtain ⟨l, e2, hl⟩ := lift_rows f ok rows (fun r hr => h r (List.mem_cons_of_mem _ hr))
    exact ⟨y :: l, by rw [e, e2]; rfl, fun z hz => by
      rcases List.mem_cons.1 hz with rfl | hz
      · exact hy
      · exact hl z hz⟩
set_option maxRecDepth 100000 in
theorem open_pts {H : Type} {enc : TypeId × Value → H} {W : World} {base : Nat} {v : Value} {d : DataW H} {p : List MemPlace} (hv : Value.okWide Try.prog W .any base 34 v) (h : DataW.Trod enc Try.prog W 0 (fun _ => true) true 34 v d p) :
    ∃ l : List PtrD, Slm W v 34 (l.map pcl) ∧ ∀ y ∈ l, PtOk y := by
  obtain ⟨rows, hs, hr⟩ := open_slm (sz := 34) Try.underlying34 (by kernel_rfl) (by decide) hv h
  obtain ⟨l, rfl, hl⟩ := lift_rows pcl PtOk rows (fun r hr2 => by obtain ⟨n, x, e⟩ := hr r hr2; exact open_pt1 e)
  exact ⟨l, hs, hl⟩
end Go.Proofs.Ytfhlenclnknnhaa
