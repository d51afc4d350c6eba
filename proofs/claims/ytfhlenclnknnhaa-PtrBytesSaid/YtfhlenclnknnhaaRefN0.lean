/- Regions that draw their order: ways that meet; a new variable of an array's type. -/
import Derived.Test.YtfhlenclnknnhaaReg
set_option linter.unusedVariables false
set_option linter.unusedSimpArgs false
namespace Go.Proofs.Ytfhlenclnknnhaa
open Go.RowKit

/-- Ways that meet inside a region: what is shown behind the meeting is found by the first way that comes there. -/
theorem meet3 {main : Prop} {α β γ : Type} (F : α → β → γ → Prop) {G : α → β → γ → Prop} (h1 : (∀ a b c, F a b c → G a b c) → main) (h2 : ∀ a b c, F a b c → G a b c) : main := h1 h2
theorem held_drew2 {P : Program} {ops : Array Oper} {Q : Exit → Act → World → Prop} {S : World → Prop} {id : Nat} {a : Act} {w : World} (L0 : Array Bool) (hL : Array.replicate ops.size false = L0) (hm : P.follows .mixedOrders = true) (hS : S w.drew)
    (h : S w.drew → wpAnyH P .any ops Q S ops.size L0 a w.drew) : (Code.region id ops true).wp P Q a w := by
  subst hL
  exact wp_region_held_drew hm hS h
/-- A new variable of an array's type, in a region. -/
theorem wp_allocA {P : Program} {o : Oper} {a : Act} {w : World} {K : Act → World → Prop} {Q : Exit → Act → World → Prop} (ty : TypeId) (ho : o.op = .alloc ty) (zs : List Value) (hz : (P.info? ty).bind (·.zero) = some (.agg zs.toArray))
    (h : ∀ w', Blk w' w.heap.size ty zs → Keeps [] w w' → K (a.put o.dst (.pointer (some ⟨w.heap.size, 0, none⟩))) w') : Oper.wp P o a w K Q := by
  unfold Oper.wp execOp
  cases hq : P.info? ty with
  | none => simp [hq] at hz
  | some i =>
    have hz' : i.zero = some (.agg zs.toArray) := by simpa [hq] using hz
    simp [ho, Instr.alloc, zeroValue, typeInfo, hq, hz', newVar, newRow, newObj, Sem.run_bind, Value.cells, Result.andThen]
    exact h (w.alloc (.cells zs.toArray ty)) (Blk.new_at rfl rfl) ((Keeps.refl _ _).alloc _)
end Go.Proofs.Ytfhlenclnknnhaa
