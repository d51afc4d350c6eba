/- Regions that draw their order, by hand: single cells, fields, calculations. -/
import Derived.Test.YtfhlenclnknnhaaRegB
set_option linter.unusedVariables false
set_option linter.unusedSimpArgs false
namespace Go.Proofs.Ytfhlenclnknnhaa
open Go.RowKit

theorem run_load1 {P : Program} {ty : TypeId} {d : TypeDesc} (hu : P.underlying ty = some d) (hd : d.isRow = false) {w : World} {g o : Nat} {v : Value} (hc : w.cell? ⟨g, o, none⟩ = some v) :
    (Instr.loadAt ty (.pointer (some ⟨g, o, none⟩))).run P w = .ok v w := by
  unfold Instr.loadAt
  cases d <;> simp_all [Sem.run_bind, Instr.sureAddr, loadVar, isAgg, run_underlying hu, TypeDesc.isRow]
section
variable {P : Program} {ops : Array Oper} {Q : Exit → Act → World → Prop} {S : World → Prop} {md : Region.Mode}
theorem takeH_cell {i : Nat} {o : Oper} {fuel : Nat} {listed : Array Bool} {a : Act} {w : World} (hi : ops[i]? = some o) (hs : Region.noSelect ops = true) (hf : Region.free md ops listed i = true) (hr : (Region.ready md ops listed).contains i = true)
    (hQ : ∀ c a w v, Q (.panic c) (a.put o.dst v) w → Q (.panic c) a w) (hw : Region.wanted o (yielded ops a.tmps) = true) (ty : TypeId) (x : Operand) (ho : o.op = .load ty x) {d : TypeDesc} (hu : P.underlying ty = some d) (hd : d.isRow = false) (g off : Nat) (hx : a.eval x = .pointer (some ⟨g, off, none⟩))
    (v : Value) (hS : ∀ w, S w → w.cell? ⟨g, off, none⟩ = some v) (hH : S w) (h : wpAnyH P md ops Q S fuel (listed.setIfInBounds i true) (a.put o.dst v) w) : wpAnyH P md ops Q S (fuel + 1) listed a w :=
  wpAnyH_take hi hs hf hr (fun c a w => hQ c a w _) (.inl ⟨hw, fun w hw' => by unfold execOp; simp [ho, hx, Sem.run_bind, run_load1 hu hd (hS w hw')]⟩) hH h
theorem takeH_field {i : Nat} {o : Oper} {fuel : Nat} {listed : Array Bool} {a : Act} {w : World} (hi : ops[i]? = some o) (hs : Region.noSelect ops = true) (hf : Region.free md ops listed i = true) (hr : (Region.ready md ops listed).contains i = true)
    (hQ : ∀ c a w v, Q (.panic c) (a.put o.dst v) w → Q (.panic c) a w) (hw : Region.wanted o (yielded ops a.tmps) = true) (ty : TypeId) (x : Operand) (k : Nat) (ho : o.op = .fieldAddr ty x k) (g off : Nat) (hx : a.eval x = .pointer (some ⟨g, 0, none⟩))
    (hr' : ∀ w, (Instr.fieldAt ty (.pointer (some ⟨g, 0, none⟩)) k).run P w = .ok (.pointer (some ⟨g, off, none⟩)) w) (hH : S w) (h : wpAnyH P md ops Q S fuel (listed.setIfInBounds i true) (a.put o.dst (.pointer (some ⟨g, off, none⟩))) w) : wpAnyH P md ops Q S (fuel + 1) listed a w :=
  wpAnyH_take hi hs hf hr (fun c a w => hQ c a w _) (.inl ⟨hw, fun w hw' => by unfold execOp; simp [ho, hx, Sem.run_bind, hr' w]⟩) hH h
theorem takeH_calc {i : Nat} {o : Oper} {fuel : Nat} {listed : Array Bool} {a : Act} {w : World} (hi : ops[i]? = some o) (hs : Region.noSelect ops = true) (hf : Region.free md ops listed i = true) (hr : (Region.ready md ops listed).contains i = true)
    (hQ : ∀ c a w v, Q (.panic c) (a.put o.dst v) w → Q (.panic c) a w) (hw : Region.wanted o (yielded ops a.tmps) = true) (v : Value)
    (hr' : ∀ w, (execOp a.eval o).run P w = .ok (.value v) w) (hH : S w) (h : wpAnyH P md ops Q S fuel (listed.setIfInBounds i true) (a.put o.dst v) w) : wpAnyH P md ops Q S (fuel + 1) listed a w :=
  wpAnyH_take hi hs hf hr (fun c a w => hQ c a w _) (.inl ⟨hw, fun w hw' => hr' w⟩) hH h
end
end Go.Proofs.Ytfhlenclnknnhaa
