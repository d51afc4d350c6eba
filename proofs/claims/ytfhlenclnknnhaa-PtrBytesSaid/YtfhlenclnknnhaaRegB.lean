/- Regions that draw their order, by hand: small operations that are taken first. -/
import Derived.Test.YtfhlenclnknnhaaEqA
set_option linter.unusedVariables false
set_option linter.unusedSimpArgs false
namespace Go.Proofs.Ytfhlenclnknnhaa
open Go.RowKit
section
variable {P : Program} {ops : Array Oper} {Q : Exit → Act → World → Prop} {S : World → Prop} {md : Region.Mode}
theorem takeH_assign {i : Nat} {o : Oper} {fuel : Nat} {listed : Array Bool} {a : Act} {w : World} (hi : ops[i]? = some o) (hs : Region.noSelect ops = true) (hf : Region.free md ops listed i = true) (hr : (Region.ready md ops listed).contains i = true)
    (hQ : ∀ c a w v, Q (.panic c) (a.put o.dst v) w → Q (.panic c) a w) (hw : Region.wanted o (yielded ops a.tmps) = true) (x : Operand) (ho : o.op = .assign x) (v : Value) (hx : a.eval x = v)
    (hH : S w) (h : wpAnyH P md ops Q S fuel (listed.setIfInBounds i true) (a.put o.dst v) w) : wpAnyH P md ops Q S (fuel + 1) listed a w :=
  wpAnyH_take hi hs hf hr (fun c a w => hQ c a w _) (.inl ⟨hw, fun w _ => by unfold execOp; simp [ho, hx]⟩) hH h
theorem takeH_pick {i : Nat} {o : Oper} {fuel : Nat} {listed : Array Bool} {a : Act} {w : World} (hi : ops[i]? = some o) (hs : Region.noSelect ops = true) (hf : Region.free md ops listed i = true) (hr : (Region.ready md ops listed).contains i = true)
    (hQ : ∀ c a w v, Q (.panic c) (a.put o.dst v) w → Q (.panic c) a w) (hw : Region.wanted o (yielded ops a.tmps) = true) (c x y : Operand) (ho : o.op = .pick c x y) (b : Bool) (hc : a.eval c = .bool b) (v : Value) (hv : (if b then a.eval x else a.eval y) = v)
    (hH : S w) (h : wpAnyH P md ops Q S fuel (listed.setIfInBounds i true) (a.put o.dst v) w) : wpAnyH P md ops Q S (fuel + 1) listed a w :=
  wpAnyH_take hi hs hf hr (fun c a w => hQ c a w _) (.inl ⟨hw, fun w _ => by subst hv; unfold execOp; cases b <;> simp [ho, hc, asBool]⟩) hH h
theorem takeH_not {i : Nat} {o : Oper} {fuel : Nat} {listed : Array Bool} {a : Act} {w : World} (hi : ops[i]? = some o) (hs : Region.noSelect ops = true) (hf : Region.free md ops listed i = true) (hr : (Region.ready md ops listed).contains i = true)
    (hQ : ∀ c a w v, Q (.panic c) (a.put o.dst v) w → Q (.panic c) a w) (hw : Region.wanted o (yielded ops a.tmps) = true) (t : Nat) (x : Operand) (ho : o.op = .unOp .not t x) (b : Bool) (hx : a.eval x = .bool b)
    (hH : S w) (h : wpAnyH P md ops Q S fuel (listed.setIfInBounds i true) (a.put o.dst (.bool (!b))) w) : wpAnyH P md ops Q S (fuel + 1) listed a w :=
  wpAnyH_take hi hs hf hr (fun c a w => hQ c a w _) (.inl ⟨hw, fun w _ => by unfold execOp; simp [ho, hx, Op.unary]⟩) hH h
theorem takeH_eqBool {i : Nat} {o : Oper} {fuel : Nat} {listed : Array Bool} {a : Act} {w : World} (hi : ops[i]? = some o) (hs : Region.noSelect ops = true) (hf : Region.free md ops listed i = true) (hr : (Region.ready md ops listed).contains i = true)
    (hQ : ∀ c a w v, Q (.panic c) (a.put o.dst v) w → Q (.panic c) a w) (hw : Region.wanted o (yielded ops a.tmps) = true) (t u : Nat) (x y : Operand) (ho : o.op = .binOp .eql t x y u) (ht : P.underlying t = some .bool) (b b' : Bool) (hx : a.eval x = .bool b) (hy : a.eval y = .bool b')
    (hH : S w) (h : wpAnyH P md ops Q S fuel (listed.setIfInBounds i true) (a.put o.dst (.bool (b == b'))) w) : wpAnyH P md ops Q S (fuel + 1) listed a w :=
  wpAnyH_take hi hs hf hr (fun c a w => hQ c a w _) (.inl ⟨hw, fun w _ => by
    have e1 : (eqGuard .eql t x y (.bool b) (.bool b')).run P w = .ok () w := by simp [eqGuard]
    have e2 : (binOp .eql t (.bool b) (.bool b')).run P w = .ok (.bool (b == b')) w := by
      have e3 := run_equalIn_bool' (P := P) w 9999 t b b' ht
      simp only [binOp, Op.equal, Op.maxDepth, Sem.run_bind]
      rw [e3]
      rfl
    unfold execOp
    simp only [ho, hx, hy, Sem.run_bind, e1, e2, Result.andThen_ok, Sem.run_pure]⟩) hH h
/-- An operation that is guarded, and not wanted. -/
theorem takeH_idle {i : Nat} {o : Oper} {fuel : Nat} {listed : Array Bool} {a : Act} {w : World} (hi : ops[i]? = some o) (hs : Region.noSelect ops = true) (hf : Region.free md ops listed i = true) (hr : (Region.ready md ops listed).contains i = true)
    (hQ : ∀ c a w v, Q (.panic c) (a.put o.dst v) w → Q (.panic c) a w) (hw : Region.wanted o (yielded ops a.tmps) = false) 
    (hH : S w) (h : wpAnyH P md ops Q S fuel (listed.setIfInBounds i true) (a.put o.dst undef) w) : wpAnyH P md ops Q S (fuel + 1) listed a w :=
  wpAnyH_take hi hs hf hr (fun c a w => hQ c a w _) (.inr ⟨hw, rfl⟩) hH h
end
end Go.Proofs.Ytfhlenclnknnhaa
