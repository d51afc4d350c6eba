/- Regions that draw their order, by hand: more operations that are taken first. -/
import Derived.Test.YtfhlenclnknnhaaCtrR0
import Derived.Test.YtfhlenclnknnhaaOwn2
set_option linter.unusedVariables false
set_option linter.unusedSimpArgs false
namespace Go.Proofs.Ytfhlenclnknnhaa
open Go.RowKit

section
variable {P : Program} {ops : Array Oper} {Q : Exit → Act → World → Prop} {S : World → Prop} {md : Region.Mode}
/-- Whatever yields its value in every world that meets S. -/
theorem takeH_S {i : Nat} {o : Oper} {fuel : Nat} {listed : Array Bool} {a : Act} {w : World} (hi : ops[i]? = some o) (hs : Region.noSelect ops = true) (hf : Region.free md ops listed i = true) (hr : (Region.ready md ops listed).contains i = true)
    (hQ : ∀ c a w v, Q (.panic c) (a.put o.dst v) w → Q (.panic c) a w) (hw : Region.wanted o (yielded ops a.tmps) = true) (v : Value)
    (hr' : ∀ w, S w → (execOp a.eval o).run P w = .ok (.value v) w) (hH : S w) (h : wpAnyH P md ops Q S fuel (listed.setIfInBounds i true) (a.put o.dst v) w) : wpAnyH P md ops Q S (fuel + 1) listed a w :=
  wpAnyH_take hi hs hf hr (fun c a w => hQ c a w _) (.inl ⟨hw, hr'⟩) hH h
theorem takeH_len {i : Nat} {o : Oper} {fuel : Nat} {listed : Array Bool} {a : Act} {w : World} (hi : ops[i]? = some o) (hs : Region.noSelect ops = true) (hf : Region.free md ops listed i = true) (hr : (Region.ready md ops listed).contains i = true)
    (hQ : ∀ c a w v, Q (.panic c) (a.put o.dst v) w → Q (.panic c) a w) (hw : Region.wanted o (yielded ops a.tmps) = true) (t e : TypeId) (x : Operand) (ho : o.op = .call { callee := .builtin .len, args := #[x], argTypes := #[t] }) (ht : P.underlying t = some (.slice e)) (A : Option Addr) (n c : Nat) (hx : a.eval x = .slice A n c)
    (hH : S w) (h : wpAnyH P md ops Q S fuel (listed.setIfInBounds i true) (a.put o.dst (.int .i64 (n : Int))) w) : wpAnyH P md ops Q S (fuel + 1) listed a w :=
  takeH_S hi hs hf hr hQ hw _ (fun w _ => by
    unfold execOp
    simp [ho, resolve, invoke, builtin, hx, Builtin.len_, Builtin.lenOf, run_underlying ht, Sem.run_bind, goInt]) hH h
theorem takeH_eqInt {i : Nat} {o : Oper} {fuel : Nat} {listed : Array Bool} {a : Act} {w : World} (hi : ops[i]? = some o) (hs : Region.noSelect ops = true) (hf : Region.free md ops listed i = true) (hr : (Region.ready md ops listed).contains i = true)
    (hQ : ∀ c a w v, Q (.panic c) (a.put o.dst v) w → Q (.panic c) a w) (hw : Region.wanted o (yielded ops a.tmps) = true) (t u : TypeId) (k : IntKind) (x y : Operand) (ho : o.op = .binOp .eql t x y u) (ht : P.underlying t = some (.int k)) (m n : Int) (hx : a.eval x = .int k m) (hy : a.eval y = .int k n) (hmn : m = n)
    (hH : S w) (h : wpAnyH P md ops Q S fuel (listed.setIfInBounds i true) (a.put o.dst (.bool true)) w) : wpAnyH P md ops Q S (fuel + 1) listed a w :=
  takeH_S hi hs hf hr hQ hw _ (fun w _ => by
    have e1 : (eqGuard .eql t x y (.int k m) (.int k n)).run P w = .ok () w := by simp [eqGuard]
    have e2 : (binOp .eql t (.int k m) (.int k n)).run P w = .ok (.bool true) w := by
      subst hmn
      simp [binOp, Op.equal, Op.maxDepth, Op.equalIn, Op.intCmp, Sem.run_bind, run_underlying ht]
    unfold execOp
    simp only [ho, hx, hy, Sem.run_bind, e1, e2, Result.andThen_ok, Sem.run_pure]) hH h
theorem takeH_eqlT {i : Nat} {o : Oper} {fuel : Nat} {listed : Array Bool} {a : Act} {w : World} (hi : ops[i]? = some o) (hs : Region.noSelect ops = true) (hf : Region.free md ops listed i = true) (hr : (Region.ready md ops listed).contains i = true)
    (hQ : ∀ c a w v, Q (.panic c) (a.put o.dst v) w → Q (.panic c) a w) (hw : Region.wanted o (yielded ops a.tmps) = true) (t : TypeId) (x y : Operand) (u : Nat) (ho : o.op = .binOp .eql t x y u) (n : Nat) (hB : ByteArr P t n) (l m : List Nat) (hx : a.eval x = .agg (bv l).toArray) (hy : a.eval y = .agg (bv m).toArray) (hl : l.length = n) (hm : m = l)
    (hH : S w) (h : wpAnyH P md ops Q S fuel (listed.setIfInBounds i true) (a.put o.dst (.bool true)) w) : wpAnyH P md ops Q S (fuel + 1) listed a w := by
  subst hm
  refine takeH_eqlB hi hs hf hr hQ hw t x y u ho n hB m m hx hy hl hl hH ?_
  rw [decide_eq_true rfl]
  exact h
end
end Go.Proofs.Ytfhlenclnknnhaa
