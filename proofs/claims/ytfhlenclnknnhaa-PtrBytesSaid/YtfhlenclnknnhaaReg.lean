/- Regions that draw their order, by hand: arrays that are loaded beside calls that make memory. -/
import Derived.Test.YtfhlenclnknnhaaArrB
import Derived.Deep.MidRow
import Derived.Deep.RegionHeld3
set_option linter.unusedVariables false
set_option linter.unusedSimpArgs false
namespace Go.Proofs.Ytfhlenclnknnhaa
open Go.RowKit

section
variable {P : Program} {ops : Array Oper} {Q : Exit → Act → World → Prop} {S : World → Prop} {md : Region.Mode}
/-- A load of an array, taken first. -/
theorem takeH_load {i : Nat} {o : Oper} {fuel : Nat} {listed : Array Bool} {a : Act} {w : World} (hi : ops[i]? = some o) (hs : Region.noSelect ops = true) (hf : Region.free md ops listed i = true) (hr : (Region.ready md ops listed).contains i = true)
    (hQ : ∀ c a w v, Q (.panic c) (a.put o.dst v) w → Q (.panic c) a w) (hw : Region.wanted o (yielded ops a.tmps) = true) (ty : TypeId) (x : Operand) (ho : o.op = .load ty x) (n : Nat) (hT : ArrTy P ty n) (g off : Nat) (hx : a.eval x = .pointer (some ⟨g, off, none⟩))
    (cs : List Value) (hc : cs.length = n) (hS : ∀ w, S w → w.rangeAt g off cs) (hH : S w) (h : wpAnyH P md ops Q S fuel (listed.setIfInBounds i true) (a.put o.dst (.agg cs.toArray)) w) : wpAnyH P md ops Q S (fuel + 1) listed a w := by
  obtain ⟨d, hu, hd, hn⟩ := hT
  exact wpAnyH_take hi hs hf hr (fun c a w => hQ c a w _) (yieldsIf_load_mid hw ty x ho g off hx cs d hS hu (by cases d <;> simp_all) (by rw [hc]; exact hn)) hH h
/-- What is copied, taken first. -/
theorem takeH_move {i : Nat} {o : Oper} {fuel : Nat} {listed : Array Bool} {a : Act} {w : World} (hi : ops[i]? = some o) (hs : Region.noSelect ops = true) (hf : Region.free md ops listed i = true) (hr : (Region.ready md ops listed).contains i = true)
    (hQ : ∀ c a w v, Q (.panic c) (a.put o.dst v) w → Q (.panic c) a w) (hw : Region.wanted o (yielded ops a.tmps) = true) (x : Operand) (ho : o.op = .move x) (v : Value) (hx : a.eval x = v)
    (hH : S w) (h : wpAnyH P md ops Q S fuel (listed.setIfInBounds i true) (a.put o.dst v) w) : wpAnyH P md ops Q S (fuel + 1) listed a w :=
  wpAnyH_take hi hs hf hr (fun c a w => hQ c a w _) (.inl ⟨hw, fun w _ => by unfold execOp; simp [ho, hx]⟩) hH h
/-- An element's address, taken first. -/
theorem takeH_index {i : Nat} {o : Oper} {fuel : Nat} {listed : Array Bool} {a : Act} {w : World} (hi : ops[i]? = some o) (hs : Region.noSelect ops = true) (hf : Region.free md ops listed i = true) (hr : (Region.ready md ops listed).contains i = true)
    (hQ : ∀ c a w v, Q (.panic c) (a.put o.dst v) w → Q (.panic c) a w) (hw : Region.wanted o (yielded ops a.tmps) = true) (ty : TypeId) (x y : Operand) (ho : o.op = .indexAddr ty x y) (len el s : Nat) (hu : P.underlying ty = some (.array len el)) (hsz : (P.info? el).map (·.size) = some s)
    (g off : Nat) (hx : a.eval x = .pointer (some ⟨g, off, none⟩)) (j : Nat) (hy : a.eval y = .int .i64 (j : Int)) (hj : j < len)
    (hH : S w) (h : wpAnyH P md ops Q S fuel (listed.setIfInBounds i true) (a.put o.dst (.pointer (some ⟨g, off + j * s, none⟩))) w) : wpAnyH P md ops Q S (fuel + 1) listed a w :=
  wpAnyH_take hi hs hf hr (fun c a w => hQ c a w _) (.inl ⟨hw, fun w _ => by
    cases hq : P.info? el with
    | none => simp [hq] at hsz
    | some i =>
      have e : i.size = s := by simpa [hq] using hsz
      have ha : (⟨g, off, none⟩ : Addr).add (j * s) = ⟨g, off + j * s, none⟩ := by unfold Addr.add; split <;> simp_all
      unfold execOp
      simp [ho, hx, hy, Instr.indexAt, asIntOf, Sem.run_bind, run_underlying hu, Instr.sureAddr, hj, sizeOf, typeInfo, hq, e, ha]⟩) hH h
/-- A store of an array, carried out. -/
theorem wp_storeA {o : Oper} {a : Act} {w : World} {K : Act → World → Prop} (ty : TypeId) (x y : Operand) (ho : o.op = .store ty x y) (n : Nat) (hT : ArrTy P ty n) (g off : Nat) (hx : a.eval x = .pointer (some ⟨g, off, none⟩)) (vs : List Value) (hy : a.eval y = .agg vs.toArray) (t : TypeId) (L : List Value) (hb : Blk w g t L)
    (hn : vs.length = n) (hl : off + n ≤ L.length) (h1 : Ones vs) (h : ∀ w', Blk w' g t (putL L off vs) → Keeps [g] w w' → K (a.put o.dst undef) w') : Oper.wp P o a w K Q := by
  unfold Oper.wp execOp
  simp only [ho, hx, hy, Sem.run_bind, run_storeA hb hT hn hl h1, Result.andThen_ok, Sem.run_pure]
  exact h _ (hb.setRow _) ((Keeps.refl _ _).setRow (by simp) _)
end
end Go.Proofs.Ytfhlenclnknnhaa
