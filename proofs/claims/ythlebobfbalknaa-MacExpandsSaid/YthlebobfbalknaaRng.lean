/- A round of a range over a function, walked as everywhere: what is shown of a region without a fence holds in a round, under the widest fence. -/
import Derived.Test.YthlebobfbalknaaRegB
import Derived.RangeFuncNested
import Derived.RangeFuncBound
import Derived.RangeFuncCalls
import Derived.RangeFuncLeaves
import Derived.OwnWalkIn
import Derived.TacticsInMore
import Derived.LoopNIn
import Derived.LoopIn
import Derived.Shelf.Abstract
set_option linter.unusedVariables false
set_option linter.unusedSimpArgs false
namespace Go.Proofs.Ythlebobfbalknaa
open Go.RowKit

section
variable {P : Program} {Q : Exit → Act → World → Prop}
theorem Oper.wpIn_of_wp {o : Oper} {l n : Nat} {a : Act} {w : World} {next : Act → World → Prop} (hnd : ∀ c, o.op ≠ .defer c) (h : o.wp P a w next Q) : o.wpIn (Fence.wide.inRound l) n P a w next Q := by
  refine ⟨fun _ _ => trivial, ?_⟩
  unfold Oper.wp at h
  rw [Oper.semAt_eq _ _ _ hnd]
  generalize (execOp a.eval o).run P w = r at h ⊢
  cases r with
  | ok x w1 =>
    cases x with
    | value v => exact h
    | skip => exact h
    | defer d => exact h
    | enter f args => exact ⟨fun hd => by simp [Fence.wide] at hd, CallsIn.inRound l (callsIn_wide.2 h)⟩
    | row r args => 
      refine ⟨fun hd => by simp [Fence.wide] at hd, fun c cs _ => ?_⟩
      obtain ⟨v, w', q, s⟩ := h c cs
      exact ⟨v, w', q, stepsIn_wide.2 s⟩
    | _ => exact h.elim
  | halt x w1 =>
    cases x with
    | panic v => exact h
    | _ => exact h.elim
theorem wpAnyIn_of_wpAny {l n : Nat} {md : Region.Mode} {ops : Array Oper} (hnd : ∀ (i : Nat) (o : Oper), ops[i]? = some o → ∀ c, o.op ≠ .defer c) (hlo : ¬ LetsOut Q) : ∀ (fuel : Nat) (listed : Array Bool) (a : Act) (w : World),
    wpAny P md ops Q fuel listed a w → wpAnyIn (Fence.wide.inRound l) n P md ops Q fuel listed a w
  | 0, listed, a, w, h => h
  | fuel + 1, listed, a, w, h => by
    refine ⟨h.1, fun i hi => ?_⟩
    have h2 := h.2 i hi
    unfold wpOp at h2
    unfold wpOpIn
    cases ho : ops[i]? with
    | none =>
      rw [ho] at h2
      exact wpAnyIn_of_wpAny hnd hlo fuel _ _ _ h2
    | some o =>
      rw [ho] at h2
      by_cases hw : Region.wanted o (yielded ops a.tmps) = true
      · simp only [hw, if_true] at h2 ⊢
        rcases h2 with h2 | h2
        · exact Oper.wpIn_of_wp (hnd i o ho) (Oper.wp_mono (fun a w h => wpAnyIn_of_wpAny hnd hlo fuel _ _ _ h) h2)
        · exact absurd h2.2 hlo
      · simp only [hw] at h2 ⊢
        exact ⟨fun _ _ => trivial, wpAnyIn_of_wpAny hnd hlo fuel _ _ _ h2⟩
def noDefer (ops : Array Oper) : Bool := ops.toList.all fun o => match o.op with | .defer _ => false | _ => true
theorem noDefer_spec {ops : Array Oper} (h : noDefer ops = true) : ∀ (i : Nat) (o : Oper), ops[i]? = some o → ∀ c, o.op ≠ .defer c := by
  intro i o ho c e
  have h1 := List.all_eq_true.1 h o (by rw [← Array.getElem?_toList] at ho; exact List.mem_of_getElem? ho)
  rw [e] at h1
  cases h1
/-- Nothing but a normal way out. -/
def JustN (Q : Exit → Act → World → Prop) : Exit → Act → World → Prop
  | .normal, a, w => Q .normal a w
  | _, _, _ => False
theorem JustN.imp : ∀ (e : Exit) (a : Act) (w : World), JustN Q e a w → Q e a w := fun e a w h => by
  cases e <;> first | exact h | exact (h : False).elim
theorem JustN.normal {a : Act} {w : World} (h : Q .normal a w) : JustN Q .normal a w := h
/-- A region that draws its order, in a round. -/
theorem regionIn_held {S : World → Prop} {l n : Nat} {ops : Array Oper} {id : Nat} {a : Act} {w : World} (hm : P.follows .mixedOrders = true) (hnd : noDefer ops = true) (hS : S w.drew)
    (h : S w.drew → wpAnyH P .any ops (JustN Q) S ops.size (Array.replicate ops.size false) a w.drew) : (Code.region id ops true).wpIn (Fence.wide.inRound l) n P Q a w :=
  wpIn_mono (wpIn_region_any hm (wpAnyIn_of_wpAny (noDefer_spec hnd) (fun ⟨_, _, h⟩ => h) _ _ _ _ (wpAny_of_held _ _ _ _ (h hS)))) JustN.imp
end
end Go.Proofs.Ythlebobfbalknaa
