/- Arrays of bytes, compared. -/
import Derived.Test.YtfhlenclnknnhaaReg
import Derived.Laws.StructEq
set_option linter.unusedVariables false
set_option linter.unusedSimpArgs false
namespace Go.Proofs.Ytfhlenclnknnhaa
open Go.RowKit

section
variable {P : Program}
theorem bv_ext {l m : List Nat} {i a b : Nat} (hl : l[i]? = some a) (hm : m[i]? = some b) : ((bv l).toArray[i]? = some (.int .u8 (a : Int))) ∧ ((bv m).toArray[i]? = some (.int .u8 (b : Int))) := by
  simp [bv, hl, hm]

theorem run_part_byte {e : TypeId} (he : P.underlying e = some (.int .u8)) (w : World) {l : List Nat} {i a : Nat} (h : l[i]? = some a) : (part e (bv l).toArray i).run P w = .ok (.int .u8 (a : Int)) w := by
  have hagg : (isAgg e).run P w = .ok false w := by
    unfold isAgg
    rw [Sem.run_bind, run_underlying he w]
    simp
  have hc : (bv l).toArray[i]? = some (.int .u8 (a : Int)) := (bv_ext h h).1
  simp only [List.getElem?_toArray] at hc
  simp [part, Sem.run_bind, hagg, hc]

/-- Are the bytes from k on the same? -/
def eqFrom (l m : List Nat) (k : Nat) : Bool := decide (l.drop k = m.drop k)
theorem eqFrom_step {l m : List Nat} {k a b : Nat} (hl : l[k]? = some a) (hm : m[k]? = some b) : eqFrom l m k = (decide (a = b) && eqFrom l m (k + 1)) := by
  have e1 : l.drop k = a :: l.drop (k + 1) := by
    have h := List.getElem?_eq_some_iff.1 hl
    rw [List.drop_eq_getElem_cons h.1, h.2]
  have e2 : m.drop k = b :: m.drop (k + 1) := by
    have h := List.getElem?_eq_some_iff.1 hm
    rw [List.drop_eq_getElem_cons h.1, h.2]
  unfold eqFrom
  rw [e1, e2]
  simp

theorem run_forIn_bytes {l m : List Nat} {n : Nat} (hl : l.length = n) (hm : m.length = n) (w : World) (F : Nat → Option Bool × Unit → Sem (ForInStep (Option Bool × Unit)))
    (hF : ∀ (i a b : Nat), l[i]? = some a → m[i]? = some b → (F i (none, ())).run P w = .ok (if a = b then .yield (none, ()) else .done (some false, ())) w) :
    ∀ (c k : Nat), k + c = n → Sem.run P (forIn (List.range' k c) ((none : Option Bool), ()) F) w = .ok (if eqFrom l m k then (none, ()) else (some false, ())) w := by
  intro c
  induction c with
  | zero =>
    intro k hk
    have : eqFrom l m k = true := by
      unfold eqFrom
      rw [List.drop_of_length_le (by omega), List.drop_of_length_le (by omega)]
      simp
    simp [this]
  | succ c ih =>
    intro k hk
    have h1 : l[k]? = some l[k] := List.getElem?_eq_getElem (by omega)
    have h2 : m[k]? = some m[k] := List.getElem?_eq_getElem (by omega)
    rw [eqFrom_step h1 h2, List.range'_succ, List.forIn_cons, Sem.run_bind, hF k _ _ h1 h2]
    by_cases hab : l[k] = m[k]
    · rw [if_pos hab]
      simp only [Result.andThen_ok, hab, decide_true, Bool.true_and]
      exact ih (k + 1) (by omega)
    · rw [if_neg hab]
      simp only [Result.andThen_ok, decide_eq_false hab, Bool.false_and, Bool.false_eq_true, if_false, Sem.run_pure]

theorem run_equalIn_bytes (d : Nat) {t e n : Nat} (hu : P.underlying t = some (.array n e)) (he : P.underlying e = some (.int .u8)) (hs : (P.info? e).map (·.size) = some 1) {l m : List Nat} (hl : l.length = n) (hm : m.length = n) (w : World) :
    (Op.equalIn (d + 2) t (.agg (bv l).toArray) (.agg (bv m).toArray)).run P w = .ok (decide (l = m)) w := by
  cases hq : P.info? e with
  | none => simp [hq] at hs
  | some i0 =>
    have hsz : i0.size = 1 := by simpa [hq] using hs
    rw [show d + 2 = (d + 1) + 1 from rfl, Op.equalIn]
    simp only [Sem.run_bind, run_underlying hu, Result.andThen_ok, sizeOf, typeInfo, run_program, hq, hsz, Sem.run_pure, Nat.mul_one]
    simp only [Std.Legacy.Range.forIn_eq_forIn_range', Std.Legacy.Range.size, Nat.sub_zero, Nat.add_one_sub_one, Nat.div_one]
    rw [run_forIn_bytes hl hm w _ (fun i a b h1 h2 => ?_) n 0 (by omega)]
    · have e0 : eqFrom l m 0 = decide (l = m) := by simp [eqFrom]
      rw [e0]
      by_cases h : l = m <;> simp [h]
    · simp only [Sem.run_bind, run_part_byte he w h1, run_part_byte he w h2, Result.andThen_ok, run_equalIn_int w d e .u8 .u8 _ _ he]
      by_cases hab : a = b
      · subst hab; simp
      · have hne : ((a : Int) == (b : Int)) = false := by simp; omega
        simp [hne, hab]
theorem run_eql_bytes {t e n : Nat} (hu : P.underlying t = some (.array n e)) (he : P.underlying e = some (.int .u8)) (hs : (P.info? e).map (·.size) = some 1) {l m : List Nat} (hl : l.length = n) (hm : m.length = n) (w : World) :
    (binOp .eql t (.agg (bv l).toArray) (.agg (bv m).toArray)).run P w = .ok (.bool (decide (l = m))) w := by
  rw [run_eql_struct, run_equalIn_bytes 9998 hu he hs hl hm w]
  rfl
theorem run_neq_bytes {t e n : Nat} (hu : P.underlying t = some (.array n e)) (he : P.underlying e = some (.int .u8)) (hs : (P.info? e).map (·.size) = some 1) {l m : List Nat} (hl : l.length = n) (hm : m.length = n) (w : World) :
    (binOp .neq t (.agg (bv l).toArray) (.agg (bv m).toArray)).run P w = .ok (.bool (!decide (l = m))) w := by
  rw [run_neq_struct, run_equalIn_bytes 9998 hu he hs hl hm w]
  rfl
end
section
variable {P : Program} {ops : Array Oper} {rest : List Oper} {o : Oper} {a : Act} {w : World} {Q : Exit → Act → World → Prop} {S : World → Prop} {md : Region.Mode}
/-- What an array type of bytes is. -/
structure ByteArr (P : Program) (t n : Nat) : Prop where
  el : ∃ e, P.underlying t = some (.array n e) ∧ P.underlying e = some (.int .u8) ∧ (P.info? e).map (·.size) = some 1
  g : P.eqGuardType P.depth t = false
theorem wpList_eqlB (hgd : o.guard = none) (t : TypeId) (x y : Operand) (u : Nat) (ho : o.op = .binOp .eql t x y u) (n : Nat) (hB : ByteArr P t n) (l m : List Nat) (hx : a.eval x = .agg (bv l).toArray) (hy : a.eval y = .agg (bv m).toArray) (hl : l.length = n) (hm : m.length = n)
    (h : wpList P ops Q rest (a.put o.dst (.bool (decide (l = m)))) w) : wpList P ops Q (o :: rest) a w := by
  obtain ⟨⟨e, hu, he, hs⟩, hg⟩ := hB
  refine wpList_plain hgd fun K hK => ?_
  unfold Oper.wp execOp
  simp only [ho, hx, hy, Sem.run_bind, run_eqGuard_agg w _ t x y _ _ hg, run_eql_bytes hu he hs hl hm, Result.andThen_ok, Sem.run_pure]
  exact hK _ _ h
theorem takeH_eqlB {i : Nat} {fuel : Nat} {listed : Array Bool} (hi : ops[i]? = some o) (hs : Region.noSelect ops = true) (hf : Region.free md ops listed i = true) (hr : (Region.ready md ops listed).contains i = true)
    (hQ : ∀ c a w v, Q (.panic c) (a.put o.dst v) w → Q (.panic c) a w) (hw : Region.wanted o (yielded ops a.tmps) = true) (t : TypeId) (x y : Operand) (u : Nat) (ho : o.op = .binOp .eql t x y u) (n : Nat) (hB : ByteArr P t n) (l m : List Nat) (hx : a.eval x = .agg (bv l).toArray) (hy : a.eval y = .agg (bv m).toArray) (hl : l.length = n) (hm : m.length = n)
    (hH : S w) (h : wpAnyH P md ops Q S fuel (listed.setIfInBounds i true) (a.put o.dst (.bool (decide (l = m)))) w) : wpAnyH P md ops Q S (fuel + 1) listed a w :=
  wpAnyH_take hi hs hf hr (fun c a w => hQ c a w _) (.inl ⟨hw, fun w _ => by
    obtain ⟨⟨e, hu, he, hs⟩, hg⟩ := hB
    unfold execOp
    simp only [ho, hx, hy, Sem.run_bind, run_eqGuard_agg w _ t x y _ _ hg, run_eql_bytes hu he hs hl hm, Result.andThen_ok, Sem.run_pure]⟩) hH h
end
end Go.Proofs.Ytfhlenclnknnhaa
