/- Two pointers' values, compared. -/
import Derived.Test.YtlifpmglaoppoaaQ12P4
import Derived.Test.YtlifpmglaoppoaaEqA
import Derived.Laws.StructEq
set_option linter.unusedVariables false
set_option linter.unusedSimpArgs false
namespace Go.Proofs.Ytlifpmglaoppoaa
open Go.RowKit
open Go.Proofs.PlainAes
theorem part_one {P : Program} {e : TypeId} {d : TypeDesc} (hu : P.underlying e = some d) (hd : d.isRow = false) (hs : (P.info? e).map (·.size) = some 1) {cs : Array Value} {i : Nat} {v : Value} (h : cs[i]? = some v) (w : World) : (part e cs i).run P w = .ok v w := by
  cases hq : P.info? e with
  | none => simp [hq] at hs
  | some i0 =>
    have hsz : i0.size = 1 := by simpa [hq] using hs
    have hag : (isAgg e).run P w = .ok false w := by
      unfold isAgg
      rw [Sem.run_bind, run_underlying hu w]
      cases d <;> simp_all [TypeDesc.isRow]
    simp [part, Sem.run_bind, hag, sizeOf, typeInfo, hq, hsz, h]
theorem part_arr {P : Program} {e n : Nat} (hT : ArrTy P e n) {cs : Array Value} {i : Nat} {L : List Value} (h : cs.extract i (i + n) = L.toArray) (w : World) : (part e cs i).run P w = .ok (.agg L.toArray) w := by
  obtain ⟨d, hu, hd, hi⟩ := hT
  cases hq : P.info? e with
  | none => simp [hq] at hi
  | some i0 =>
    have hsz : i0.size = n := by simpa [hq] using hi
    have hag : (isAgg e).run P w = .ok true w := by
      unfold isAgg
      rw [Sem.run_bind, run_underlying hu w]
      cases d <;> simp_all
    simp [part, Sem.run_bind, hag, sizeOf, typeInfo, hq, hsz, h]
theorem neq_ptr (a b : Nat) (s : List Nat) (hs : s.length = 32) (w : World) : (binOp .neq 41 (.agg (pcells a b s).toArray) (.agg (pcells a b s).toArray)).run Try.prog w = .ok (.bool false) w := by
  have p0 := part_one (P := Try.prog) (e := 35) Try.underlying35 rfl (by kernel_rfl) (cs := (pcells a b s).toArray) (i := 0) (v := .int .u32 (a : Int)) rfl w
  have p1 := part_one (P := Try.prog) (e := 34) Try.underlying34 rfl (by kernel_rfl) (cs := (pcells a b s).toArray) (i := 1) (v := .int .u64 (b : Int)) rfl w
  have p2 := part_arr (P := Try.prog) (e := 26) arrH (cs := (pcells a b s).toArray) (i := 2) (L := bv s) (by
    simp [List.extract_toArray, List.extract_eq_take_drop, pcells, List.take_of_length_le, hs]) w
  generalize (pcells a b s).toArray = X at *
  have hd : ∃ d, d + 4 = 10000 := ⟨9996, rfl⟩
  obtain ⟨d, hd⟩ := hd
  have q0 : (Op.equalIn (d + 3) 35 (.int .u32 (a : Int)) (.int .u32 (a : Int))).run Try.prog w = .ok true w := by
    rw [run_equalIn_int (P := Try.prog) w (d + 2) 35 .u32 .u32 (a : Int) (a : Int) Try.underlying35, beq_self_eq_true]
  have q1 : (Op.equalIn (d + 3) 34 (.int .u64 (b : Int)) (.int .u64 (b : Int))).run Try.prog w = .ok true w := by
    rw [run_equalIn_int (P := Try.prog) w (d + 2) 34 .u64 .u64 (b : Int) (b : Int) Try.underlying34, beq_self_eq_true]
  have q2 : (Op.equalIn (d + 3) 26 (.agg (bv s).toArray) (.agg (bv s).toArray)).run Try.prog w = .ok true w := by
    rw [run_equalIn_bytes (P := Try.prog) (d + 1) (t := 26) (e := 5) (n := 32) Try.underlying26 Try.underlying5 (by kernel_rfl) hs hs w, decide_eq_true rfl]
  rw [run_neq_struct, ← hd, run_equalIn_struct w (d + 3) 41 _ _ (by kernel_rfl) (by kernel_rfl)]
  obtain ⟨f0, f1, f2, hf, t0, t1, t2, o0, o1, o2, n0, n1, n2⟩ : ∃ f0 f1 f2 : Field, (Try.prog.fieldsOf 41).toList = [f0, f1, f2] ∧ f0.type = 35 ∧ f1.type = 34 ∧ f2.type = 26 ∧ f0.offset = 0 ∧ f1.offset = 1 ∧ f2.offset = 2 ∧ f0.name ≠ "_" ∧ f1.name ≠ "_" ∧ f2.name ≠ "_" := by
    unfold Program.fieldsOf
    rw [Try.underlying41]
    exact ⟨_, _, _, rfl, rfl, rfl, rfl, rfl, rfl, rfl, by decide, by decide, by decide⟩
  rw [hf]
  unfold Op.eqFields
  rw [if_pos n0, t0, o0]
  rw [Sem.run_bind, p0, Result.andThen_ok, Sem.run_bind, p0, Result.andThen_ok, Sem.run_bind, q0, Result.andThen_ok, if_neg (by decide)]
  unfold Op.eqFields
  rw [if_pos n1, t1, o1]
  rw [Sem.run_bind, p1, Result.andThen_ok, Sem.run_bind, p1, Result.andThen_ok, Sem.run_bind, q1, Result.andThen_ok, if_neg (by decide)]
  unfold Op.eqFields
  rw [if_pos n2, t2, o2]
  rw [Sem.run_bind, p2, Result.andThen_ok, Sem.run_bind, p2, Result.andThen_ok, Sem.run_bind, q2, Result.andThen_ok, if_neg (by decide)]
  unfold Op.eqFields
  rfl
theorem pt_guard : Try.prog.eqGuardType Try.prog.depth 41 = false := by kernel_rfl
theorem wpList_neqPt {ops : Array Oper} {rest : List Oper} {o : Oper} {ac : Act} {w : World} {Q : Exit → Act → World → Prop} (hw : Region.wanted o (yielded ops ac.tmps) = true) (x y : Operand) (ho : o.op = .binOp .neq 41 x y 41) (a b : Nat) (s : List Nat) (hs : s.length = 32) (hx : ac.eval x = .agg (pcells a b s).toArray) (hy : ac.eval y = .agg (pcells a b s).toArray)
    (h : wpList Try.prog ops Q rest (ac.put o.dst (.bool false)) w) : wpList Try.prog ops Q (o :: rest) ac w := by
  refine wpList_step fun K hK => ?_
  rw [if_pos hw]
  unfold Oper.wp execOp
  simp only [ho, hx, hy, Sem.run_bind, run_eqGuard_agg w _ _ x y _ _ pt_guard, neq_ptr a b s hs w, Result.andThen_ok, Sem.run_pure]
  exact hK _ _ h
end Go.Proofs.Ytlifpmglaoppoaa
