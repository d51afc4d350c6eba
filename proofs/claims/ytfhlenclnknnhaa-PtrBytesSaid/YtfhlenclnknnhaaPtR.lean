/- A pointer's record (address, birth, sum): its cells, equality; ptr.Null, ptr.Check. -/
import Derived.Test.YtfhlenclnknnhaaEqA
import Derived.Test.YtfhlenclnknnhaaBld
import Derived.Laws.StructEq
set_option linter.unusedVariables false
set_option linter.unusedSimpArgs false
namespace Go.Proofs.PlainPtr
structure PtrD where
  a : Nat
  b : Nat
  s : List Nat
deriving DecidableEq
/-- What fits. -/
structure PtOk (p : PtrD) : Prop where
  a : (p.a : Int) ≤ 4294967295
  b : (p.b : Int) ≤ 18446744073709551615
  s : p.s.length = 32
  byt : ∀ x ∈ p.s, x < 256
def pz : PtrD := ⟨0, 0, List.replicate 32 0⟩
theorem pz_ok : PtOk pz := ⟨by decide, by decide, List.length_replicate, fun x hx => by rw [List.eq_of_mem_replicate hx]; decide⟩
/-- Whether one may be. -/
def chkP (p : PtrD) (n : Int) : Int := if p.a = 0 then (if p = pz then 0 else 4) else if 2 ≤ p.a ∧ (p.a : Int) < n ∧ 0 < p.b then 0 else 4
end Go.Proofs.PlainPtr
namespace Go.Proofs.Ytfhlenclnknnhaa
open Go.RowKit
open Go.Proofs.PlainPtr

def pcl (p : PtrD) : List Value := .int .u32 (p.a : Int) :: .int .u64 (p.b : Int) :: bv p.s
theorem pcl_len {p : PtrD} (h : PtOk p) : (pcl p).length = 34 := by simp [pcl, h.s]
theorem pcl_ones (p : PtrD) : Ones (pcl p) := by
  intro v hv
  simp only [pcl, List.mem_cons] at hv
  rcases hv with rfl | rfl | hv
  · rfl
  · rfl
  · exact ones_bv p.s v hv
theorem arrPt : ArrTy Try.prog 27 34 := ⟨_, Try.underlying27, rfl, by kernel_rfl⟩
theorem arrHs : ArrTy Try.prog 25 32 := ⟨_, Try.underlying25, rfl, by kernel_rfl⟩
theorem part_one {P : Program} {e : TypeId} {d : TypeDesc} (hu : P.underlying e = some d) (hd : d.isRow = false) (hs : (P.info? e).map (·.size) = some 1) {cs : Array Value} {i : Nat} {v : Value} (h : cs[i]? = some v) (w : World) : (part e cs i).run P w = .ok v w := by
  cases hq : P.info? e with
  | none => simp [hq] at hs
  | some i0 =>
    have hsz : i0.size = 1 := by simpa [hq] using hs
    have hag : (isAgg e).run P w = .ok false w := by
      unfold isAgg
      rw [Sem.run_bind, run_underlying hu w]
      cases d <;> simp_all [TypeDesc.isRow]
    simp [part, Sem.run_bind, hag, sizeOf, typeInfo, hq, hsz, h]
theorem part_arr {P : Program} {e n : Nat} (hT : ArrTy P e n) {cs : Array Value} {i : Nat} {L : List Value} (h : cs.extract i (i + n) = L.toArray) (w : World) : (part e cs i).run P w = .ok (.agg L.toArray) w := by
  obtain ⟨d, hu, hd, hi⟩ := hT
  cases hq : P.info? e with
  | none => simp [hq] at hi
  | some i0 =>
    have hsz : i0.size = n := by simpa [hq] using hi
    have hag : (isAgg e).run P w = .ok true w := by
      unfold isAgg
      rw [Sem.run_bind, run_underlying hu w]
      cases d <;> simp_all
    simp [part, Sem.run_bind, hag, sizeOf, typeInfo, hq, hsz, h]
theorem same_nat (a b : Nat) : ((a : Int) == (b : Int)) = decide (a = b) := by
  by_cases h : a = b
  · simp [h]
  · have : ¬ ((a : Int) = (b : Int)) := by omega
    simp [h, this]
theorem ptr_in (p q : PtrD) (hp : PtOk p) (hq : PtOk q) (w : World) (d : Nat) : (Op.equalIn (d + 4) 27 (.agg (pcl p).toArray) (.agg (pcl q).toArray)).run Try.prog w = .ok (decide (p = q)) w := by
  obtain ⟨a, b, s⟩ := p
  obtain ⟨a', b', s'⟩ := q
  have hs := hp.s
  have hs' := hq.s
  have p0 := part_one (P := Try.prog) (e := 22) Try.underlying22 rfl (by kernel_rfl) (cs := (pcl ⟨a, b, s⟩).toArray) (i := 0) (v := .int .u32 (a : Int)) rfl w
  have p1 := part_one (P := Try.prog) (e := 23) Try.underlying23 rfl (by kernel_rfl) (cs := (pcl ⟨a, b, s⟩).toArray) (i := 1) (v := .int .u64 (b : Int)) rfl w
  have p2 := part_arr (P := Try.prog) (e := 25) arrHs (cs := (pcl ⟨a, b, s⟩).toArray) (i := 2) (L := bv s) (by
    simp [List.extract_toArray, List.extract_eq_take_drop, pcl, List.take_of_length_le, hs]) w
  have r0 := part_one (P := Try.prog) (e := 22) Try.underlying22 rfl (by kernel_rfl) (cs := (pcl ⟨a', b', s'⟩).toArray) (i := 0) (v := .int .u32 (a' : Int)) rfl w
  have r1 := part_one (P := Try.prog) (e := 23) Try.underlying23 rfl (by kernel_rfl) (cs := (pcl ⟨a', b', s'⟩).toArray) (i := 1) (v := .int .u64 (b' : Int)) rfl w
  have r2 := part_arr (P := Try.prog) (e := 25) arrHs (cs := (pcl ⟨a', b', s'⟩).toArray) (i := 2) (L := bv s') (by
    simp [List.extract_toArray, List.extract_eq_take_drop, pcl, List.take_of_length_le, hs']) w
  generalize (pcl ⟨a, b, s⟩).toArray = X at *
  generalize (pcl ⟨a', b', s'⟩).toArray = Y at *
  have q0 : (Op.equalIn (d + 3) 22 (.int .u32 (a : Int)) (.int .u32 (a' : Int))).run Try.prog w = .ok (decide (a = a')) w := by
    rw [run_equalIn_int (P := Try.prog) w (d + 2) 22 .u32 .u32 (a : Int) (a' : Int) Try.underlying22, same_nat]
  have q1 : (Op.equalIn (d + 3) 23 (.int .u64 (b : Int)) (.int .u64 (b' : Int))).run Try.prog w = .ok (decide (b = b')) w := by
    rw [run_equalIn_int (P := Try.prog) w (d + 2) 23 .u64 .u64 (b : Int) (b' : Int) Try.underlying23, same_nat]
  have q2 : (Op.equalIn (d + 3) 25 (.agg (bv s).toArray) (.agg (bv s').toArray)).run Try.prog w = .ok (decide (s = s')) w := by
    rw [run_equalIn_bytes (P := Try.prog) (d + 1) (t := 25) (e := 5) (n := 32) Try.underlying25 Try.underlying5 (by kernel_rfl) hs hs' w]
  rw [run_equalIn_struct w (d + 3) 27 _ _ (by kernel_rfl) (by kernel_rfl)]
  obtain ⟨f0, f1, f2, hf, t0, t1, t2, o0, o1, o2, n0, n1, n2⟩ : ∃ f0 f1 f2 : Field, (Try.prog.fieldsOf 27).toList = [f0, f1, f2] ∧ f0.type = 22 ∧ f1.type = 23 ∧ f2.type = 25 ∧ f0.offset = 0 ∧ f1.offset = 1 ∧ f2.offset = 2 ∧ f0.name ≠ "_" ∧ f1.name ≠ "_" ∧ f2.name ≠ "_" := by
    unfold Program.fieldsOf
    rw [Try.underlying27]
    exact ⟨_, _, _, rfl, rfl, rfl, rfl, rfl, rfl, rfl, by decide, by decide, by decide⟩
  rw [hf]
  unfold Op.eqFields
  rw [if_pos n0, t0, o0]
  rw [Sem.run_bind, p0, Result.andThen_ok, Sem.run_bind, r0, Result.andThen_ok, Sem.run_bind, q0, Result.andThen_ok]
  by_cases h0 : a = a'
  · rw [decide_eq_true h0, if_neg (by decide)]
    unfold Op.eqFields
    rw [if_pos n1, t1, o1]
    rw [Sem.run_bind, p1, Result.andThen_ok, Sem.run_bind, r1, Result.andThen_ok, Sem.run_bind, q1, Result.andThen_ok]
    by_cases h1 : b = b'
    · rw [decide_eq_true h1, if_neg (by decide)]
      unfold Op.eqFields
      rw [if_pos n2, t2, o2]
      rw [Sem.run_bind, p2, Result.andThen_ok, Sem.run_bind, r2, Result.andThen_ok, Sem.run_bind, q2, Result.andThen_ok]
      by_cases h2 : s = s'
      · rw [decide_eq_true h2, if_neg (by decide), h0, h1, h2, decide_eq_true rfl]
        unfold Op.eqFields
        rfl
      · rw [decide_eq_false h2, if_pos (by decide), decide_eq_false (by simp [h2])]
        rfl
    · rw [decide_eq_false h1, if_pos (by decide), decide_eq_false (by simp [h1])]
      rfl
  · rw [decide_eq_false h0, if_pos (by decide), decide_eq_false (by simp [h0])]
    rfl
theorem eql_ptr (p q : PtrD) (hp : PtOk p) (hq : PtOk q) (w : World) : (binOp .eql 27 (.agg (pcl p).toArray) (.agg (pcl q).toArray)).run Try.prog w = .ok (.bool (decide (p = q))) w := by
  obtain ⟨d, hd⟩ : ∃ d, d + 4 = 10000 := ⟨9996, rfl⟩
  rw [run_eql_struct, ← hd, ptr_in p q hp hq w d]
  rfl
theorem neq_ptr (p q : PtrD) (hp : PtOk p) (hq : PtOk q) (w : World) : (binOp .neq 27 (.agg (pcl p).toArray) (.agg (pcl q).toArray)).run Try.prog w = .ok (.bool (!decide (p = q))) w := by
  obtain ⟨d, hd⟩ : ∃ d, d + 4 = 10000 := ⟨9996, rfl⟩
  rw [run_neq_struct, ← hd, ptr_in p q hp hq w d]
  rfl
theorem pt_guard : Try.prog.eqGuardType Try.prog.depth 27 = false := by kernel_rfl
section
variable {ops : Array Oper} {rest : List Oper} {o : Oper} {ac : Act} {w : World} {Q : Exit → Act → World → Prop}
theorem wpList_eqPt (x y : Operand) (u : Nat) (ho : o.op = .binOp .eql 27 x y u) (p q : PtrD) (hp : PtOk p) (hq : PtOk q) (hx : ac.eval x = .agg (pcl p).toArray) (hy : ac.eval y = .agg (pcl q).toArray) (hw : Region.wanted o (yielded ops ac.tmps) = true)
    (h : wpList Try.prog ops Q rest (ac.put o.dst (.bool (decide (p = q)))) w) : wpList Try.prog ops Q (o :: rest) ac w := by
  refine wpList_step fun K hK => ?_
  rw [if_pos hw]
  unfold Oper.wp execOp
  simp only [ho, hx, hy, Sem.run_bind, run_eqGuard_agg w _ _ x y _ _ pt_guard, eql_ptr p q hp hq w, Result.andThen_ok, Sem.run_pure]
  exact hK _ _ h
theorem wpList_nePt (x y : Operand) (u : Nat) (ho : o.op = .binOp .neq 27 x y u) (p q : PtrD) (hp : PtOk p) (hq : PtOk q) (hx : ac.eval x = .agg (pcl p).toArray) (hy : ac.eval y = .agg (pcl q).toArray) (hw : Region.wanted o (yielded ops ac.tmps) = true)
    (h : wpList Try.prog ops Q rest (ac.put o.dst (.bool (!decide (p = q)))) w) : wpList Try.prog ops Q (o :: rest) ac w := by
  refine wpList_step fun K hK => ?_
  rw [if_pos hw]
  unfold Oper.wp execOp
  simp only [ho, hx, hy, Sem.run_bind, run_eqGuard_agg w _ _ x y _ _ pt_guard, neq_ptr p q hp hq w, Result.andThen_ok, Sem.run_pure]
  exact hK _ _ h
theorem wpList_eqPtB (x y : Operand) (u : Nat) (ho : o.op = .binOp .eql 27 x y u) (p q : PtrD) (hp : PtOk p) (hq : PtOk q) (hx : ac.eval x = .agg (pcl p).toArray) (hy : ac.eval y = .agg (pcl q).toArray) (hw : Region.wanted o (yielded ops ac.tmps) = true)
    (b : Bool) (hb : decide (p = q) = b) (h : wpList Try.prog ops Q rest (ac.put o.dst (.bool b)) w) : wpList Try.prog ops Q (o :: rest) ac w := by
  refine wpList_step fun K hK => ?_
  rw [if_pos hw]
  unfold Oper.wp execOp
  simp only [ho, hx, hy, Sem.run_bind, run_eqGuard_agg w _ _ x y _ _ pt_guard, eql_ptr p q hp hq w, Result.andThen_ok, Sem.run_pure]
  subst hb
  exact hK _ _ h
theorem wpList_nePtB (x y : Operand) (u : Nat) (ho : o.op = .binOp .neq 27 x y u) (p q : PtrD) (hp : PtOk p) (hq : PtOk q) (hx : ac.eval x = .agg (pcl p).toArray) (hy : ac.eval y = .agg (pcl q).toArray) (hw : Region.wanted o (yielded ops ac.tmps) = true)
    (b : Bool) (hb : decide (p = q) = b) (h : wpList Try.prog ops Q rest (ac.put o.dst (.bool (!b))) w) : wpList Try.prog ops Q (o :: rest) ac w := by
  refine wpList_step fun K hK => ?_
  rw [if_pos hw]
  unfold Oper.wp execOp
  simp only [ho, hx, hy, Sem.run_bind, run_eqGuard_agg w _ _ x y _ _ pt_guard, neq_ptr p q hp hq w, Result.andThen_ok, Sem.run_pure]
  subst hb
  exact hK _ _ h
end
theorem built_pz : Try.prog.built 27 [] = some (pcl pz).toArray := by kernel_rfl
set_option maxRecDepth 100000 in
theorem null_any (p : PtrD) (hp : PtOk p) (w : World) : Calls Try.prog 12 #[.agg (pcl p).toArray] w fun e w' => e = .returned (.bool (decide (p.a = 0))) ∧ Below w.heap.size w w' := by
  have h0 := Blk.new_at (w := w) (t := 27) (cs := (pcl p).toArray) rfl rfl
  have B0 : Below w.heap.size w (w.alloc (.cells (pcl p).toArray 27)) := (Below.refl _ _).alloc (Nat.le_refl _) _
  have c0 : (w.alloc (.cells (pcl p).toArray 27)).cell? ⟨w.heap.size, 0, none⟩ = some (.int .u32 (p.a : Int)) := (h0.cell 0).trans rfl
  have hR : Hid (Below w.heap.size w (w.alloc (.cells (pcl p).toArray 27))) := B0
  clear h0 B0
  generalize (pcl p).toArray = X at *
  go_enter Try.func12, Try.ntmps12
  go_wp2
  go_ret
  exact ⟨by rw [← same_nat]; first | rfl | simp, hR.out⟩
end Go.Proofs.Ytfhlenclnknnhaa
