/- Arrays, more: a slice of an array's variable; copy into a block. -/
import Derived.Test.YtfhlenclnknnhaaArr
set_option linter.unusedVariables false
set_option linter.unusedSimpArgs false
namespace Go.Proofs.Ytfhlenclnknnhaa
open Go.RowKit

section
variable {P : Program} {ty len el s : Nat}
theorem run_sliceA_lh (hu : P.underlying ty = some (.array len el)) (hs : (P.info? el).map (·.size) = some s) (g off l h : Nat) (li hi : Int) (e1 : li = l) (e2 : hi = h) (h1 : l ≤ h) (h2 : h ≤ len) (h3 : l < len) (w : World) :
    (Instr.sliceAt ty (.pointer (some ⟨g, off, none⟩)) (some (.int .i64 li)) (some (.int .i64 hi)) none).run P w = .ok (.slice (some ⟨g, off + l * s, none⟩) (h - l) (len - l)) w := by
  subst e1; subst e2
  cases hq : P.info? el with
  | none => simp [hq] at hs
  | some i =>
    have hsz : i.size = s := by simpa [hq] using hs
    have ha : (⟨g, off, none⟩ : Addr).add (l * s) = ⟨g, off + l * s, none⟩ := by unfold Addr.add; split <;> simp_all
    have hne : ¬ len = l := by omega
    simp [Instr.sliceAt, Instr.sureAddr, Instr.sliceBounds, Instr.sliceBound, asIntOf, Sem.run_bind, run_underlying hu, sizeOf, typeInfo, hq, hsz, h1, h2, ha, hne]
theorem run_sliceA_l (hu : P.underlying ty = some (.array len el)) (hs : (P.info? el).map (·.size) = some s) (g off l : Nat) (li : Int) (e1 : li = l) (h3 : l < len) (w : World) :
    (Instr.sliceAt ty (.pointer (some ⟨g, off, none⟩)) (some (.int .i64 li)) none none).run P w = .ok (.slice (some ⟨g, off + l * s, none⟩) (len - l) (len - l)) w := by
  subst e1
  cases hq : P.info? el with
  | none => simp [hq] at hs
  | some i =>
    have hsz : i.size = s := by simpa [hq] using hs
    have ha : (⟨g, off, none⟩ : Addr).add (l * s) = ⟨g, off + l * s, none⟩ := by unfold Addr.add; split <;> simp_all
    have hne : ¬ len = l := by omega
    have hle : l ≤ len := by omega
    simp [Instr.sliceAt, Instr.sureAddr, Instr.sliceBounds, Instr.sliceBound, asIntOf, Sem.run_bind, run_underlying hu, sizeOf, typeInfo, hq, hsz, hle, ha, hne]
end
section
variable {P : Program} {ops : Array Oper} {rest : List Oper} {o : Oper} {a : Act} {w : World} {Q : Exit → Act → World → Prop}
theorem wpList_sliceA (hgd : o.guard = none) (ty : TypeId) (x lo hi : Operand) (ho : o.op = .slice ty x (some lo) (some hi) none) (len el s : Nat) (hu : P.underlying ty = some (.array len el)) (hs : (P.info? el).map (·.size) = some s)
    (g off : Nat) (hx : a.eval x = .pointer (some ⟨g, off, none⟩)) (li hii : Int) (hlo : a.eval lo = .int .i64 li) (hhi : a.eval hi = .int .i64 hii) (l h : Nat) (e1 : li = l) (e2 : hii = h) (h1 : l ≤ h) (h2 : h ≤ len) (h3 : l < len)
    (hk : wpList P ops Q rest (a.put o.dst (.slice (some ⟨g, off + l * s, none⟩) (h - l) (len - l))) w) : wpList P ops Q (o :: rest) a w := by
  refine wpList_plain hgd fun K hK => ?_
  unfold Oper.wp execOp
  simp only [ho, hx, hlo, hhi, Option.map_some, Option.map_none, Sem.run_bind, run_sliceA_lh hu hs g off l h li hii e1 e2 h1 h2 h3, Result.andThen_ok, Sem.run_pure]
  exact hK _ _ hk
theorem wpStill_sliceA_l {QS : Act → Prop} (hgd : o.guard = none) (ty : TypeId) (x lo : Operand) (ho : o.op = .slice ty x (some lo) none none) (len el s : Nat) (hu : P.underlying ty = some (.array len el)) (hs : (P.info? el).map (·.size) = some s)
    (g off : Nat) (hx : a.eval x = .pointer (some ⟨g, off, none⟩)) (li : Int) (hlo : a.eval lo = .int .i64 li) (l : Nat) (e1 : li = l) (h3 : l < len)
    (h : wpStill P ops w QS rest (a.put o.dst (.slice (some ⟨g, off + l * s, none⟩) (len - l) (len - l)))) : wpStill P ops w QS (o :: rest) a := by
  refine wpStill_step fun K hK => ?_
  have hw : Region.wanted o (yielded ops a.tmps) = true := by simp [Region.wanted, hgd]
  rw [if_pos hw]
  unfold Oper.still execOp
  simp only [ho, hx, hlo, Option.map_some, Option.map_none, Sem.run_bind, run_sliceA_l hu hs g off l li e1 h3, Result.andThen_ok, Sem.run_pure]
  exact ⟨rfl, hK _ h⟩
theorem wpList_arrayAt (hgd : o.guard = none) (ty : TypeId) (x : Operand) (ho : o.op = .sliceToArrayPointer ty x) (n el : Nat) (hu : P.underlying ty = some (.array n el)) (A : Option Addr) (len cap : Nat) (hx : a.eval x = .slice A len cap) (hn : n ≤ len)
    (h : wpList P ops Q rest (a.put o.dst (.pointer A)) w) : wpList P ops Q (o :: rest) a w := by
  refine wpList_plain hgd fun K hK => ?_
  have hlt : ¬ len < n := by omega
  unfold Oper.wp execOp
  simp [ho, hx, Instr.arrayAt, Sem.run_bind, run_underlying hu, hlt, Result.andThen]
  exact hK _ _ h
theorem wpStill_arrayAt {QS : Act → Prop} (hgd : o.guard = none) (ty : TypeId) (x : Operand) (ho : o.op = .sliceToArrayPointer ty x) (n el : Nat) (hu : P.underlying ty = some (.array n el)) (A : Option Addr) (len cap : Nat) (hx : a.eval x = .slice A len cap) (hn : n ≤ len)
    (h : wpStill P ops w QS rest (a.put o.dst (.pointer A))) : wpStill P ops w QS (o :: rest) a := by
  refine wpStill_step fun K hK => ?_
  have hw : Region.wanted o (yielded ops a.tmps) = true := by simp [Region.wanted, hgd]
  rw [if_pos hw]
  have hlt : ¬ len < n := by omega
  unfold Oper.still execOp
  simp [ho, hx, Instr.arrayAt, Sem.run_bind, run_underlying hu, hlt, Result.andThen]
  exact ⟨rfl, hK _ h⟩
/-- copy into a block, of cells that lie elsewhere: as many as the source has. -/
theorem wpList_copyA (hgd : o.guard = none) (d s : Operand) (dT sT : TypeId) (ho : o.op = .call { callee := .builtin .copy, args := #[d, s], argTypes := #[dT, sT] }) (elem : TypeId) (hu : P.underlying dT = some (.slice elem)) (hs : (P.info? elem).map (·.size) = some 1)
    (g off dLen dCap : Nat) (hd : a.eval d = .slice (some ⟨g, off, none⟩) dLen dCap) (ad : Addr) (sLen sCap : Nat) (hx : a.eval s = .slice (some ad) sLen sCap) (t : TypeId) (L : List Value) (hb : Blk w g t L) (cs : List Value) (hn : cs.length = Nat.min sLen dLen)
    (hsrc : ∀ j v, cs[j]? = some v → w.cell? (ad.add j) = some v) (hfit : off + cs.length ≤ L.length) (h1 : Ones cs)
    (h : ∀ w', Blk w' g t (putL L off cs) → Keeps [g] w w' → wpList P ops Q rest (a.put o.dst (goInt cs.length)) w') : wpList P ops Q (o :: rest) a w := by
  refine wpList_plain hgd fun K hK => ?_
  have hr := run_copy_row (P := P) w dT sT o.type elem g off dLen dCap ad sLen sCap L.toArray t cs hu hs hb hn hsrc (by simpa using hfit) h1
  unfold Oper.wp
  simp [execOp, ho, resolve, invoke, builtin, hd, hx, hr, Result.andThen]
  have := h _ (hb.setRow (putL L off cs)) ((Keeps.refl _ _).setRow (by simp) _)
  refine hK _ _ ?_
  simpa [putL] using this
end
/-- A cell of a block, by an address that is added to. -/
theorem Blk.cellAdd {w : World} {g t : Nat} {L : List Value} (hb : Blk w g t L) (o j : Nat) : w.cell? ((⟨g, o, none⟩ : Addr).add j) = L[o + j]? := by
  have ha : (⟨g, o, none⟩ : Addr).add j = ⟨g, o + j, none⟩ := by unfold Addr.add; split <;> simp_all
  rw [ha, hb.cell]
theorem putL_bv (l : List Nat) (o : Nat) (m : List Nat) : putL (bv l) o (bv m) = bv (l.take o ++ m ++ l.drop (o + m.length)) := by simp [putL, bv]
theorem bv_seg (l : List Nat) (o n : Nat) : ((bv l).drop o).take n = bv ((l.drop o).take n) := by simp [bv]
/-- So many more are new. -/
theorem upd_put {new old : List Nat} {k n : Nat} (h : new.length = old.length) (hk : k + n ≤ old.length) : (upd new old k).take k ++ (new.drop k).take n ++ (upd new old k).drop (k + n) = upd new old (k + n) := by
  have e1 : (upd new old k).take k = new.take k := by
    unfold upd
    rw [List.take_append_of_le_length (by simp; omega), List.take_take, Nat.min_self]
  have e2 : (upd new old k).drop (k + n) = old.drop (k + n) := by
    unfold upd
    rw [List.drop_append, List.drop_of_length_le (by simp; omega), List.nil_append, List.drop_drop]
    congr 1
    simp; omega
  rw [e1, e2]
  unfold upd
  rw [List.take_add]
end Go.Proofs.Ytfhlenclnknnhaa
