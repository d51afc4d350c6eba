/- Arrays: a whole array read out of a block, and stored into one; rows that turn from left to right. -/
import Derived.Test.YtfhlenclnknnhaaBase
import Derived.Laws.CopyOwn
import Derived.Laws.Rows
import Derived.StillTailTactics
set_option linter.unusedVariables false
set_option linter.unusedSimpArgs false
namespace Go.Proofs.Ytfhlenclnknnhaa
open Go.RowKit

/-- A type of so many cells, an array's or a struct's. -/
def ArrTy (P : Program) (ty n : Nat) : Prop := ∃ d, P.underlying ty = some d ∧ (match d with | .struct _ | .array _ _ => true | _ => false) = true ∧ (P.info? ty).map (·.size) = some n

/-- Values laid into a row, from a place on. -/
def putL (L : List Value) (o : Nat) (vs : List Value) : List Value := L.take o ++ vs ++ L.drop (o + vs.length)
theorem putL_length (L : List Value) (o : Nat) (vs : List Value) (h : o + vs.length ≤ L.length) : (putL L o vs).length = L.length := by simp [putL]; omega
theorem putL_all {L vs : List Value} (h : vs.length = L.length) : putL L 0 vs = vs := by simp [putL, h]
def Ones (vs : List Value) : Prop := ∀ v ∈ vs, v.oneCell' = true
theorem ones_bv (l : List Nat) : Ones (bv l) := by
  intro y hy
  simp only [bv, List.mem_map] at hy
  obtain ⟨b, _, rfl⟩ := hy
  rfl

section
variable {P : Program} {w w' : World} {g t ty n off : Nat} {L vs : List Value}
theorem Blk.setRow (h : Blk w g t L) (M : List Value) : Blk (w.setRow g M.toArray) g t M := setRow_heap w g _ _ _ _ h
theorem Keeps.setRow {G : List Nat} {w0 : World} (h : Keeps G w0 w) (hg : g ∈ G) (cs : Array Value) : Keeps G w0 (w.setRow g cs) :=
  ⟨h.os, h.tape, h.output, by simpa using h.size, fun b hb hG => (setRow_other w g b cs (fun e => hG (e ▸ hg))).trans (h.block b hb hG)⟩

theorem run_loadA (hb : Blk w g t L) (hT : ArrTy P ty n) (hl : off + n ≤ L.length) : (Instr.loadAt ty (.pointer (some ⟨g, off, none⟩))).run P w = .ok (.agg ((L.drop off).take n).toArray) w := by
  obtain ⟨d, hu, hd, hi⟩ := hT
  have hlen : ((L.drop off).take n).length = n := by simp; omega
  have hc : (loadCells ⟨g, off, none⟩ ((L.drop off).take n).length).run P w = .ok ((L.drop off).take n).toArray w :=
    run_loadCells_list (P := P) w ⟨g, off, none⟩ _ (fun j v hv => by
      have hadd : (⟨g, off, none⟩ : Addr).add j = ⟨g, off + j, none⟩ := by unfold Addr.add; split <;> simp_all
      rw [hadd, hb.cell]
      rw [List.getElem?_take] at hv
      split at hv
      · simpa using hv
      · cases hv)
  rw [hlen] at hc
  cases hq : P.info? ty with
  | none => simp [hq] at hi
  | some i =>
    have hs : i.size = n := by simpa [hq] using hi
    have hagg : (isAgg ty).run P w = .ok true w := by
      unfold isAgg
      rw [Sem.run_bind, run_underlying hu w]
      cases d <;> simp_all
    simp [Instr.loadAt, Instr.sureAddr, loadVar, Sem.run_bind, hagg, sizeOf, typeInfo, hq, hs, hc]

theorem run_storeA (hb : Blk w g t L) (hT : ArrTy P ty n) (hn : vs.length = n) (hl : off + n ≤ L.length) (h1 : Ones vs) :
    (Instr.storeAt ty (.pointer (some ⟨g, off, none⟩)) (.agg vs.toArray)).run P w = .ok () (w.setRow g (putL L off vs).toArray) := by
  obtain ⟨d, hu, hd, hi⟩ := hT
  subst hn
  have hst := run_storeCells_at P g off t vs 0 L.toArray w hb (by simpa using hl) h1
  cases hq : P.info? ty with
  | none => simp [hq] at hi
  | some i =>
    have hs : i.size = vs.length := by simpa [hq] using hi
    simp only [Nat.add_zero] at hst
    simp [Instr.storeAt, Instr.sureAddr, storeVar, Sem.run_bind, sizeOf, typeInfo, hq, hs, Value.cells, hst, putL]
end

section
variable {P : Program} {ops : Array Oper} {rest : List Oper} {o : Oper} {a : Act} {w : World} {Q : Exit → Act → World → Prop}
theorem wpList_loadA (hgd : o.guard = none) (ty : TypeId) (x : Operand) (ho : o.op = .load ty x) (n : Nat) (hT : ArrTy P ty n) (g off : Nat) (hx : a.eval x = .pointer (some ⟨g, off, none⟩)) (t : TypeId) (L : List Value) (hb : Blk w g t L)
    (hl : off + n ≤ L.length) (M : List Value) (hM : (L.drop off).take n = M) (h : wpList P ops Q rest (a.put o.dst (.agg M.toArray)) w) : wpList P ops Q (o :: rest) a w := by
  subst hM
  refine wpList_plain hgd fun K hK => ?_
  unfold Oper.wp execOp
  simp only [ho, hx, Sem.run_bind, run_loadA hb hT hl, Result.andThen_ok, Sem.run_pure]
  exact hK _ _ h
theorem wpList_storeA (hgd : o.guard = none) (ty : TypeId) (x y : Operand) (ho : o.op = .store ty x y) (n : Nat) (hT : ArrTy P ty n) (g off : Nat) (hx : a.eval x = .pointer (some ⟨g, off, none⟩)) (vs : List Value) (hy : a.eval y = .agg vs.toArray) (t : TypeId) (L : List Value) (hb : Blk w g t L)
    (hn : vs.length = n) (hl : off + n ≤ L.length) (h1 : Ones vs) (h : ∀ w', Blk w' g t (putL L off vs) → Keeps [g] w w' → wpList P ops Q rest (a.put o.dst undef) w') : wpList P ops Q (o :: rest) a w := by
  refine wpList_plain hgd fun K hK => ?_
  unfold Oper.wp execOp
  simp only [ho, hx, hy, Sem.run_bind, run_storeA hb hT hn hl h1, Result.andThen_ok, Sem.run_pure]
  exact hK _ _ (h _ (hb.setRow _) ((Keeps.refl _ _).setRow (by simp) _))
/-- The same among operations that only read, in a region that draws its order. -/
theorem wpStill_loadA {QS : Act → Prop} (hgd : o.guard = none) (ty : TypeId) (x : Operand) (ho : o.op = .load ty x) (n : Nat) (hT : ArrTy P ty n) (g off : Nat) (hx : a.eval x = .pointer (some ⟨g, off, none⟩)) (t : TypeId) (L : List Value) (hb : Blk w g t L)
    (hl : off + n ≤ L.length) (M : List Value) (hM : (L.drop off).take n = M) (h : wpStill P ops w QS rest (a.put o.dst (.agg M.toArray))) : wpStill P ops w QS (o :: rest) a := by
  subst hM
  refine wpStill_step fun K hK => ?_
  have hw : Region.wanted o (yielded ops a.tmps) = true := by simp [Region.wanted, hgd]
  rw [if_pos hw]
  unfold Oper.still execOp
  simp only [ho, hx, Sem.run_bind, run_loadA hb hT hl, Result.andThen_ok, Sem.run_pure]
  exact ⟨rfl, hK _ h⟩
theorem wpStill_loadW {QS : Act → Prop} (hgd : o.guard = none) (ty : TypeId) (x : Operand) (ho : o.op = .load ty x) (n : Nat) (hT : ArrTy P ty n) (g : Nat) (hx : a.eval x = .pointer (some ⟨g, 0, none⟩)) (t : TypeId) (L : List Value) (hb : Blk w g t L)
    (hl : L.length = n) (h : wpStill P ops w QS rest (a.put o.dst (.agg L.toArray))) : wpStill P ops w QS (o :: rest) a :=
  wpStill_loadA hgd ty x ho n hT g 0 hx t L hb (by omega) L (by simp [← hl]) h
/-- A whole block. -/
theorem wpList_loadW (hgd : o.guard = none) (ty : TypeId) (x : Operand) (ho : o.op = .load ty x) (n : Nat) (hT : ArrTy P ty n) (g : Nat) (hx : a.eval x = .pointer (some ⟨g, 0, none⟩)) (t : TypeId) (L : List Value) (hb : Blk w g t L)
    (hl : L.length = n) (h : wpList P ops Q rest (a.put o.dst (.agg L.toArray)) w) : wpList P ops Q (o :: rest) a w :=
  wpList_loadA hgd ty x ho n hT g 0 hx t L hb (by omega) L (by simp [← hl]) h
theorem wpList_storeW (hgd : o.guard = none) (ty : TypeId) (x y : Operand) (ho : o.op = .store ty x y) (n : Nat) (hT : ArrTy P ty n) (g : Nat) (hx : a.eval x = .pointer (some ⟨g, 0, none⟩)) (vs : List Value) (hy : a.eval y = .agg vs.toArray) (t : TypeId) (L : List Value) (hb : Blk w g t L)
    (hn : vs.length = n) (hl : L.length = n) (h1 : Ones vs) (h : ∀ w', Blk w' g t vs → Keeps [g] w w' → wpList P ops Q rest (a.put o.dst undef) w') : wpList P ops Q (o :: rest) a w :=
  wpList_storeA hgd ty x y ho n hT g 0 hx vs hy t L hb hn (by omega) h1 (fun w' h2 => by rw [putL_all (by omega)] at h2; exact h w' h2)
end

theorem Blk.new_at {w : World} {n t : Nat} {cs : Array Value} {L : List Value} (h : w.heap.size = n) (hL : cs.toList = L) : Blk (w.alloc (.cells cs t)) n t L := by
  subst h; subst hL; exact Blk.new w t cs
/-- A new variable of an array's type. -/
theorem wpList_allocA {P : Program} {ops : Array Oper} {rest : List Oper} {o : Oper} {a : Act} {w : World} {Q : Exit → Act → World → Prop} (hgd : o.guard = none) (ty : TypeId) (ho : o.op = .alloc ty) (zs : List Value) (hz : (P.info? ty).bind (·.zero) = some (.agg zs.toArray))
    (h : ∀ w', Blk w' w.heap.size ty zs → Keeps [] w w' → w'.heap.size = w.heap.size + 1 → wpList P ops Q rest (a.put o.dst (.pointer (some ⟨w.heap.size, 0, none⟩))) w') : wpList P ops Q (o :: rest) a w := by
  refine wpList_plain hgd fun K hK => ?_
  unfold Oper.wp execOp
  cases hq : P.info? ty with
  | none => simp [hq] at hz
  | some i =>
    have hz' : i.zero = some (.agg zs.toArray) := by simpa [hq] using hz
    simp [ho, Instr.alloc, zeroValue, typeInfo, hq, hz', newVar, newRow, newObj, Sem.run_bind, Value.cells, Result.andThen]
    exact hK _ _ (h (w.alloc (.cells zs.toArray ty)) (Blk.new_at rfl rfl) ((Keeps.refl _ _).alloc _) (by simp))
/-- A part of an array's value. -/
theorem wpList_indexA {P : Program} {ops : Array Oper} {rest : List Oper} {o : Oper} {a : Act} {w : World} {Q : Exit → Act → World → Prop} (hgd : o.guard = none) (ty : TypeId) (x y : Operand) (ho : o.op = .index ty x y) (len el n : Nat)
    (hu : P.underlying ty = some (.array len el)) (hT : ArrTy P el n) (L : List Value) (hx : a.eval x = .agg L.toArray) (i : Nat) (hy : a.eval y = .int .i64 (i : Int)) (hi : i < len) (M : List Value) (hM : (L.drop (i * n)).take n = M)
    (h : wpList P ops Q rest (a.put o.dst (.agg M.toArray)) w) : wpList P ops Q (o :: rest) a w := by
  subst hM
  obtain ⟨d, hu2, hd, hi2⟩ := hT
  refine wpList_plain hgd fun K hK => ?_
  unfold Oper.wp execOp
  cases hq : P.info? el with
  | none => simp [hq] at hi2
  | some inf =>
    have hs : inf.size = n := by simpa [hq] using hi2
    have hagg : (isAgg el).run P w = .ok true w := by
      unfold isAgg
      rw [Sem.run_bind, run_underlying hu2 w]
      cases d <;> simp_all
    have e : L.toArray.extract (i * n) (i * n + n) = ((L.drop (i * n)).take n).toArray := by
      simp [List.extract_toArray, List.extract_eq_take_drop]
    simp [ho, hx, hy, Instr.index, asIntOf, Sem.run_bind, run_underlying hu, hi, sizeOf, typeInfo, hq, hs, part, hagg, Result.andThen, e]
    exact hK _ _ (by simpa [e] using h)
/-- What a function answers whose result lies in a block. -/
theorem res_cell {P : Program} {fn : Func} {p : Tmp} {ty n : Nat} (h : fn.results = #[.cell p ty]) (tmps : Array Value) (w : World) (g : Nat) (t : TypeId) (L : List Value) (hT : ArrTy P ty n) (hl : L.length = n)
    (hp : tmps.getD p undef = .pointer (some ⟨g, 0, none⟩)) (hb : Blk w g t L) : (results fn tmps).run P w = .ok (.agg L.toArray) w := by
  obtain ⟨d, hu, hd, hi⟩ := hT
  exact results_cell_row h tmps w g t L.toArray (0, 0) d hp hb hu (by cases d <;> simp_all) (by simpa [hl] using hi)

/-- So many are new, the others as they were. -/
def upd {α : Type} (new old : List α) (k : Nat) : List α := new.take k ++ old.drop k
section
variable {α : Type} {new old : List α} {k : Nat}
theorem upd_length (h : new.length = old.length) (hk : k ≤ old.length) : (upd new old k).length = old.length := by simp [upd]; omega
theorem upd_zero : upd new old 0 = old := by simp [upd]
theorem upd_all (h : new.length = k) (h' : old.length = k) : upd new old k = new := by simp [upd, ← h]; omega
theorem upd_get (h : new.length = old.length) {i : Nat} (hi : k ≤ i) (hk : k ≤ old.length) : (upd new old k)[i]? = old[i]? := by
  unfold upd
  rw [List.getElem?_append_right (by simp; omega)]
  simp only [List.length_take, List.getElem?_drop]
  congr 1; omega
theorem upd_get_new (h : new.length = old.length) {i : Nat} (hi : i < k) (hk : k ≤ old.length) : (upd new old k)[i]? = new[i]? := by
  unfold upd
  rw [List.getElem?_append_left (by simp; omega), List.getElem?_take, if_pos hi]
theorem upd_set (h : new.length = old.length) (hk : k < old.length) {u : α} (hu : new[k]? = some u) : (upd new old k).set k u = upd new old (k + 1) := by
  apply List.ext_getElem?
  intro i
  rw [List.getElem?_set]
  rcases Nat.lt_trichotomy i k with h1 | h1 | h1
  · rw [if_neg (by omega), upd_get_new h h1 (by omega), upd_get_new h (by omega) (by omega)]
  · subst h1
    rw [if_pos rfl, if_pos (by rw [upd_length h (by omega)]; exact hk), upd_get_new h (Nat.lt_succ_self _) (by omega), hu]
  · rw [if_neg (by omega), upd_get h (by omega) (by omega), upd_get h (by omega) (by omega)]
theorem upd_mem (h : new.length = old.length) {p : α → Prop} (h1 : ∀ x ∈ new, p x) (h2 : ∀ x ∈ old, p x) : ∀ x ∈ upd new old k, p x := by
  intro x hx
  rcases List.mem_append.1 hx with h | h
  · exact h1 x (List.mem_of_mem_take h)
  · exact h2 x (List.mem_of_mem_drop h)
end
theorem bv_set (l : List Nat) (k x : Nat) : (bv l).set k (.int .u8 (x : Int)) = bv (l.set k x) := by simp [bv]
theorem bv_some {l : List Nat} {k x : Nat} (h : l[k]? = some x) : (bv l)[k]? = some (.int .u8 (x : Int)) := by rw [bv_get, h]; rfl
/-- Bytes 0. -/
def zeros (n : Nat) : List Nat := List.replicate n 0
@[simp] theorem zeros_length (n : Nat) : (zeros n).length = n := by simp [zeros]
theorem zeros_get {n i : Nat} (h : i < n) : (zeros n)[i]? = some 0 := by rw [zeros, List.getElem?_replicate, if_pos h]
/-- Rows of bytes. -/
def Byt (l : List Nat) : Prop := ∀ b ∈ l, b < 256
theorem Byt.get {l : List Nat} (h : Byt l) {k x : Nat} (hk : l[k]? = some x) : x < 256 := h x (List.mem_of_getElem? hk)
theorem get_lt {α : Type} {l : List α} {k : Nat} (h : k < l.length) : ∃ x, l[k]? = some x := ⟨_, List.getElem?_eq_getElem h⟩
theorem Byt.set {l : List Nat} (h : Byt l) {k x : Nat} (hx : x < 256) : Byt (l.set k x) := by
  intro b hb
  rcases List.mem_or_eq_of_mem_set hb with h1 | rfl
  · exact h b h1
  · exact hx
end Go.Proofs.Ytfhlenclnknnhaa
