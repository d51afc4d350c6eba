/- A struct built of its fields, arrays among them. -/
import Derived.Test.YtfhlenclnknnhaaArr
import Derived.Great.FillDense
import Derived.Laws.Tables
set_option linter.unusedVariables false
set_option linter.unusedSimpArgs false
namespace Go.Proofs.Ytfhlenclnknnhaa
open Go.RowKit

theorem fold_putL (off : Nat) (vs cells : List Value) (hc : off + vs.length ≤ cells.length) :
    (vs.zipIdx 0).foldl (fun cs (x : Value × Nat) => cs.setIfInBounds (off + x.2) x.1) cells.toArray = (putL cells off vs).toArray := by
  obtain ⟨h1, h2⟩ := Go.Great.foldl_set off vs 0 cells.toArray
  apply Array.ext_getElem?
  intro k
  rw [h2 k]
  simp only [Nat.add_zero, List.size_toArray, List.getElem?_toArray]
  unfold putL
  by_cases hk : off ≤ k
  · by_cases hk2 : k < off + vs.length
    · rw [if_pos ⟨hk, hk2, by omega⟩, List.getElem?_append_left (by simp; omega), List.getElem?_append_right (by simp; omega)]
      congr 1
      simp; omega
    · rw [if_neg (by omega), List.getElem?_append_right (by simp; omega), List.getElem?_drop]
      congr 1
      simp; omega
  · rw [if_neg (by omega), List.append_assoc, List.getElem?_append_left (by simp; omega), List.getElem?_take, if_pos (by omega)]
theorem fill_agg {place : Nat → Option (Nat × Nat)} {i off size : Nat} (hp : place i = some (off, size)) (cells vs : List Value) (hv : vs.length = size) (hc : off + size ≤ cells.length) (rest : List (Nat × Value)) :
    Instr.fill place cells.toArray ((i, .agg vs.toArray) :: rest) = Instr.fill place (putL cells off vs).toArray rest := by
  conv => lhs; unfold Instr.fill
  simp only [hp, Value.cells, List.size_toArray, hv]
  rw [if_neg (by simp; omega), ← fold_putL off vs cells (by omega), ← Array.foldl_toList, Array.toList_zipIdx]
theorem fill_one {place : Nat → Option (Nat × Nat)} {i off : Nat} (hp : place i = some (off, 1)) (cells : List Value) (v : Value) (hv : v.cells = #[v]) (hc : off + 1 ≤ cells.length) (rest : List (Nat × Value)) :
    Instr.fill place cells.toArray ((i, v) :: rest) = Instr.fill place (putL cells off [v]).toArray rest := by
  conv => lhs; unfold Instr.fill
  simp only [hp, hv]
  rw [if_neg (by simp; omega), ← fold_putL off [v] cells (by simpa using hc), ← Array.foldl_toList, Array.toList_zipIdx]
/-- A struct of two arrays of bytes. -/
theorem built_two {P : Program} {t : TypeId} {fs : Array Field} {it : TypeInfo} {n m : Nat} {z : List Value} (hi : P.info? t = some it) (hu : P.underlying t = some (.struct fs)) (hz : it.zero = some (.agg z.toArray)) (hzl : z.length = n + m)
    (hp : fs.toList.mapM (fun f => (P.info? f.type).map fun i => (f.offset, i.size)) = some [(0, n), (n, m)]) (x y : List Value) (hx : x.length = n) (hy : y.length = m) :
    P.built t [(0, .agg x.toArray), (1, .agg y.toArray)] = some (x ++ y).toArray := by
  unfold Program.built
  simp only [hi, hu, hz, hp]
  show Instr.fill _ z.toArray _ = _
  rw [fill_agg (off := 0) (size := n) (by rfl) z x hx (by omega), fill_agg (off := n) (size := m) (by rfl) _ y hy (by rw [putL_length _ _ _ (by omega)]; omega)]
  show some _ = some _
  congr 2
  have e1 : putL z 0 x = x ++ z.drop n := by simp [putL, hx]
  rw [e1]
  unfold putL
  rw [List.take_left' hx, List.drop_of_length_le (by simp; omega), List.append_nil]
/-- Of its first alone. -/
theorem built_fst {P : Program} {t : TypeId} {fs : Array Field} {it : TypeInfo} {n : Nat} {r : List (Nat × Nat)} {z z2 : List Value} (hi : P.info? t = some it) (hu : P.underlying t = some (.struct fs)) (hz : it.zero = some (.agg z.toArray)) (hz2 : z.drop n = z2) (hzl : n ≤ z.length)
    (hp : fs.toList.mapM (fun f => (P.info? f.type).map fun i => (f.offset, i.size)) = some ((0, n) :: r)) (x : List Value) (hx : x.length = n) :
    P.built t [(0, .agg x.toArray)] = some (x ++ z2).toArray := by
  subst hz2
  unfold Program.built
  simp only [hi, hu, hz, hp]
  show Instr.fill _ z.toArray _ = _
  rw [fill_agg (off := 0) (size := n) (by rfl) z x hx (by omega)]
  show some _ = some _
  congr 2
  simp [putL, hx]
/-- Of two single fields and an array. -/
theorem built_three {P : Program} {t : TypeId} {fs : Array Field} {it : TypeInfo} {n : Nat} {z : List Value} (hi : P.info? t = some it) (hu : P.underlying t = some (.struct fs)) (hz : it.zero = some (.agg z.toArray)) (hzl : z.length = 2 + n)
    (hp : fs.toList.mapM (fun f => (P.info? f.type).map fun i => (f.offset, i.size)) = some [(0, 1), (1, 1), (2, n)]) (a b : Value) (ha : a.cells = #[a]) (hb : b.cells = #[b]) (x : List Value) (hx : x.length = n) :
    P.built t [(0, a), (1, b), (2, .agg x.toArray)] = some (a :: b :: x).toArray := by
  unfold Program.built
  simp only [hi, hu, hz, hp]
  show Instr.fill _ z.toArray _ = _
  have l1 : (putL z 0 [a]).length = z.length := putL_length _ _ _ (by simp; omega)
  have l2 : (putL (putL z 0 [a]) 1 [b]).length = z.length := by rw [putL_length _ _ _ (by simp; omega), l1]
  rw [fill_one (off := 0) (by rfl) z a ha (by omega), fill_one (off := 1) (by rfl) _ b hb (by omega), fill_agg (off := 2) (size := n) (by rfl) _ x hx (by omega)]
  show some _ = some _
  congr 2
  obtain ⟨u, v, z', rfl⟩ : ∃ u v z', z = u :: v :: z' := by
    match z, hzl with
    | u :: v :: z', _ => exact ⟨u, v, z', rfl⟩
    | [u], h => simp at h; omega
    | [], h => simp at h; omega
  have h9 : z'.length = n := by simp at hzl; omega
  simp [putL, hx, h9]
  omega
/-- A struct built, its value known. -/
theorem wpList_buildV {P : Program} {ops : Array Oper} {rest : List Oper} {o : Oper} {a : Act} {w : World} {Q : Exit → Act → World → Prop} (hg : o.guard = none) (t : TypeId) (parts : Array (Nat × Operand)) (ho : o.op = .build t parts) (ps : List (Nat × Value)) (hps : parts.toList.map (fun x => (x.1, a.eval x.2)) = ps) (L : List Value)
    (hb : P.built t ps = some L.toArray) (h : wpList P ops Q rest (a.put o.dst (.agg L.toArray)) w) : wpList P ops Q (o :: rest) a w := by
  have e : P.built t (parts.map fun (i, x) => (i, a.eval x)).toList = some L.toArray := by
    rw [Array.toList_map, ← hb, ← hps]
  exact Go.wpList_build hg t parts ho (by rw [e]; rfl) (by rw [e]; exact h)
end Go.Proofs.Ytfhlenclnknnhaa
