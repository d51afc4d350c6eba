/- append onto a row of the call's own, whatever slice of bytes comes behind (nil and empty ones, too). -/
import Derived.Test.YtfhlenclnknnhaaBase
import Derived.Laws.AppendOwnNone
set_option linter.unusedVariables false
set_option linter.unusedSimpArgs false
namespace Go.Proofs.Ytfhlenclnknnhaa
open Go.RowKit

theorem run_append_nothing {P : Program} (w : World) (base : Nat) (t ty e : TypeId) (i : TypeInfo) (size : Nat) (ht : P.underlying t = some (.slice e)) (hi : P.info? e = some i)
    (v : Value) (n : Nat) (xs : List Value) (hown : w.ownsRow base e size v n xs) (c : Nat) : (Builtin.append_ #[t, t] ty #[v, .slice none 0 c]).run P w = .ok v w := by
  rcases hown.2 with ⟨rfl, rfl⟩ | ⟨g, cap, cur, rfl, _, _, hnc, _⟩
  · simp [Builtin.append_, run_underlying ht, sizeOf, typeInfo, hi, Builtin.lenOf, Builtin.firstCells]
  · simp [Builtin.append_, run_underlying ht, sizeOf, typeInfo, hi, Builtin.lenOf, Builtin.firstCells, hnc, storeCells]

theorem run_append_sl {P : Program} (w : World) (base : Nat) (t ty e : TypeId) (i : TypeInfo) (z : Value) (bytes : Nat) (ht : P.underlying t = some (.slice e)) (hi : P.info? e = some i) (hz : i.zero = some z)
    (hsize : i.size = 1) (hby : i.bytes = bytes) (hzs : z.cells.size = 1)
    (v : Value) (n : Nat) (xs : List Value) (hown : w.ownsRow base e 1 v n xs) (u : Value) (ys : List Value) (hu : Sl w u ys) (h1 : ∀ y ∈ ys, y.oneCell' = true)
    (h63 : n + ys.length ≤ maxLen) (hbytes : (n + ys.length) * bytes ≤ 140737488355328) (hbase : base ≤ w.heap.size) :
    ∃ v' w', (Builtin.append_ #[t, t] ty #[v, u]).run P w = .ok v' w' ∧ w'.ownsRow base e 1 v' (n + ys.length) (xs ++ ys) ∧ w.grownBy w' v.ownBlock := by
  obtain ⟨A, c, rfl, hc1, hc2, hc3⟩ := hu
  by_cases hp : 0 < ys.length
  · obtain ⟨g, o, rfl, hcell⟩ := hc3 hp
    obtain ⟨v', w', r1, r2, r3, _⟩ := run_append_own (P := P) w base t ty e i z 1 bytes ht hi hz hsize hby hzs (by omega) v n xs hown ⟨g, o, none⟩ ys.length c ys (by simp)
      (fun j y hj => by
        have ha : (⟨g, o, none⟩ : Addr).add j = ⟨g, o + j, none⟩ := by unfold Addr.add; split <;> simp_all
        rw [ha]; exact hcell j y hj) h1 h63 hbytes hbase
    exact ⟨v', w', r1, r2, r3⟩
  · have e0 : ys = [] := by cases ys <;> simp_all
    subst e0
    cases A with
    | none =>
      refine ⟨v, w, run_append_nothing w base t ty e i 1 ht hi v n xs hown c, by simpa using hown, World.grownBy.refl w _⟩
    | some a =>
      obtain ⟨v', w', r1, r2, r3, _⟩ := run_append_own (P := P) w base t ty e i z 1 bytes ht hi hz hsize hby hzs (by omega) v n xs hown a 0 c [] (by simp) (fun j y hj => by simp at hj) h1 h63 hbytes hbase
      exact ⟨v', w', r1, r2, r3⟩

theorem wpList_append_sl {P : Program} {w : World} {ops : Array Oper} {rest : List Oper} {o : Oper} {a : Act} {Q : Exit → Act → World → Prop} (hgd : o.guard = none) (s x : Operand) (t : TypeId)
    (ho : o.op = .call { callee := .builtin .append, args := #[s, x], argTypes := #[t, t] })
    (base : Nat) (e : TypeId) (i : TypeInfo) (z : Value) (bytes : Nat) (ht : P.underlying t = some (.slice e)) (hi : P.info? e = some i) (hz : i.zero = some z)
    (hsize : i.size = 1) (hby : i.bytes = bytes) (hzs : z.cells.size = 1)
    (v : Value) (n : Nat) (xs : List Value) (hs : a.eval s = v) (hown : w.ownsRow base e 1 v n xs) (u : Value) (ys : List Value) (hx : a.eval x = u) (hu : Sl w u ys) (h1 : ∀ y ∈ ys, y.oneCell' = true)
    (h63 : n + ys.length ≤ maxLen) (hbytes : (n + ys.length) * bytes ≤ 140737488355328) (hbase : base ≤ w.heap.size)
    (h : ∀ v' w', w'.ownsRow base e 1 v' (n + ys.length) (xs ++ ys) → w.grownBy w' v.ownBlock → wpList P ops Q rest (a.put o.dst v') w') : wpList P ops Q (o :: rest) a w := by
  refine wpList_plain hgd fun K hK => ?_
  obtain ⟨v', w', hr, h2, h3⟩ := run_append_sl (P := P) w base t o.type e i z bytes ht hi hz hsize hby hzs v n xs hown u ys hu h1 h63 hbytes hbase
  unfold Oper.wp
  simp [execOp, ho, resolve, invoke, builtin, hs, hx, hr, Result.andThen]
  exact hK _ _ (h v' w' h2 h3)

/-- What is owned reads as a slice. -/
theorem Sl.of_own {w : World} {base : Nat} {e : TypeId} {v : Value} {n : Nat} {xs : List Value} (h : w.ownsRow base e 1 v n xs) : Sl w v xs := by
  have hl : xs.length = n := by simpa using h.1
  rcases h.2 with ⟨rfl, h0⟩ | ⟨g, cap, cur, rfl, hb, hg, hn, hm, hs, ht⟩
  · subst h0
    have : xs = [] := List.eq_nil_of_length_eq_zero hl
    subst this
    exact Sl.nil_ w
  · refine ⟨some ⟨g, 0, none⟩, cap, by rw [hl], by omega, hm, fun _ => ⟨g, 0, rfl, fun i u hu => ?_⟩⟩
    have := h.cells (g := g) rfl i u hu
    have ha : (⟨g, 0, none⟩ : Addr).add i = ⟨g, 0 + i, none⟩ := by unfold Addr.add; split <;> simp_all
    rwa [ha] at this

theorem bv_oneCell (l : List Nat) : ∀ y ∈ bv l, y.oneCell' = true := by
  intro y hy
  simp only [bv, List.mem_map] at hy
  obtain ⟨b, _, rfl⟩ := hy
  rfl
theorem own_below {base : Nat} {a w w' : World} {e : TypeId} {v : Value} {n : Nat} {xs : List Value} (h : Below base a w) (hg : w.grownBy w' v.ownBlock) (hown : w.ownsRow base e 1 v n xs) (hB : base ≤ w.heap.size) : Below base a w' :=
  h.grown hg hB (fun k hk => (hown.lt k hk).1)
end Go.Proofs.Ytfhlenclnknnhaa
