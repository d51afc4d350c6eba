/- append onto a row of the call's own: the row stays where it lies, or a new one is made. -/
import Derived.Test.YtfhlenclnknnhaaOwn
set_option linter.unusedVariables false
set_option linter.unusedSimpArgs false
namespace Go.Proofs.Ytfhlenclnknnhaa
open Go.RowKit

/-- The row lies where it lay, or in new memory. -/
def Moved (B : Nat) (r r' : Option Nat) : Prop := r' = r ∨ ∀ k, r' = some k → B ≤ k
theorem Moved.refl (B : Nat) (r : Option Nat) : Moved B r r := .inl rfl
theorem Moved.trans {B B' : Nat} {r r' r'' : Option Nat} (h : Moved B r r') (h' : Moved B' r' r'') (hB : B ≤ B') : Moved B r r'' := by
  rcases h' with rfl | h'
  · exact h
  · exact .inr fun k hk => by have := h' k hk; omega
theorem Moved.ne {B : Nat} {r r' : Option Nat} (h : Moved B r r') {k : Nat} (hk : k < B) (hr : r ≠ some k) : r' ≠ some k := by
  rcases h with rfl | h
  · exact hr
  · intro e; have := h k e; omega

theorem run_append_sl2 {P : Program} (w : World) (base : Nat) (t ty e : TypeId) (i : TypeInfo) (z : Value) (bytes : Nat) (ht : P.underlying t = some (.slice e)) (hi : P.info? e = some i) (hz : i.zero = some z)
    (hsize : i.size = 1) (hby : i.bytes = bytes) (hzs : z.cells.size = 1)
    (v : Value) (n : Nat) (xs : List Value) (hown : w.ownsRow base e 1 v n xs) (u : Value) (ys : List Value) (hu : Sl w u ys) (h1 : ∀ y ∈ ys, y.oneCell' = true)
    (h63 : n + ys.length ≤ maxLen) (hbytes : (n + ys.length) * bytes ≤ 140737488355328) (hbase : base ≤ w.heap.size) :
    ∃ v' w', (Builtin.append_ #[t, t] ty #[v, u]).run P w = .ok v' w' ∧ w'.ownsRow base e 1 v' (n + ys.length) (xs ++ ys) ∧ w.grownBy w' v.ownBlock ∧ Moved w.heap.size v.ownBlock v'.ownBlock := by
  obtain ⟨v', w', hr, h2, h3⟩ := run_append_sl w base t ty e i z bytes ht hi hz hsize hby hzs v n xs hown u ys hu h1 h63 hbytes hbase
  obtain ⟨A, c, rfl, hc1, hc2, hc3⟩ := hu
  by_cases hp : 0 < ys.length
  · obtain ⟨g, o, rfl, hcell⟩ := hc3 hp
    have hcell' : ∀ j u, ys[j]? = some u → w.cell? ((⟨g, o, none⟩ : Addr).add j) = some u := fun j y hj => by
      have ha : (⟨g, o, none⟩ : Addr).add j = ⟨g, o + j, none⟩ := by unfold Addr.add; split <;> simp_all
      rw [ha]; exact hcell j y hj
    rcases hown.2 with ⟨rfl, rfl⟩ | ⟨b, cap, cur, rfl, hb, hbk, hnc, hcm, hcs, htk⟩
    · have own0 : w.ownsRow w.heap.size e 1 (.slice none 0 0) 0 xs := ⟨hown.1, .inl ⟨rfl, rfl⟩⟩
      obtain ⟨v2, w2, hr2, k2, k3, _⟩ := run_append_own (P := P) w w.heap.size t ty e i z 1 bytes ht hi hz hsize hby hzs (by omega) _ 0 xs own0 ⟨g, o, none⟩ ys.length c ys (by simp) hcell' h1 h63 hbytes (Nat.le_refl _)
      rw [hr] at hr2
      injection hr2 with e1 e2
      subst e1 e2
      exact ⟨_, _, hr, h2, h3, .inr fun k hk => (k2.lt k hk).1⟩
    · by_cases hroom : n + ys.length ≤ cap
      · have hfit : n * i.size + ys.length ≤ cur.size := by rw [hsize, hcs]; omega
        have hr2 := run_append_room (P := P) w t ty e i ht hi b n cap cur hbk ⟨g, o, none⟩ ys.length c ys (by simp [hsize]) hcell' h1 hroom hfit
        rw [hr] at hr2
        injection hr2 with e1 e2
        exact ⟨_, _, hr, h2, h3, .inl (by rw [e1]; rfl)⟩
      · have holds : ∀ j u, xs[j]? = some u → w.cell? ((⟨b, 0, none⟩ : Addr).add j) = some u := hown.cells (g := b) rfl
        have hl := hown.1
        subst hby
        have hr2 := run_append_grow (P := P) w t ty e i z ht hi hz ⟨b, 0, none⟩ n cap xs (by rw [hsize]; exact hl) holds ⟨g, o, none⟩ ys.length c ys (by simp [hsize]) hcell' (by omega) (by unfold maxLen at h63; omega) (growslice_fits (by omega) hbytes)
        rw [hr] at hr2
        injection hr2 with e1 e2
        refine ⟨_, _, hr, h2, h3, .inr fun k hk => ?_⟩
        rw [e1] at hk
        simp only [Value.ownBlock, Option.some.injEq] at hk
        omega
  · have e0 : ys = [] := by cases ys <;> simp_all
    subst e0
    rcases hown.2 with ⟨rfl, rfl⟩ | ⟨b, cap, cur, rfl, hb, hbk, hnc, hcm, hcs, htk⟩
    · have own0 : w.ownsRow w.heap.size e 1 (.slice none 0 0) 0 xs := ⟨hown.1, .inl ⟨rfl, rfl⟩⟩
      obtain ⟨v2, w2, hr2, k2, k3⟩ := run_append_sl w w.heap.size t ty e i z bytes ht hi hz hsize hby hzs _ 0 xs own0 (.slice A 0 c) [] ⟨A, c, rfl, by simp, hc2, fun h => absurd h (by simp)⟩ h1 h63 hbytes (Nat.le_refl _)
      have hr' := hr
      simp only [List.length_nil] at hr'
      rw [hr'] at hr2
      injection hr2 with e1 e2
      subst e1 e2
      exact ⟨_, _, hr, h2, h3, .inr fun k hk => (k2.lt k hk).1⟩
    · cases A with
      | none =>
        have hr2 := run_append_nothing (P := P) w base t ty e i 1 ht hi _ n xs hown c
        simp only [List.length_nil] at hr
        rw [hr] at hr2
        injection hr2 with e1 e2
        exact ⟨_, _, hr, h2, h3, .inl (by rw [e1])⟩
      | some a =>
        have hr2 := run_append_room (P := P) w t ty e i ht hi b n cap cur hbk a 0 c [] (by simp) (fun j y hj => by simp at hj) h1 (by omega) (by rw [hsize, hcs]; simp; omega)
        simp only [List.length_nil] at hr
        rw [hr] at hr2
        injection hr2 with e1 e2
        exact ⟨_, _, hr, h2, h3, .inl (by rw [e1]; rfl)⟩

theorem wpList_append_sl2 {P : Program} {w : World} {ops : Array Oper} {rest : List Oper} {o : Oper} {a : Act} {Q : Exit → Act → World → Prop} (hgd : o.guard = none) (s x : Operand) (t : TypeId)
    (ho : o.op = .call { callee := .builtin .append, args := #[s, x], argTypes := #[t, t] })
    (base : Nat) (e : TypeId) (i : TypeInfo) (z : Value) (bytes : Nat) (ht : P.underlying t = some (.slice e)) (hi : P.info? e = some i) (hz : i.zero = some z)
    (hsize : i.size = 1) (hby : i.bytes = bytes) (hzs : z.cells.size = 1)
    (v : Value) (n : Nat) (xs : List Value) (hs : a.eval s = v) (hown : w.ownsRow base e 1 v n xs) (u : Value) (ys : List Value) (hx : a.eval x = u) (hu : Sl w u ys) (h1 : ∀ y ∈ ys, y.oneCell' = true)
    (h63 : n + ys.length ≤ maxLen) (hbytes : (n + ys.length) * bytes ≤ 140737488355328) (hbase : base ≤ w.heap.size)
    (h : ∀ v' w', w'.ownsRow base e 1 v' (n + ys.length) (xs ++ ys) → w.grownBy w' v.ownBlock → Moved w.heap.size v.ownBlock v'.ownBlock → wpList P ops Q rest (a.put o.dst v') w') : wpList P ops Q (o :: rest) a w := by
  refine wpList_plain hgd fun K hK => ?_
  obtain ⟨v', w', hr, h2, h3, h4⟩ := run_append_sl2 (P := P) w base t o.type e i z bytes ht hi hz hsize hby hzs v n xs hown u ys hu h1 h63 hbytes hbase
  unfold Oper.wp
  simp [execOp, ho, resolve, invoke, builtin, hs, hx, hr, Result.andThen]
  exact hK _ _ (h v' w' h2 h3 h4)
end Go.Proofs.Ytfhlenclnknnhaa
