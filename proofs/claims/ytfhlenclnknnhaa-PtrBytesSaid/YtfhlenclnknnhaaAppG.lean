/- append onto a row of structs; a slice literal of one struct; a slice taken as an array. -/
import Derived.Test.YtfhlenclnknnhaaOwn2
import Derived.Test.YtfhlenclnknnhaaBld
import Derived.Test.YtfhlenclnknnhaaArrB
import Derived.Test.YtfhlenclnknnhaaRgx
import Derived.Great.BuildSlice
set_option linter.unusedVariables false
set_option linter.unusedSimpArgs false
namespace Go.Proofs.Ytfhlenclnknnhaa
open Go.RowKit

theorem run_append_row2 {P : Program} (w : World) (base : Nat) (t ty e : TypeId) (i : TypeInfo) (z : Value) (size bytes : Nat) (ht : P.underlying t = some (.slice e)) (hi : P.info? e = some i) (hz : i.zero = some z)
    (hsize : i.size = size) (hby : i.bytes = bytes) (hzs : z.cells.size = size) (hsz : 0 < size)
    (v : Value) (n : Nat) (xs : List Value) (hown : w.ownsRow base e size v n xs) (a : Addr) (m c : Nat) (news : List Value) (hl : news.length = m * size) (hnews : ∀ j u, news[j]? = some u → w.cell? (a.add j) = some u) (h1 : ∀ u ∈ news, u.oneCell' = true)
    (h63 : n + m ≤ maxLen) (hbytes : (n + m) * bytes ≤ 140737488355328) (hbase : base ≤ w.heap.size) :
    ∃ v' w', (Builtin.append_ #[t, t] ty #[v, .slice (some a) m c]).run P w = .ok v' w' ∧ w'.ownsRow base e size v' (n + m) (xs ++ news) ∧ w.grownBy w' v.ownBlock ∧ Moved w.heap.size v.ownBlock v'.ownBlock := by
  obtain ⟨v', w', hr, h2, h3, _⟩ := run_append_own (P := P) w base t ty e i z size bytes ht hi hz hsize hby hzs hsz v n xs hown a m c news hl hnews h1 h63 hbytes hbase
  rcases hown.2 with ⟨rfl, rfl⟩ | ⟨b, cap, cur, rfl, hb, hbk, hnc, hcm, hcs, htk⟩
  · have own0 : w.ownsRow w.heap.size e size (.slice none 0 0) 0 xs := ⟨hown.1, .inl ⟨rfl, rfl⟩⟩
    obtain ⟨v2, w2, hr2, k2, k3, _⟩ := run_append_own (P := P) w w.heap.size t ty e i z size bytes ht hi hz hsize hby hzs hsz _ 0 xs own0 a m c news hl hnews h1 h63 hbytes (Nat.le_refl _)
    rw [hr] at hr2
    injection hr2 with e1 e2
    subst e1 e2
    exact ⟨_, _, hr, h2, h3, .inr fun k hk => (k2.lt k hk).1⟩
  · by_cases hroom : n + m ≤ cap
    · have hfit : n * i.size + news.length ≤ cur.size := by rw [hsize, hcs, hl, ← Nat.add_mul]; exact Nat.mul_le_mul_right _ hroom
      have hr2 := run_append_room (P := P) w t ty e i ht hi b n cap cur hbk a m c news (by rw [hsize]; exact hl) hnews h1 hroom hfit
      rw [hr] at hr2
      injection hr2 with e1 e2
      exact ⟨_, _, hr, h2, h3, .inl (by rw [e1]; rfl)⟩
    · have holds : ∀ j u, xs[j]? = some u → w.cell? ((⟨b, 0, none⟩ : Addr).add j) = some u := hown.cells (g := b) rfl
      have hl2 := hown.1
      subst hby
      have hr2 := run_append_grow (P := P) w t ty e i z ht hi hz ⟨b, 0, none⟩ n cap xs (by rw [hsize]; exact hl2) holds a m c news (by rw [hsize]; exact hl) hnews (by omega) (by unfold maxLen at h63; omega) (growslice_fits (by omega) hbytes)
      rw [hr] at hr2
      injection hr2 with e1 e2
      refine ⟨_, _, hr, h2, h3, .inr fun k hk => ?_⟩
      rw [e1] at hk
      simp only [Value.ownBlock, Option.some.injEq] at hk
      omega
theorem wp_append_row2 {P : Program} {w : World} {o : Oper} {a : Act} {K : Act → World → Prop} {Q : Exit → Act → World → Prop} (s x : Operand) (t : TypeId)
    (ho : o.op = .call { callee := .builtin .append, args := #[s, x], argTypes := #[t, t] })
    (base : Nat) (e : TypeId) (i : TypeInfo) (z : Value) (size bytes : Nat) (ht : P.underlying t = some (.slice e)) (hi : P.info? e = some i) (hz : i.zero = some z)
    (hsize : i.size = size) (hby : i.bytes = bytes) (hzs : z.cells.size = size) (hsz : 0 < size)
    (v : Value) (n : Nat) (xs : List Value) (hs : a.eval s = v) (hown : w.ownsRow base e size v n xs) (ad : Addr) (m c : Nat) (news : List Value) (hx : a.eval x = .slice (some ad) m c) (hl : news.length = m * size) (hnews : ∀ j u, news[j]? = some u → w.cell? (ad.add j) = some u) (h1 : ∀ u ∈ news, u.oneCell' = true)
    (h63 : n + m ≤ maxLen) (hbytes : (n + m) * bytes ≤ 140737488355328) (hbase : base ≤ w.heap.size)
    (h : ∀ v' w', w'.ownsRow base e size v' (n + m) (xs ++ news) → w.grownBy w' v.ownBlock → Moved w.heap.size v.ownBlock v'.ownBlock → K (a.put o.dst v') w') : Oper.wp P o a w K Q := by
  obtain ⟨v', w', hr, h2, h3, h4⟩ := run_append_row2 (P := P) w base t o.type e i z size bytes ht hi hz hsize hby hzs hsz v n xs hown ad m c news hl hnews h1 h63 hbytes hbase
  unfold Oper.wp
  simp [execOp, ho, resolve, invoke, builtin, hs, hx, hr, Result.andThen]
  exact h v' w' h2 h3 h4
/-- A slice literal of one struct. -/
theorem wp_buildOne {P : Program} {o : Oper} {a : Act} {w : World} {K : Act → World → Prop} {Q : Exit → Act → World → Prop} (t e : TypeId) (x : Operand) (ho : o.op = .buildSlice t 1 #[(0, x)]) (m : Nat) (hu : P.underlying t = some (.slice e)) (hsz : (P.info? e).map (·.size) = some m) (hz : ((P.info? e).bind (·.zero)).isSome = true)
    (hm : 0 < m) (hm2 : m ≤ 16777216) (vs : List Value) (hx : a.eval x = .agg vs.toArray) (hv : vs.length = m)
    (h : ∀ w', Blk w' w.heap.size e vs → Keeps [] w w' → K (a.put o.dst (.slice (some ⟨w.heap.size, 0, none⟩) 1 1)) w') : Oper.wp P o a w K Q := by
  cases hie : P.info? e with
  | none => simp [hie] at hsz
  | some ie =>
    simp only [hie, Option.map_some, Option.some.injEq, Option.bind_some] at hsz hz
    obtain ⟨z, hzz⟩ := Option.isSome_iff_exists.1 hz
    refine wp_buildSlice t e 1 #[(0, x)] ho vs.toArray ie z hu hie hzz (by rw [hsz]; omega) (by rw [hsz]; omega) ?_ (h _ (Blk.new_at rfl rfl) ((Keeps.refl _ _).alloc _))
    obtain ⟨L, hL, hLl⟩ : ∃ L : List Value, (Array.range (1 * ie.size)).map (z.cells[· % z.cells.size]!) = L.toArray ∧ L.length = m := ⟨((Array.range (1 * ie.size)).map (z.cells[· % z.cells.size]!)).toList, by rw [Array.toArray_toList], by simp [hsz]⟩
    rw [hL]
    rw [Array.toList_map]
    show Instr.fill _ L.toArray [(0, a.eval x)] = _
    rw [hx, fill_agg (off := 0) (size := m) (by simp [hsz]) L vs hv (by omega), putL_all (by omega)]
    rfl
section
variable {P : Program} {ops : Array Oper} {Q : Exit → Act → World → Prop} {S : World → Prop} {md : Region.Mode}
theorem takeH_buildV {i : Nat} {o : Oper} {fuel : Nat} {listed : Array Bool} {a : Act} {w : World} (hi : ops[i]? = some o) (hs : Region.noSelect ops = true) (hf : Region.free md ops listed i = true) (hr : (Region.ready md ops listed).contains i = true)
    (hQ : ∀ c a w v, Q (.panic c) (a.put o.dst v) w → Q (.panic c) a w) (hw : Region.wanted o (yielded ops a.tmps) = true) (t : TypeId) (parts : Array (Nat × Operand)) (ho : o.op = .build t parts) (ps : List (Nat × Value)) (hps : parts.toList.map (fun x => (x.1, a.eval x.2)) = ps) (L : List Value)
    (hb : P.built t ps = some L.toArray) (hH : S w) (h : wpAnyH P md ops Q S fuel (listed.setIfInBounds i true) (a.put o.dst (.agg L.toArray)) w) : wpAnyH P md ops Q S (fuel + 1) listed a w :=
  takeH_S hi hs hf hr hQ hw _ (fun w _ => by
    have e : P.built t (parts.map fun (i, x) => (i, a.eval x)).toList = some L.toArray := by
      rw [Array.toList_map, ← hb, ← hps]
    unfold execOp
    simp only [ho, Sem.run_bind, run_build w t _ _ e, Result.andThen_ok, Sem.run_pure]) hH h
theorem takeH_arrayAt {i : Nat} {o : Oper} {fuel : Nat} {listed : Array Bool} {a : Act} {w : World} (hi : ops[i]? = some o) (hs : Region.noSelect ops = true) (hf : Region.free md ops listed i = true) (hr : (Region.ready md ops listed).contains i = true)
    (hQ : ∀ c a w v, Q (.panic c) (a.put o.dst v) w → Q (.panic c) a w) (hw : Region.wanted o (yielded ops a.tmps) = true) (ty : TypeId) (x : Operand) (ho : o.op = .sliceToArrayPointer ty x) (n el : Nat) (hu : P.underlying ty = some (.array n el)) (A : Option Addr) (len cap : Nat) (hx : a.eval x = .slice A len cap) (hn : n ≤ len)
    (hH : S w) (h : wpAnyH P md ops Q S fuel (listed.setIfInBounds i true) (a.put o.dst (.pointer A)) w) : wpAnyH P md ops Q S (fuel + 1) listed a w :=
  takeH_S hi hs hf hr hQ hw _ (fun w _ => by
    have hlt : ¬ len < n := by omega
    unfold execOp
    simp [ho, hx, Instr.arrayAt, Sem.run_bind, run_underlying hu, hlt, Result.andThen]) hH h
end
end Go.Proofs.Ytfhlenclnknnhaa
