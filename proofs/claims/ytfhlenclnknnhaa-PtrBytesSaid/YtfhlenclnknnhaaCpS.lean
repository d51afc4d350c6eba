/- copy into a block out of any slice: as many as there is room for. -/
import Derived.Test.YtfhlenclnknnhaaOwn2
import Derived.Test.YtfhlenclnknnhaaArrB
import Derived.Laws.IdiomCopy
set_option linter.unusedVariables false
set_option linter.unusedSimpArgs false
namespace Go.Proofs.Ytfhlenclnknnhaa
open Go.RowKit

theorem wpList_copySl {P : Program} {w : World} {ops : Array Oper} {rest : List Oper} {o : Oper} {a : Act} {Q : Exit → Act → World → Prop} (hgd : o.guard = none) (d s : Operand) (dT sT : TypeId) (ho : o.op = .call { callee := .builtin .copy, args := #[d, s], argTypes := #[dT, sT] }) (elem : TypeId) (hu : P.underlying dT = some (.slice elem)) (hs : (P.info? elem).map (·.size) = some 1)
    (g off dLen dCap : Nat) (hd : a.eval d = .slice (some ⟨g, off, none⟩) dLen dCap) (u : Value) (ys : List Value) (hx : a.eval s = u) (hsl : Sl w u ys) (t : TypeId) (L : List Value) (hb : Blk w g t L)
    (hfit : off + Nat.min ys.length dLen ≤ L.length) (h1 : Ones ys)
    (h : ∀ w', Blk w' g t (putL L off (ys.take dLen)) → Keeps [g] w w' → wpList P ops Q rest (a.put o.dst (goInt (Nat.min ys.length dLen))) w') : wpList P ops Q (o :: rest) a w := by
  obtain ⟨A, c, rfl, hc1, hc2, hc3⟩ := hsl
  have hl : (ys.take dLen).length = Nat.min ys.length dLen := by simp [Nat.min_comm]
  by_cases h0 : Nat.min ys.length dLen = 0
  · refine wpList_plain hgd fun K hK => ?_
    have hr := run_copy_none (P := P) w dT sT o.type elem (some ⟨g, off, none⟩) A dLen dCap ys.length c hu hs h0
    unfold Oper.wp
    simp [execOp, ho, resolve, invoke, builtin, hd, hx, hr, Result.andThen]
    rw [h0] at h
    refine hK _ _ (h w ?_ (Keeps.refl _ _))
    have e : ys.take dLen = [] := List.eq_nil_of_length_eq_zero (by omega)
    rw [e]
    simpa [putL] using hb
  · have hm : Nat.min ys.length dLen ≤ ys.length := Nat.min_le_left _ _
    obtain ⟨g2, o2, rfl, hcell⟩ := hc3 (by omega)
    rw [← hl] at h
    refine wpList_copyA hgd d s dT sT ho elem hu hs g off dLen dCap hd ⟨g2, o2, none⟩ ys.length c hx t L hb (ys.take dLen) hl ?_ (by rw [hl]; exact hfit) (fun x hx => h1 x (List.mem_of_mem_take hx)) h
    intro j v hj
    have ha : (⟨g2, o2, none⟩ : Addr).add j = ⟨g2, o2 + j, none⟩ := by unfold Addr.add; split <;> simp_all
    rw [ha]
    rw [List.getElem?_take] at hj
    split at hj
    · exact hcell j v hj
    · cases hj
theorem run_copySl {P : Program} (w : World) (dT sT ty elem : TypeId) (hu : P.underlying dT = some (.slice elem)) (hs : (P.info? elem).map (·.size) = some 1)
    (g off dLen dCap : Nat) (u : Value) (ys : List Value) (hsl : Sl w u ys) (t : TypeId) (L : List Value) (hb : Blk w g t L) (hfit : off + Nat.min ys.length dLen ≤ L.length) (h1 : Ones ys) :
    ∃ w', (Builtin.copy_ #[dT, sT] ty #[.slice (some ⟨g, off, none⟩) dLen dCap, u]).run P w = .ok (goInt (Nat.min ys.length dLen)) w' ∧ Blk w' g t (putL L off (ys.take dLen)) ∧ Keeps [g] w w' := by
  obtain ⟨A, c, rfl, hc1, hc2, hc3⟩ := hsl
  have hl : (ys.take dLen).length = Nat.min ys.length dLen := by simp [Nat.min_comm]
  by_cases h0 : Nat.min ys.length dLen = 0
  · have hr := run_copy_none (P := P) w dT sT ty elem (some ⟨g, off, none⟩) A dLen dCap ys.length c hu hs h0
    rw [h0]
    refine ⟨w, hr, ?_, Keeps.refl _ _⟩
    have e : ys.take dLen = [] := List.eq_nil_of_length_eq_zero (by omega)
    rw [e]
    simpa [putL] using hb
  · have hm : Nat.min ys.length dLen ≤ ys.length := Nat.min_le_left _ _
    obtain ⟨g2, o2, rfl, hcell⟩ := hc3 (by omega)
    have hr := run_copy_row (P := P) w dT sT ty elem g off dLen dCap ⟨g2, o2, none⟩ ys.length c L.toArray t (ys.take dLen) hu hs hb hl (fun j v hj => by
      have ha : (⟨g2, o2, none⟩ : Addr).add j = ⟨g2, o2 + j, none⟩ := by unfold Addr.add; split <;> simp_all
      rw [ha]
      rw [List.getElem?_take] at hj
      split at hj
      · exact hcell j v hj
      · cases hj) (by rw [hl]; simpa using hfit) (fun x hx => h1 x (List.mem_of_mem_take hx))
    rw [hl] at hr
    refine ⟨_, hr, ?_, ?_⟩
    · have := hb.setRow (putL L off (ys.take dLen))
      simpa [putL, hl] using this
    · have := (Keeps.refl [g] w).setRow (g := g) (by simp) (putL L off (ys.take dLen)).toArray
      simpa [putL, hl] using this
/-- A copy, carried out. -/
theorem wp_copySl {P : Program} {o : Oper} {a : Act} {w : World} {K : Act → World → Prop} {Q : Exit → Act → World → Prop} (d s : Operand) (dT sT : TypeId) (ho : o.op = .call { callee := .builtin .copy, args := #[d, s], argTypes := #[dT, sT] }) (elem : TypeId) (hu : P.underlying dT = some (.slice elem)) (hs : (P.info? elem).map (·.size) = some 1)
    (g off dLen dCap : Nat) (hd : a.eval d = .slice (some ⟨g, off, none⟩) dLen dCap) (u : Value) (ys : List Value) (hx : a.eval s = u) (hsl : Sl w u ys) (t : TypeId) (L : List Value) (hb : Blk w g t L)
    (hfit : off + Nat.min ys.length dLen ≤ L.length) (h1 : Ones ys)
    (h : ∀ w', Blk w' g t (putL L off (ys.take dLen)) → Keeps [g] w w' → K (a.put o.dst (goInt (Nat.min ys.length dLen))) w') : Oper.wp P o a w K Q := by
  obtain ⟨w', hr, h2, h3⟩ := run_copySl (P := P) w dT sT o.type elem hu hs g off dLen dCap u ys hsl t L hb hfit h1
  unfold Oper.wp
  simp [execOp, ho, resolve, invoke, builtin, hd, hx, hr, Result.andThen]
  exact h _ h2 h3
theorem upd_again {new old : List Nat} {k n : Nat} (h : new.length = old.length) (hk : k + n ≤ old.length) : (upd new old (k + n)).take k ++ (new.drop k).take n ++ (upd new old (k + n)).drop (k + n) = upd new old (k + n) := by
  unfold upd
  rw [List.take_append_of_le_length (by simp; omega), List.take_take, Nat.min_eq_left (by omega), List.drop_left' (by simp; omega), ← List.take_add]
end Go.Proofs.Ytfhlenclnknnhaa
