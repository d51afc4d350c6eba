/- A map from bytes to values of any type that the call makes: what it answers (MapV for keys of one byte). -/
import Derived.Test.YtkpefffephbhnaaMapV
set_option linter.unusedVariables false
set_option linter.unusedSimpArgs false
namespace Go.Proofs.Ytkpefffephbhnaa
open Go.RowKit Go.Maps

theorem law8 : Keyed Try.prog 5 := int_keyed Try.underlying5
/-- The key x. -/
def kb (x : Nat) : Lit := .int .u8 (x : Int)
theorem kb_wf {x : Nat} (h : x < 256) : (kb x).wf = true := by
  simp [kb, Lit.wf, IntKind.min, IntKind.max, IntKind.signed, IntKind.bits]
  omega
theorem kb_key {x : Nat} (h : x < 256) : keyOf Try.prog 5 (.int .u8 (x : Int)) = some (kb x) := keyOf_int_mk Try.underlying5 (kb_wf h)
theorem kb_is {x : Nat} (h : x < 256) : WideAt.IsKeyLit (kb x) := law8.key (kb_key h)
theorem kb_ne {x y : Nat} (h : x ≠ y) : kb x ≠ kb y := fun e => by
  simp [kb] at e; omega
/-- The datum D answers F. -/
def Fmd8 (D : DataW Value) (F : Nat → Option Value) : Prop :=
  Tidy D ∧ (∀ x, x < 256 → ∀ z, D.atKey (kb x) (.held z) = .held ((F x).getD z)) ∧ (∀ x, x < 256 → Maps.has D (kb x) = (F x).isSome)
theorem Fmd8.new : Fmd8 (.map []) (fun _ => none) := ⟨tidy_empty, fun x _ z => rfl, fun x _ => rfl⟩
theorem Fmd8.put {D : DataW Value} {F : Nat → Option Value} (h : Fmd8 D F) {a : Nat} (ha : a < 256) (v : Value) : Fmd8 (D.put (kb a) (.held v)) (fset F a v) := by
  obtain ⟨h1, h2, h3⟩ := h
  refine ⟨h1.put (kb_is ha) _, fun x hx z => ?_, fun x hx => ?_⟩
  · unfold fset
    by_cases e : x = a
    · subst e; rw [atKey_put_same h1.isMap (kb_is ha), if_pos rfl]; rfl
    · rw [atKey_put_other (kb_ne e), h2 x hx, if_neg e]
  · unfold fset
    by_cases e : x = a
    · subst e; rw [has_put_same h1.isMap (kb_is ha), if_pos rfl]; rfl
    · rw [has_put_other (kb_ne e), h3 x hx, if_neg e]

/-- Block b is a map that answers F; n bounds its size. -/
def Fm8 (w : World) (b : Nat) (F : Nat → Option Value) (n : Nat) : Prop := ∃ D : DataW Value, w.ownsMap Try.prog 5 heldV b n D ∧ Fmd8 D F
theorem Fm8.made (w : World) : Fm8 (w.alloc (.map #[] 0)) w.heap.size (fun _ => none) 0 := ⟨_, World.ownsMap_made _ _ _ _, Fmd8.new⟩
section
variable {w : World} {b : Nat} {F : Nat → Option Value} {n : Nat}
theorem Fm8.lookV (h : Fm8 w b F n) {t e : TypeId} (ht : Try.prog.underlying t = some (.map 5 e)) {z : Value} (hz : (zeroValue e).run Try.prog w = .ok z w) {x : Nat} (hx : x < 256) :
    (Instr.lookup t (.map (some b)) (.int .u8 (x : Int)) false).run Try.prog w = .ok ((F x).getD z) w := by
  obtain ⟨D, hown, hI⟩ := h
  obtain ⟨v, ps, hrun, hv⟩ := hown.lookup law8 ht hz (R := heldV) (zd := .held z) (zp := []) rfl (kb_key hx)
  rw [hI.2.1 x hx] at hv
  rw [hrun]
  simp only [heldV, Option.some.injEq, Prod.mk.injEq, DataW.held.injEq] at hv
  rw [hv.1]
theorem Fm8.lookOk (h : Fm8 w b F n) {t e : TypeId} (ht : Try.prog.underlying t = some (.map 5 e)) {z : Value} (hz : (zeroValue e).run Try.prog w = .ok z w) {x : Nat} (hx : x < 256) :
    (Instr.lookup t (.map (some b)) (.int .u8 (x : Int)) true).run Try.prog w = .ok (.tuple #[(F x).getD z, .bool (F x).isSome]) w := by
  obtain ⟨D, hown, hI⟩ := h
  obtain ⟨v, ps, hrun, hv⟩ := hown.look_ok law8 ht hz (R := heldV) (zd := .held z) (zp := []) rfl (kb_key hx)
  rw [hI.2.1 x hx] at hv
  rw [hrun, hI.2.2 x hx]
  simp only [heldV, Option.some.injEq, Prod.mk.injEq, DataW.held.injEq] at hv
  rw [hv.1]
theorem Fm8.put (h : Fm8 w b F n) {t e : TypeId} (ht : Try.prog.underlying t = some (.map 5 e)) (hn : n < 1000000) {a : Nat} (ha : a < 256) (v : Value) :
    ∃ w', (Instr.mapUpdate t (.map (some b)) (.int .u8 (a : Int)) v).run Try.prog w = .ok () w' ∧ Fm8 w' b (fset F a v) (n + 1) ∧ Keeps [b] w w' := by
  obtain ⟨D, hown, hI⟩ := h
  obtain ⟨w', hrun, h1, h2⟩ := hown.update law8 ht (by unfold maxLen; omega) (kb_key ha) (R := heldV) (val := v) (d := .held v) (ps := []) rfl
  exact ⟨w', hrun, ⟨_, h1, hI.put ha v⟩, Keeps.grown h2⟩
theorem Fm8.keeps {G : List Nat} {w' : World} (h : Fm8 w b F n) (hk : Keeps G w w') (hb : b ∉ G) : Fm8 w' b F n := by
  obtain ⟨D, ⟨es, clock, h1, h2⟩, hI⟩ := h
  have hlt : b < w.heap.size := by
    rcases Nat.lt_or_ge b w.heap.size with h | h
    · exact h
    · rw [Array.getElem?_eq_none h] at h1; cases h1
  exact ⟨D, ⟨es, clock, (hk.block b hlt hb).trans h1, h2⟩, hI⟩
theorem Fm8.below {B : Nat} {w' : World} (h : Fm8 w b F n) (hk : Below B w w') (hb : b < B) : Fm8 w' b F n := by
  obtain ⟨D, ⟨es, clock, h1, h2⟩, hI⟩ := h
  exact ⟨D, ⟨es, clock, (hk.block b hb).trans h1, h2⟩, hI⟩
theorem Fm8.lt (h : Fm8 w b F n) : b < w.heap.size := by
  obtain ⟨D, hown, _⟩ := h
  exact hown.lt
theorem Fm8.keep {w' : World} (h : Fm8 w b F n) (hk : Below w.heap.size w w') : Fm8 w' b F n := h.below hk h.lt
theorem Fm8.drew (h : Fm8 w b F n) : Fm8 w.drew b F n := h
theorem Fm8.mono (h : Fm8 w b F n) {m : Nat} (hm : n ≤ m) : Fm8 w b F m := by
  obtain ⟨D, hown, hI⟩ := h
  exact ⟨D, hown.mono hm, hI⟩
end
end Go.Proofs.Ytkpefffephbhnaa
