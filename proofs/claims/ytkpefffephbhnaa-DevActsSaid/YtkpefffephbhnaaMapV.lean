/- A map from addresses to values of any type that the call makes: what it answers. -/
import Derived.Test.YtkpefffephbhnaaOwn
import Derived.Maps.OwnSet
import Derived.Maps.RangeWalk
set_option linter.unusedVariables false
set_option linter.unusedSimpArgs false
namespace Go.Proofs.Ytkpefffephbhnaa
open Go.RowKit Go.Maps

theorem lawU : Keyed Try.prog 29 := int_keyed Try.underlying29
/-- The key x. -/
def ky (x : Nat) : Lit := .int .u32 (x : Int)
theorem ky_wf {x : Nat} (h : x < 4294967296) : (ky x).wf = true := by
  simp [ky, Lit.wf, IntKind.min, IntKind.max, IntKind.signed, IntKind.bits]
  omega
theorem ky_key {x : Nat} (h : x < 4294967296) : keyOf Try.prog 29 (.int .u32 (x : Int)) = some (ky x) := keyOf_int_mk Try.underlying29 (ky_wf h)
theorem ky_is {x : Nat} (h : x < 4294967296) : WideAt.IsKeyLit (ky x) := lawU.key (ky_key h)
theorem ky_ne {x y : Nat} (h : x ≠ y) : ky x ≠ ky y := fun e => by
  simp [ky] at e; omega
/-- An element reads as itself. -/
def heldV (v : Value) : Option (DataW Value × List MemPlace) := some (.held v, [])
/-- The datum D answers F. -/
def Fmd (D : DataW Value) (F : Nat → Option Value) : Prop :=
  Tidy D ∧ (∀ x, x < 4294967296 → ∀ z, D.atKey (ky x) (.held z) = .held ((F x).getD z)) ∧ (∀ x, x < 4294967296 → Maps.has D (ky x) = (F x).isSome)
theorem Fmd.new : Fmd (.map []) (fun _ => none) := ⟨tidy_empty, fun x _ z => rfl, fun x _ => rfl⟩
/-- One more. -/
def fset (F : Nat → Option Value) (a : Nat) (v : Value) : Nat → Option Value := fun x => if x = a then some v else F x
theorem Fmd.put {D : DataW Value} {F : Nat → Option Value} (h : Fmd D F) {a : Nat} (ha : a < 4294967296) (v : Value) : Fmd (D.put (ky a) (.held v)) (fset F a v) := by
  obtain ⟨h1, h2, h3⟩ := h
  refine ⟨h1.put (ky_is ha) _, fun x hx z => ?_, fun x hx => ?_⟩
  · unfold fset
    by_cases e : x = a
    · subst e; rw [atKey_put_same h1.isMap (ky_is ha), if_pos rfl]; rfl
    · rw [atKey_put_other (ky_ne e), h2 x hx, if_neg e]
  · unfold fset
    by_cases e : x = a
    · subst e; rw [has_put_same h1.isMap (ky_is ha), if_pos rfl]; rfl
    · rw [has_put_other (ky_ne e), h3 x hx, if_neg e]

/-- Block b is a map that answers F; n bounds its size. -/
def Fm (w : World) (b : Nat) (F : Nat → Option Value) (n : Nat) : Prop := ∃ D : DataW Value, w.ownsMap Try.prog 29 heldV b n D ∧ Fmd D F
theorem Fm.made (w : World) : Fm (w.alloc (.map #[] 0)) w.heap.size (fun _ => none) 0 := ⟨_, World.ownsMap_made _ _ _ _, Fmd.new⟩
section
variable {w : World} {b : Nat} {F : Nat → Option Value} {n : Nat}
theorem Fm.lookV (h : Fm w b F n) {t e : TypeId} (ht : Try.prog.underlying t = some (.map 29 e)) {z : Value} (hz : (zeroValue e).run Try.prog w = .ok z w) {x : Nat} (hx : x < 4294967296) :
    (Instr.lookup t (.map (some b)) (.int .u32 (x : Int)) false).run Try.prog w = .ok ((F x).getD z) w := by
  obtain ⟨D, hown, hI⟩ := h
  obtain ⟨v, ps, hrun, hv⟩ := hown.lookup lawU ht hz (R := heldV) (zd := .held z) (zp := []) rfl (ky_key hx)
  rw [hI.2.1 x hx] at hv
  rw [hrun]
  simp only [heldV, Option.some.injEq, Prod.mk.injEq, DataW.held.injEq] at hv
  rw [hv.1]
theorem Fm.lookOk (h : Fm w b F n) {t e : TypeId} (ht : Try.prog.underlying t = some (.map 29 e)) {z : Value} (hz : (zeroValue e).run Try.prog w = .ok z w) {x : Nat} (hx : x < 4294967296) :
    (Instr.lookup t (.map (some b)) (.int .u32 (x : Int)) true).run Try.prog w = .ok (.tuple #[(F x).getD z, .bool (F x).isSome]) w := by
  obtain ⟨D, hown, hI⟩ := h
  obtain ⟨v, ps, hrun, hv⟩ := hown.look_ok lawU ht hz (R := heldV) (zd := .held z) (zp := []) rfl (ky_key hx)
  rw [hI.2.1 x hx] at hv
  rw [hrun, hI.2.2 x hx]
  simp only [heldV, Option.some.injEq, Prod.mk.injEq, DataW.held.injEq] at hv
  rw [hv.1]
theorem Fm.put (h : Fm w b F n) {t e : TypeId} (ht : Try.prog.underlying t = some (.map 29 e)) (hn : n < 1000000) {a : Nat} (ha : a < 4294967296) (v : Value) :
    ∃ w', (Instr.mapUpdate t (.map (some b)) (.int .u32 (a : Int)) v).run Try.prog w = .ok () w' ∧ Fm w' b (fset F a v) (n + 1) ∧ Keeps [b] w w' := by
  obtain ⟨D, hown, hI⟩ := h
  obtain ⟨w', hrun, h1, h2⟩ := hown.update lawU ht (by unfold maxLen; omega) (ky_key ha) (R := heldV) (val := v) (d := .held v) (ps := []) rfl
  exact ⟨w', hrun, ⟨_, h1, hI.put ha v⟩, Keeps.grown h2⟩
theorem Fm.keeps {G : List Nat} {w' : World} (h : Fm w b F n) (hk : Keeps G w w') (hb : b ∉ G) : Fm w' b F n := by
  obtain ⟨D, ⟨es, clock, h1, h2⟩, hI⟩ := h
  have hlt : b < w.heap.size := by
    rcases Nat.lt_or_ge b w.heap.size with h | h
    · exact h
    · rw [Array.getElem?_eq_none h] at h1; cases h1
  exact ⟨D, ⟨es, clock, (hk.block b hlt hb).trans h1, h2⟩, hI⟩
theorem Fm.below {B : Nat} {w' : World} (h : Fm w b F n) (hk : Below B w w') (hb : b < B) : Fm w' b F n := by
  obtain ⟨D, ⟨es, clock, h1, h2⟩, hI⟩ := h
  exact ⟨D, ⟨es, clock, (hk.block b hb).trans h1, h2⟩, hI⟩
theorem Fm.lt (h : Fm w b F n) : b < w.heap.size := by
  obtain ⟨D, hown, _⟩ := h
  exact hown.lt
theorem Fm.keep {w' : World} (h : Fm w b F n) (hk : Below w.heap.size w w') : Fm w' b F n := h.below hk h.lt
theorem Fm.drew (h : Fm w b F n) : Fm w.drew b F n := h
theorem Fm.mono (h : Fm w b F n) {m : Nat} (hm : n ≤ m) : Fm w b F m := by
  obtain ⟨D, hown, hI⟩ := h
  exact ⟨D, hown.mono hm, hI⟩
end
end Go.Proofs.Ytkpefffephbhnaa
