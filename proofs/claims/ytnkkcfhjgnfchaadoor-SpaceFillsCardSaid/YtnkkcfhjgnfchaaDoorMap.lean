/- A map from addresses to bools that the call makes: what it answers, how many keys it has. -/
import Derived.Test.YtnkkcfhjgnfchaaDoorManyW
import Derived.Maps.OwnSet
set_option linter.unusedVariables false
set_option linter.unusedSimpArgs false
namespace Go.Proofs.YtnkkcfhjgnfchaaDoor
open Go.RowKit Go.Maps
open Go.Proofs.PlainSpace (has upto taken cnt Ok isA TakeP)

theorem lawU : Keyed Tryd.prog 29 := int_keyed Tryd.underlying29
theorem zero4 (w : World) : (zeroValue 4).run Tryd.prog w = .ok (.bool false) w := by kernel_rfl

/-- The key x. -/
def ky (x : Nat) : Lit := .int .u32 (x : Int)
theorem ky_wf {x : Nat} (h : x < 4294967296) : (ky x).wf = true := by
  simp [ky, Lit.wf, IntKind.min, IntKind.max, IntKind.signed, IntKind.bits]
  omega
theorem ky_key {x : Nat} (h : x < 4294967296) : keyOf Tryd.prog 29 (.int .u32 (x : Int)) = some (ky x) := keyOf_int_mk Tryd.underlying29 (ky_wf h)
theorem ky_is {x : Nat} (h : x < 4294967296) : WideAt.IsKeyLit (ky x) := lawU.key (ky_key h)
theorem ky_ne {x y : Nat} (h : x ≠ y) : ky x ≠ ky y := fun e => by
  simp [ky] at e; omega

/-- The datum D answers f, and has c keys. -/
def Imd (D : DataW Unit) (f : Nat → Bool) (c : Nat) : Prop :=
  Tidy D ∧ (∀ x, x < 4294967296 → D.atKey (ky x) (.lit (.bool false)) = .lit (.bool (f x))) ∧ (∀ x, x < 4294967296 → Maps.has D (ky x) = f x) ∧ Maps.size D = c
theorem Imd.new : Imd (.map []) (fun _ => false) 0 := ⟨tidy_empty, fun x _ => rfl, fun x _ => rfl, rfl⟩
theorem Imd.put {D : DataW Unit} {f : Nat → Bool} {c : Nat} (h : Imd D f c) {a : Nat} (ha : a < 4294967296) : Imd (D.put (ky a) (.lit (.bool true))) (fun x => f x || x == a) (if f a then c else c + 1) := by
  obtain ⟨h1, h2, h3, h4⟩ := h
  refine ⟨h1.put (ky_is ha) _, fun x hx => ?_, fun x hx => ?_, ?_⟩
  · by_cases e : x = a
    · subst e; rw [atKey_put_same h1.isMap (ky_is ha)]; simp
    · rw [atKey_put_other (ky_ne e), h2 x hx]; simp [e]
  · by_cases e : x = a
    · subst e; rw [has_put_same h1.isMap (ky_is ha)]; simp
    · rw [has_put_other (ky_ne e), h3 x hx]; simp [e]
  · rw [size_put h1, h3 a ha, h4]

def Im (w : World) (b : Nat) (f : Nat → Bool) (c n : Nat) : Prop := ∃ D : DataW Unit, w.ownsMap Tryd.prog 29 (plainElem Tryd.prog 4) b n D ∧ Imd D f c
theorem Im.made (w : World) : Im (w.alloc (.map #[] 0)) w.heap.size (fun _ => false) 0 0 := ⟨_, World.ownsMap_made _ _ _ _, Imd.new⟩
section
variable {w : World} {b : Nat} {f : Nat → Bool} {c n : Nat}
theorem Im.look (h : Im w b f c n) {x : Nat} (hx : x < 4294967296) : (Instr.lookup 33 (.map (some b)) (.int .u32 (x : Int)) false).run Tryd.prog w = .ok (.bool (f x)) w := by
  obtain ⟨D, hown, hI⟩ := h
  obtain ⟨v, ps, hrun, hv⟩ := hown.lookup lawU Tryd.underlying33 (zero4 w) (plainElem_bool Tryd.underlying4 false) (ky_key hx)
  rw [hI.2.1 x hx] at hv
  rw [hrun]
  cases v <;> simp [plainElem, Tryd.underlying4] at hv
  rw [hv.1]
theorem Im.len (h : Im w b f c n) (ty : TypeId) : (Builtin.len_ #[33] ty #[.map (some b)]).run Tryd.prog w = .ok (.int .i64 (c : Int)) w := by
  obtain ⟨D, hown, hI⟩ := h
  rw [hown.len Tryd.underlying33 ty, hI.2.2.2]
theorem Im.put (h : Im w b f c n) (hn : n < 1000000) {a : Nat} (ha : a < 4294967296) :
    ∃ w', (Instr.mapUpdate 33 (.map (some b)) (.int .u32 (a : Int)) (.bool true)).run Tryd.prog w = .ok () w' ∧ Im w' b (fun x => f x || x == a) (if f a then c else c + 1) (n + 1) ∧ Keeps [b] w w' := by
  obtain ⟨D, hown, hI⟩ := h
  obtain ⟨w', hrun, h1, h2⟩ := hown.update lawU Tryd.underlying33 (by unfold maxLen; omega) (ky_key ha) (plainElem_bool Tryd.underlying4 true)
  exact ⟨w', hrun, ⟨_, h1, hI.put ha⟩, by have := Keeps.of_grown h2; simpa using this⟩
theorem Im.keeps {G : List Nat} {w' : World} (h : Im w b f c n) (hk : Keeps G w w') (hb : b ∉ G) : Im w' b f c n := by
  obtain ⟨D, ⟨es, clock, h1, h2⟩, hI⟩ := h
  have hlt : b < w.heap.size := by
    rcases Nat.lt_or_ge b w.heap.size with h | h
    · exact h
    · rw [Array.getElem?_eq_none h] at h1; cases h1
  exact ⟨D, ⟨es, clock, (hk.block b hlt hb).trans h1, h2⟩, hI⟩
theorem Im.keep {w' : World} (h : Im w b f c n) (hk : Below w.heap.size w w') : Im w' b f c n := h.keeps (Keeps.of_below (G := []) hk) (by simp)
theorem Im.lt (h : Im w b f c n) : b < w.heap.size := by
  obtain ⟨D, hown, _⟩ := h
  exact hown.lt
end
end Go.Proofs.YtnkkcfhjgnfchaaDoor
