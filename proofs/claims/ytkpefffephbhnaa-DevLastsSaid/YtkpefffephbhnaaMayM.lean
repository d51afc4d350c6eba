/- A map of maps that the call makes: of each address the bytes that may be there. -/
import Derived.Test.YtkpefffephbhnaaMapV
import Derived.Test.YtkpefffephbhnaaMapB
set_option linter.unusedVariables false
set_option linter.unusedSimpArgs false
namespace Go.Proofs.Ytkpefffephbhnaa
open Go.RowKit Go.Maps

theorem zeroM8 (w : World) : (zeroValue 48).run Try.prog w = .ok (.map none) w := by kernel_rfl
theorem zeroBo (w : World) : (zeroValue 4).run Try.prog w = .ok (.bool false) w := by kernel_rfl
theorem zeroU8 (w : World) : (zeroValue 5).run Try.prog w = .ok (.int .u8 0) w := by kernel_rfl
/-- The map in block bm: x's own map lies in block Bf x, and has v where S x v. -/
structure My (C : Nat) (w : World) (bm n : Nat) (Bf : Nat → Option Nat) (S : Nat → Nat → Bool) : Prop where
  top : Fm w bm (fun x => (Bf x).map fun b => .map (some b)) n
  low : ∀ x b, Bf x = some b → Fm8 w b (fun v => if S x v then some (.bool true) else none) n ∧ C ≤ b ∧ b ≠ bm
  one : ∀ x y b, Bf x = some b → Bf y = some b → x = y
  non : ∀ x, Bf x = none → ∀ v, S x v = false
section
variable {C n bm : Nat} {w w' : World} {Bf : Nat → Option Nat} {S : Nat → Nat → Bool}
theorem My.made (C : Nat) (w : World) : My C (w.alloc (.map #[] 0)) w.heap.size 0 (fun _ => none) (fun _ _ => false) :=
  ⟨Fm.made w, fun x b h => by simp at h, fun x y b h => by simp at h, fun _ _ _ => rfl⟩
theorem My.keeps {G : List Nat} (h : My C w bm n Bf S) (hK : Keeps G w w') (h1 : bm ∉ G) (h2 : ∀ x b, Bf x = some b → b ∉ G) : My C w' bm n Bf S :=
  ⟨h.top.keeps hK h1, fun x b hb => ⟨(h.low x b hb).1.keeps hK (h2 x b hb), (h.low x b hb).2⟩, h.one, h.non⟩
theorem My.keep (h : My C w bm n Bf S) (hB : Below w.heap.size w w') : My C w' bm n Bf S := h.keeps (Keeps.of_below (G := []) hB) (by simp) (by simp)
theorem My.mono {m : Nat} (h : My C w bm n Bf S) (hm : n ≤ m) : My C w bm m Bf S :=
  ⟨h.top.mono hm, fun x b hb => ⟨(h.low x b hb).1.mono hm, (h.low x b hb).2⟩, h.one, h.non⟩
theorem My.look (h : My C w bm n Bf S) {x : Nat} (hx : x < 4294967296) : (Instr.lookup 47 (.map (some bm)) (.int .u32 (x : Int)) false).run Try.prog w = .ok (.map (Bf x)) w := by
  rw [h.top.lookV Try.underlying47 (zeroM8 w) hx]
  cases Bf x <;> rfl
theorem My.has (h : My C w bm n Bf S) {x v : Nat} (hv : v < 256) : (Instr.lookup 48 (.map (Bf x)) (.int .u8 (v : Int)) false).run Try.prog w = .ok (.bool (S x v)) w := by
  cases hb : Bf x with
  | none =>
    rw [h.non x hb v]
    exact Maps.look_nil false law8 Try.underlying48 (zeroBo w) (kb_key hv)
  | some b =>
    rw [(h.low x b hb).1.lookV Try.underlying48 (zeroBo w) hv]
    cases S x v <;> rfl
/-- x gets a map of its own. -/
theorem My.new (h : My C w bm n Bf S) (hC : C ≤ w.heap.size) (hn : n < 1000000) {x : Nat} (hx : x < 4294967296) (hb : Bf x = none) :
    ∃ w', (Instr.mapUpdate 47 (.map (some bm)) (.int .u32 (x : Int)) (.map (some w.heap.size))).run Try.prog (w.alloc (.map #[] 0)) = .ok () w' ∧ My C w' bm (n + 1) (fun y => if y = x then some w.heap.size else Bf y) S ∧ Keeps [bm] w w' := by
  have b1 : Below w.heap.size w (w.alloc (.map #[] 0)) := (Below.refl _ _).alloc (Nat.le_refl _) _
  have h1 := h.keep b1
  obtain ⟨w', hr, h2, hK⟩ := h1.top.put Try.underlying47 hn hx (.map (some w.heap.size))
  have hlt := h.top.lt
  have hm := ((Fm8.made w).keeps hK (by simp; omega))
  refine ⟨w', hr, ⟨?_, ?_, ?_, ?_⟩, ((Keeps.of_below b1).trans hK)⟩
  · have e : (fun y => (if y = x then some w.heap.size else Bf y).map fun b => Value.map (some b)) = fset (fun y => (Bf y).map fun b => .map (some b)) x (.map (some w.heap.size)) := by
      funext y
      unfold fset
      split <;> rfl
    rw [e]
    exact h2
  · intro y b hy
    by_cases e : y = x
    · subst e
      rw [if_pos rfl] at hy
      injection hy with hy
      subst hy
      refine ⟨?_, hC, by omega⟩
      have e2 : (fun v => if S y v = true then some (Value.bool true) else none) = (fun _ => none) := by
        funext v
        rw [h.non y hb v]
        rfl
      rw [e2]
      exact hm.mono (Nat.zero_le _)
    · rw [if_neg e] at hy
      obtain ⟨k1, k2, k3⟩ := h1.low y b hy
      exact ⟨(k1.keeps hK (by simpa using k3)).mono (Nat.le_succ n), k2, k3⟩
  · intro y z b hy hz
    have hlow := fun y b hy => (h.low y b hy).1.lt
    by_cases e : y = x
    · by_cases e2 : z = x
      · rw [e, e2]
      · rw [if_pos e] at hy
        rw [if_neg e2] at hz
        injection hy with hy
        have := hlow z b hz
        omega
    · by_cases e2 : z = x
      · rw [if_neg e] at hy
        rw [if_pos e2] at hz
        injection hz with hz
        have := hlow y b hy
        omega
      · rw [if_neg e] at hy
        rw [if_neg e2] at hz
        exact h.one y z b hy hz
  · intro y hy
    by_cases e : y = x
    · rw [if_pos e] at hy; cases hy
    · rw [if_neg e] at hy; exact h.non y hy
/-- One more byte of x. -/
theorem My.put (h : My C w bm n Bf S) (hn : n < 1000000) {x v b : Nat} (hv : v < 256) (hb : Bf x = some b) :
    ∃ w', (Instr.mapUpdate 48 (.map (some b)) (.int .u8 (v : Int)) (.bool true)).run Try.prog w = .ok () w' ∧ My C w' bm (n + 1) Bf (fun y u => S y u || (y == x && u == v)) ∧ Keeps [b] w w' := by
  obtain ⟨k1, k2, k3⟩ := h.low x b hb
  obtain ⟨w', hr, h2, hK⟩ := k1.put Try.underlying48 hn hv (.bool true)
  refine ⟨w', hr, ⟨(h.top.keeps hK (by simp; exact fun e => k3 e.symm)).mono (Nat.le_succ n), ?_, h.one, ?_⟩, hK⟩
  · intro y c hy
    by_cases e : y = x
    · subst e
      rw [hb] at hy
      injection hy with hy
      subst hy
      refine ⟨?_, k2, k3⟩
      have e2 : (fun u => if (S y u || (y == y && u == v)) = true then some (Value.bool true) else none) = fset (fun u => if S y u = true then some (.bool true) else none) v (.bool true) := by
        funext u
        unfold fset
        by_cases e3 : u = v <;> simp [e3]
      rw [e2]
      exact h2
    · obtain ⟨j1, j2, j3⟩ := h.low y c hy
      have hc : c ≠ b := fun e3 => e (h.one y x b (e3 ▸ hy) hb)
      refine ⟨?_, j2, j3⟩
      have e2 : (fun u => if (S y u || (y == x && u == v)) = true then some (Value.bool true) else none) = (fun u => if S y u = true then some (.bool true) else none) := by
        funext u
        have : (y == x) = false := by simpa using e
        rw [this]
        simp
      rw [e2]
      exact (j1.keeps hK (by simpa using hc)).mono (Nat.le_succ n)
  · intro y hy u
    have e : y ≠ x := fun e => by rw [e, hb] at hy; cases hy
    have e1 : (y == x) = false := by simpa using e
    rw [h.non y hy u, e1]
    rfl
end
end Go.Proofs.Ytkpefffephbhnaa
