/- The device: what it is, laid out; New; small readers. -/
import Derived.Test.YtkpefffephbhnaaMapV
import Derived.Test.YtkpefffephbhnaaArr
import Derived.Test.YtkpefffephbhnaaArrB
import Derived.Test.YtkpefffephbhnaaRgx
import Derived.Test.YtkpefffephbhnaaBld
set_option linter.unusedVariables false
set_option linter.unusedSimpArgs false
namespace Go.Proofs.PlainDev
/-- A device's state: what lies there, what waits, how many more go well, whether it is down. -/
structure Dst where
  size : Nat
  lies : Nat → Option (List Nat)
  waits : List (Nat × List Nat)
  left : Int
  down : Bool
/-- The number of the last one that waits of a sector. -/
def lastOf : List (Nat × List Nat) → Nat → Option Nat
  | [], _ => none
  | p :: r, x => match lastOf r x with
    | some i => some (i + 1)
    | none => if p.1 = x then some 0 else none
theorem lastOf_append (l : List (Nat × List Nat)) (a : Nat) (b : List Nat) (x : Nat) : lastOf (l ++ [(a, b)]) x = if x = a then some l.length else lastOf l x := by
  induction l with
  | nil =>
    unfold lastOf lastOf
    by_cases h : x = a
    · subst h; simp [lastOf]
    · have h' : ¬ a = x := fun e => h e.symm
      simp [lastOf, h, h']
  | cons p r ih =>
    show lastOf (p :: (r ++ [(a, b)])) x = _
    unfold lastOf
    rw [ih]
    by_cases h : x = a
    · simp [h]
    · rw [if_neg h, if_neg h]
theorem lastOf_get : ∀ (l : List (Nat × List Nat)) (x i : Nat), lastOf l x = some i → ∃ b, l[i]? = some (x, b)
  | [], x, i, h => by cases h
  | p :: r, x, i, h => by
    unfold lastOf at h
    cases hr : lastOf r x with
    | none =>
      simp only [hr] at h
      by_cases e : p.1 = x
      · rw [if_pos e] at h
        injection h with h
        subst h
        exact ⟨p.2, by simp [← e]⟩
      · rw [if_neg e] at h
        cases h
    | some j =>
      simp only [hr] at h
      injection h with h
      subst h
      simpa using lastOf_get r x j hr
theorem lastOf_lt {l : List (Nat × List Nat)} {x i : Nat} (h : lastOf l x = some i) : i < l.length := by
  obtain ⟨b, hb⟩ := lastOf_get l x i h
  exact (List.getElem?_eq_some_iff.1 hb).1
end Go.Proofs.PlainDev
namespace Go.Proofs.Ytkpefffephbhnaa
open Go.RowKit Go.Maps
open Go.Proofs.PlainDev

/-- A sector's value. -/
def secV (l : List Nat) : Value := .agg (bv l).toArray
/-- What waits, as cells. -/
def wcl (l : List (Nat × List Nat)) : List Value := l.flatMap fun p => .int .u32 (p.1 : Int) :: bv p.2
def devC (size : Nat) (bl : Nat) (vw : Value) (ba : Nat) (left : Int) (down : Bool) : List Value := [.int .i64 (size : Int), .map (some bl), vw, .map (some ba), .int .i64 left, .bool down]
/-- A sector's bytes. -/
def Sec (l : List Nat) : Prop := l.length = 512 ∧ ∀ x ∈ l, x < 256
/-- A state that a device may be in. -/
structure Okd (s : Dst) : Prop where
  size : 16 ≤ s.size ∧ s.size ≤ 4096
  lies : ∀ x l, s.lies x = some l → Sec l
  waits : ∀ p ∈ s.waits, p.1 < s.size ∧ Sec p.2
  left : -1 ≤ s.left ∧ s.left ≤ 9223372036854775807
/-- The blocks of a device. -/
def dblk (g bl ba : Nat) (vw : Value) : List Nat := g :: bl :: ba :: vw.ownBlock.toList
/-- A device lies in block g, its maps in bl and ba, what waits in vw's row. -/
structure Dv (B : Nat) (w : World) (g bl ba : Nat) (vw : Value) (nl : Nat) (s : Dst) : Prop where
  ok : Okd s
  blk : Blk w g 71 (devC s.size bl vw ba s.left s.down)
  lies : Fm w bl (fun x => (s.lies x).map secV) nl
  last : Fm w ba (fun x => (lastOf s.waits x).map (fun (i : Nat) => (Value.int .i64 (i : Int)))) s.waits.length
  row : w.ownsRow B 74 513 vw s.waits.length (wcl s.waits)
  gB : B ≤ g
  blB : B ≤ bl
  baB : B ≤ ba
  ne1 : g ≠ bl
  ne2 : g ≠ ba
  ne3 : bl ≠ ba
  ne4 : ∀ k, vw.ownBlock = some k → k ≠ g ∧ k ≠ bl ∧ k ≠ ba
section
variable {B : Nat} {w w' : World} {g bl ba : Nat} {vw : Value} {nl : Nat} {s : Dst} {G : List Nat}
theorem ownsRow_keeps {b e sz : Nat} {v : Value} {n : Nat} {xs : List Value} (h : w.ownsRow b e sz v n xs) (hK : Keeps G w w') (hG : ∀ k, v.ownBlock = some k → k ∉ G) : w'.ownsRow b e sz v n xs := by
  have hl := h.lt
  obtain ⟨h1, h2⟩ := h
  refine ⟨h1, ?_⟩
  rcases h2 with h | ⟨g, cap, cur, rfl, hb2, hg, r⟩
  · exact .inl h
  · exact .inr ⟨g, cap, cur, rfl, hb2, (hK.block g (hl g rfl).2 (hG g rfl)).trans hg, r⟩
theorem mem_dblk {k : Nat} : k ∈ dblk g bl ba vw ↔ k = g ∨ k = bl ∨ k = ba ∨ vw.ownBlock = some k := by
  unfold dblk
  cases h : vw.ownBlock with
  | none => simp
  | some j => simp; constructor <;> (rintro (h | h | h | h) <;> simp_all)
/-- What is written elsewhere leaves a device. -/
theorem Dv.keeps (h : Dv B w g bl ba vw nl s) (hK : Keeps G w w') (hG : ∀ k ∈ dblk g bl ba vw, k ∉ G) : Dv B w' g bl ba vw nl s :=
  ⟨h.ok, h.blk.keeps hK (hG g (mem_dblk.2 (.inl rfl))), h.lies.keeps hK (hG bl (mem_dblk.2 (.inr (.inl rfl)))), h.last.keeps hK (hG ba (mem_dblk.2 (.inr (.inr (.inl rfl))))),
    ownsRow_keeps h.row hK (fun k hk => hG k (mem_dblk.2 (.inr (.inr (.inr hk))))), h.gB, h.blB, h.baB, h.ne1, h.ne2, h.ne3, h.ne4⟩
theorem Dv.lt (h : Dv B w g bl ba vw nl s) : ∀ k ∈ dblk g bl ba vw, B ≤ k ∧ k < w.heap.size := by
  intro k hk
  rcases mem_dblk.1 hk with rfl | rfl | rfl | hk
  · exact ⟨h.gB, h.blk.lt⟩
  · exact ⟨h.blB, h.lies.lt⟩
  · exact ⟨h.baB, h.last.lt⟩
  · exact h.row.lt k hk
theorem Dv.below {C : Nat} (h : Dv B w g bl ba vw nl s) (hK : Below C w w') (hC : w.heap.size ≤ C) : Dv B w' g bl ba vw nl s :=
  h.keeps (Keeps.of_below (G := []) (hK.mono hC)) (by simp)
theorem Dv.keep (h : Dv B w g bl ba vw nl s) (hK : Below w.heap.size w w') : Dv B w' g bl ba vw nl s := h.below hK (Nat.le_refl _)
theorem Dv.drew (h : Dv B w g bl ba vw nl s) : Dv B w.drew g bl ba vw nl s := ⟨h.ok, h.blk, h.lies, h.last, h.row, h.gB, h.blB, h.baB, h.ne1, h.ne2, h.ne3, h.ne4⟩
theorem Dv.c0 (h : Dv B w g bl ba vw nl s) : w.cell? ⟨g, 0, none⟩ = some (.int .i64 (s.size : Int)) := (h.blk.cell 0).trans rfl
theorem Dv.c1 (h : Dv B w g bl ba vw nl s) : w.cell? ⟨g, 1, none⟩ = some (.map (some bl)) := (h.blk.cell 1).trans rfl
theorem Dv.c2 (h : Dv B w g bl ba vw nl s) : w.cell? ⟨g, 2, none⟩ = some vw := (h.blk.cell 2).trans rfl
theorem Dv.c3 (h : Dv B w g bl ba vw nl s) : w.cell? ⟨g, 3, none⟩ = some (.map (some ba)) := (h.blk.cell 3).trans rfl
theorem Dv.c4 (h : Dv B w g bl ba vw nl s) : w.cell? ⟨g, 4, none⟩ = some (.int .i64 s.left) := (h.blk.cell 4).trans rfl
theorem Dv.c5 (h : Dv B w g bl ba vw nl s) : w.cell? ⟨g, 5, none⟩ = some (.bool s.down) := (h.blk.cell 5).trans rfl
end
/-- A new device's state. -/
def new0 (size : Nat) : Dst := ⟨size, fun _ => none, [], -1, false⟩
theorem new0_ok {size : Nat} (h1 : 16 ≤ size) (h2 : size ≤ 4096) : Okd (new0 size) := ⟨⟨h1, h2⟩, (fun x l h => by cases h), (fun p h => by cases h), ⟨Int.le_refl _, by show (-1 : Int) ≤ _; decide⟩⟩
set_option maxRecDepth 100000 in
theorem new_ok (size : Nat) (w : World) (h1 : (16 : Int) ≤ size) (h2 : (size : Int) ≤ 4096) :
    Calls Try.prog 11 #[.int .i64 (size : Int)] w fun e w' => ∃ g bl ba, e = .returned (.tuple #[.pointer (some ⟨g, 0, none⟩), .int .i64 0]) ∧ Dv w.heap.size w' g bl ba (.slice none 0 0) 0 (new0 size) ∧ Below w.heap.size w w' := by
  have hok := Lib.hid (new0_ok (size := size) (by omega) (by omega))
  have hmm := @run_makeMap Try.prog
  go_enter Try.func11, Try.ntmps11
  go_wp2
  go_ret2
  have b1 : Below w.heap.size w (w.alloc (.map #[] 0)) := (Below.refl _ _).alloc (Nat.le_refl _) _
  have b2 : Below (w.alloc (.map #[] 0)).heap.size (w.alloc (.map #[] 0)) ((w.alloc (.map #[] 0)).alloc (.map #[] 0)) := (Below.refl _ _).alloc (Nat.le_refl _) _
  have m1 := (Fm.made w).keep b2
  have m2 := Fm.made (w.alloc (.map #[] 0))
  generalize hW : (w.alloc (.map #[] 0)).alloc (.map #[] 0) = W2 at *
  have hs : W2.heap.size = w.heap.size + 1 + 1 := by rw [← hW]; simp
  have b3 : Below W2.heap.size W2 (W2.alloc (.cells (devC size w.heap.size (.slice none 0 0) (w.heap.size + 1) (-1) false).toArray 71)) := (Below.refl _ _).alloc (Nat.le_refl _) _
  have k := Blk.new_at (w := W2) (n := w.heap.size + 1 + 1) (t := 71) (cs := (devC size w.heap.size (.slice none 0 0) (w.heap.size + 1) (-1) false).toArray) hs rfl
  refine ⟨_, w.heap.size, w.heap.size + 1, rfl, ?_, ?_⟩
  · exact ⟨hok.out, k, m1.keep b3, (by have := m2.keep b3; rw [World.size_alloc] at this; exact this), World.ownsRow_nil _ _ _ _, by omega, Nat.le_refl _, by omega, by omega, by omega, by omega, by intro k hk; simp [Value.ownBlock] at hk⟩
  · exact (below_call b1 b1.size b2).trans (b3.mono (by omega))
end Go.Proofs.Ytkpefffephbhnaa
