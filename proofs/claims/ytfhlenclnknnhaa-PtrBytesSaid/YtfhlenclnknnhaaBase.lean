/- Small words on memory for the walks of this seat: a block known whole, what Below keeps of cells. -/
import Derived.Test.YtfhlenclnknnhaaRows
import Derived.WalkKit
import Derived.WalkSpells
import Derived.WalkLawsBesides
import Derived.Handy
import Derived.Lib.Hide
import Derived.Laws.Externs
import Derived.BigQuiet
import Derived.Deep.QuietTactic
import Derived.Deep.RegionWith
import Derived.Deep.Draws
set_option linter.unusedVariables false
set_option linter.unusedSimpArgs false
namespace Go.Proofs.Ytfhlenclnknnhaa
open Go.RowKit

/-- Block g is just the cells cs of type t, none of them frozen. -/
def Blk (w : World) (g : Nat) (t : TypeId) (cs : List Value) : Prop := w.heap[g]? = some (.cells cs.toArray t (0, 0))

section
variable {w w' : World} {g : Nat} {t : TypeId} {cs : List Value}
theorem Blk.lt (h : Blk w g t cs) : g < w.heap.size := by
  rcases Nat.lt_or_ge g w.heap.size with hlt | hge
  · exact hlt
  · unfold Blk at h; rw [Array.getElem?_eq_none hge] at h; cases h
theorem Blk.cell (h : Blk w g t cs) (i : Nat) : w.cell? ⟨g, i, none⟩ = cs[i]? := by
  have := cell_of_row w g i cs.toArray t (0, 0) h
  simpa using this
theorem Blk.frozen (h : Blk w g t cs) (i : Nat) : w.frozen? ⟨g, i, none⟩ = false := by
  unfold Blk at h
  simp [World.frozen?, h]
theorem Blk.new (w : World) (t : TypeId) (cs : Array Value) : Blk (w.alloc (.cells cs t)) w.heap.size t cs.toList := by
  unfold Blk; simpa using heap_alloc_new w (.cells cs t)
theorem Blk.drew (h : Blk w g t cs) : Blk w.drew g t cs := h
theorem Blk.drewN (h : Blk w g t cs) (n : Nat) : Blk (w.drewN n) g t cs := h
theorem Blk.alloc (h : Blk w g t cs) (o : Obj) : Blk (w.alloc o) g t cs := (Below.heap_alloc w o g h.lt).trans h
theorem Blk.set_ (h : Blk w g t cs) (i : Nat) (u : Value) : Blk (w.setCell ⟨g, i, none⟩ u) g t (cs.set i u) := by
  unfold Blk at h ⊢
  simp [World.setCell, Array.getElem?_modify, h]
theorem Blk.far (h : Blk w g t cs) {p : Addr} (hp : g ≠ p.block) (u : Value) : Blk (w.setCell p u) g t cs := (Below.heap_setCell w p u g hp).trans h
theorem Blk.below {B : Nat} (h : Blk w g t cs) (hb : Below B w w') (hg : g < B) : Blk w' g t cs := (hb.block g hg).trans h
theorem Blk.keep (h : Blk w g t cs) (hb : Below w.heap.size w w') : Blk w' g t cs := h.below hb h.lt
end

/-- All old cells and marks read as before. -/
theorem bcell {W w1 : World} (hb : Below W.heap.size W w1) : (∀ b o, b < W.heap.size → w1.cell? ⟨b, o, none⟩ = W.cell? ⟨b, o, none⟩) ∧ (∀ b o, b < W.heap.size → w1.frozen? ⟨b, o, none⟩ = W.frozen? ⟨b, o, none⟩) :=
  ⟨fun b o h => hb.cell (p := ⟨b, o, none⟩) h, fun b o h => hb.frozen (p := ⟨b, o, none⟩) h⟩
/-- What was kept below B, through a call that keeps all that was there. -/
theorem below_call {B : Nat} {a w w1 : World} (h : Below B a w) (hB : B ≤ w.heap.size) (h1 : Below w.heap.size w w1) : Below B a w1 := h.trans (h1.mono hB)
theorem below_drewN {B : Nat} {a w : World} (h : Below B a w) (n : Nat) : Below B a (w.drewN n) := ⟨h.os, h.tape, h.output, h.size, h.block⟩

/-! ### Slices that read as a list (nil and empty ones, too) -/
/-- The slice value v leads to the cells xs. -/
def Sl (w : World) (v : Value) (xs : List Value) : Prop :=
  ∃ (A : Option Addr) (c : Nat), v = .slice A xs.length c ∧ xs.length ≤ c ∧ c ≤ maxLen ∧ (0 < xs.length → ∃ g o, A = some ⟨g, o, none⟩ ∧ ∀ i u, xs[i]? = some u → w.cell? ⟨g, o + i, none⟩ = some u)

theorem cell_lt {w : World} {g o : Nat} {u : Value} (h : w.cell? ⟨g, o, none⟩ = some u) : g < w.heap.size := block_lt_of_cell h

section
variable {w w' : World} {v : Value} {xs : List Value}
theorem Sl.keep (h : Sl w v xs) (hb : Below w.heap.size w w') : Sl w' v xs := by
  obtain ⟨A, c, rfl, h1, h2, h3⟩ := h
  refine ⟨A, c, rfl, h1, h2, fun hp => ?_⟩
  obtain ⟨g, o, rfl, hc⟩ := h3 hp
  exact ⟨g, o, rfl, fun i u hu => by have := hc i u hu; rw [(bcell hb).1 _ _ (cell_lt this)]; exact this⟩
theorem Sl.nil_ (w : World) : Sl w (.slice none 0 0) [] := ⟨none, 0, rfl, Nat.le_refl _, Nat.zero_le _, fun h => absurd h (by simp)⟩
theorem Sl.of_blk {g n c : Nat} {t : TypeId} {cs : List Value} (h : Blk w g t cs) (hn : n ≤ c) (hl : n ≤ cs.length) (hc : c ≤ maxLen) : Sl w (.slice (some ⟨g, 0, none⟩) n c) (cs.take n) := by
  have e : (cs.take n).length = n := by simp; omega
  refine ⟨some ⟨g, 0, none⟩, c, by rw [e], by omega, hc, fun _ => ⟨g, 0, rfl, fun i u hu => ?_⟩⟩
  rw [Nat.zero_add, h.cell]
  rw [List.getElem?_take] at hu
  split at hu
  · exact hu
  · cases hu
end

/-- Bytes as values. -/
def bv (l : List Nat) : List Value := l.map fun (b : Nat) => Value.int .u8 (b : Int)
@[simp] theorem bv_length (l : List Nat) : (bv l).length = l.length := by simp [bv]
theorem bv_get (l : List Nat) (i : Nat) : (bv l)[i]? = (l[i]?).map fun (b : Nat) => Value.int .u8 (b : Int) := by simp [bv]
/-- Bytes as a string. -/
def bstr (l : List Nat) : ByteArray := ⟨(l.map UInt8.ofNat).toArray⟩
theorem bstr_inj {l m : List Nat} (hl : ∀ b ∈ l, b < 256) (hm : ∀ b ∈ m, b < 256) (h : bstr l = bstr m) : l = m := by
  have h1 : l.map UInt8.ofNat = m.map UInt8.ofNat := by
    have := congrArg (fun s : ByteArray => s.data.toList) h
    simpa [bstr] using this
  have h2 := congrArg (List.map UInt8.toNat) h1
  simp only [List.map_map] at h2
  have e : ∀ l : List Nat, (∀ b ∈ l, b < 256) → l.map (UInt8.toNat ∘ UInt8.ofNat) = l := by
    intro l hl
    rw [List.map_congr_left (g := id) (fun b hb => by simp [Nat.mod_eq_of_lt (hl b hb)])]
    simp
  rwa [e l hl, e m hm] at h2

set_option maxRecDepth 100000 in
theorem run_conv (w : World) (v : Value) (l : List Nat) (h : Sl w v (bv l)) : (convert 35 9 v).run Try.prog w = .ok (.string (bstr l)) w := by
  obtain ⟨A, c, rfl, h1, h2, h3⟩ := h
  by_cases hp : 0 < l.length
  · obtain ⟨g, o, rfl, hc⟩ := h3 (by simpa using hp)
    have := run_convert_bytes_arg (P := Try.prog) w 35 5 Try.underlying35 Try.underlying5 g o (bv l).length c (l.map Int.ofNat) (by simp) (fun i hi => by
      have hi' : i < l.length := by simpa using hi
      rw [hc i (.int .u8 (l[i] : Int)) (by rw [bv_get, List.getElem?_eq_getElem hi']; rfl)]
      simp [hi']) 9 Try.underlying9
    refine this.trans ?_
    congr 2
    simp [strOfNums, bstr]
  · have e : l = [] := by cases l <;> simp_all
    subst e
    cases A with
    | none => exact run_convert_bytes_nil (P := Try.prog) w 35 5 Try.underlying35 Try.underlying5 _ c 9 Try.underlying9
    | some a =>
      have := run_convert_bytes_string (P := Try.prog) w 35 9 5 (some a) 0 c Try.underlying35 Try.underlying5 Try.underlying9
      show Sem.run Try.prog (convert 35 9 (Value.slice (some a) 0 c)) w = _
      rw [this, run_bytesToString w a 0 c [] (by simp [loadCells, loadCellsFrom])]
      simp [bstr]; rfl

/-- A row that is filled from the left: so many of L's cells are laid, the rest holds z. -/
def fill (L : List Value) (z : Value) (k : Nat) : List Value := L.take k ++ List.replicate (L.length - k) z
theorem fill_length (L : List Value) (z : Value) {k : Nat} (hk : k ≤ L.length) : (fill L z k).length = L.length := by simp [fill]; omega
theorem fill_zero (L : List Value) (z : Value) : fill L z 0 = List.replicate L.length z := by simp [fill]
theorem fill_all (L : List Value) (z : Value) : fill L z L.length = L := by simp [fill]
theorem fill_set (L : List Value) (z u : Value) {k : Nat} (hk : L[k]? = some u) : (fill L z k).set k u = fill L z (k + 1) := by
  have hl : k < L.length := (List.getElem?_eq_some_iff.1 hk).1
  apply List.ext_getElem?
  intro i
  rw [List.getElem?_set]
  unfold fill
  by_cases h : k = i
  · subst h
    have : k < (List.take k L ++ List.replicate (L.length - k) z).length := by simp; omega
    rw [if_pos rfl, if_pos this, List.getElem?_append_left (by simp; omega), List.getElem?_take, if_pos (by omega), hk]
  · rw [if_neg h]
    by_cases h1 : i < k
    · rw [List.getElem?_append_left (by simp; omega), List.getElem?_append_left (by simp; omega), List.getElem?_take, List.getElem?_take, if_pos h1, if_pos (by omega)]
    · rw [List.getElem?_append_right (by simp; omega), List.getElem?_append_right (by simp; omega)]
      simp only [List.length_take, List.getElem?_replicate]
      congr 1
      rw [eq_iff_iff]
      omega
theorem fill_get (L : List Value) (z : Value) {k : Nat} (hk : k < L.length) : ∃ u, (fill L z k)[k]? = some u := ⟨_, List.getElem?_eq_getElem (by rw [fill_length _ _ (by omega)]; exact hk)⟩

/-! ### Calls that write into some blocks of their own -/
/-- All that was there is kept, but for the blocks of G. -/
structure Keeps (G : List Nat) (w w' : World) : Prop where
  os : w'.os = w.os
  tape : w'.tape = w.tape
  output : w'.output = w.output
  size : w.heap.size ≤ w'.heap.size
  block : ∀ b, b < w.heap.size → b ∉ G → w'.heap[b]? = w.heap[b]?

section
variable {G : List Nat} {a w w' w'' : World}
theorem Keeps.refl (G : List Nat) (w : World) : Keeps G w w := ⟨rfl, rfl, rfl, Nat.le_refl _, fun _ _ _ => rfl⟩
theorem Keeps.of_below (h : Below w.heap.size w w') : Keeps G w w' := ⟨h.os, h.tape, h.output, h.size, fun b hb _ => h.block b hb⟩
theorem Keeps.trans (h : Keeps G w w') (h' : Keeps G w' w'') : Keeps G w w'' :=
  ⟨h'.os.trans h.os, h'.tape.trans h.tape, h'.output.trans h.output, Nat.le_trans h.size h'.size, fun b hb hG => (h'.block b (Nat.lt_of_lt_of_le hb h.size) hG).trans (h.block b hb hG)⟩
theorem Keeps.mono {G' : List Nat} (h : Keeps G w w') (hs : ∀ b ∈ G, b ∈ G') : Keeps G' w w' := ⟨h.os, h.tape, h.output, h.size, fun b hb hG => h.block b hb (fun hm => hG (hs b hm))⟩
theorem Keeps.below {B : Nat} (h : Keeps G w w') (hB : B ≤ w.heap.size) (hG : ∀ b ∈ G, B ≤ b) : Below B w w' :=
  ⟨h.os, h.tape, h.output, h.size, fun b hb => h.block b (Nat.lt_of_lt_of_le hb hB) (fun hm => by have := hG b hm; omega)⟩
theorem Keeps.setCell (h : Keeps G w w') {p : Addr} (hp : p.block ∈ G) (u : Value) : Keeps G w (w'.setCell p u) :=
  ⟨h.os, h.tape, h.output, by simpa using h.size, fun b hb hG => (Below.heap_setCell w' p u b (fun e => hG (e ▸ hp))).trans (h.block b hb hG)⟩
theorem Keeps.drew (h : Keeps G w w') : Keeps G w w'.drew := ⟨h.os, h.tape, h.output, h.size, h.block⟩
theorem Keeps.drewN (h : Keeps G w w') (n : Nat) : Keeps G w (w'.drewN n) := ⟨h.os, h.tape, h.output, h.size, h.block⟩
theorem Keeps.alloc (h : Keeps G w w') (o : Obj) : Keeps G w (w'.alloc o) :=
  ⟨h.os, h.tape, h.output, by have := h.size; simp; omega, fun b hb hG => (Below.heap_alloc w' o b (Nat.lt_of_lt_of_le hb h.size)).trans (h.block b hb hG)⟩
theorem Blk.keeps {g : Nat} {t : TypeId} {cs : List Value} (h : Blk w g t cs) (hk : Keeps G w w') (hg : g ∉ G) : Blk w' g t cs := (hk.block g h.lt hg).trans h
theorem Sl.keeps {v : Value} {xs : List Value} (h : Sl w v xs) (hk : Keeps G w w') (hg : ∀ A n c, v = .slice (some A) n c → A.block ∉ G) : Sl w' v xs := by
  obtain ⟨A, c, rfl, h1, h2, h3⟩ := h
  refine ⟨A, c, rfl, h1, h2, fun hp => ?_⟩
  obtain ⟨g, o, rfl, hc⟩ := h3 hp
  refine ⟨g, o, rfl, fun i u hu => ?_⟩
  have hl := hc i u hu
  have hb := hk.block g (cell_lt hl) (hg _ _ _ rfl)
  rw [← hl]
  simp [World.cell?, hb]
end

end Go.Proofs.Ytfhlenclnknnhaa
