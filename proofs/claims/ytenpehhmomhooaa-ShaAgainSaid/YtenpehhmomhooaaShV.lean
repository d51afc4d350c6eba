/- A hasher behind a row of the call's own; parts of slices by bounds. -/
import Derived.Test.YtenpehhmomhooaaShL
import Derived.Test.YtenpehhmomhooaaRgx
import Derived.Test.YtenpehhmomhooaaSlC
set_option linter.unusedVariables false
set_option linter.unusedSimpArgs false
namespace Go.Proofs.Ytenpehhmomhooaa
open Go.RowKit
open Go.Proofs.PlainAes
open Go.Proofs.PlainSha

theorem sl_sliced {w : World} {A : Option Addr} {n c : Nat} {xs : List Value} (h : Sl w (.slice A n c) xs) (hl : xs.length = n) {l k : Nat} (h1 : l ≤ k) (h2 : k ≤ n) :
    Sl w (sliced A l k c 1) ((xs.drop l).take (k - l)) ∧ ∀ a n' c', 0 < k - l → sliced A l k c 1 = .slice (some a) n' c' → ∃ b, A = some b ∧ a.block = b.block := by
  have hc := h.cap
  by_cases hp : 0 < k - l
  · obtain ⟨g, p, rfl, hs⟩ := h.part l (k - l) hp (by omega) hl
    have e : sliced (some ⟨g, p, none⟩) l k c 1 = .slice (some ⟨g, p + l, none⟩) (k - l) (c - l) := by
      unfold sliced
      rw [if_neg (by omega)]
      simp only [Option.map_some, Nat.mul_one]
      congr 2
      unfold Addr.add; split <;> simp_all
    rw [e]
    exact ⟨hs, fun a n' c' _ e => by injection e with e _ _; injection e with e; subst e; exact ⟨_, rfl, rfl⟩⟩
  · have e0 : k - l = 0 := by omega
    rw [e0, List.take_zero]
    exact ⟨⟨_, _, by unfold sliced; rw [e0]; rfl, Nat.zero_le _, by omega, fun h => absurd h (by simp)⟩, fun _ _ _ h => by omega⟩
theorem sliceAt_h (A : Option Addr) (n c k : Nat) (hk : k ≤ n) (hc : n ≤ c) (w : World) : (Instr.sliceAt 22 (.slice A n c) none (some (.int .i64 (k : Int))) none).run Try.prog w = .ok (sliced A 0 k c 1) w := by
  have hu : Try.prog.underlying 22 = some (.slice (Try.prog.elem 22)) := by kernel_rfl
  have hz : (sizeOf (Try.prog.elem 22)).run Try.prog w = .ok 1 w := by kernel_rfl
  rw [run_sliceAt_slice (h := hu), run_slice_h (ht := hu) (h0 := by omega) (h2 := by omega), hz]
  simp [Result.andThen]
theorem sliceAt_l (A : Option Addr) (n c k : Nat) (hk : k ≤ n) (w : World) : (Instr.sliceAt 22 (.slice A n c) (some (.int .i64 (k : Int))) none none).run Try.prog w = .ok (sliced A k n c 1) w := by
  have hu : Try.prog.underlying 22 = some (.slice (Try.prog.elem 22)) := by kernel_rfl
  have hz : (sizeOf (Try.prog.elem 22)).run Try.prog w = .ok 1 w := by kernel_rfl
  rw [run_sliceAt_slice (h := hu), run_slice_l (ht := hu) (h0 := by omega) (h1 := by omega), hz]
  simp [Result.andThen]
theorem sliceAt_lh (A : Option Addr) (n c l k : Nat) (li ki : Int) (hli : li = l) (hki : ki = k) (hl : l ≤ k) (hk : k ≤ c) (w : World) : (Instr.sliceAt 22 (.slice A n c) (some (.int .i64 li)) (some (.int .i64 ki)) none).run Try.prog w = .ok (sliced A l k c 1) w := by
  subst hli hki
  have hu : Try.prog.underlying 22 = some (.slice (Try.prog.elem 22)) := by kernel_rfl
  have hz : (sizeOf (Try.prog.elem 22)).run Try.prog w = .ok 1 w := by kernel_rfl
  rw [run_sliceAt_slice (h := hu), run_slice_lh (ht := hu) (h0 := by omega) (h1 := by omega) (h2 := by omega), hz]
  simp [Result.andThen]

/-- A hasher, a row and an array that were made ahead of it. -/
def Wq (w0 w : World) (y z g : Nat) (r : Option Nat) (m : List Nat) (x : Nat) (n c : Nat) (l : List Nat) (gx : Nat) (H : List Value) : Prop :=
  Hsh w z g r m ∧ w.ownsRow y 5 1 (.slice (some ⟨x, 0, none⟩) n c) n (bv l) ∧ Below w0.heap.size w0 w ∧ w0.heap.size ≤ y ∧ x < z ∧ Blk w gx 24 H ∧ gx < y ∧ y ≤ x ∧ w0.heap.size ≤ gx
variable {w0 w w' : World} {y z g : Nat} {r : Option Nat} {m : List Nat} {x n c : Nat} {l : List Nat} {gx : Nat} {H : List Value}
theorem Wq.write (t : Wq w0 w y z g r m x n c l gx H) {e : Ending} {m' : List Nat} (q : RetWr z g r m' w e w') : e = .returned (.int .i64 0) ∧ ∃ q, Wq w0 w' y z g q m' x n c l gx H := by
  obtain ⟨h1, h2, h3, h4, h5, h6, h7, h8, h9⟩ := t
  obtain ⟨rfl, q, hq, hK, hm⟩ := q
  have b1 := h1.lt
  have b3 := h3.size
  refine ⟨rfl, q, hq, own_keeps h2 hK (fun k _ hk => ?_), h3.trans (hK.belowH b3 (by omega) (fun k hk => by have := (h1.row k hk).1; omega)), h4, h5, h6.other hK (by omega) (fun e => by have := (h1.row _ e).1; omega), h7, h8, h9⟩
  have e1 : x = k := by injection hk
  simp only [List.mem_cons, Option.mem_toList, not_or]
  exact ⟨by omega, fun e => by have := (h1.row k e).1; omega⟩
theorem Wq.keep (t : Wq w0 w y z g r m x n c l gx H) (hB : Below w.heap.size w w') : Wq w0 w' y z g r m x n c l gx H := by
  obtain ⟨h1, h2, h3, h4, h5, h6, h7⟩ := t
  exact ⟨h1.keep hB, own_keep h2 hB, below_call h3 h3.size hB, h4, h5, h6.keep hB, h7⟩
theorem Wq.keeps {G : List Nat} (t : Wq w0 w y z g r m x n c l gx H) (hK : Keeps G w w') (hG : ∀ b ∈ G, w.heap.size ≤ b ∨ (z ≤ b ∧ b ≠ g ∧ r ≠ some b)) : Wq w0 w' y z g r m x n c l gx H := by
  obtain ⟨h1, h2, h3, h4, h5, h6, h7, h8, h9⟩ := t
  have b1 := h1.lt
  have b6 := h6.lt
  have b3 := h3.size
  refine ⟨h1.keeps hK (fun h => ?_) (fun k hk h => ?_), own_keeps h2 hK (fun k _ hk h => ?_), h3.trans (hK.below b3 (fun b hb => ?_)), h4, h5, h6.keeps hK (fun h => ?_), h7, h8, h9⟩
  · rcases hG _ h with h | h
    · omega
    · exact h.2.1 rfl
  · rcases hG _ h with h | h
    · have := (h1.row k hk).2; omega
    · exact h.2.2 hk
  · have e1 : x = k := by injection hk
    have hx := (h2.lt x rfl).2
    rcases hG _ h with h | h <;> omega
  · rcases hG _ hb with h | h <;> omega
  · rcases hG _ h with h | h <;> omega
theorem Wq.lt (t : Wq w0 w y z g r m x n c l gx H) : g < w.heap.size ∧ w0.heap.size ≤ w.heap.size ∧ r ≠ some w.heap.size ∧ z ≤ w.heap.size := by
  obtain ⟨h1, h2, h3, h4, h5, h6⟩ := t
  have b1 := h1.lt
  exact ⟨h1.lt.2, h3.size, fun e => by have := (h1.row _ e).2; omega, by omega⟩
theorem Wq.sl (t : Wq w0 w y z g r m x n c l gx H) : Sl w (.slice (some ⟨x, 0, none⟩) n c) (bv l) := Sl.of_own t.2.1
theorem Wq.apart (t : Wq w0 w y z g r m x n c l gx H) {b : Nat} (hb : b < z) : b ≠ g ∧ r ≠ some b := by
  have b1 := t.1.lt
  exact ⟨by omega, fun e => by have := (t.1.row _ e).1; omega⟩
theorem own_one (w : World) (p : Nat) : (w.alloc (.cells #[.int .u8 (p : Int)] 5)).ownsRow w.heap.size 5 1 (.slice (some ⟨w.heap.size, 0, none⟩) 1 1) 1 (bv [p]) :=
  ⟨rfl, .inr ⟨_, 1, #[.int .u8 (p : Int)], rfl, Nat.le_refl _, Blk.new w 5 #[.int .u8 (p : Int)], Nat.le_refl _, by unfold maxLen; decide, rfl, rfl⟩⟩
theorem sl_two (w : World) (p : Nat) : Sl (w.alloc (.cells #[.int .u8 (p : Int), .int .u8 (p : Int)] 5)) (.slice (some ⟨w.heap.size, 0, none⟩) 2 2) (bv [p, p]) :=
  Sl.of_new w #[.int .u8 (p : Int), .int .u8 (p : Int)] 5 (0, 0) (by unfold maxLen; simp)
theorem sl_none {w : World} {X : Option Addr} : Sl w (.slice X 0 0) (bv []) := ⟨X, 0, rfl, Nat.le_refl _, Nat.zero_le _, fun h => absurd h (by simp [bv])⟩
end Go.Proofs.Ytenpehhmomhooaa
