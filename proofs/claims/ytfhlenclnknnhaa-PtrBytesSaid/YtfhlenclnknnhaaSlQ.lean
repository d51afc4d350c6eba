/- Parts of slices by bounds (parted from ShV; where the sha texts are not there). -/
import Derived.Test.YtfhlenclnknnhaaSlC
import Derived.Laws.Slices
set_option linter.unusedVariables false
set_option linter.unusedSimpArgs false
namespace Go.Proofs.Ytfhlenclnknnhaa
open Go.RowKit
theorem sl_sliced {w : World} {A : Option Addr} {n c : Nat} {xs : List Value} (h : Sl w (.slice A n c) xs) (hl : xs.length = n) {l k : Nat} (h1 : l ≤ k) (h2 : k ≤ n) :
    Sl w (sliced A l k c 1) ((xs.drop l).take (k - l)) ∧ ∀ a n' c', 0 < k - l → sliced A l k c 1 = .slice (some a) n' c' → ∃ b, A = some b ∧ a.block = b.block := by
  have hc := h.cap
  by_cases hp : 0 < k - l
  · obtain ⟨g, p, rfl, hs⟩ := h.part l (k - l) hp (by omega) hl
    have e : sliced (some ⟨g, p, none⟩) l k c 1 = .slice (some ⟨g, p + l, none⟩) (k - l) (c - l) := by
      unfold sliced
      rw [if_neg (by omega)]
      simp only [Option.map_some, Nat.mul_one]
      congr 2
      unfold Addr.add; split <;> simp_all
    rw [e]
    exact ⟨hs, fun a n' c' _ e => by injection e with e _ _; injection e with e; subst e; exact ⟨_, rfl, rfl⟩⟩
  · have e0 : k - l = 0 := by omega
    rw [e0, List.take_zero]
    exact ⟨⟨_, _, by unfold sliced; rw [e0]; rfl, Nat.zero_le _, by omega, fun h => absurd h (by simp)⟩, fun _ _ _ h => by omega⟩
theorem sliceAt_h (A : Option Addr) (n c k : Nat) (hk : k ≤ n) (hc : n ≤ c) (w : World) : (Instr.sliceAt 35 (.slice A n c) none (some (.int .i64 (k : Int))) none).run Try.prog w = .ok (sliced A 0 k c 1) w := by
  have hu : Try.prog.underlying 35 = some (.slice (Try.prog.elem 35)) := by kernel_rfl
  have hz : (sizeOf (Try.prog.elem 35)).run Try.prog w = .ok 1 w := by kernel_rfl
  rw [run_sliceAt_slice (h := hu), run_slice_h (ht := hu) (h0 := by omega) (h2 := by omega), hz]
  simp [Result.andThen]
theorem sliceAt_l (A : Option Addr) (n c k : Nat) (hk : k ≤ n) (w : World) : (Instr.sliceAt 35 (.slice A n c) (some (.int .i64 (k : Int))) none none).run Try.prog w = .ok (sliced A k n c 1) w := by
  have hu : Try.prog.underlying 35 = some (.slice (Try.prog.elem 35)) := by kernel_rfl
  have hz : (sizeOf (Try.prog.elem 35)).run Try.prog w = .ok 1 w := by kernel_rfl
  rw [run_sliceAt_slice (h := hu), run_slice_l (ht := hu) (h0 := by omega) (h1 := by omega), hz]
  simp [Result.andThen]
theorem sliceAt_lh (A : Option Addr) (n c l k : Nat) (li ki : Int) (hli : li = l) (hki : ki = k) (hl : l ≤ k) (hk : k ≤ c) (w : World) : (Instr.sliceAt 35 (.slice A n c) (some (.int .i64 li)) (some (.int .i64 ki)) none).run Try.prog w = .ok (sliced A l k c 1) w := by
  subst hli hki
  have hu : Try.prog.underlying 35 = some (.slice (Try.prog.elem 35)) := by kernel_rfl
  have hz : (sizeOf (Try.prog.elem 35)).run Try.prog w = .ok 1 w := by kernel_rfl
  rw [run_sliceAt_slice (h := hu), run_slice_lh (ht := hu) (h0 := by omega) (h1 := by omega) (h2 := by omega), hz]
  simp [Result.andThen]

theorem ob_sliced (A : Option Addr) (l k c : Nat) : (sliced A l k c 1).ownBlock = A.map (·.block) := by
  unfold sliced
  cases A with
  | none => split <;> rfl
  | some a =>
    split
    · rfl
    · show some (a.add (l * 1)).block = some a.block
      unfold Addr.add
      split <;> rfl
/-- A part of a slice, as a value of its own. -/
theorem sl_part {w : World} {A : Option Addr} {n c : Nat} {xs : List Value} (h : Sl w (.slice A n c) xs) {l k : Nat} (h1 : l ≤ k) (h2 : k ≤ n) :
    ∃ A' c', sliced A l k c 1 = .slice A' (k - l) c' ∧ Sl w (.slice A' (k - l) c') ((xs.drop l).take (k - l)) ∧ A'.map (·.block) = A.map (·.block) := by
  refine ⟨_, _, rfl, (sl_sliced h h.cap.2.2 h1 h2).1, ?_⟩
  have := ob_sliced A l k c
  unfold sliced at this
  revert this
  generalize (if c = l then A else A.map fun x => x.add (l * 1)) = A1
  cases A1 <;> exact fun h => h
end Go.Proofs.Ytfhlenclnknnhaa
