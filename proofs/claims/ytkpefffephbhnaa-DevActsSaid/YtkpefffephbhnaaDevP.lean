/- The device: plain laws of flushes and crashes. -/
import Derived.Test.YtkpefffephbhnaaDevI
set_option linter.unusedVariables false
set_option linter.unusedSimpArgs false
namespace Go.Proofs.PlainDev
/-- The writes of a list: of each byte one, to its sector of sixteen. -/
def wsK (g : Nat → List Nat) (l : List Nat) (k : Nat) : List (Nat × List Nat) := (List.range k).map fun i => (l.getD i 0 % 16, g i)
theorem wsK_succ (g : Nat → List Nat) (l : List Nat) (k : Nat) : wsK g l (k + 1) = wsK g l k ++ [(l.getD k 0 % 16, g k)] := by
  unfold wsK; rw [List.range_succ, List.map_append]; rfl
theorem wsK_zero (g : Nat → List Nat) (l : List Nat) : wsK g l 0 = [] := rfl
theorem wsK_length (g : Nat → List Nat) (l : List Nat) (k : Nat) : (wsK g l k).length = k := by simp [wsK]
theorem wsK_get {g : Nat → List Nat} {l : List Nat} {k i : Nat} (h : i < k) : (wsK g l k)[i]? = some (l.getD i 0 % 16, g i) := by simp [wsK, h]
theorem flushL_app (f : Nat → Option (List Nat)) (ws : List (Nat × List Nat)) (a : Nat) (b : List Nat) : flushL f (ws ++ [(a, b)]) = lset (flushL f ws) a b := by
  funext x
  unfold flushL lset
  rw [lastOf_append]
  by_cases e : x = a
  · rw [if_pos e, if_pos e]; simp
  · rw [if_neg e, if_neg e]
    show _ = (match lastOf ws x with | some i => some (ws.getD i (0, [])).2 | none => f x)
    cases h : lastOf ws x with
    | none => rfl
    | some i =>
      have hi := lastOf_lt h
      simp only [List.getD_eq_getElem?_getD]
      rw [List.getElem?_append_left hi]
theorem flushL_nil (f : Nat → Option (List Nat)) : flushL f [] = f := rfl
theorem take_succ_get {α : Type} (l : List α) (k : Nat) (p : α) (h : l[k]? = some p) : l.take (k + 1) = l.take k ++ [p] := by
  rw [List.take_add_one, h]; rfl
theorem crash_all (f : Nat → Option (List Nat)) (ws : List (Nat × List Nat)) (keep : Nat) (hk : ∀ i, keep / 2 ^ (i % 64) % 2 = 1) : ∀ k, k ≤ ws.length → crashN f ws keep (-1) k = flushL f (ws.take k)
  | 0, _ => rfl
  | k + 1, h => by
    obtain ⟨p, hp⟩ : ∃ p, ws[k]? = some p := ⟨_, List.getElem?_eq_getElem (by omega)⟩
    show (match ws[k]? with | none => _ | some p => _) = _
    rw [hp, take_succ_get ws k p hp, flushL_app, ← crash_all f ws keep hk k (by omega)]
    show (if (k : Int) = -1 then _ else _) = _
    rw [if_neg (by omega), if_pos (hk k)]
theorem crash_none (f : Nat → Option (List Nat)) (ws : List (Nat × List Nat)) : ∀ k, crashN f ws 0 (-1) k = f
  | 0 => rfl
  | k + 1 => by
    show (match ws[k]? with | none => _ | some p => _) = _
    cases ws[k]? with
    | none => exact crash_none f ws k
    | some p =>
      show (if (k : Int) = -1 then _ else _) = _
      rw [if_neg (by omega), if_neg (by simp)]
      exact crash_none f ws k
theorem ones_bit (i : Nat) : 18446744073709551615 / 2 ^ (i % 64) % 2 = 1 := by
  have h : i % 64 < 64 := Nat.mod_lt _ (by decide)
  generalize i % 64 = j at *
  have : ∀ j : Fin 64, 18446744073709551615 / 2 ^ j.val % 2 = 1 := by decide +kernel
  exact this ⟨j, h⟩
end Go.Proofs.PlainDev
namespace Go.Proofs.Ytkpefffephbhnaa
open Go.RowKit Go.Maps
open Go.Proofs.PlainDev
section
variable {B C g N : Nat} {w w' : World} {L L' : List Nat} {s : Dst}
theorem Dx.mono (h : Dx B w g L N s) (hC : C ≤ B) : Dx C w g L N s := by
  obtain ⟨bl, ba, vw, nl, h, rfl, hn⟩ := h
  refine ⟨bl, ba, vw, nl, ⟨h.ok, h.blk, h.lies, h.last, ?_, Nat.le_trans hC h.gB, Nat.le_trans hC h.blB, Nat.le_trans hC h.baB, h.ne1, h.ne2, h.ne3, h.ne4⟩, rfl, hn⟩
  obtain ⟨h1, h2⟩ := h.row
  rcases h2 with e | ⟨g', cap, cur, e, hb, r⟩
  · exact ⟨h1, .inl e⟩
  · exact ⟨h1, .inr ⟨g', cap, cur, e, Nat.le_trans hC hb, r⟩⟩
theorem Dx.more {M : Nat} (h : Dx B w g L N s) (hN : N ≤ M) : Dx B w g L M s := by
  obtain ⟨bl, ba, vw, nl, h, rfl, hn⟩ := h
  exact ⟨bl, ba, vw, nl, h, rfl, Nat.le_trans hn hN⟩
/-- A row handed out by Peek lies behind, and reads. -/
theorem RetPk.out {l : List Nat} {e : Ending} (h : RetPk l w e w') : ∃ k c, e = .returned (.tuple #[.slice (some ⟨k, 0, none⟩) 512 c, .int .i64 0]) ∧ Sl w' (.slice (some ⟨k, 0, none⟩) 512 c) (bv l) ∧ Below w.heap.size w w' := by
  obtain ⟨v, rfl, own, hB⟩ := h
  obtain ⟨k, c, rfl, -, -⟩ := own_form own (by decide)
  exact ⟨k, c, rfl, Sl.of_own own, hB⟩
end
end Go.Proofs.Ytkpefffephbhnaa
