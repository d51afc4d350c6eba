/- The law DevLasts: plain laws. -/
import Derived.Test.YtkpefffephbhnaaDevP
set_option linter.unusedVariables false
set_option linter.unusedSimpArgs false
namespace Go.Proofs.PlainDev
/-- What the first writes left of each sector: the last one's number. -/
def wasF (l : List Nat) : Nat → Nat → Option Nat
  | 0 => fun _ => none
  | k + 1 => fun x => if x = l.getD k 0 % 16 then some (k + 1) else wasF l k x
/-- What the writes behind may have left. -/
def mayF (l : List Nat) : Nat → Nat → Nat → Bool
  | 0 => fun _ _ => false
  | k + 1 => fun x v => mayF l k x v || (x == l.getD k 0 % 16 && v == k + 100)
/-- Twice the same, of one byte. -/
def twL (v : Nat) : List Nat := v :: List.replicate 511 v
theorem twL_len (v : Nat) : (twL v).length = 512 := by unfold twL; rw [List.length_cons, List.length_replicate]
theorem twL_0 (v : Nat) : (twL v)[0]? = some v := rfl
theorem twL_511 (v : Nat) : (twL v)[511]? = some v := by
  unfold twL
  rw [show (511 : Nat) = 510 + 1 from rfl, List.getElem?_cons_succ, List.getElem?_replicate, if_pos (by decide)]
theorem flush_was (l : List Nat) : ∀ k, flushL (fun _ => none) (wsK (fun i => twL (i + 1)) l k) = fun x => (wasF l k x).map twL
  | 0 => rfl
  | k + 1 => by
    rw [wsK_succ, flushL_app, flush_was l k]
    funext x
    unfold lset
    show _ = (if x = l.getD k 0 % 16 then some (k + 1) else wasF l k x).map twL
    by_cases e : x = l.getD k 0 % 16
    · rw [if_pos e, if_pos e]; rfl
    · rw [if_neg e, if_neg e]
theorem wasF_le (l : List Nat) : ∀ k x v, wasF l k x = some v → v ≤ k
  | 0, x, v, h => by cases h
  | k + 1, x, v, h => by
    change (if x = l.getD k 0 % 16 then some (k + 1) else wasF l k x) = some v at h
    by_cases e : x = l.getD k 0 % 16
    · rw [if_pos e] at h; injection h with h; omega
    · rw [if_neg e] at h; have := wasF_le l k x v h; omega
/-- First and last byte may be. -/
def Gd (P : Nat → Prop) (y : List Nat) : Prop := y.length = 512 ∧ (∃ v, y[0]? = some v ∧ P v) ∧ ∃ v, y[511]? = some v ∧ P v
theorem Gd.mono {P Q : Nat → Prop} {y : List Nat} (h : Gd P y) (hPQ : ∀ v, P v → Q v) : Gd Q y := by
  obtain ⟨h1, ⟨v, h2, h3⟩, ⟨u, h4, h5⟩⟩ := h
  exact ⟨h1, ⟨v, h2, hPQ v h3⟩, ⟨u, h4, hPQ u h5⟩⟩
theorem Gd.tw {P : Nat → Prop} {v : Nat} (h : P v) : Gd P (twL v) := ⟨twL_len v, ⟨v, twL_0 v, h⟩, ⟨v, twL_511 v, h⟩⟩
theorem crash_gd (f : Nat → Option (List Nat)) (l : List Nat) (keep : Nat) (torn : Int) (n : Nat) (w0 : Nat → Nat) (h0 : ∀ x, (f x).getD (List.replicate 512 0) = List.replicate 512 (w0 x)) :
    ∀ k, k ≤ n → ∀ x, Gd (fun v => v = w0 x ∨ mayF l k x v = true) ((crashN f (wsK (fun i => twL (i + 100)) l n) keep torn k x).getD (List.replicate 512 0))
  | 0, _, x => by
    show Gd _ ((f x).getD _)
    rw [h0]
    refine ⟨List.length_replicate, ⟨w0 x, ?_, .inl rfl⟩, ⟨w0 x, ?_, .inl rfl⟩⟩
    · rw [List.getElem?_replicate, if_pos (by decide)]
    · rw [List.getElem?_replicate, if_pos (by decide)]
  | k + 1, hk, x => by
    have ih := crash_gd f l keep torn n w0 h0 k (by omega)
    show Gd _ ((match (wsK (fun i => twL (i + 100)) l n)[k]? with | none => _ | some p => _ : Nat → Option (List Nat)) x |>.getD _)
    rw [wsK_get (by omega)]
    have old : ∀ y, Gd (fun v => v = w0 y ∨ mayF l (k + 1) y v = true) ((crashN f (wsK (fun i => twL (i + 100)) l n) keep torn k y).getD (List.replicate 512 0)) := fun y => (ih y).mono fun v hv => by
      rcases hv with h | h
      · exact .inl h
      · right
        show (mayF l k y v || _) = true
        rw [h]; rfl
    have new : mayF l (k + 1) (l.getD k 0 % 16) (k + 100) = true := by
      show (_ || (_ == _ && _ == _)) = true
      simp
    generalize crashN f (wsK (fun i => twL (i + 100)) l n) keep torn k = c at *
    show Gd _ ((if (k : Int) = torn then lset c (l.getD k 0 % 16) ((twL (k + 100)).take 256 ++ ((c (l.getD k 0 % 16)).getD (List.replicate 512 0)).drop 256) else if keep / 2 ^ (k % 64) % 2 = 1 then lset c (l.getD k 0 % 16) (twL (k + 100)) else c) x |>.getD (List.replicate 512 0))
    split
    · unfold lset
      by_cases e : x = l.getD k 0 % 16
      · rw [if_pos e, Option.getD_some]
        subst e
        obtain ⟨g1, -, ⟨u, g2, g3⟩⟩ := old (l.getD k 0 % 16)
        generalize (c (l.getD k 0 % 16)).getD (List.replicate 512 0) = y at *
        have ht : ((twL (k + 100)).take 256).length = 256 := by rw [List.length_take, twL_len]; rfl
        refine ⟨?_, ⟨k + 100, ?_, .inr new⟩, ⟨u, ?_, g3⟩⟩
        · rw [List.length_append, ht, List.length_drop, g1]
        · rw [List.getElem?_append_left (by omega), List.getElem?_take, if_pos (by decide)]
          exact twL_0 _
        · rw [List.getElem?_append_right (by omega), ht, List.getElem?_drop]
          exact g2
      · rw [if_neg e]; exact old x
    · split
      · unfold lset
        by_cases e : x = l.getD k 0 % 16
        · rw [if_pos e, Option.getD_some]
          subst e
          exact Gd.tw (.inr new)
        · rw [if_neg e]; exact old x
      · exact old x
end Go.Proofs.PlainDev
