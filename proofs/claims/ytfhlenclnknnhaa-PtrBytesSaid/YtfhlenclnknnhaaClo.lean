/- Contracts of slices.Clone, banyanref01.Same. -/
import Derived.Test.YtfhlenclnknnhaaOwn2
set_option linter.unusedVariables false
set_option linter.unusedSimpArgs false
namespace Go.Proofs.Ytfhlenclnknnhaa
open Go.RowKit

/-! ### Same, Clone -/
theorem bstr_beq {l k : List Nat} (hl : ∀ b ∈ l, b < 256) (hk : ∀ b ∈ k, b < 256) : ((bstr l).toList == (bstr k).toList) = decide (l = k) := by
  rw [ByteArray.toList_eq, ByteArray.toList_eq, Bool.eq_iff_iff]
  simp only [beq_iff_eq, decide_eq_true_eq]
  constructor
  · intro h
    exact bstr_inj hl hk (by cases h1 : bstr l; cases h2 : bstr k; simp_all)
  · rintro rfl; rfl
theorem same_core (A B : Option Addr) (n m c d : Nat) (l k : List Nat) (w : World) (ha : Sl w (.slice A n c) (bv l)) (hb : Sl w (.slice B m d) (bv k)) (hl : ∀ b ∈ l, b < 256) (hk : ∀ b ∈ k, b < 256) :
    Calls Try.prog 19 #[.slice A n c, .slice B m d] w fun e w' => e = .returned (.bool (decide (l = k))) ∧ w = w' := by
  have k1 := run_conv w _ l ha
  have k2 := run_conv w _ k hb
  have e := bstr_beq hl hk
  go_enter Try.func19, Try.ntmps19
  go_wp2
  go_ret
  exact ⟨rfl, rfl⟩
theorem same_any (va vb : Value) (l k : List Nat) (w : World) (ha : Sl w va (bv l)) (hb : Sl w vb (bv k)) (hl : ∀ b ∈ l, b < 256) (hk : ∀ b ∈ k, b < 256) :
    Calls Try.prog 19 #[va, vb] w fun e w' => e = .returned (.bool (decide (l = k))) ∧ w = w' := by
  obtain ⟨A, c, rfl, _⟩ := id ha
  obtain ⟨B, d, rfl, _⟩ := id hb
  exact same_core A B _ _ c d l k w ha hb hl hk
set_option maxRecDepth 100000 in
theorem run_eql_nil (A : Addr) (n c : Nat) (w : World) : (binOp .eql 35 (.slice (some A) n c) (.slice none 0 0)).run Try.prog w = .ok (.bool false) w := by
  kernel_rfl
/-- A new row of the call's own. -/
def RetO (l : List Nat) (w : World) (e : Ending) (w' : World) : Prop := ∃ v, e = .returned v ∧ w'.ownsRow w.heap.size 5 1 v l.length (bv l) ∧ Below w.heap.size w w'
theorem clone_any (A : Addr) (n c : Nat) (l : List Nat) (w : World) (hs : Sl w (.slice (some A) n c) (bv l)) (hl : (l.length : Int) ≤ 140737488355328) :
    Calls Try.prog 36 #[.slice (some A) n c] w (RetO l w) := by
  obtain ⟨i0, hi, hz0, hz1, hz2⟩ := info_parts (P := Try.prog) (e := 5) (z := .int .u8 0) (size := 1) (bytes := 1) (by kernel_rfl)
  have own0 : (w.alloc (.cells #[] 5)).ownsRow w.heap.size 5 1 (.slice (some ⟨w.heap.size, 0, none⟩) 0 0) 0 [] := World.ownsRow_made w #[] 0 (Nat.le_refl _) (Nat.zero_le _) rfl
  have bel0 : Below w.heap.size w (w.alloc (.cells #[] 5)) := (Below.refl _ _).alloc (Nat.le_refl _) _
  have sl0 := hs.keep bel0
  have k3 := run_eql_nil A n c w
  go_enter Try.func36, Try.ntmps36
  go_wp2_with (at_builtin; refine wpList_append_sl rfl (.tmp 5) (.tmp 6) 35 rfl w.heap.size 5 i0 (.int .u8 0) 1 Try.underlying35 hi hz0 hz1 hz2 rfl _ 0 [] rfl own0 _ (bv l) rfl sl0 (bv_oneCell l) ?_ ?_ ?_ ?_)
  all_goals (try (first | (simp [maxLen]; omega) | (simp; omega) | (simp; done) | omega))
  intro v' w2 own1 gr1
  have bel1 := own_below bel0 gr1 own0 (by simp)
  clear gr1 own0 sl0 bel0 hs
  have own1 : w2.ownsRow w.heap.size 5 1 v' l.length (bv l) := by simpa using own1
  go_wp2
  go_ret
  exact ⟨_, rfl, own1, bel1⟩
set_option maxRecDepth 100000 in
theorem run_eql_nil' (w : World) : (binOp .eql 35 (.slice none 0 0) (.slice none 0 0)).run Try.prog w = .ok (.bool true) w := by
  kernel_rfl
theorem clone_nil (w : World) : Calls Try.prog 36 #[.slice none 0 0] w fun e w' => e = .returned (.slice none 0 0) ∧ w = w' := by
  have k3 := run_eql_nil' w
  go_enter Try.func36, Try.ntmps36
  go_wp2
  go_ret
  exact ⟨rfl, rfl⟩
/-- Of a row of one's own, nil or not. -/
theorem clone_own {B : Nat} (v : Value) (l : List Nat) (w : World) (h : w.ownsRow B 5 1 v l.length (bv l)) (hl : (l.length : Int) ≤ 140737488355328) :
    Calls Try.prog 36 #[v] w (RetO l w) := by
  have hs := Sl.of_own h
  rcases h.2 with ⟨rfl, h0⟩ | ⟨g, cap, cur, rfl, _⟩
  · have e : l = [] := List.eq_nil_of_length_eq_zero h0
    subst e
    refine (clone_nil w).mono ?_
    rintro e w' ⟨rfl, rfl⟩
    exact ⟨_, rfl, World.ownsRow_nil _ _ _ _, Below.refl _ _⟩
  · exact clone_any _ _ _ l w hs hl
end Go.Proofs.Ytfhlenclnknnhaa
