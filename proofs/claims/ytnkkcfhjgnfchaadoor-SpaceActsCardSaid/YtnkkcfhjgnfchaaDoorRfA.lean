/- Contracts of banyanref11: New, is, Mark, Free, Take, Taken, Set. -/
import Derived.Test.YtnkkcfhjgnfchaaDoorSpE
import Derived.Deep.OwnRows
set_option linter.unusedVariables false
set_option linter.unusedSimpArgs false
namespace Go.Proofs.YtnkkcfhjgnfchaaDoor
open Go.RowKit
open Go.Proofs.PlainSpace

/-- Bools as values. -/
def lv (l : List Bool) : List Value := l.map Value.bool
@[simp] theorem lv_length (l : List Bool) : (lv l).length = l.length := by simp [lv]
theorem lv_get (l : List Bool) (i : Nat) : (lv l)[i]? = (l[i]?).map Value.bool := by simp [lv]
theorem lv_set (l : List Bool) (i : Nat) (x : Bool) : (lv l).set i (.bool x) = lv (l.set i x) := by simp [lv, List.map_set]
theorem lv_has {l : List Bool} {i : Nat} (h : i < l.length) : (lv l)[i]? = some (.bool (has l i)) := by
  rw [lv_get, List.getElem?_eq_getElem h]
  simp [has, List.getD_eq_getElem?_getD, List.getElem?_eq_getElem h]

/-- Block g is the reference's struct, h its row of bools: the space S. -/
def Rfs (w : World) (g h : Nat) (S : List Bool) : Prop :=
  Blk w g 54 [.slice (some ⟨h, 0, none⟩) S.length S.length] ∧ Blk w h 4 (lv S) ∧ g ≠ h ∧ Ok S
theorem Rfs.keeps {G : List Nat} {w w' : World} {g h : Nat} {S : List Bool} (s : Rfs w g h S) (hk : Keeps G w w') (hg : g ∉ G) (hh : h ∉ G) : Rfs w' g h S := by
  obtain ⟨b1, b2, b3, b4⟩ := s
  exact ⟨b1.keeps hk hg, b2.keeps hk hh, b3, b4⟩
theorem Rfs.keep {w w' : World} {g h : Nat} {S : List Bool} (s : Rfs w g h S) (hk : Below w.heap.size w w') : Rfs w' g h S := s.keeps (Keeps.of_below (G := []) hk) (by simp) (by simp)
theorem Rfs.ok {w : World} {g h : Nat} {S : List Bool} (s : Rfs w g h S) : Ok S := s.2.2.2
theorem Rfs.bound {w : World} {g h : Nat} {S : List Bool} (s : Rfs w g h S) : g < w.heap.size ∧ h < w.heap.size := ⟨s.1.lt, s.2.1.lt⟩

theorem Tryd.info4e : (Tryd.prog.info? 4).map (fun i => (i.zero, i.size, i.bytes)) = some (some (.bool false), 1, 1) := by kernel_rfl

theorem rnew_bad (n : Int) (w : World) (h0 : -9223372036854775808 ≤ n) (h1 : n ≤ 9223372036854775807) (hb : n < 16 ∨ 4096 < n) :
    Calls Tryd.prog 20 #[.int .i64 n] w fun e w' => e = .returned (.tuple #[.pointer none, .bool false]) ∧ w = w' := by
  by_cases hl : n < 16
  · go_enter Tryd.func20, Tryd.ntmps20
    go_wp2
    go_ret2
    exact ⟨rfl, rfl⟩
  · have hg : 4096 < n := by omega
    go_enter Tryd.func20, Tryd.ntmps20
    go_wp2
    go_ret2
    exact ⟨rfl, rfl⟩
/-- What the reference's New answers. -/
def RNewP (n : Nat) (w : World) (e : Ending) (w' : World) : Prop := ∃ g h, e = .returned (.tuple #[pt g, .bool true]) ∧ w.heap.size ≤ g ∧ w.heap.size ≤ h ∧ Rfs w' g h (List.replicate n false) ∧ Below w.heap.size w w'
set_option maxHeartbeats 1000000 in
theorem rnew_ok (n : Nat) (w : World) (h0 : 16 ≤ n) (h1 : n ≤ 4096) : Calls Tryd.prog 20 #[.int .i64 (n : Int)] w (RNewP n w) := by
  have hmk : ∀ w, (Instr.makeSlice 52 (.int .i64 (n : Int)) (.int .i64 (n : Int))).run Tryd.prog w = .ok (.slice (some ⟨w.heap.size, 0, none⟩) n n) (w.alloc (.cells (madeCells #[.bool false] n) 4)) :=
    run_make_row' (P := Tryd.prog) 52 4 (.bool false) 1 Tryd.underlying52 Tryd.info4e rfl .i64 .i64 n (by omega) (by omega)
  have h0I : (16 : Int) ≤ n := by omega
  have h1I : (n : Int) ≤ 4096 := by omega
  have hOk := Lib.hid (Ok.new h0 h1)
  clear h0 h1
  go_enter Tryd.func20, Tryd.ntmps20
  go_wp2
  have k1 : Below w.heap.size w (w.alloc (.cells (madeCells #[.bool false] n) 4)) := (Below.refl _ _).alloc (Nat.le_refl _) _
  have k2 := k1.alloc k1.size (.cells #[.slice (some ⟨w.heap.size, 0, none⟩) n n] 54)
  have b1 := Blk.new (w.alloc (.cells (madeCells #[.bool false] n) 4)) 54 #[.slice (some ⟨w.heap.size, 0, none⟩) n n]
  have b2 := (Blk.new w 4 (madeCells #[.bool false] n)).alloc (.cells #[.slice (some ⟨w.heap.size, 0, none⟩) n n] 54)
  rw [toList_madeCells_one] at b2
  go_ret2
  refine ⟨w.heap.size + 1, w.heap.size, rfl, by omega, by omega, ⟨?_, ?_, by omega, hOk.out⟩, k2⟩
  · simpa using b1
  · simpa [lv] using b2

set_option maxHeartbeats 1000000 in
theorem ris_any (g h : Nat) (S : List Bool) (a : Nat) (w : World) (hs : Rfs w g h S) (ha : a < 4294967296) :
    Calls Tryd.prog 29 #[pt g, .int .u32 (a : Int)] w fun e w' => e = .returned (.bool (decide (isA S a))) ∧ w = w' := by
  obtain ⟨b1, b2, hgh, ho1, ho2, _, _⟩ := hs
  have c0 := b1.cell 0
  simp only [List.getElem?_cons_zero] at c0
  have haI : (a : Int) ≤ 4294967295 := by omega
  have hlI : (S.length : Int) ≤ 4096 := by omega
  clear b1 b2
  by_cases h2 : 2 ≤ (a : Int)
  · by_cases h3 : (a : Int) < S.length
    · have : isA S a := ⟨by omega, by omega⟩
      rw [decide_eq_true this]
      clear this
      generalize S.length = n at *
      go_enter Tryd.func29, Tryd.ntmps29
      go_wp2
      go_ret
      exact ⟨by simp, rfl⟩
    · have : ¬ isA S a := fun hh => by have := hh.2; omega
      rw [decide_eq_false this]
      clear this
      generalize S.length = n at *
      go_enter Tryd.func29, Tryd.ntmps29
      go_wp2
      go_ret
      exact ⟨by simp, rfl⟩
  · have : ¬ isA S a := fun hh => by have := hh.1; omega
    rw [decide_eq_false this]
    clear this
    generalize S.length = n at *
    go_enter Tryd.func29, Tryd.ntmps29
    go_wp2
    go_ret
    exact ⟨by simp, rfl⟩

/-! ### Mark, Free, Take -/
/-- What Mark and Free answer, and what is left: as package space's (markE, markS, freeE, freeS are defined there). -/
theorem rfs_stored {w : World} {g h : Nat} {S : List Bool} (hs : Rfs w g h S) {a : Nat} (hA : isA S a) (v : Bool) :
    Rfs (w.setCell ⟨h, a, none⟩ (.bool v)) g h (S.set a v) ∧ Keeps [g, h] w (w.setCell ⟨h, a, none⟩ (.bool v)) := by
  obtain ⟨b1, b2, hgh, ho⟩ := hs
  refine ⟨⟨?_, ?_, hgh, ho.set hA v⟩, (Keeps.refl _ _).setCell (by simp) _⟩
  · have := b1.far (p := ⟨h, a, none⟩) hgh (.bool v)
    rw [List.length_set]; exact this
  · have := b2.set_ a (.bool v)
    rw [lv_set] at this; exact this
set_option maxHeartbeats 1000000 in
theorem rmark_any (g h : Nat) (S : List Bool) (a : Nat) (w : World) (hs : Rfs w g h S) (ha : a < 4294967296) :
    Calls Tryd.prog 21 #[pt g, .int .u32 (a : Int)] w fun e w' => e = .returned (.int .i64 (markE S a)) ∧ Rfs w' g h (markS S a) ∧ Keeps [g, h] w w' := by
  have Hi := Lib.hid (ris_any g h S a w hs ha)
  have haI : (a : Int) ≤ 4294967295 := by omega
  by_cases hA : isA S a
  · rw [decide_eq_true hA] at Hi
    obtain ⟨b1, b2, hgh, ho⟩ := id hs
    have c0 := b1.cell 0
    simp only [List.getElem?_cons_zero] at c0
    have c1 := b2.cell a
    have f1 := b2.frozen a
    rw [lv_has hA.2] at c1
    have haS : (a : Int) < S.length := by have := hA.2; omega
    have hst := Lib.hid (rfs_stored hs hA true)
    have HS := Lib.hid hs
    cases hb : has S a with
    | true =>
      rw [hb] at c1
      rw [markE, if_pos hA, if_pos hb, markS, if_neg (by simp [hb])]
      clear b1 b2 ho hs hA hb
      go_enter Tryd.func21, Tryd.ntmps21
      go_wp2_with fail
      refine Hi.out.mono ?_
      rintro e w1 ⟨rfl, rfl⟩
      go_wp2
      go_ret
      exact ⟨rfl, HS.out, Keeps.refl _ _⟩
    | false =>
      rw [hb] at c1
      rw [markE, if_pos hA, if_neg (by simp [hb]), markS, if_pos ⟨hA, hb⟩]
      clear b1 b2 ho hs hA hb
      go_enter Tryd.func21, Tryd.ntmps21
      go_wp2_with fail
      refine Hi.out.mono ?_
      rintro e w1 ⟨rfl, rfl⟩
      go_wp2
      go_ret
      exact ⟨rfl, hst.out⟩
  · rw [decide_eq_false hA] at Hi
    rw [markE, if_neg hA, markS, if_neg (fun hh => hA hh.1)]
    have HS := Lib.hid hs
    clear hs hA
    go_enter Tryd.func21, Tryd.ntmps21
    go_wp2_with fail
    refine Hi.out.mono ?_
    rintro e w1 ⟨rfl, rfl⟩
    go_wp2
    go_ret
    exact ⟨rfl, HS.out, Keeps.refl _ _⟩
set_option maxHeartbeats 1000000 in
theorem rfree_any (g h : Nat) (S : List Bool) (a : Nat) (w : World) (hs : Rfs w g h S) (ha : a < 4294967296) :
    Calls Tryd.prog 22 #[pt g, .int .u32 (a : Int)] w fun e w' => e = .returned (.int .i64 (freeE S a)) ∧ Rfs w' g h (freeS S a) ∧ Keeps [g, h] w w' := by
  have Hi := Lib.hid (ris_any g h S a w hs ha)
  have haI : (a : Int) ≤ 4294967295 := by omega
  by_cases hA : isA S a
  · rw [decide_eq_true hA] at Hi
    obtain ⟨b1, b2, hgh, ho⟩ := id hs
    have c0 := b1.cell 0
    simp only [List.getElem?_cons_zero] at c0
    have c1 := b2.cell a
    have f1 := b2.frozen a
    rw [lv_has hA.2] at c1
    have haS : (a : Int) < S.length := by have := hA.2; omega
    have hst := Lib.hid (rfs_stored hs hA false)
    have HS := Lib.hid hs
    cases hb : has S a with
    | false =>
      rw [hb] at c1
      rw [freeE, if_pos hA, if_neg (by simp [hb]), freeS, if_neg (by simp [hb])]
      clear b1 b2 ho hs hA hb
      go_enter Tryd.func22, Tryd.ntmps22
      go_wp2_with fail
      refine Hi.out.mono ?_
      rintro e w1 ⟨rfl, rfl⟩
      go_wp2
      go_ret
      exact ⟨rfl, HS.out, Keeps.refl _ _⟩
    | true =>
      rw [hb] at c1
      rw [freeE, if_pos hA, if_pos hb, freeS, if_pos ⟨hA, hb⟩]
      clear b1 b2 ho hs hA hb
      go_enter Tryd.func22, Tryd.ntmps22
      go_wp2_with fail
      refine Hi.out.mono ?_
      rintro e w1 ⟨rfl, rfl⟩
      go_wp2
      go_ret
      exact ⟨rfl, hst.out⟩
  · rw [decide_eq_false hA] at Hi
    rw [freeE, if_neg hA, freeS, if_neg (fun hh => hA hh.1)]
    have HS := Lib.hid hs
    clear hs hA
    go_enter Tryd.func22, Tryd.ntmps22
    go_wp2_with fail
    refine Hi.out.mono ?_
    rintro e w1 ⟨rfl, rfl⟩
    go_wp2
    go_ret
    exact ⟨rfl, HS.out, Keeps.refl _ _⟩

/-- What the reference's Take answers. -/
def RTakeA (g h : Nat) (S : List Bool) (w : World) (e : Ending) (w' : World) : Prop :=
  ∃ (a : Nat) (f : Int) (S' : List Bool), e = .returned (.tuple #[.int .u32 (a : Int), .int .i64 f]) ∧ TakeP S a f S' ∧ Rfs w' g h S' ∧ Keeps [g, h] w w'
set_option maxHeartbeats 1000000 in
theorem rtake_any (g h : Nat) (S : List Bool) (w : World) (hs : Rfs w g h S) : Calls Tryd.prog 24 #[pt g] w (RTakeA g h S w) := by
  obtain ⟨b1, b2, hgh, ho⟩ := id hs
  have c0 := b1.cell 0
  simp only [List.getElem?_cons_zero] at c0
  have hlI : (S.length : Int) ≤ 4096 := by have := ho.2.1; omega
  have hl0 : (16 : Int) ≤ S.length := by have := ho.1; omega
  have B2 := Lib.hid b2
  have HS := Lib.hid hs
  clear b1 b2 ho hs
  go_enter Tryd.func24, Tryd.ntmps24
  go_wp2
  go_loop [4] (fun i => ∃ (k : Nat), 2 ≤ k ∧ k ≤ S.length ∧ i = .int .i64 (k : Int) ∧ Hid (∀ b, 2 ≤ b → b < k → has S b = true)) (fun i => S.length - (intOf i).toNat)
  case atStart => exact ⟨2, Nat.le_refl _, by omega, rfl, fun b h1 h2 => by omega⟩
  case round =>
    obtain ⟨k, hk2, hkl, rfl, hF⟩ := hrel
    by_cases hlt : (k : Int) < S.length
    · have c1 := B2.out.cell k
      have f1 := B2.out.frozen k
      rw [lv_has (by omega)] at c1
      have hkI : (k : Int) ≤ 4096 := by omega
      have hA : isA S k := ⟨hk2, by omega⟩
      have hst := Lib.hid (rfs_stored HS.out hA true)
      cases hb : has S k
      · have hP : Hid (TakeP S k 0 (S.set k true)) := TakeP.some k hA hb hF.out
        rw [hb] at c1
        clear hb hA
        go_wp2
        go_ret2
        exact ⟨k, 0, _, rfl, hP.out, hst.out⟩
      · have hF' : Hid (∀ b, 2 ≤ b → b < k + 1 → has S b = true) := fun b h1 h2 => by
          by_cases e : b = k
          · subst e; exact hb
          · exact hF.out b h1 (by omega)
        rw [hb] at c1
        clear hb hA
        go_wp2
        go_round
        case rel => exact ⟨k + 1, by omega, by omega, by simp, hF'⟩
        case measure => simp [intOf]; omega
    · have hP : Hid (TakeP S 0 6 S) := TakeP.none (fun b h1 h2 => hF.out b h1 (by omega))
      go_wp2
      go_ret2
      exact ⟨0, 6, S, rfl, hP.out, HS.out, Keeps.refl _ _⟩
end Go.Proofs.YtnkkcfhjgnfchaaDoor
