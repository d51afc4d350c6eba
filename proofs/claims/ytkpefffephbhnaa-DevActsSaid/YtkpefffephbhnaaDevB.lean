/- The device: there, may, step, quiet, Limit, Waits, Down, Size. -/
import Derived.Test.YtkpefffephbhnaaDevA
set_option linter.unusedVariables false
set_option linter.unusedSimpArgs false
namespace Go.Proofs.PlainDev
/-- One more that goes, or doesn't. -/
def stepS (s : Dst) : Dst := { s with down := s.down || decide (s.left = 0), left := if 0 < s.left then s.left - 1 else s.left }
/-- Nothing waits. -/
def quietS (s : Dst) : Dst := { s with waits := [] }
def thereE (s : Dst) (a : Nat) : Int := if a < s.size then 0 else 2
def mayE (s : Dst) (a n : Nat) : Int := if a < s.size then (if n = 512 then 0 else 2) else 2
end Go.Proofs.PlainDev
namespace Go.Proofs.Ytkpefffephbhnaa
open Go.RowKit Go.Maps
open Go.Proofs.PlainDev

section
variable {B : Nat} {w w' : World} {g bl ba : Nat} {vw : Value} {nl : Nat} {s s' : Dst} {G : List Nat}
/-- Its own cells are written. -/
theorem Dv.set (h : Dv B w g bl ba vw nl s) (hK : Keeps [g] w w') (hb : Blk w' g 71 (devC s'.size bl vw ba s'.left s'.down)) (hs : s'.size = s.size) (hl : s'.lies = s.lies) (hw : s'.waits = s.waits) (h1 : -1 ≤ s'.left ∧ s'.left ≤ 9223372036854775807) : Dv B w' g bl ba vw nl s' := by
  obtain ⟨z, l, ws, lf, dn⟩ := s'
  simp only at hs hl hw h1
  subst hs hl hw
  exact ⟨⟨h.ok.size, h.ok.lies, h.ok.waits, h1⟩, hb, h.lies.keeps hK (by simp; exact fun e => h.ne1 e.symm), h.last.keeps hK (by simp; exact fun e => h.ne2 e.symm),
    ownsRow_keeps h.row hK (fun k hk => by simp; exact (h.ne4 k hk).1), h.gB, h.blB, h.baB, h.ne1, h.ne2, h.ne3, h.ne4⟩
end
set_option maxRecDepth 100000 in
theorem there_any {B : Nat} {w : World} {g bl ba : Nat} {vw : Value} {nl : Nat} {s : Dst} (h : Dv B w g bl ba vw nl s) (a : Nat) (ha : (a : Int) ≤ 4294967295) :
    Calls Try.prog 36 #[.pointer (some ⟨g, 0, none⟩), .int .u32 (a : Int)] w fun e w' => e = .returned (.int .i64 (thereE s a)) ∧ w = w' := by
  have c0 := h.c0
  have hsz := h.ok.size
  unfold thereE
  have hz : (s.size : Int) ≤ 4096 := by omega
  generalize s.size = z at *
  clear h
  by_cases hlt : (a : Int) < z
  · rw [if_pos (by omega)]
    go_enter Try.func36, Try.ntmps36
    go_wp2
    go_ret
    exact ⟨rfl, rfl⟩
  · rw [if_neg (by omega)]
    go_enter Try.func36, Try.ntmps36
    go_wp2
    go_ret
    exact ⟨rfl, rfl⟩
set_option maxRecDepth 100000 in
theorem there_nil (w : World) (a : Nat) : Calls Try.prog 36 #[.pointer none, .int .u32 (a : Int)] w fun e w' => e = .returned (.int .i64 1) ∧ w = w' := by
  go_enter Try.func36, Try.ntmps36
  go_wp2
  go_ret
  exact ⟨rfl, rfl⟩
set_option maxRecDepth 100000 in
theorem may_any {B : Nat} {w : World} {g bl ba : Nat} {vw : Value} {nl : Nat} {s : Dst} (h : Dv B w g bl ba vw nl s) (a : Nat) (ha : (a : Int) ≤ 4294967295) (A : Option Addr) (n c : Nat) :
    Calls Try.prog 33 #[.pointer (some ⟨g, 0, none⟩), .int .u32 (a : Int), .slice A n c] w fun e w' => e = .returned (.int .i64 (mayE s a n)) ∧ w = w' := by
  have ht := Lib.hid (there_any h a ha)
  unfold thereE at ht
  unfold mayE
  clear h
  by_cases h1 : a < s.size
  · rw [if_pos h1] at ht
    rw [if_pos h1]
    clear h1
    by_cases h2 : (n : Int) = 512
    · rw [if_pos (by omega)]
      go_enter Try.func33, Try.ntmps33
      go_wp2_with fail
      refine ht.out.mono ?_
      rintro e w1 ⟨rfl, rfl⟩
      go_wp2
      go_ret
      exact ⟨rfl, rfl⟩
    · rw [if_neg (by omega)]
      go_enter Try.func33, Try.ntmps33
      go_wp2_with fail
      refine ht.out.mono ?_
      rintro e w1 ⟨rfl, rfl⟩
      go_wp2
      go_ret
      exact ⟨rfl, rfl⟩
  · rw [if_neg h1] at ht
    rw [if_neg h1]
    clear h1
    go_enter Try.func33, Try.ntmps33
    go_wp2_with fail
    refine ht.out.mono ?_
    rintro e w1 ⟨rfl, rfl⟩
    go_wp2
    go_ret
    exact ⟨rfl, rfl⟩
set_option maxRecDepth 100000 in
set_option maxHeartbeats 1000000 in
theorem step_any {B : Nat} {w : World} {g bl ba : Nat} {vw : Value} {nl : Nat} {s : Dst} (h : Dv B w g bl ba vw nl s) (hd : s.down = false) :
    Calls Try.prog 34 #[.pointer (some ⟨g, 0, none⟩)] w fun e w' => e = .returned (.bool (!(stepS s).down)) ∧ Dv B w' g bl ba vw nl (stepS s) ∧ Keeps [g] w w' := by
  have c4 := h.c4
  have c5 := h.c5
  have f4 := h.blk.frozen 4
  have f5 := h.blk.frozen 5
  have hl := h.ok.left
  rw [hd] at c5
  have H := Lib.hid h
  obtain ⟨z, lies, ws, left, dn⟩ := s
  simp only at hd hl c4
  subst hd
  by_cases h0 : left = 0
  · have e : stepS ⟨z, lies, ws, left, false⟩ = ⟨z, lies, ws, 0, true⟩ := by subst h0; rfl
    rw [e]
    subst h0
    have hb := h.blk
    have b5 := Lib.hid (hb.set_ 5 (.bool true))
    have k5 := Lib.hid ((Keeps.refl [g] w).setCell (p := ⟨g, 5, none⟩) (by simp) (.bool true))
    clear h hb hl e
    go_enter Try.func34, Try.ntmps34
    go_wp2
    go_ret
    exact ⟨rfl, H.out.set k5.out b5.out rfl rfl rfl ⟨by show (-1 : Int) ≤ 0; decide, by show (0 : Int) ≤ _; decide⟩, k5.out⟩
  · by_cases h1 : 0 < left
    · have e : stepS ⟨z, lies, ws, left, false⟩ = ⟨z, lies, ws, left - 1, false⟩ := by unfold stepS; simp [h0, h1]
      rw [e]
      have e0 : ((left : Int) == 0) = false := by simpa using h0
      have hb := h.blk
      have b5 := (hb.set_ 5 (.bool false))
      have b4 := Lib.hid (b5.set_ 4 (.int .i64 (left - 1)))
      have k5 := Lib.hid (((Keeps.refl [g] w).setCell (p := ⟨g, 5, none⟩) (by simp) (.bool false)).setCell (p := ⟨g, 4, none⟩) (by simp) (.int .i64 (left - 1)))
      clear h hb b5 e
      go_enter Try.func34, Try.ntmps34
      go_wp2
      go_ret
      exact ⟨rfl, H.out.set k5.out b4.out rfl rfl rfl ⟨by show (-1 : Int) ≤ left - 1; omega, by show left - 1 ≤ _; omega⟩, k5.out⟩
    · have e : stepS ⟨z, lies, ws, left, false⟩ = ⟨z, lies, ws, left, false⟩ := by unfold stepS; simp [h0, h1]
      rw [e]
      have e0 : ((left : Int) == 0) = false := by simpa using h0
      have hb := h.blk
      have b5 := Lib.hid (hb.set_ 5 (.bool false))
      have k5 := Lib.hid ((Keeps.refl [g] w).setCell (p := ⟨g, 5, none⟩) (by simp) (.bool false))
      clear h hb e
      go_enter Try.func34, Try.ntmps34
      go_wp2
      go_ret
      exact ⟨rfl, H.out.set k5.out b5.out rfl rfl rfl hl, k5.out⟩
/-- Its row and its map are new. -/
theorem Dv.fresh {B : Nat} {w w' : World} {g bl ba ba' : Nat} {vw : Value} {nl : Nat} {s : Dst} (h : Dv B w g bl ba vw nl s) (hK : Keeps [g] w w') (hb : Blk w' g 71 (devC s.size bl (.slice none 0 0) ba' s.left s.down)) (hm : Fm w' ba' (fun _ => none) 0) (hba : w.heap.size ≤ ba') (hB : B ≤ w.heap.size) :
    Dv B w' g bl ba' (.slice none 0 0) nl (quietS s) :=
  ⟨⟨h.ok.size, h.ok.lies, fun p hp => (by cases hp), h.ok.left⟩, hb, h.lies.keeps hK (by simp; exact fun e => h.ne1 e.symm), hm, World.ownsRow_nil _ _ _ _, h.gB, h.blB, Nat.le_trans hB hba, h.ne1, (by have := h.blk.lt; omega), (by have := h.lies.lt; omega), by intro k hk; simp [Value.ownBlock] at hk⟩
set_option maxRecDepth 100000 in
set_option maxHeartbeats 1000000 in
theorem quiet_any {B : Nat} {w : World} {g bl ba : Nat} {vw : Value} {nl : Nat} {s : Dst} (h : Dv B w g bl ba vw nl s) :
    Calls Try.prog 35 #[.pointer (some ⟨g, 0, none⟩)] w fun e w' => e = .returned (.tuple #[]) ∧ Dv B w' g bl w.heap.size (.slice none 0 0) nl (quietS s) ∧ Keeps [g] w w' := by
  have hmm := @run_makeMap Try.prog
  have H := Lib.hid h
  have hb := h.blk.alloc (.map #[] 0)
  have c2 := hb.cell 2
  have c3 := hb.cell 3
  simp only [devC, List.getElem?_cons_succ, List.getElem?_cons_zero] at c2 c3
  have f2 := hb.frozen 2
  have f3 := hb.frozen 3
  have b3 := Lib.hid ((hb.set_ 2 (.slice none 0 0)).set_ 3 (.map (some w.heap.size)))
  have k3 := Lib.hid ((((Keeps.refl [g] w).alloc (.map #[] 0)).setCell (p := ⟨g, 2, none⟩) (by simp) (.slice none 0 0)).setCell (p := ⟨g, 3, none⟩) (by simp) (.map (some w.heap.size)))
  have m3 : Hid (Fm (((w.alloc (.map #[] 0)).setCell ⟨g, 2, none⟩ (.slice none 0 0)).setCell ⟨g, 3, none⟩ (.map (some w.heap.size))) w.heap.size (fun _ => none) 0) :=
    (Fm.made w).keeps (G := [g]) (((Keeps.refl [g] _).setCell (p := ⟨g, 2, none⟩) (by simp) (.slice none 0 0)).setCell (p := ⟨g, 3, none⟩) (by simp) (.map (some w.heap.size))) (by simp; have := h.blk.lt; omega)
  have hlt := Lib.hid (Nat.le_of_lt (Nat.lt_of_le_of_lt h.gB h.blk.lt))
  clear h hb
  go_enter Try.func35, Try.ntmps35
  go_wp2
  go_returns
  exact ⟨rfl, H.out.fresh k3.out b3.out m3.out (Nat.le_refl _) hlt.out, k3.out⟩
end Go.Proofs.Ytkpefffephbhnaa
