/- Contracts of package space: New, is, at, Has, Mark, Free, Left; math/bits.TrailingZeros64. -/
import Derived.Test.YtnkkcfhjgnfchaaDoorBase
import Derived.Test.YtnkkcfhjgnfchaaDoorPure
import Derived.Shelf.Spec.TrailingZeros
import Derived.Deep.OwnRows
import Derived.Laws.BitsAllLaws
set_option linter.unusedVariables false
set_option linter.unusedSimpArgs false
namespace Go.Proofs.YtnkkcfhjgnfchaaDoor
open Go.RowKit
open Go.Proofs.PlainSpace

/-- Words as values. -/
def wv (l : List Nat) : List Value := l.map fun (b : Nat) => Value.int .u64 (b : Int)
@[simp] theorem wv_length (l : List Nat) : (wv l).length = l.length := by simp [wv]
theorem wv_get (l : List Nat) (i : Nat) : (wv l)[i]? = (l[i]?).map fun (b : Nat) => Value.int .u64 (b : Int) := by simp [wv]
theorem wv_set (l : List Nat) (i x : Nat) : (wv l).set i (.int .u64 (x : Int)) = wv (l.set i x) := by simp [wv, List.map_set]
/-- Addresses as values. -/
def uv (l : List Nat) : List Value := l.map fun (b : Nat) => Value.int .u32 (b : Int)
@[simp] theorem uv_length (l : List Nat) : (uv l).length = l.length := by simp [uv]
theorem uv_get (l : List Nat) (i : Nat) : (uv l)[i]? = (l[i]?).map fun (b : Nat) => Value.int .u32 (b : Int) := by simp [uv]
theorem uv_oneCell (l : List Nat) : ∀ y ∈ uv l, y.oneCell' = true := by
  intro y hy
  simp only [uv, List.mem_map] at hy
  obtain ⟨b, _, rfl⟩ := hy
  rfl

/-- The pointer to block g. -/
abbrev pt (g : Nat) : Value := .pointer (some ⟨g, 0, none⟩)

/-- Block g is a space's struct, h its words: the space S. -/
def Spc (w : World) (g h : Nat) (S : List Bool) : Prop :=
  ∃ ws : List Nat, Blk w g 59 [.int .i64 (S.length : Int), .slice (some ⟨h, 0, none⟩) ws.length ws.length, .int .i64 (cnt S : Int)] ∧ Blk w h 51 (wv ws) ∧ g ≠ h ∧ Rep S ws ∧ Ok S
theorem Spc.keeps {G : List Nat} {w w' : World} {g h : Nat} {S : List Bool} (s : Spc w g h S) (hk : Keeps G w w') (hg : g ∉ G) (hh : h ∉ G) : Spc w' g h S := by
  obtain ⟨ws, b1, b2, b3, b4, b5⟩ := s
  exact ⟨ws, b1.keeps hk hg, b2.keeps hk hh, b3, b4, b5⟩
theorem Spc.keep {w w' : World} {g h : Nat} {S : List Bool} (s : Spc w g h S) (hk : Below w.heap.size w w') : Spc w' g h S := s.keeps (Keeps.of_below (G := []) hk) (by simp) (by simp)
theorem Spc.ok {w : World} {g h : Nat} {S : List Bool} (s : Spc w g h S) : Ok S := by obtain ⟨ws, b1, b2, b3, b4, b5⟩ := s; exact b5

/-- The table of math/bits lies in its variable. -/
def Tab (w : World) : Prop := TabAt 0 Lib.deBruijn64tab w
theorem Tab.keeps {G : List Nat} {w w' : World} (t : Tab w) (hk : Keeps G w w') (hG : 0 ∉ G) : Tab w' := fun j hj => by
  have h := t j hj
  rw [← h]
  have := hk.block 0 (cell_lt h) hG
  simp [World.cell?, this]
theorem Tab.keep {w w' : World} (t : Tab w) (hk : Below w.heap.size w w') : Tab w' := t.keeps (Keeps.of_below (G := []) hk) (by simp)
theorem Tab.ne {w : World} (t : Tab w) {g h : Nat} {S : List Bool} (s : Spc w g h S) : 0 ∉ [g, h] := by
  obtain ⟨ws, b1, b2, b3, b4, b5⟩ := s
  have t0 := t 0 (by decide)
  intro hm
  have hl : 0 < ws.length := by have := b4.1; have := b5.1; omega
  rcases List.mem_cons.1 hm with e | hm
  · subst e; rw [b1.cell 0] at t0; simp at t0
  · have e : 0 = h := by simpa using hm
    subst e; rw [b2.cell 0, wv_get, List.getElem?_eq_getElem hl] at t0; simp at t0

/-! ### math/bits.TrailingZeros64 -/
set_option maxHeartbeats 1000000 in
theorem tz_core (x k idx : Nat) (w : World) (hx0 : ((x : Int) == 0) = false)
    (key : IntKind.u64.wrap (bits BinOp.and IntKind.u64 (x : Int) (IntKind.u64.wrap (-(x : Int))) * 285870213051353865) / 288230376151711744 = (idx : Int))
    (hi : idx < 64) (hk : k < 64) (hcell : w.cell? ⟨0, idx, none⟩ = some (.int .u8 k)) :
    Calls Tryd.prog 26 #[.int .u64 x] w fun e w' => e = .returned (.int .i64 k) ∧ w = w' := by
  go_enter Tryd.func26, Tryd.ntmps26
  go_wp2_with (simp only [key])
  go_ret
  exact ⟨rfl, rfl⟩
theorem tz_zero (w : World) : Calls Tryd.prog 26 #[.int .u64 0] w fun e w' => e = .returned (.int .i64 64) ∧ w = w' := by
  go_enter Tryd.func26, Tryd.ntmps26
  go_wp2
  go_ret
  exact ⟨rfl, rfl⟩
theorem tz_any (x : Nat) (hx : x < 18446744073709551616) (w : World) (hT : Tab w) :
    Calls Tryd.prog 26 #[.int .u64 x] w fun e w' => e = .returned (.int .i64 (Lib.ctz 64 x : Nat)) ∧ w = w' := by
  by_cases hx0 : x = 0
  · subst hx0
    exact tz_zero w
  · obtain ⟨hlow, hk⟩ := Lib.lowest_bit 64 x hx0 hx
    obtain ⟨hi, htab⟩ := Lib.deBruijn64_at _ hk
    have hcell := hT _ hi
    rw [htab] at hcell
    exact tz_core x _ _ w (by simp; omega) (tz64_key x _ hx hx0 hlow) hi hk hcell

/-! ### New -/
theorem Tryd.info56e : (Tryd.prog.info? 51).map (fun i => (i.zero, i.size, i.bytes)) = some (some (.int .u64 0), 1, 8) := by kernel_rfl

theorem new_bad (n : Int) (w : World) (h0 : -9223372036854775808 ≤ n) (h1 : n ≤ 9223372036854775807) (hb : n < 16 ∨ 4096 < n) :
    Calls Tryd.prog 11 #[.int .i64 n] w fun e w' => e = .returned (.tuple #[.pointer none, .int .i64 2]) ∧ w = w' := by
  by_cases hl : n < 16
  · go_enter Tryd.func11, Tryd.ntmps11
    go_wp2
    go_ret2
    exact ⟨rfl, rfl⟩
  · have hg : 4096 < n := by omega
    go_enter Tryd.func11, Tryd.ntmps11
    go_wp2
    go_ret2
    exact ⟨rfl, rfl⟩
/-- What New answers. -/
def NewP (n : Nat) (w : World) (e : Ending) (w' : World) : Prop := ∃ g h, e = .returned (.tuple #[pt g, .int .i64 0]) ∧ w.heap.size ≤ g ∧ w.heap.size ≤ h ∧ Spc w' g h (List.replicate n false) ∧ Below w.heap.size w w'
set_option maxHeartbeats 1000000 in
theorem new_ok (n : Nat) (w : World) (h0 : 16 ≤ n) (h1 : n ≤ 4096) : Calls Tryd.prog 11 #[.int .i64 (n : Int)] w (NewP n w) := by
  obtain ⟨m, hm⟩ : ∃ m, m = (n + 63) / 64 := ⟨_, rfl⟩
  have hm1 : m ≤ 64 := by omega
  have hmI : ((n : Int) + 64 - 1) / 64 = (m : Int) := by omega
  have hmI' : ((n : Int) + 63) / 64 = (m : Int) := by omega
  have hmk : ∀ w, (Instr.makeSlice 56 (.int .i64 (m : Int)) (.int .i64 (m : Int))).run Tryd.prog w = .ok (.slice (some ⟨w.heap.size, 0, none⟩) m m) (w.alloc (.cells (madeCells #[.int .u64 0] m) 51)) :=
    run_make_row' (P := Tryd.prog) 56 51 (.int .u64 0) 8 Tryd.underlying56 Tryd.info56e rfl .i64 .i64 m (by omega) (by omega)
  have Hm := Lib.hid hm
  clear hm
  go_enter Tryd.func11, Tryd.ntmps11
  go_wp2
  have k1 : Below w.heap.size w (w.alloc (.cells (madeCells #[.int .u64 0] m) 51)) := (Below.refl _ _).alloc (Nat.le_refl _) _
  have k2 := k1.alloc k1.size (.cells #[.int .i64 (n : Int), .slice (some ⟨w.heap.size, 0, none⟩) m m, .int .i64 0] 59)
  have b1 := Blk.new (w.alloc (.cells (madeCells #[.int .u64 0] m) 51)) 59 #[.int .i64 (n : Int), .slice (some ⟨w.heap.size, 0, none⟩) m m, .int .i64 0]
  have b2 := (Blk.new w 51 (madeCells #[.int .u64 0] m)).alloc (.cells #[.int .i64 (n : Int), .slice (some ⟨w.heap.size, 0, none⟩) m m, .int .i64 0] 59)
  rw [toList_madeCells_one] at b2
  go_ret2
  refine ⟨w.heap.size + 1, w.heap.size, rfl, by omega, by omega, ⟨List.replicate m 0, ?_, ?_, by omega, ?_, Ok.new h0 h1⟩, k2⟩
  · simpa [cnt_new] using b1
  · simpa [wv] using b2
  · have := Rep.new n
    rw [← Hm.out] at this
    exact this

/-! ### is, at -/
/-- What 'is' answers. -/
def isE (S : List Bool) (a : Nat) : Int := if isA S a then 0 else 2
set_option maxHeartbeats 1000000 in
theorem is_any (g h : Nat) (S : List Bool) (a : Nat) (w : World) (hs : Spc w g h S) (ha : a < 4294967296) :
    Calls Tryd.prog 27 #[pt g, .int .u32 (a : Int)] w fun e w' => e = .returned (.int .i64 (isE S a)) ∧ w = w' := by
  obtain ⟨ws, b1, b2, hgh, hr, ho1, ho2, _, _⟩ := hs
  have c0 := b1.cell 0
  simp only [List.getElem?_cons_zero] at c0
  have haI : (a : Int) ≤ 4294967295 := by omega
  have hlI : (S.length : Int) ≤ 4096 := by omega
  by_cases h2 : a < 2
  · rw [isE, if_neg (fun hh => by have := hh.1; omega)]
    generalize S.length = n at *
    clear b1 b2 hr
    go_enter Tryd.func27, Tryd.ntmps27
    go_wp2
    go_ret
    exact ⟨rfl, rfl⟩
  · by_cases h3 : a < S.length
    · rw [isE, if_pos ⟨by omega, h3⟩]
      generalize S.length = n at *
      clear b1 b2 hr
      go_enter Tryd.func27, Tryd.ntmps27
      go_wp2
      go_ret
      exact ⟨rfl, rfl⟩
    · rw [isE, if_neg (fun hh => by have := hh.2; omega)]
      generalize S.length = n at *
      clear b1 b2 hr
      go_enter Tryd.func27, Tryd.ntmps27
      go_wp2
      go_ret
      exact ⟨rfl, rfl⟩
theorem is_nil (a : Nat) (w : World) (ha : a < 4294967296) : Calls Tryd.prog 27 #[.pointer none, .int .u32 (a : Int)] w fun e w' => e = .returned (.int .i64 1) ∧ w = w' := by
  have haI : (a : Int) ≤ 4294967295 := by omega
  go_enter Tryd.func27, Tryd.ntmps27
  go_wp2
  go_ret
  exact ⟨rfl, rfl⟩

theorem at_any (a : Nat) (w : World) (ha : a < 4294967296) : Calls Tryd.prog 28 #[.int .u32 (a : Int)] w fun e w' => e = .returned (.tuple #[.int .i64 ((a / 64 : Nat) : Int), .int .u64 ((2 ^ (a % 64) : Nat) : Int)]) ∧ w = w' := by
  have haI : (a : Int) ≤ 4294967295 := by omega
  obtain ⟨k, hk⟩ : ∃ k, k = a % 64 := ⟨_, rfl⟩
  have hk1 : k < 64 := by omega
  have hb : bits BinOp.and IntKind.u32 (a : Int) 63 = (k : Int) := by
    rw [show (63 : Int) = ((63 : Nat) : Int) from rfl, bits_and_u32_nat a 63 ha (by omega), Nat.and_two_pow_sub_one_eq_mod a 6, hk]
  rw [← hk]
  have Hk := Lib.hid hk
  clear hk
  go_enter Tryd.func28, Tryd.ntmps28
  go_wp2
  have e : IntKind.u64.wrap (2 ^ k) = ((2 ^ k : Nat) : Int) := by
    have : (2 : Nat) ^ k < 2 ^ 64 := Nat.pow_lt_pow_right (by omega) hk1
    have c : ((2 ^ k : Nat) : Int) = 2 ^ k := by simp
    rw [← c]
    generalize (2 : Nat) ^ k = z at *
    rw [IntKind.wrap_u64]; omega
  go_ret2
  exact ⟨by rw [e]; simp, rfl⟩

/-! ### Has, Mark, Free, Left -/
theorem two_pow_lt64 (a : Nat) : 2 ^ (a % 64) < 18446744073709551616 := Nat.pow_lt_pow_right (n := 64) (by omega) (by omega)
theorem has_any (g h : Nat) (S : List Bool) (a : Nat) (w : World) (hs : Spc w g h S) (ha : a < 4294967296) :
    Calls Tryd.prog 18 #[pt g, .int .u32 (a : Int)] w fun e w' => e = .returned (.bool (has S a)) ∧ w = w' := by
  have hi := Lib.hid (fun W h => is_any g h S a W)
  have hc := Lib.hid (fun W => at_any a W ha)
  by_cases hA : isA S a
  · have he : isE S a = 0 := if_pos hA
    obtain ⟨ws, b1, b2, hgh, hr, ho⟩ := id hs
    obtain ⟨x, hx, hxl, hxb⟩ := hr.word hA.2
    have hl : a / 64 < ws.length := (List.getElem?_eq_some_iff.1 hx).1
    have c1 := b1.cell 1
    have c2 := b2.cell (a / 64)
    rw [wv_get, hx] at c2
    simp only [List.getElem?_cons_succ, List.getElem?_cons_zero, Option.map_some] at c1 c2
    have hp := two_pow_lt64 a
    have hand := and_pow x (a % 64)
    rw [hxb] at hand
    obtain ⟨q, hq⟩ : ∃ q, q = a / 64 := ⟨_, rfl⟩
    obtain ⟨p, hpp⟩ : ∃ p, p = 2 ^ (a % 64) := ⟨_, rfl⟩
    have hat := Lib.hid (fun W => at_any a W ha)
    rw [← hq] at c2 hl
    rw [← hpp] at hp hand
    have hpos : 0 < p := by rw [hpp]; exact Nat.two_pow_pos _
    have hb : bits BinOp.and IntKind.u64 (x : Int) (p : Int) = ((x &&& p : Nat) : Int) := u64_and_nat x p hxl hp
    rw [hand] at hb
    have hc' : Hid (∀ W, Calls Tryd.prog 28 #[.int .u32 (a : Int)] W fun e w' => e = .returned (.tuple #[.int .i64 (q : Int), .int .u64 (p : Int)]) ∧ W = w') := fun W => by rw [hq, hpp]; exact at_any a W ha
    have HS := Lib.hid hs
    have Hi := Lib.hid (is_any g h S a w hs ha)
    rw [he] at Hi
    have hlI : (q : Int) < ws.length := by omega
    clear b1 b2 hr ho hx hxb hand hpp hq hs hc hat hi hA he
    generalize has S a = b at *
    go_enter Tryd.func18, Tryd.ntmps18
    go_wp2_with fail
    refine Hi.out.mono ?_
    rintro e w1 ⟨rfl, rfl⟩
    go_wp2_with fail
    refine (hc'.out _).mono ?_
    rintro e w1 ⟨rfl, rfl⟩
    cases b
    · simp only [Bool.false_eq_true, if_false] at hb
      go_wp2
      go_ret
      exact ⟨rfl, rfl⟩
    · simp only [if_true] at hb
      go_wp2
      go_ret
      refine ⟨?_, rfl⟩
      congr 2
      simp
      omega
  · have he : isE S a = 2 := if_neg hA
    have h0 : has S a = false := by
      cases e : has S a with
      | false => rfl
      | true =>
        have h1 := has_lt e
        obtain ⟨_, _, o1, o2⟩ := hs.ok
        exact absurd ⟨by rcases Nat.lt_or_ge a 2 with h | h; (rcases (show a = 0 ∨ a = 1 by omega) with rfl | rfl <;> simp_all); exact h, h1⟩ hA
    rw [h0]
    have Hi := Lib.hid (is_any g h S a w hs ha)
    rw [he] at Hi
    clear hs he
    go_enter Tryd.func18, Tryd.ntmps18
    go_wp2_with fail
    refine Hi.out.mono ?_
    rintro e w1 ⟨rfl, rfl⟩
    go_wp2
    go_ret
    exact ⟨rfl, rfl⟩

/-- What Mark answers, and what is left. -/
def markE (S : List Bool) (a : Nat) : Int := if isA S a then (if has S a then 9 else 0) else 2
def markS (S : List Bool) (a : Nat) : List Bool := if isA S a ∧ has S a = false then S.set a true else S
/-- What Free answers, and what is left. -/
def freeE (S : List Bool) (a : Nat) : Int := if isA S a then (if has S a then 0 else 8) else 2
def freeS (S : List Bool) (a : Nat) : List Bool := if isA S a ∧ has S a = true then S.set a false else S

theorem Spc.bound {w : World} {g h : Nat} {S : List Bool} (s : Spc w g h S) : g < w.heap.size ∧ h < w.heap.size := by
  obtain ⟨ws, b1, b2, b3, b4, b5⟩ := s
  exact ⟨b1.lt, b2.lt⟩

theorem spc_stored {w : World} {g h q y : Nat} {m : Nat} {n n' : Int} {S' : List Bool} {ws : List Nat} (B1 : Blk w g 59 [.int .i64 (m : Int), .slice (some ⟨h, 0, none⟩) ws.length ws.length, .int .i64 n]) (B2 : Blk w h 51 (wv ws)) (hgh : g ≠ h)
    (HR : Rep S' (ws.set q y)) (HO : Ok S') (hl : S'.length = m) (HC : (cnt S' : Int) = n') :
    Spc ((w.setCell ⟨h, q, none⟩ (.int .u64 (y : Int))).setCell ⟨g, 2, none⟩ (.int .i64 n')) g h S' ∧ Keeps [g, h] w ((w.setCell ⟨h, q, none⟩ (.int .u64 (y : Int))).setCell ⟨g, 2, none⟩ (.int .i64 n')) := by
  refine ⟨⟨ws.set q y, ?_, ?_, hgh, HR, HO⟩, ((Keeps.refl _ _).setCell (by simp) _).setCell (by simp) _⟩
  · have := (B1.far (p := ⟨h, q, none⟩) hgh (.int .u64 (y : Int))).set_ 2 (.int .i64 n')
    simpa [hl, HC] using this
  · have := (B2.set_ q (.int .u64 (y : Int))).far (p := ⟨g, 2, none⟩) (fun e => hgh e.symm) (.int .i64 n')
    rw [wv_set] at this
    exact this

set_option maxHeartbeats 1000000 in
theorem mark_any (g h : Nat) (S : List Bool) (a : Nat) (w : World) (hs : Spc w g h S) (ha : a < 4294967296) :
    Calls Tryd.prog 15 #[pt g, .int .u32 (a : Int)] w fun e w' => e = .returned (.int .i64 (markE S a)) ∧ Spc w' g h (markS S a) ∧ Keeps [g, h] w w' := by
  have Hi := Lib.hid (is_any g h S a w hs ha)
  have Hh := Lib.hid (has_any g h S a w hs ha)
  by_cases hA : isA S a
  · have he : isE S a = 0 := if_pos hA
    rw [he] at Hi
    cases hb : has S a with
    | true =>
      rw [markE, if_pos hA, if_pos hb, markS, if_neg (by simp [hb])]
      rw [hb] at Hh
      have HS := Lib.hid hs
      clear hs
      go_enter Tryd.func15, Tryd.ntmps15
      go_wp2_with fail
      refine Hi.out.mono ?_
      rintro e w1 ⟨rfl, rfl⟩
      go_wp2_with fail
      refine Hh.out.mono ?_
      rintro e w1 ⟨rfl, rfl⟩
      go_wp2
      go_ret
      exact ⟨rfl, HS.out, Keeps.refl _ _⟩
    | false =>
      rw [markE, if_pos hA, if_neg (by simp [hb]), markS, if_pos ⟨hA, hb⟩]
      rw [hb] at Hh
      have hcnt := cnt_set S a hA.2 hb
      obtain ⟨ws, b1, b2, hgh, hr, ho⟩ := id hs
      obtain ⟨x, hx, hxl, hxb⟩ := hr.word hA.2
      have hl : a / 64 < ws.length := (List.getElem?_eq_some_iff.1 hx).1
      have hrm := hr.mark hA.2 hx
      have c0 := b1.cell 0
      have c1 := b1.cell 1
      have c2 := b1.cell 2
      have f2 := b1.frozen 2
      have c3 := b2.cell (a / 64)
      have f3 := b2.frozen (a / 64)
      rw [wv_get, hx] at c3
      simp only [List.getElem?_cons_succ, List.getElem?_cons_zero, Option.map_some] at c0 c1 c2 c3
      have hp := two_pow_lt64 a
      have hcl := cnt_le S
      have hcI : (cnt S : Int) ≤ 4096 := by have := ho.2.1; omega
      obtain ⟨q, hq⟩ : ∃ q, q = a / 64 := ⟨_, rfl⟩
      obtain ⟨p, hpp⟩ : ∃ p, p = 2 ^ (a % 64) := ⟨_, rfl⟩
      have hc' : Hid (∀ W, Calls Tryd.prog 28 #[.int .u32 (a : Int)] W fun e w' => e = .returned (.tuple #[.int .i64 (q : Int), .int .u64 (p : Int)]) ∧ W = w') := fun W => by rw [hq, hpp]; exact at_any a W ha
      rw [← hq] at c3 f3 hl hrm
      rw [← hpp] at hp hrm
      have hb' : bits BinOp.or IntKind.u64 (x : Int) (p : Int) = ((x ||| p : Nat) : Int) := u64_or_nat x p hxl hp
      have hlI : (q : Int) < ws.length := by omega
      have gne : h ≠ g := fun e => hgh e.symm
      have B1 := Lib.hid b1
      have B2 := Lib.hid b2
      have HR := Lib.hid hrm
      have HO := Lib.hid (ho.set hA true)
      have HC := Lib.hid hcnt
      clear b1 b2 hr ho hx hxb hrm hpp hq hs hA he hcl hcnt hb
      generalize cnt S = n at *
      generalize x ||| p = y at *
      go_enter Tryd.func15, Tryd.ntmps15
      go_wp2_with fail
      refine Hi.out.mono ?_
      rintro e w1 ⟨rfl, rfl⟩
      go_wp2_with fail
      refine Hh.out.mono ?_
      rintro e w1 ⟨rfl, rfl⟩
      go_wp2_with fail
      refine (hc'.out _).mono ?_
      rintro e w1 ⟨rfl, rfl⟩
      go_wp2
      go_ret
      exact ⟨rfl, spc_stored B1.out B2.out hgh HR.out HO.out (by simp) (by rw [HC.out]; omega)⟩
  · have he : isE S a = 2 := if_neg hA
    rw [he] at Hi
    rw [markE, if_neg hA, markS, if_neg (fun hh => hA hh.1)]
    have HS := Lib.hid hs
    clear hs he
    go_enter Tryd.func15, Tryd.ntmps15
    go_wp2_with fail
    refine Hi.out.mono ?_
    rintro e w1 ⟨rfl, rfl⟩
    go_wp2
    go_ret
    exact ⟨rfl, HS.out, Keeps.refl _ _⟩
set_option maxHeartbeats 1000000 in
theorem free_any (g h : Nat) (S : List Bool) (a : Nat) (w : World) (hs : Spc w g h S) (ha : a < 4294967296) :
    Calls Tryd.prog 14 #[pt g, .int .u32 (a : Int)] w fun e w' => e = .returned (.int .i64 (freeE S a)) ∧ Spc w' g h (freeS S a) ∧ Keeps [g, h] w w' := by
  have Hi := Lib.hid (is_any g h S a w hs ha)
  have Hh := Lib.hid (has_any g h S a w hs ha)
  by_cases hA : isA S a
  · have he : isE S a = 0 := if_pos hA
    rw [he] at Hi
    cases hb : has S a with
    | false =>
      rw [freeE, if_pos hA, if_neg (by simp [hb]), freeS, if_neg (by simp [hb])]
      rw [hb] at Hh
      have HS := Lib.hid hs
      clear hs
      go_enter Tryd.func14, Tryd.ntmps14
      go_wp2_with fail
      refine Hi.out.mono ?_
      rintro e w1 ⟨rfl, rfl⟩
      go_wp2_with fail
      refine Hh.out.mono ?_
      rintro e w1 ⟨rfl, rfl⟩
      go_wp2
      go_ret
      exact ⟨rfl, HS.out, Keeps.refl _ _⟩
    | true =>
      rw [freeE, if_pos hA, if_pos hb, freeS, if_pos ⟨hA, hb⟩]
      rw [hb] at Hh
      have hcnt := cnt_unset S a hA.2 hb
      obtain ⟨ws, b1, b2, hgh, hr, ho⟩ := id hs
      obtain ⟨x, hx, hxl, hxb⟩ := hr.word hA.2
      have hl : a / 64 < ws.length := (List.getElem?_eq_some_iff.1 hx).1
      have hrm := hr.free hA.2 hx
      have c0 := b1.cell 0
      have c1 := b1.cell 1
      have c2 := b1.cell 2
      have f2 := b1.frozen 2
      have c3 := b2.cell (a / 64)
      have f3 := b2.frozen (a / 64)
      rw [wv_get, hx] at c3
      simp only [List.getElem?_cons_succ, List.getElem?_cons_zero, Option.map_some] at c0 c1 c2 c3
      have hp := two_pow_lt64 a
      have hcl := cnt_le S
      have hcp : 0 < cnt S := by omega
      have hcpI : (0 : Int) < cnt S := by omega
      have hcI : (cnt S : Int) ≤ 4096 := by have := ho.2.1; omega
      obtain ⟨q, hq⟩ : ∃ q, q = a / 64 := ⟨_, rfl⟩
      obtain ⟨p, hpp⟩ : ∃ p, p = 2 ^ (a % 64) := ⟨_, rfl⟩
      have hc' : Hid (∀ W, Calls Tryd.prog 28 #[.int .u32 (a : Int)] W fun e w' => e = .returned (.tuple #[.int .i64 (q : Int), .int .u64 (p : Int)]) ∧ W = w') := fun W => by rw [hq, hpp]; exact at_any a W ha
      rw [← hq] at c3 f3 hl hrm
      rw [← hpp] at hp
      have hb' : bits BinOp.andNot IntKind.u64 (x : Int) (p : Int) = ((off x (a % 64) : Nat) : Int) := by rw [u64_andNot_nat x p hxl hp, hpp]; rfl
      have hlI : (q : Int) < ws.length := by omega
      have gne : h ≠ g := fun e => hgh e.symm
      have B1 := Lib.hid b1
      have B2 := Lib.hid b2
      have HR := Lib.hid hrm
      have HO := Lib.hid (ho.set hA false)
      have HC := Lib.hid hcnt
      clear b1 b2 hr ho hx hxb hrm hpp hq hs hA he hcl hcnt hb
      generalize cnt S = n at *
      generalize off x (a % 64) = y at *
      go_enter Tryd.func14, Tryd.ntmps14
      go_wp2_with fail
      refine Hi.out.mono ?_
      rintro e w1 ⟨rfl, rfl⟩
      go_wp2_with fail
      refine Hh.out.mono ?_
      rintro e w1 ⟨rfl, rfl⟩
      go_wp2_with fail
      refine (hc'.out _).mono ?_
      rintro e w1 ⟨rfl, rfl⟩
      go_wp2
      go_ret
      exact ⟨rfl, spc_stored B1.out B2.out hgh HR.out HO.out (by simp) (by rw [HC.out]; omega)⟩
  · have he : isE S a = 2 := if_neg hA
    rw [he] at Hi
    rw [freeE, if_neg hA, freeS, if_neg (fun hh => hA hh.1)]
    have HS := Lib.hid hs
    clear hs he
    go_enter Tryd.func14, Tryd.ntmps14
    go_wp2_with fail
    refine Hi.out.mono ?_
    rintro e w1 ⟨rfl, rfl⟩
    go_wp2
    go_ret
    exact ⟨rfl, HS.out, Keeps.refl _ _⟩

theorem left_any (g h : Nat) (S : List Bool) (w : World) (hs : Spc w g h S) : Calls Tryd.prog 13 #[pt g] w fun e w' => e = .returned (.int .i64 ((S.length : Int) - 2 - (cnt S : Nat))) ∧ Below w.heap.size w w' := by
  obtain ⟨ws, b1, b2, hgh, hr, ho⟩ := hs
  have c0 := b1.cell 0
  have c2 := b1.cell 2
  simp only [List.getElem?_cons_succ, List.getElem?_cons_zero] at c0 c2
  have hcl := cnt_le S
  have hcI : (cnt S : Int) ≤ 4096 := by have := ho.2.1; omega
  have hlI : (S.length : Int) ≤ 4096 := by have := ho.2.1; omega
  have hl0 : (16 : Int) ≤ S.length := by have := ho.1; omega
  clear b1 b2 hr ho hcl
  generalize cnt S = n at *
  generalize S.length = m at *
  go_enter Tryd.func13, Tryd.ntmps13
  go_wp2
  go_quiet (fail)
  go_wp2
  go_ret
  exact ⟨rfl, by repeat' (first | (with_reducible exact Below.refl _ _) | (with_reducible refine below_drewN ?_ _) | (with_reducible refine Below.drew ?_))⟩
end Go.Proofs.YtnkkcfhjgnfchaaDoor
