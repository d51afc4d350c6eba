/- The walk of DevLimits. -/
import Derived.Test.YtkpefffephbhnaaDevP
import Derived.Test.YtkpefffephbhnaaOpenBs
set_option linter.unusedVariables false
set_option linter.unusedSimpArgs false
namespace Go.Proofs.PlainDev
/-- Behind k writes and flushes, of n that go well. -/
def LimI (n k : Nat) (s : Dst) : Prop := s.size = 16 ∧ ((k ≤ n ∧ s.down = false ∧ s.left = (n : Int) - (k : Int)) ∨ (n < k ∧ s.down = true))
theorem stepS_down {s : Dst} (h1 : s.left = 0) : (stepS s).down = true := by unfold stepS; simp [h1]
theorem stepS_up {s : Dst} (h : s.down = false) (h1 : 0 < s.left) : (stepS s).down = false ∧ (stepS s).left = s.left - 1 := by
  unfold stepS
  have : ¬ s.left = 0 := by omega
  simp [h, h1, this]
theorem lim_flush {n k : Nat} {s : Dst} (h : LimI n k s) : LimI n (k + 1) (flushS s).1 ∧ (flushS s).2 = (if (k : Int) < n then 0 else 7) := by
  obtain ⟨hz, h⟩ := h
  unfold flushS
  rcases h with ⟨h1, h2, h3⟩ | ⟨h1, h2⟩
  · rw [h2]
    by_cases hk : (k : Int) < n
    · obtain ⟨e1, e2⟩ := stepS_up h2 (by omega)
      simp only [e1, if_pos hk, Bool.false_eq_true, if_false]
      refine ⟨⟨hz, .inl ⟨by omega, rfl, ?_⟩⟩, trivial⟩
      show (stepS s).left = _
      rw [e2]; omega
    · have e1 := stepS_down (s := s) (by omega)
      simp only [e1, if_neg hk, Bool.false_eq_true, if_false, if_true]
      exact ⟨⟨hz, .inr ⟨by omega, e1⟩⟩, trivial⟩
  · rw [h2, if_pos rfl, if_neg (by omega)]
    exact ⟨⟨hz, .inr ⟨by omega, h2⟩⟩, rfl⟩
theorem lim_write {n k : Nat} {s : Dst} (h : LimI n k s) {a : Nat} (ha : a < 16) {l : List Nat} (hl : l.length = 512) : LimI n (k + 1) (writeS s a l).1 ∧ (writeS s a l).2 = (if (k : Int) < n then 0 else 7) := by
  obtain ⟨hz, h⟩ := h
  unfold writeS
  rw [if_pos (by unfold mayE; rw [if_pos (by omega), if_pos hl])]
  rcases h with ⟨h1, h2, h3⟩ | ⟨h1, h2⟩
  · rw [h2]
    by_cases hk : (k : Int) < n
    · obtain ⟨e1, e2⟩ := stepS_up h2 (by omega)
      simp only [e1, if_pos hk, Bool.false_eq_true, if_false]
      refine ⟨⟨hz, .inl ⟨by omega, rfl, ?_⟩⟩, trivial⟩
      show (stepS s).left = _
      rw [e2]; omega
    · have e1 := stepS_down (s := s) (by omega)
      simp only [e1, if_neg hk, Bool.false_eq_true, if_false, if_true]
      exact ⟨⟨hz, .inr ⟨by omega, e1⟩⟩, trivial⟩
  · rw [h2, if_pos rfl, if_neg (by omega)]
    exact ⟨⟨hz, .inr ⟨by omega, h2⟩⟩, rfl⟩
theorem lim_up {n k : Nat} {s : Dst} (h : LimI n k s) (hk : (k : Int) ≤ n) : s.down = false := by
  obtain ⟨hz, h⟩ := h
  rcases h with ⟨h1, h2, h3⟩ | ⟨h1, h2⟩
  · exact h2
  · omega
theorem lim_dn {n k : Nat} {s : Dst} (h : LimI n k s) (hk : ¬ (k : Int) ≤ n) : s.down = true := by
  obtain ⟨hz, h⟩ := h
  rcases h with ⟨h1, h2, h3⟩ | ⟨h1, h2⟩
  · omega
  · exact h2
end Go.Proofs.PlainDev
namespace Go.Proofs.Ytkpefffephbhnaa.w_DevLimits
open Go.RowKit Go.Maps
open Go.Proofs.PlainDev

theorem limitS_new {n : Nat} : LimI n 0 (limitS (new0 16) (n : Int)) := ⟨rfl, .inl ⟨Nat.zero_le _, rfl, by
  show (if (n : Int) < -1 then (-1 : Int) else (n : Int)) = (n : Int) - ((0 : Nat) : Int)
  rw [if_neg (by omega)]; omega⟩⟩

set_option maxRecDepth 100000 in
set_option maxHeartbeats 2000000 in
theorem core (n : Nat) (hn0 : (n : Int) ≤ 255) (A : Option Addr) (N c : Nat) (l : List Bool) (hn : N = l.length) (hm : (N : Int) ≤ 9223372036854775807) (w : World) (hs : Sl w (.slice A N c) (bbl l)) : Calls Try.prog 6 #[.int .u8 (n : Int), .slice A N c] w fun e w' => e = .returned (.bool true) ∧ Below w.heap.size w w' := by
  have hal := Lib.hid (fun w => alive06 w)
  by_cases hbig : (300 : Int) < N
  · clear hs
    go_enter Try.func6, Try.ntmps6
    go_wp2_with fail
    refine (hal.out _).mono ?_
    rintro e w1 ⟨rfl, hB1⟩
    go_wp2
    go_ret
    exact ⟨rfl, hB1⟩
  have hnew := Lib.hid (fun w => new_x 16 w (by decide) (by decide))
  have hsec := Lib.hid (fun w => sector_any 1 1 w (by decide) (by decide))
  have hsl := Lib.hid (secL_sec (f := 1) (b := 1) (by decide) (by decide))
  generalize secL 1 1 = sl at *
  replace hn := Lib.hid hn
  replace hs := Lib.hid hs
  have h0 := Lib.hid (limitS_new (n := n))
  go_enter Try.func6, Try.ntmps6
  go_wp2_with fail
  refine (hal.out w).mono ?_
  rintro e w0 ⟨rfl, B0⟩
  have hC := Lib.hid B0.size
  go_wp2_with fail
  refine (hnew.out w0).mono ?_
  rintro e w1 ⟨g, L1, rfl, H1, B1⟩
  have B1' := B0.trans (B1.mono B0.size)
  clear B0 B1
  generalize w0.heap.size = B at *
  have hli := Lib.hid (limit_x H1 (n : Int) (by omega))
  go_wp2_with fail
  refine hli.out.mono ?_
  rintro e w2 ⟨rfl, H2, S2⟩
  have B2 := Lib.hid (H1.go S2 B1' hC.out)
  replace H2 := Lib.hid H2
  clear H1 B1' S2 hli
  go_wp2_with fail
  go_loopw [33] (fun i wr => ∃ (k : Nat) (s : Dst) (L : List Nat), (k : Int) ≤ N ∧ i = .int .i64 (k : Int) ∧ Hid (Dx B wr g L k s) ∧ Hid (LimI n k s) ∧ Hid (Below w.heap.size w wr)) (fun i _ => N - (intOf i).toNat)
  case atStart => exact ⟨0, _, L1, by omega, rfl, H2, h0, B2⟩
  case round =>
    clear H2 h0 B2
    obtain ⟨k, s, L, hk, rfl, H, hI, hB⟩ := hrel
    by_cases hlt : (k : Int) < N
    · obtain ⟨x, hx⟩ : ∃ x, l[k]? = some x := ⟨_, List.getElem?_eq_getElem (by have := hn.out; omega)⟩
      obtain ⟨ga, oa, rfl, ca⟩ := (hs.out.keep hB.out).at_ (k := k) (u := .bool x) (by rw [bbl_get, hx]; rfl)
      clear hx
      cases x with
      | true =>
        have hf := Lib.hid (flush_x H.out (by omega))
        have hi := lim_flush hI.out
        rw [hi.2] at hf
        have hi1 := Lib.hid hi.1
        clear hi
        by_cases hkn : (k : Int) < n
        · rw [if_pos hkn] at hf
          go_wp2_with fail
          refine hf.out.mono ?_
          rintro e w4 ⟨L4, rfl, H4, S4⟩
          have B4 := Lib.hid (H.out.go S4 hB.out hC.out)
          have hd := Lib.hid (down_x H4)
          rw [lim_up hi1.out (by omega)] at hd
          have H4' := Lib.hid (H4.more (Nat.le_succ k))
          clear S4 H hB hI H4 hf ca
          go_wp2_with fail
          refine hd.out.mono ?_
          rintro e w5 ⟨rfl, rfl⟩
          go_wp2_with fail
          go_roundw
          case rel => exact ⟨k + 1, _, L4, by omega, by go_num, H4', hi1, B4⟩
          case measure => simp [intOf]; omega
        · rw [if_neg hkn] at hf
          go_wp2_with fail
          refine hf.out.mono ?_
          rintro e w4 ⟨L4, rfl, H4, S4⟩
          have B4 := Lib.hid (H.out.go S4 hB.out hC.out)
          have hd := Lib.hid (down_x H4)
          rw [lim_dn hi1.out (by omega)] at hd
          have H4' := Lib.hid (H4.more (Nat.le_succ k))
          clear S4 H hB hI H4 hf ca
          go_wp2_with fail
          refine hd.out.mono ?_
          rintro e w5 ⟨rfl, rfl⟩
          go_wp2_with fail
          go_roundw
          case rel => exact ⟨k + 1, _, L4, by omega, by go_num, H4', hi1, B4⟩
          case measure => simp [intOf]; omega
      | false =>
        go_wp2_with fail
        refine (hsec.out wr).mono ?_
        rintro e w3 ⟨k3, rfl, b3, g3, B3⟩
        have B3' := hB.out.trans (B3.mono hB.out.size)
        have hk3 := H.out.fresh g3
        have H3 := H.out.keep B3
        have hf := Lib.hid (write_x H3 (by omega) 5 (by decide) (some ⟨k3, 0, none⟩) 512 512 sl hsl.out.1.symm (sl512 b3 hsl.out.1) hsl.out.2 (fun A n c e => by injection e with e1 e2 e3; injection e1 with e1; rw [← e1]; exact hk3))
        have hi := lim_write hI.out (a := 5) (by decide) (l := sl) hsl.out.1
        rw [hi.2] at hf
        have hi1 := Lib.hid hi.1
        clear hi H B3 hB g3 b3 ca
        by_cases hkn : (k : Int) < n
        · rw [if_pos hkn] at hf
          go_wp2_with fail
          refine hf.out.mono ?_
          rintro e w4 ⟨L4, rfl, H4, S4⟩
          have B4 := Lib.hid (H3.go S4 B3' hC.out)
          have hd := Lib.hid (down_x H4)
          rw [lim_up hi1.out (by omega)] at hd
          have H4' := Lib.hid H4
          clear S4 H3 B3' hI H4 hf
          go_wp2_with fail
          refine hd.out.mono ?_
          rintro e w5 ⟨rfl, rfl⟩
          go_wp2_with fail
          go_roundw
          case rel => exact ⟨k + 1, _, L4, by omega, by go_num, H4', hi1, B4⟩
          case measure => simp [intOf]; omega
        · rw [if_neg hkn] at hf
          go_wp2_with fail
          refine hf.out.mono ?_
          rintro e w4 ⟨L4, rfl, H4, S4⟩
          have B4 := Lib.hid (H3.go S4 B3' hC.out)
          have hd := Lib.hid (down_x H4)
          rw [lim_dn hi1.out (by omega)] at hd
          have H4' := Lib.hid H4
          clear S4 H3 B3' hI H4 hf
          go_wp2_with fail
          refine hd.out.mono ?_
          rintro e w5 ⟨rfl, rfl⟩
          go_wp2_with fail
          go_roundw
          case rel => exact ⟨k + 1, _, L4, by omega, by go_num, H4', hi1, B4⟩
          case measure => simp [intOf]; omega
    · obtain rfl : k = N := by omega
      have hd := Lib.hid (down_x H.out)
      by_cases hkn : (k : Int) ≤ n
      · rw [lim_up hI.out hkn] at hd
        go_wp2_with fail
        refine hd.out.mono ?_
        rintro e w5 ⟨rfl, rfl⟩
        go_wp2
        go_ret
        exact ⟨rfl, hB.out⟩
      · have hdn := lim_dn hI.out hkn
        rw [hdn] at hd
        have hz := hI.out.1
        have hr := Lib.hid (read_down H.out 5 (by decide) (by omega) hdn)
        have hp := Lib.hid (peek_x H.out 5 (by decide) (by omega))
        clear hdn
        go_wp2_with fail
        refine hd.out.mono ?_
        rintro e w5 ⟨rfl, rfl⟩
        go_wp2_with fail
        refine hr.out.mono ?_
        rintro e w5 ⟨rfl, rfl⟩
        go_wp2_with fail
        refine hp.out.mono fun e w6 hq => ?_
        obtain ⟨k6, c6, rfl, s6, B6⟩ := RetPk.out hq
        have H6 := H.out.keep B6
        have B6' := hB.out.trans (B6.mono hB.out.size)
        have hc := Lib.hid (crash_x H6 (by omega) 0 (-1) (by decide) (by decide) (by decide))
        have hfr := Lib.hid (free_crash s 0 (-1))
        have hz7 : (crashS s 0 (-1)).size = 16 := hz
        replace hz7 := Lib.hid hz7
        have hw7 := Lib.hid (show (crashS s 0 (-1)).waits = [] from rfl)
        generalize crashS s 0 (-1) = sc at *
        clear hr hp hd H hB s6 B6 hI hq
        go_wp2_with fail
        refine hc.out.mono ?_
        rintro e w7 ⟨L7, rfl, H7, S7⟩
        have B7 := H6.go S7 B6' hC.out
        have hr7 := Lib.hid (read_x H7 (by omega) 5 (by decide) (by rw [hz7.out]; decide) hfr.out.1)
        clear H6 B6' S7 hc
        go_wp2_with fail
        refine hr7.out.mono fun e w8 hr => ?_
        obtain ⟨k8, rfl, b8, g8, B8⟩ := RetRd.out hr
        have H8 := H7.keep B8
        have B8' := B7.trans (B8.mono B7.size)
        clear hr7 H7 B7 B8 hr b8 g8
        go_wp2_with fail
        refine (hsec.out w8).mono ?_
        rintro e w9 ⟨k9, rfl, b9, g9, B9⟩
        have B9' := B8'.trans (B9.mono B8'.size)
        have hk9 := H8.fresh g9
        have H9 := H8.keep B9
        have hw := Lib.hid (write_free H9 hfr.out (by omega) 5 (by rw [hz7.out]; decide) k9 _ _ hsl.out b9 hk9)
        clear H8 B8' B9 g9
        go_wp2_with fail
        refine hw.out.mono ?_
        rintro e wa ⟨La, rfl, Ha, Sa⟩
        have Ba := H9.go Sa B9' hC.out
        have hf := Lib.hid (flush_free Ha hfr.out (by omega))
        clear H9 B9' hw Sa b9 hk9
        go_wp2_with fail
        refine hf.out.mono ?_
        rintro e wb ⟨Lb, rfl, Hb, Sb⟩
        have Bb := Lib.hid (Ha.go Sb Ba hC.out)
        clear Ha Ba hf Sb Hb
        go_wp2
        go_ret
        exact ⟨rfl, Bb.out⟩

theorem walk (n : Int) (n0 : 0 ≤ n) (n1 : n ≤ 255) (v : Value) (l : List Bool) (W : World) (s : Sl W v (bbl l)) : Calls Try.prog 6 #[.int .u8 n, v] W fun e w' => e = .returned (.bool true) ∧ Below W.heap.size W w' := by
  obtain ⟨A, c, rfl, h1, h2, h3⟩ := id s
  obtain ⟨m, rfl⟩ := Int.eq_ofNat_of_zero_le n0
  exact core m n1 A _ c l (bbl_length l) (by unfold maxLen at h2; rw [bbl_length] at *; omega) W s
end Go.Proofs.Ytkpefffephbhnaa.w_DevLimits
