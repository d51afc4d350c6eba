/- The walk of DevTwice. -/
import Derived.Test.YtkpefffephbhnaaDevP
import Derived.Test.YtkpefffephbhnaaRwS
set_option linter.unusedVariables false
set_option linter.unusedSimpArgs false
namespace Go.Proofs.Ytkpefffephbhnaa.w_DevTwice
open Go.RowKit Go.Maps
open Go.Proofs.PlainDev

/-- What is written at place i. -/
def sK (i : Nat) : List Nat := secL i 3
theorem sK_sec {i : Nat} (h : (i : Int) < 100) : Sec (sK i) := secL_sec (by omega) (by omega)
def stC (l : List Nat) (k : Nat) : Dst := { new0 16 with waits := wsK sK l k }
theorem stC_succ (l : List Nat) (k : Nat) : { stC l k with waits := (stC l k).waits ++ [(l.getD k 0 % 16, sK k)] } = stC l (k + 1) := by
  unfold stC; rw [wsK_succ]
theorem lies_twice (s : Dst) (hw : s.waits = []) (k : Nat) (t : Int) (x : Nat) : liesL { crashS s k t with lies := flushL (crashS s k t).lies (crashS s k t).waits, waits := [] } x = liesL s x := by
  unfold liesL crashS
  rw [hw]
  rfl
theorem pack {B : Nat} {w : World} {g N : Nat} {L : List Nat} {s : Dst} (h : Dx B w g L N s) (hz : s.size = 16) (hw : s.waits = []) {F : Nat → List Nat} (hl : ∀ x, liesL s x = F x) : ∃ s', Dx B w g L N s' ∧ s'.size = 16 ∧ s'.waits = [] ∧ ∀ x, liesL s' x = F x := ⟨s, h, hz, hw, hl⟩
set_option maxRecDepth 100000 in
set_option maxHeartbeats 2000000 in
theorem core (A : Option Addr) (n c : Nat) (keep : Nat) (hkp : (keep : Int) ≤ 18446744073709551615) (l : List Nat) (bl : Byt l) (hn : n = l.length) (hm : (n : Int) ≤ 140737488355328) (w : World) (hs : Sl w (.slice A n c) (bv l)) : Calls Try.prog 8 #[.slice A n c, .int .u64 (keep : Int)] w fun e w' => e = .returned (.bool true) ∧ Below w.heap.size w w' := by
  have hal := Lib.hid (fun w => alive06 w)
  by_cases hbig : (60 : Int) < n
  · clear hs
    go_enter Try.func8, Try.ntmps8
    go_wp2_with fail
    refine (hal.out _).mono ?_
    rintro e w1 ⟨rfl, hB1⟩
    go_wp2
    go_ret
    exact ⟨rfl, hB1⟩
  have hnew := Lib.hid (fun w => new_x 16 w (by decide) (by decide))
  have hsec9 := Lib.hid (fun w => sector_any 9 8 w (by decide) (by decide))
  have hsl9 := Lib.hid (secL_sec (f := 9) (b := 8) (by decide) (by decide))
  generalize secL 9 8 = sl9 at *
  replace hn := Lib.hid hn
  replace hs := Lib.hid hs
  have hbl := Lib.hid bl
  obtain ⟨i1, hi, hz0, hz1, hz2⟩ := info_parts (P := Try.prog) (e := 22) (z := .slice none 0 0) (size := 1) (bytes := 24) (by kernel_rfl)
  go_enter Try.func8, Try.ntmps8
  go_wp2_with fail
  refine (hal.out w).mono ?_
  rintro e w0 ⟨rfl, B0⟩
  have hC := Lib.hid B0.size
  go_wp2_with fail
  refine (hnew.out w0).mono ?_
  rintro e w1 ⟨g, L1, rfl, H1, B1⟩
  have B1' := Lib.hid (B0.trans (B1.mono B0.size))
  replace H1 := Lib.hid H1
  clear B0 B1
  generalize w0.heap.size = B at *
  go_wp2_with fail
  go_loopw [31] (fun i wr => ∃ (k : Nat) (L : List Nat), (k : Int) ≤ n ∧ i = .int .i64 (k : Int) ∧ Hid (Dx B wr g L k (stC l k)) ∧ Hid (Below w.heap.size w wr)) (fun i _ => n - (intOf i).toNat)
  case atStart => exact ⟨0, L1, by omega, rfl, H1, B1'⟩
  case round =>
    clear H1 B1'
    obtain ⟨k, L, hk, rfl, H, hB⟩ := hrel
    by_cases hlt : (k : Int) < n
    · obtain ⟨x, hx⟩ : ∃ x, l[k]? = some x := ⟨_, List.getElem?_eq_getElem (by have := hn.out; omega)⟩
      obtain ⟨ga, oa, rfl, ca⟩ := (hs.out.keep hB.out).at_ (k := k) (u := .int .u8 (x : Int)) (by rw [bv_get, hx]; rfl)
      have hx8 : (x : Int) < 256 := by have := hbl.out x (List.mem_of_getElem? hx); omega
      have hsec : Hid (∀ w, Calls Try.prog 13 #[.int .u8 (k : Int), .int .u8 3] w fun e w' => ∃ b, e = .returned (.slice (some ⟨b, 0, none⟩) 512 512) ∧ Blk w' b 5 (bv (sK k)) ∧ w.heap.size ≤ b ∧ Below w.heap.size w w') := fun w => sector_any k 3 w (by omega) (by omega)
      have hgd : Hid (l.getD k 0 = x) := by show _ = _; rw [List.getD_eq_getElem?_getD, hx]; rfl
      have hss := Lib.hid (sK_sec (i := k) (by omega))
      clear hx
      go_wp2_with fail
      refine (hsec.out wr).mono ?_
      rintro e w3 ⟨k3, rfl, b3, g3, B3⟩
      have B3' := hB.out.trans (B3.mono hB.out.size)
      have hk3 := H.out.fresh g3
      have H3 := H.out.keep B3
      have hw := Lib.hid (write_free H3 ⟨rfl, rfl⟩ (by omega) (x % 16) (show x % 16 < 16 from Nat.mod_lt _ (by decide)) k3 _ _ hss.out b3 hk3)
      clear H hB B3 g3 ca
      rw [show ((x % 16 : Nat) : Int) = (x : Int) % 16 from by simp] at hw
      go_wp2_with fail
      refine hw.out.mono ?_
      rintro e w4 ⟨L4, rfl, H4, S4⟩
      have B4 := Lib.hid (H3.go S4 B3' hC.out)
      rw [← hgd.out, stC_succ] at H4
      replace H4 := Lib.hid H4
      clear H3 B3' hw S4 b3
      go_wp2_with fail
      go_roundw
      case rel => exact ⟨k + 1, L4, by omega, by go_num, H4, B4⟩
      case measure => simp [intOf]; omega
    · obtain rfl : k = n := by omega
      have hc := Lib.hid (crash_x H.out (by omega) keep 2 hkp (by decide) (by decide))
      have hzz := Lib.hid (show (crashS (stC l k) keep 2).size = 16 from rfl)
      have hw1 := Lib.hid (show (crashS (stC l k) keep 2).waits = [] from rfl)
      generalize crashS (stC l k) keep 2 = s1 at *
      go_wp2_with fail
      refine hc.out.mono ?_
      rintro e w3 ⟨L3, rfl, H3, S3⟩
      have B3 := Lib.hid (H.out.go S3 hB.out hC.out)
      have hlt3 := Lib.hid H3.lt
      replace H3 := Lib.hid H3
      have hw3 := Lib.hid B3.out.size
      have r0 := Lib.hid (Rws.nil w3.heap.size w3 (liesL s1))
      clear H hB hc S3
      obtain ⟨C, hCe⟩ : ∃ C, Hid (C = w3.heap.size) := ⟨_, rfl⟩
      rw [← hCe.out] at r0 hw3 hlt3
      have hCB : Hid (B ≤ C) := by have := hlt3.out g (by obtain ⟨bl, ba, vw, nl, hd, rfl, -⟩ := H3.out; exact g_mem _ _ _ _); show _ ≤ _; omega
      have hle3 := Lib.hid (Nat.le_of_eq hCe.out)
      go_wp2_with fail
      go_loopw [48, 9] (fun i v wr => ∃ (a : Nat) (rows : List Value), (a : Int) ≤ 16 ∧ i = .int .u32 (a : Int) ∧ Hid (Dx B wr g L3 k s1) ∧ Hid (Rws C wr v a (liesL s1) rows) ∧ Hid (C ≤ wr.heap.size) ∧ Hid (Below w.heap.size w wr)) (fun i _ _ => 16 - (intOf i).toNat)
      case atStart => exact ⟨0, [], by omega, rfl, H3, r0, hle3, B3⟩
      case round =>
        clear H3 r0 hle3 B3 hCe
        obtain ⟨a, rows, ha, rfl, H, hR, hle, hB⟩ := hrel
        by_cases hlt : (a : Int) < 16
        · have hp := Lib.hid (peek_x H.out a (by omega) (by rw [hzz.out]; omega))
          have hF5 := Lib.hid (liesL_sec H.out.ok a).1
          go_wp2_with fail
          refine hp.out.mono fun e w5 hr => ?_
          obtain ⟨v5, rfl, own5, B5⟩ := hr
          obtain ⟨k5, c5, rfl, -, -⟩ := own_form own5 (by decide)
          have hk5 := Lib.hid (own5.lt k5 rfl)
          have s5 := Sl.of_own own5
          have H5 := H.out.keep B5
          have R5 := hR.out.keep B5
          have B5' := hB.out.trans (B5.mono hB.out.size)
          have le5 := Lib.hid (Nat.le_trans hle.out B5.size)
          have hle7 := Lib.hid hle.out
          have hv5 : u9.ownBlock ≠ some k5 := fun e => by have := (hR.out.1.lt k5 e).2; have := hk5.out.1; omega
          have sl6 : Sl (w5.alloc (.cells #[.slice (some ⟨k5, 0, none⟩) 512 c5] 22)) (.slice (some ⟨w5.heap.size, 0, none⟩) 1 1) [.slice (some ⟨k5, 0, none⟩) 512 c5] := Sl.of_blk (n := 1) (c := 1) (Blk.new_at (w := w5) (t := 22) (cs := #[.slice (some ⟨k5, 0, none⟩) 512 c5]) rfl rfl) (Nat.le_refl _) (by simp) (by unfold maxLen; omega)
          replace H5 := Lib.hid H5
          replace B5' := Lib.hid B5'
          replace s5 := Lib.hid s5
          clear hp own5 B5 hR H hB hle
          go_wp2_with (at_builtin; refine wpList_append_sl2 rfl (.tmp 57) (.tmp 59) 52 rfl C 22 i1 (.slice none 0 0) 24 Try.underlying52 hi hz0 hz1 hz2 rfl _ a rows rfl (R5.1.alloc _) _ _ rfl sl6 (by simp [Value.oneCell']) ?_ ?_ ?_ ?_)
          · simp [maxLen]; omega
          · simp; omega
          · have := le5.out; simp; omega
          intro v7 w7 own7 gr7 mv7
          obtain ⟨R7, K7⟩ := R5.app le5.out (Nat.le_trans hle7.out hk5.out.1) hk5.out.2 hv5 hF5.out s5.out own7 gr7 mv7
          have H7 := Lib.hid (H5.out.keeps K7 (fun q hq hm => by have := (hlt3.out q hq).2; have := (R5.own q hm).1; omega))
          have B7 := Lib.hid (B5'.out.trans (K7.below B5'.out.size (fun q hq => by have := (R5.own q hq).1; have := hCB.out; have := hC.out; omega)))
          have le7 := Lib.hid (Nat.le_trans le5.out K7.size)
          replace R7 := Lib.hid R7
          clear own7 gr7 mv7 K7 R5 sl6 H5 B5' s5 le5 hv5
          go_wp2_with fail
          go_roundw
          case rel => exact ⟨a + 1, _, by omega, by go_num, H7, R7, le7, B7⟩
          case measure => simp [intOf]; omega
        · obtain rfl : a = 16 := by omega
          obtain ⟨gw, cw, rfl, -, -⟩ := own_form hR.out.1 (by decide)
          have hc := Lib.hid (crash_x H.out (by omega) 18446744073709551615 0 (by decide) (by decide) (by decide))
          go_wp2_with fail
          refine hc.out.mono ?_
          rintro e w5 ⟨L5, rfl, H5, S5⟩
          have B5 := H.out.go S5 hB.out hC.out
          have hf := Lib.hid (flush_free H5 (free_crash _ _ _) (by omega))
          have hL1 := Lib.hid (fun x => (liesL_sec H.out.ok x))
          clear H hB hc
          go_wp2_with fail
          refine hf.out.mono ?_
          rintro e w6 ⟨L6, rfl, H6, S6⟩
          have B6 := Lib.hid (H5.go S6 B5 hC.out)
          have R6 := Lib.hid (hR.out.keeps (S5.trans S6).keeps (fun q hq => .inl (hlt3.out q hq).2))
          obtain ⟨s6, H6', hz6, hw6, hl6⟩ := pack H6 hzz.out rfl (F := liesL s1) (fun x => lies_twice s1 hw1.out _ _ x)
          replace H6' := Lib.hid H6'
          replace hz6 := Lib.hid hz6
          replace hw6 := Lib.hid hw6
          replace hl6 := Lib.hid hl6
          clear H5 S5 S6 H6 B5 hR hf hle hlt3
          have b0 := Lib.hid (Below.refl w6.heap.size w6)
          go_wp2_with fail
          go_loopw [68] (fun i wr => ∃ j : Nat, (j : Int) ≤ 16 ∧ i = .int .i64 (j : Int) ∧ Hid (Below w6.heap.size w6 wr)) (fun i _ => 16 - (intOf i).toNat)
          case atStart => exact ⟨0, by omega, rfl, b0⟩
          case round =>
            clear b0
            obtain ⟨j, hj, rfl, hB⟩ := hrel
            have H := H6'.out.keep hB.out
            by_cases hlt : (j : Int) < 16
            · obtain ⟨q, d, cq, sq⟩ := (R6.out.keep hB.out).at_ (j := j) (by omega)
              have hp := Lib.hid (peek_x H j (by omega) (by rw [hz6.out]; omega))
              rw [hl6.out j] at hp
              have hsc := hL1.out j
              rw [hsc.1] at cq sq
              clear H
              replace sq := Lib.hid sq
              go_wp2_with fail
              refine hp.out.mono fun e w7 hr => ?_
              obtain ⟨k7, c7, rfl, s7, B7⟩ := RetPk.out hr
              have hB7 := Lib.hid (hB.out.trans (B7.mono hB.out.size))
              have hsm := Lib.hid (same_any _ _ _ _ w7 s7 (sq.out.keep B7) hsc.2 hsc.2)
              rw [decide_eq_true rfl] at hsm
              clear hp hr hB B7 s7 sq cq
              go_wp2_with fail
              refine hsm.out.mono ?_
              rintro e w8 ⟨rfl, rfl⟩
              go_wp2_with fail
              go_roundw
              case rel => exact ⟨j + 1, by omega, by go_num, hB7⟩
              case measure => simp [intOf]; omega
            · obtain rfl : j = 16 := by omega
              have BB := B6.out.trans (hB.out.mono B6.out.size)
              clear hB
              go_wp2_with fail
              refine (hsec9.out wr).mono ?_
              rintro e w7 ⟨k7, rfl, b7, g7, B7⟩
              have BB7 := BB.trans (B7.mono BB.size)
              have H7 := H.keep B7
              have hpk := Lib.hid (poke_x H7 (by omega) 3 (by decide) (by rw [hz6.out]; decide) k7 _ hsl9.out b7)
              clear H B7 BB g7
              go_wp2_with fail
              refine hpk.out.mono ?_
              rintro e w8 ⟨rfl, H8, S8⟩
              have BB8 := Lib.hid (H7.go S8 BB7 hC.out)
              have hwt := Lib.hid (waits_x H8)
              rw [show (pokeS s6 3 sl9).waits.length = 0 from by show s6.waits.length = 0; rw [hw6.out]; rfl] at hwt
              clear H7 BB7 S8 hpk H8 b7
              go_wp2_with fail
              refine hwt.out.mono ?_
              rintro e w9 ⟨rfl, rfl⟩
              go_wp2
              go_ret
              exact ⟨rfl, BB8.out⟩

theorem walk (v : Value) (l : List Nat) (b : Byt l) (m : l.length ≤ 140737488351232) (k : Int) (k0 : 0 ≤ k) (k1 : k ≤ 18446744073709551615) (W : World) (s : Sl W v (bv l)) : Calls Try.prog 8 #[v, .int .u64 k] W fun e w' => e = .returned (.bool true) ∧ Below W.heap.size W w' := by
  obtain ⟨A, c, rfl, h1, h2, h3⟩ := id s
  obtain ⟨q, rfl⟩ := Int.eq_ofNat_of_zero_le k0
  exact core A _ c q k1 l b (bv_length l) (by rw [bv_length]; omega) W s
end Go.Proofs.Ytkpefffephbhnaa.w_DevTwice
