/- Contracts of package space: Take, Set, Taken. -/
import Derived.Test.YtnkkcfhjgnfchaaDoorSpA
set_option linter.unusedVariables false
set_option linter.unusedSimpArgs false
namespace Go.Proofs.YtnkkcfhjgnfchaaDoor
open Go.RowKit
open Go.Proofs.PlainSpace

theorem i64_or_nat (a b : Nat) (ha : a < 9223372036854775808) (hb : b < 9223372036854775808) : bits .or .i64 (a : Int) (b : Int) = ((a ||| b : Nat) : Int) := by
  have hx : a ||| b < 2 ^ 63 := Nat.or_lt_two_pow (by omega) (by omega)
  have h1 : (BitVec.ofInt 64 (a : Int)).toNat = a := by
    rw [BitVec.ofInt_natCast, BitVec.toNat_ofNat]; exact Nat.mod_eq_of_lt (by omega)
  have h2 : (BitVec.ofInt 64 (b : Int)).toNat = b := by
    rw [BitVec.ofInt_natCast, BitVec.toNat_ofNat]; exact Nat.mod_eq_of_lt (by omega)
  show IntKind.i64.wrap ((BitVec.ofInt 64 (a : Int) ||| BitVec.ofInt 64 (b : Int)).toNat : Int) = _
  rw [BitVec.toNat_or, h1, h2]
  simp [IntKind.wrap, IntKind.bits, IntKind.signed]
  omega
theorem join64 (i k : Nat) (hk : k < 64) : i * 64 ||| k = 64 * i + k := by
  rw [nat_join 6 (i * 64) k (by omega) hk]; omega

theorem comp_xor {z : Nat} (hz : z < 18446744073709551616) : 18446744073709551615 ^^^ z = 18446744073709551615 - z := by
  apply Nat.eq_of_testBit_eq
  intro j
  rw [Nat.testBit_xor]
  have e := Nat.testBit_two_pow_sub_succ (n := 64) (x := z) hz j
  rw [show (2 : Nat) ^ 64 - (z + 1) = 18446744073709551615 - z from by omega] at e
  rw [e, show (18446744073709551615 : Nat) = 2 ^ 64 - 1 from rfl, Nat.testBit_two_pow_sub_one]
  by_cases hj : j < 64
  · simp [hj]
  · simp [hj]
    exact Nat.testBit_lt_two_pow (Nat.lt_of_lt_of_le hz (Nat.pow_le_pow_right (n := 2) (i := 64) (by omega) (by omega)))
/-- The words of a space decide its block. -/
theorem Rep.unique {S : List Bool} {ws vs : List Nat} (h : Rep S ws) (h' : Rep S vs) : ws = vs := by
  apply List.ext_getElem (h.1.trans h'.1.symm)
  intro i h1 h2
  apply Nat.eq_of_testBit_eq
  intro j
  have a1 := h.2 _ _ (List.getElem?_eq_getElem h1)
  have a2 := h'.2 _ _ (List.getElem?_eq_getElem h2)
  rcases Nat.lt_or_ge j 64 with hj | hj
  · rw [a1.2 j hj, a2.2 j hj]
  · have hp := Nat.pow_le_pow_right (n := 2) (show 2 > 0 by omega) hj
    rw [Nat.testBit_lt_two_pow (Nat.lt_of_lt_of_le a1.1 hp), Nat.testBit_lt_two_pow (Nat.lt_of_lt_of_le a2.1 hp)]
theorem Spc.words {w : World} {g h : Nat} {S : List Bool} {ws : List Nat} (s : Spc w g h S) (hr : Rep S ws) : Blk w h 51 (wv ws) := by
  obtain ⟨vs, b1, b2, b3, b4, b5⟩ := s
  rw [Rep.unique hr b4]; exact b2

/-- What Take answers. -/
def TakeA (g h : Nat) (S : List Bool) (w : World) (e : Ending) (w' : World) : Prop :=
  ∃ (a : Nat) (f : Int) (S' : List Bool), e = .returned (.tuple #[.int .u32 (a : Int), .int .i64 f]) ∧ TakeP S a f S' ∧ Spc w' g h S' ∧ Keeps [g, h] w w'

theorem take_nil (w : World) : Calls Tryd.prog 12 #[.pointer none] w fun e w' => e = .returned (.tuple #[.int .u32 0, .int .i64 1]) ∧ w = w' := by
  go_enter Tryd.func12, Tryd.ntmps12
  go_wp2
  go_ret2
  exact ⟨rfl, rfl⟩

set_option maxHeartbeats 1000000 in
theorem take_any (g h : Nat) (S : List Bool) (w : World) (hs : Spc w g h S) (hT : Tab w) : Calls Tryd.prog 12 #[pt g] w (TakeA g h S w) := by
  have hmark := Lib.hid (fun (a : Nat) W (h1 : Spc W g h S) (h2 : a < 4294967296) => mark_any g h S a W h1 h2)
  have htz := Lib.hid (fun (x : Nat) W (h1 : x < 18446744073709551616) (h2 : Tab W) => tz_any x h1 W h2)
  have hk0 := Lib.hid (hT.ne hs)
  obtain ⟨ws, b1, b2, hgh, hr, ho⟩ := id hs
  have hwl : ws.length ≤ 64 := by have := hr.1; have := ho.2.1; omega
  have hwlI : (ws.length : Int) ≤ 64 := by omega
  have c1 := b1.cell 1
  simp only [List.getElem?_cons_succ, List.getElem?_cons_zero] at c1
  have HS := Lib.hid hs
  have HT := Lib.hid hT
  have HR := Lib.hid hr
  have B2 := Lib.hid b2
  clear b1 b2 hr hs hT
  go_enter Tryd.func12, Tryd.ntmps12
  go_wp2
  go_loopw [16] (fun i wr => ∃ (k : Nat), k ≤ ws.length ∧ i = .int .i64 (k : Int) ∧ Full S (64 * k) ∧ Spc wr g h S ∧ Keeps [g, h] w wr ∧ Blk wr h 51 (wv ws)) (fun i _ => ws.length - (intOf i).toNat)
  case atStart => exact ⟨0, Nat.zero_le _, rfl, Full.zero S, HS.out, Keeps.refl _ _, B2.out⟩
  case round =>
    obtain ⟨k, hk, rfl, hF, hS, hK, hB⟩ := hrel
    by_cases hlt : k < ws.length
    · have c3 := hB.cell k
      rw [wv_get, List.getElem?_eq_getElem hlt] at c3
      simp only [Option.map_some] at c3
      have hwf := fun t ht => word_free (k := t) HR.out (List.getElem?_eq_getElem hlt) hF ht
      have hxl := (HR.out.2 _ _ (List.getElem?_eq_getElem hlt)).1
      generalize ws[k] = x at *
      have hml := mask_lt (i := k) hxl
      have hTr := HT.out.keeps hK hk0.out
      obtain ⟨z, hz⟩ : ∃ z, z = mask k x := ⟨_, rfl⟩
      rw [← hz] at hml
      obtain ⟨t, ht⟩ : ∃ t, Lib.ctz 64 (18446744073709551615 - mask k x) = t := ⟨_, rfl⟩
      replace hwf := hwf t ht
      rw [← hz] at ht
      obtain ⟨c, hc⟩ : ∃ c, c = 18446744073709551615 - z := ⟨_, rfl⟩
      rw [← hc] at ht
      have hcl : c < 18446744073709551616 := by omega
      have hxor : bits BinOp.xor IntKind.u64 IntKind.u64.max (z : Int) = (c : Int) := by
        rw [show IntKind.u64.max = ((18446744073709551615 : Nat) : Int) from by decide, u64_xor_nat _ _ (by omega) hml, hc, comp_xor hml]
      have htl := ctz_le c hcl
      rw [ht] at htl
      have HT2 := Lib.hid ht
      clear ht
      by_cases h0 : k = 0
      · subst h0
        have hor0 : bits BinOp.or IntKind.u64 (x : Int) 3 = (z : Int) := by rw [hz, show (3 : Int) = ((3 : Nat) : Int) from rfl, u64_or_nat x 3 hxl (by omega)]; rfl
        clear hz hc
        go_wp2_with fail
        refine (htz.out _ _ hcl hTr).mono ?_
        rintro e w1 ⟨rfl, rfl⟩
        rw [HT2.out]
        by_cases ht64 : t < 64
        · obtain ⟨ha2, haf, halow⟩ := hwf.1 ht64
          have htI : (t : Int) < 64 := by omega
          have hor : bits BinOp.or IntKind.i64 0 (t : Int) = ((64 * 0 + t : Nat) : Int) := by
            rw [show (0 : Int) = ((0 * 64 : Nat) : Int) from rfl, i64_or_nat _ _ (by omega) (by omega), join64 _ _ ht64]
          obtain ⟨a, hA⟩ : ∃ a, a = 64 * 0 + t := ⟨_, rfl⟩
          rw [← hA] at hor ha2 haf halow
          have hal : a < 4294967296 := by omega
          have halI : (a : Int) < 4294967296 := by omega
          by_cases han : a < S.length
          · have hisA : isA S a := ⟨ha2, han⟩
            have hP := TakeP.some a hisA haf (fun b h1 h2 => halow b h1 h2 (by omega))
            have hm := Lib.hid (hmark.out a wr hS hal)
            rw [markE, if_pos hisA, if_neg (by simp [haf]), markS, if_pos ⟨hisA, haf⟩] at hm
            have HP := Lib.hid hP
            clear hwf hP haf halow hA
            go_wp2_with fail
            refine hm.out.mono ?_
            rintro e w2 ⟨rfl, hS2, hK2⟩
            go_wp2
            go_ret2
            exact ⟨a, 0, _, rfl, HP.out, hS2, hK.trans hK2⟩
          · have hisA : ¬ isA S a := fun hh => han hh.2
            have hm := Lib.hid (hmark.out a wr hS hal)
            rw [markE, if_neg hisA, markS, if_neg (fun hh => hisA hh.1)] at hm
            have hF' : Hid (Full S (64 * (0 + 1))) := fun b h1 h2 h3 => halow b h1 (by omega) h3
            clear hwf haf halow hA
            go_wp2_with fail
            refine hm.out.mono ?_
            rintro e w2 ⟨rfl, hS2, hK2⟩
            go_wp2
            go_roundw
            case rel => exact ⟨0 + 1, by omega, by simp, hF'.out, hS2, hK.trans hK2, hS2.words HR.out⟩
            case measure => simp [intOf]; omega
        · have hF' : Hid (Full S (64 * (0 + 1))) := hwf.2 ht64
          have ht64I : (64 : Int) ≤ t := by omega
          clear hwf
          go_wp2
          go_roundw
          case rel => exact ⟨0 + 1, by omega, by simp, hF'.out, hS, hK, hB⟩
          case measure => simp [intOf]; omega
      · have hzx : z = x := by rw [hz, mask, if_neg h0]
        subst hzx
        clear hz hc
        go_wp2_with fail
        refine (htz.out _ _ hcl hTr).mono ?_
        rintro e w1 ⟨rfl, rfl⟩
        rw [HT2.out]
        by_cases ht64 : t < 64
        · obtain ⟨ha2, haf, halow⟩ := hwf.1 ht64
          have htI : (t : Int) < 64 := by omega
          have hor : bits BinOp.or IntKind.i64 ((k : Int) * 64) (t : Int) = ((64 * k + t : Nat) : Int) := by
            rw [show (k : Int) * 64 = ((k * 64 : Nat) : Int) from by omega, i64_or_nat _ _ (by omega) (by omega), join64 _ _ ht64]
          obtain ⟨a, hA⟩ : ∃ a, a = 64 * k + t := ⟨_, rfl⟩
          rw [← hA] at hor ha2 haf halow
          have hal : a < 4294967296 := by omega
          have halI : (a : Int) < 4294967296 := by omega
          by_cases han : a < S.length
          · have hisA : isA S a := ⟨ha2, han⟩
            have hP := TakeP.some a hisA haf (fun b h1 h2 => halow b h1 h2 (by omega))
            have hm := Lib.hid (hmark.out a wr hS hal)
            rw [markE, if_pos hisA, if_neg (by simp [haf]), markS, if_pos ⟨hisA, haf⟩] at hm
            have HP := Lib.hid hP
            clear hwf hP haf halow hA
            go_wp2_with fail
            refine hm.out.mono ?_
            rintro e w2 ⟨rfl, hS2, hK2⟩
            go_wp2
            go_ret2
            exact ⟨a, 0, _, rfl, HP.out, hS2, hK.trans hK2⟩
          · have hisA : ¬ isA S a := fun hh => han hh.2
            have hm := Lib.hid (hmark.out a wr hS hal)
            rw [markE, if_neg hisA, markS, if_neg (fun hh => hisA hh.1)] at hm
            have hF' : Hid (Full S (64 * (k + 1))) := fun b h1 h2 h3 => halow b h1 (by omega) h3
            clear hwf haf halow hA
            go_wp2_with fail
            refine hm.out.mono ?_
            rintro e w2 ⟨rfl, hS2, hK2⟩
            go_wp2
            go_roundw
            case rel => exact ⟨k + 1, by omega, by simp, hF'.out, hS2, hK.trans hK2, hS2.words HR.out⟩
            case measure => simp [intOf]; omega
        · have hF' : Hid (Full S (64 * (k + 1))) := hwf.2 ht64
          have ht64I : (64 : Int) ≤ t := by omega
          clear hwf
          go_wp2
          go_roundw
          case rel => exact ⟨k + 1, by omega, by simp, hF'.out, hS, hK, hB⟩
          case measure => simp [intOf]; omega
    · obtain rfl : k = ws.length := by omega
      have hn : Hid (TakeP S 0 6 S) := TakeP.none (fun b h1 h2 => hF b h1 (by have := HR.out.1; omega) h2)
      clear hF
      go_wp2
      go_ret2
      exact ⟨0, 6, S, rfl, hn.out, hS, hK⟩
end Go.Proofs.YtnkkcfhjgnfchaaDoor
