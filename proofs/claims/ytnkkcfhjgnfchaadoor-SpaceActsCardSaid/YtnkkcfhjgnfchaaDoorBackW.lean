/- The law SpaceBack: the walk. -/
import Derived.Test.YtnkkcfhjgnfchaaDoorSpE
set_option linter.unusedVariables false
set_option linter.unusedSimpArgs false
namespace Go.Proofs.YtnkkcfhjgnfchaaDoor
open Go.RowKit
open Go.Proofs.PlainSpace

theorem mark_yes {S : List Bool} {a : Nat} (h : markE S a = 0) : isA S a ∧ has S a = false ∧ markS S a = S.set a true := by
  unfold markE at h
  split at h
  · rename_i hA
    split at h
    · cases h
    · rename_i hb
      have hb' : has S a = false := by simpa using hb
      exact ⟨hA, hb', if_pos ⟨hA, hb'⟩⟩
  · cases h
theorem mark_no {S : List Bool} {a : Nat} (h : markE S a ≠ 0) : markS S a = S := by
  unfold markE at h
  unfold markS
  split
  · rename_i hh
    rw [if_pos hh.1, if_neg (by simp [hh.2])] at h
    exact absurd rfl h
  · rfl
theorem taken_lt {S : List Bool} (ho : Ok S) : ∀ x ∈ taken S, x < 4294967296 := by
  intro x hx
  have := has_lt (mem_taken.1 hx)
  have := ho.2.1
  omega

theorem fresh_ne {w : World} {g h : Nat} {S : List Bool} (hs : Spc w g h S) {v : Value} (hf : ∀ (A : Addr) n c, v = .slice (some A) n c → w.heap.size ≤ A.block) : ∀ (A : Addr) n c, v = .slice (some A) n c → A.block ∉ [g, h] := by
  intro A n c hv hm
  have := hf A n c hv
  obtain ⟨h1, h2⟩ := hs.bound
  simp at hm
  omega
/-- What Mark and Free of one sector do, when the first goes well. -/
theorem mark_facts {S : List Bool} {a : Nat} (h : markE S a = 0) : ∃ S', markS S a = S' ∧ S'.length = S.length ∧ cnt S' = cnt S + 1 ∧ has S' a = true ∧ freeE S' a = 0 ∧ freeS S' a = S ∧ has S a = false ∧ freeE S a = 8 ∧ freeS S a = S := by
  obtain ⟨hA, hb, hm⟩ := mark_yes h
  have h1 : has (S.set a true) a = true := has_set_eq S true hA.2
  have h2 : isA (S.set a true) a := ⟨hA.1, by simpa using hA.2⟩
  refine ⟨S.set a true, hm, by simp, cnt_set S a hA.2 hb, h1, ?_, ?_, hb, ?_, ?_⟩
  · rw [freeE, if_pos h2, if_pos h1]
  · rw [freeS, if_pos ⟨h2, h1⟩]; exact set_back S a false true hA.2 hb
  · rw [freeE, if_pos hA, if_neg (by simp [hb])]
  · rw [freeS, if_neg (by simp [hb])]

namespace w_SpaceBack
set_option maxHeartbeats 2000000 in
theorem core (W : World) (hT : Tab W) (a : Nat) (ha : a < 4294967296) (A : Option Addr) (c : Nat) (l : List Nat)
    (h3 : 0 < (uv l).length → ∃ b o, A = some ⟨b, o, none⟩ ∧ ∀ i u, (uv l)[i]? = some u → W.cell? ⟨b, o + i, none⟩ = some u) (hl : ∀ x ∈ l, x < 4294967296) (hlen : l.length ≤ 140737488351232) :
    Calls Tryd.prog 4 #[.slice A l.length c, .int .u32 (a : Int)] W fun e w' => e = .returned (.bool true) ∧ Below W.heap.size W w' := by
  have hlI : (l.length : Int) ≤ 140737488351232 := by omega
  have haI : (a : Int) ≤ 4294967295 := by omega
  have halive := Lib.hid (alive_any W hT)
  have hnew := Lib.hid (fun w => new_ok 64 w (by omega) (by omega))
  have hmark := Lib.hid (fun (g h : Nat) (T : List Bool) (x : Nat) w (h1 : Spc w g h T) (h2 : x < 4294967296) => mark_any g h T x w h1 h2)
  have hfree := Lib.hid (fun (g h : Nat) (T : List Bool) w (h1 : Spc w g h T) => free_any g h T a w h1 ha)
  have hhas := Lib.hid (fun (g h : Nat) (T : List Bool) w (h1 : Spc w g h T) => has_any g h T a w h1 ha)
  have htaken := Lib.hid (fun (g h : Nat) (T : List Bool) w (h1 : Spc w g h T) (h2 : Tab w) => taken_any g h T w h1 h2)
  have hleft := Lib.hid (fun (g h : Nat) (T : List Bool) w (h1 : Spc w g h T) => left_any g h T w h1)
  have hsame := Lib.hid (fun (T : List Bool) (ho : Ok T) va vb w (h1 : Sl w va (uv (taken T))) (h2 : Sl w vb (uv (taken T))) => same_any va vb (taken T) (taken T) w h1 h2 (taken_lt ho) (taken_lt ho) (by have := cnt_le T; have := ho.2.1; unfold cnt at *; omega) (by have := cnt_le T; have := ho.2.1; unfold cnt at *; omega))
  have HT := Lib.hid hT
  have Hl := Lib.hid hl
  clear hT hl
  go_enter Tryd.func4, Tryd.ntmps4
  go_wp2_with fail
  refine halive.out.mono ?_
  rintro e w0 ⟨rfl, hB0⟩
  have hT0 := HT.out.keep hB0
  go_wp2_with fail
  refine (hnew.out w0).mono ?_
  rintro e w1 ⟨g, h, rfl, hg, hh, hS1, hB1⟩
  have hT1 := hT0.keep hB1
  have hg' : W.heap.size ≤ g := Nat.le_trans hB0.size hg
  have hh' : W.heap.size ≤ h := Nat.le_trans hB0.size hh
  have hG : ∀ b ∈ [g, h], W.heap.size ≤ b := by simp [hg', hh']
  have hBW1 := below_call hB0 hB0.size hB1
  by_cases h300 : (300 : Int) < l.length
  · clear h3
    go_wp2
    go_ret
    exact ⟨rfl, hBW1⟩
  · go_wp2
    go_loopw [29] (fun i wr => ∃ (k : Nat) (S : List Bool), k ≤ l.length ∧ i = .int .i64 (k : Int) ∧ S.length = 64 ∧ Spc wr g h S ∧ Tab wr ∧ Below W.heap.size W wr) (fun i _ => l.length - (intOf i).toNat)
    case atStart => exact ⟨0, _, Nat.zero_le _, rfl, by simp, hS1, hT1, hBW1⟩
    case round =>
      obtain ⟨k, S, hk, rfl, hS64, hS, hTr, hB⟩ := hrel
      by_cases hlt : k < l.length
      · obtain ⟨b, o, rfl, hc⟩ := h3 (by simp; omega)
        have hc' := hc k (.int .u32 ((l[k] : Nat) : Int)) (by rw [uv_get, List.getElem?_eq_getElem hlt]; rfl)
        rw [← (bcell hB).1 _ (o + k) (cell_lt hc')] at hc'
        have hb := Hl.out l[k] (List.getElem_mem hlt)
        have hm := Lib.hid (hmark.out g h S (l[k] % 64) wr hS (by omega))
        clear hc h3
        generalize l[k] = x at *
        have hxI : (x : Int) ≤ 4294967295 := by omega
        clear hb
        go_wp2_with fail
        refine hm.out.mono ?_
        rintro e w2 ⟨rfl, hS2, hK2⟩
        have hT2 := hTr.keepsS hS hK2
        have hB2 := hB.trans (hK2.below hB.size hG)
        go_wp2
        go_roundw
        case rel => exact ⟨k + 1, _, by omega, by simp, by rw [markS_length]; exact hS64, hS2, hT2, hB2⟩
        case measure => simp [intOf]; omega
      · obtain rfl : k = l.length := by omega
        have hok := Lib.hid hS.ok
        clear h3
        have hlb : (S.length : Int) - 2 - (cnt S : Nat) = 62 - (cnt S : Nat) := by omega
        have hcl := cnt_le S
        have hcI : (cnt S : Int) ≤ 64 := by omega
        have htk := Lib.hid (show (taken S).length = cnt S from rfl)
        have Hs64 := Lib.hid hS64
        clear hcl
        go_wp2_with fail
        refine (htaken.out g h S wr hS hTr).mono ?_
        rintro e w2 ⟨v2, rfl, hv2, hfr2, hB2⟩
        have hS2 := hS.keep hB2
        have hT2 := hTr.keep hB2
        have hBW2 := below_call hB hB.size hB2
        go_wp2_with fail
        refine (hleft.out g h S w2 hS2).mono ?_
        rintro e w3 ⟨rfl, hB3⟩
        rw [hlb]
        have hS3 := hS2.keep hB3
        have hT3 := hT2.keep hB3
        have hBW3 := below_call hBW2 hBW2.size hB3
        have hv3 := hv2.keep hB3
        go_wp2_with fail
        refine (hmark.out g h S a w3 hS3 ha).mono ?_
        rintro e w4 ⟨rfl, hS4, hK4⟩
        have hT4 := hT3.keepsS hS3 hK4
        have hBW4 := hBW3.trans (hK4.below hBW3.size hG)
        have hv4 := hv3.keeps hK4 (fresh_ne hS hfr2)
        have hfr2' := Lib.hid (fresh_ne hS hfr2)
        by_cases hm : markE S a = 0
        · obtain ⟨S', e1, e2, e3, e4, e5, e6, e7, e8, e9⟩ := mark_facts hm
          rw [hm]
          rw [e1] at hS4
          have hlb' : (S'.length : Int) - 2 - (cnt S' : Nat) = 62 - ((cnt S : Nat) + 1) := by omega
          have hl5 := Lib.hid (hleft.out g h S' w4 hS4)
          rw [hlb'] at hl5
          have hh5 := Lib.hid (hhas.out g h S' w4 hS4)
          rw [e4] at hh5
          have E3 := Lib.hid e3
          have hf' := Lib.hid (fun w hs => hfree.out g h S' w hs)
          rw [e5, e6] at hf'
          have hf'' := Lib.hid (fun w hs => hfree.out g h S w hs)
          rw [e8, e9] at hf''
          have hh'' := Lib.hid (fun w hs => hhas.out g h S w hs)
          rw [e7] at hh''
          have hl'' := Lib.hid (fun w hs => hleft.out g h S w hs)
          rw [hlb] at hl''
          have htk' := Lib.hid (show (taken S').length = cnt S' from rfl)
          clear e1 e2 e3 e4 e5 e6 e7 e8 e9 hm hlb' hlb hS64
          go_wp2_with fail
          refine hh5.out.mono ?_
          rintro e w5 ⟨rfl, rfl⟩
          go_wp2_with fail
          refine hl5.out.mono ?_
          rintro e w5 ⟨rfl, hB5⟩
          have hS5 := hS4.keep hB5
          have hT5 := hT4.keep hB5
          have hBW5 := below_call hBW4 hBW4.size hB5
          have hv5 := hv4.keep hB5
          go_wp2_with fail
          refine (htaken.out g h S' w5 hS5 hT5).mono ?_
          rintro e w6 ⟨v6, rfl, hv6, hfr6, hB6⟩
          have hS6 := hS5.keep hB6
          have hT6 := hT5.keep hB6
          have hBW6 := below_call hBW5 hBW5.size hB6
          obtain ⟨A6, c6, rfl, hv61, hv62, hv63⟩ := hv6
          obtain ⟨A2, c2, rfl, hv21, hv22, hv23⟩ := id hv5
          rw [uv_length, htk'.out, E3.out] at hv61 ⊢
          have hv6 := hv5.keep hB6
          rw [uv_length, htk.out] at *
          clear hv63 hv23 hfr6 hfr2 hv2 hv3 hv4 hv5
          generalize hn : cnt S = n at *
          clear hn
          go_wp2_with fail
          refine (hf'.out w6 hS6).mono ?_
          rintro e w7 ⟨rfl, hS7, hK7⟩
          have hT7 := hT6.keepsS hS6 hK7
          have hBW7 := hBW6.trans (hK7.below hBW6.size hG)
          have hv7 := hv6.keeps hK7 hfr2'.out
          go_wp2_with fail
          refine (htaken.out g h S w7 hS7 hT7).mono ?_
          rintro e w8 ⟨v8, rfl, hv8, hfr8, hB8⟩
          have hS8 := hS7.keep hB8
          have hv7' := hv7.keep hB8
          have hBW8 := below_call hBW7 hBW7.size hB8
          clear hfr8
          go_wp2_with fail
          refine (hsame.out S hok.out _ _ w8 hv8 hv7').mono ?_
          rintro e w9 ⟨rfl, hB9⟩
          have hS9 := hS8.keep hB9
          have hBW9 := below_call hBW8 hBW8.size hB9
          go_wp2_with fail
          refine (hl''.out w9 hS9).mono ?_
          rintro e w10 ⟨rfl, hB10⟩
          have hS10 := hS9.keep hB10
          have hBW10 := below_call hBW9 hBW9.size hB10
          go_wp2_with fail
          refine (hh''.out w10 hS10).mono ?_
          rintro e w11 ⟨rfl, rfl⟩
          go_wp2_with fail
          refine (hf''.out w10 hS10).mono ?_
          rintro e w11 ⟨rfl, hS11, hK11⟩
          have hBW11 := hBW10.trans (hK11.below hBW10.size hG)
          go_wp2
          go_ret
          exact ⟨rfl, hBW11⟩
        · have e0 := mark_no hm
          rw [e0] at hS4
          generalize markE S a = m at *
          have hne : (m != 0) = true := by simpa using hm
          have hl'' := Lib.hid (fun w hs => hleft.out g h S w hs)
          rw [hlb] at hl''
          clear hm e0 hlb
          go_wp2_with fail
          refine (htaken.out g h S w4 hS4 hT4).mono ?_
          rintro e w5 ⟨v5, rfl, hv5, hfr5, hB5⟩
          have hS5 := hS4.keep hB5
          have hv4' := hv4.keep hB5
          have hBW5 := below_call hBW4 hBW4.size hB5
          clear hfr5
          go_wp2_with fail
          refine (hsame.out S hok.out _ _ w5 hv5 hv4').mono ?_
          rintro e w6 ⟨rfl, hB6⟩
          have hS6 := hS5.keep hB6
          have hBW6 := below_call hBW5 hBW5.size hB6
          go_wp2_with fail
          refine (hl''.out w6 hS6).mono ?_
          rintro e w7 ⟨rfl, hB7⟩
          have hBW7 := below_call hBW6 hBW6.size hB7
          go_wp2
          go_ret
          exact ⟨rfl, hBW7⟩

theorem walk (W : World) (hT : Tab W) (v0 : Value) (l0 : List Nat) (s0 : Sl W v0 (uv l0)) (b0 : ∀ b ∈ l0, b < 4294967296) (m0 : l0.length ≤ 140737488351232) (a1 : Int) (b1 : 0 ≤ a1) (c1 : a1 ≤ 4294967295) :
    Calls Tryd.prog 4 #[v0, .int .u32 a1] W fun e w' => e = .returned (.bool true) ∧ Below W.heap.size W w' := by
  obtain ⟨x, rfl⟩ := Int.eq_ofNat_of_zero_le b1
  obtain ⟨A, c, rfl, h1, h2, h3⟩ := s0
  rw [uv_length]
  exact core W hT x (by omega) A c l0 h3 b0 m0
end w_SpaceBack
end Go.Proofs.YtnkkcfhjgnfchaaDoor
