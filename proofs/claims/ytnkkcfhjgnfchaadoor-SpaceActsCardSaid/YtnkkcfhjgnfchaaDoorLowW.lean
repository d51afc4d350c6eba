/- The law SpaceLowest: the walk. -/
import Derived.Test.YtnkkcfhjgnfchaaDoorBackW
set_option linter.unusedVariables false
set_option linter.unusedSimpArgs false
namespace Go.Proofs.YtnkkcfhjgnfchaaDoor
open Go.RowKit
open Go.Proofs.PlainSpace

theorem full_upto {S : List Bool} (ho : Ok S) (h : ∀ b, 2 ≤ b → b < S.length → has S b = true) : ∀ k, k ≤ S.length → (upto S k).length = k - 2
  | 0, _ => rfl
  | k + 1, hk => by
    rw [upto_succ, List.length_append, full_upto ho h k (by omega)]
    rcases Nat.lt_or_ge k 2 with h2 | h2
    · have e : has S k = false := by
        rcases (show k = 0 ∨ k = 1 by omega) with rfl | rfl
        · exact ho.2.2.1
        · exact ho.2.2.2
      rw [e]; simp; omega
    · rw [h k h2 (by omega)]; simp; omega
theorem full_cnt {S : List Bool} (ho : Ok S) (h : ∀ b, 2 ≤ b → b < S.length → has S b = true) : cnt S = S.length - 2 := full_upto ho h _ (Nat.le_refl _)

namespace w_SpaceLowest
set_option maxHeartbeats 2000000 in
theorem core (W : World) (hT : Tab W) (A : Option Addr) (c : Nat) (l : List Nat)
    (h3 : 0 < (uv l).length → ∃ b o, A = some ⟨b, o, none⟩ ∧ ∀ i u, (uv l)[i]? = some u → W.cell? ⟨b, o + i, none⟩ = some u) (hl : ∀ x ∈ l, x < 4294967296) (hlen : l.length ≤ 140737488351232) :
    Calls Tryd.prog 5 #[.slice A l.length c] W fun e w' => e = .returned (.bool true) ∧ Below W.heap.size W w' := by
  have hlI : (l.length : Int) ≤ 140737488351232 := by omega
  have halive := Lib.hid (alive_any W hT)
  have hnew := Lib.hid (fun w => new_ok 64 w (by omega) (by omega))
  have hmark := Lib.hid (fun (g h : Nat) (T : List Bool) (x : Nat) w (h1 : Spc w g h T) (h2 : x < 4294967296) => mark_any g h T x w h1 h2)
  have hfree := Lib.hid (fun (g h : Nat) (T : List Bool) (x : Nat) w (h1 : Spc w g h T) (h2 : x < 4294967296) => free_any g h T x w h1 h2)
  have hhas := Lib.hid (fun (g h : Nat) (T : List Bool) (x : Nat) w (h1 : Spc w g h T) (h2 : x < 4294967296) => has_any g h T x w h1 h2)
  have htaken := Lib.hid (fun (g h : Nat) (T : List Bool) w (h1 : Spc w g h T) (h2 : Tab w) => taken_any g h T w h1 h2)
  have htake := Lib.hid (fun (g h : Nat) (T : List Bool) w (h1 : Spc w g h T) (h2 : Tab w) => take_any g h T w h1 h2)
  have hleft := Lib.hid (fun (g h : Nat) (T : List Bool) w (h1 : Spc w g h T) => left_any g h T w h1)
  have HT := Lib.hid hT
  have Hl := Lib.hid hl
  clear hT hl
  go_enter Tryd.func5, Tryd.ntmps5
  go_wp2_with fail
  refine halive.out.mono ?_
  rintro e w0 ⟨rfl, hB0⟩
  have hT0 := HT.out.keep hB0
  go_wp2_with fail
  refine (hnew.out w0).mono ?_
  rintro e w1 ⟨g, h, rfl, hg, hh, hS1, hB1⟩
  have hT1 := hT0.keep hB1
  have hg' : W.heap.size ≤ g := Nat.le_trans hB0.size hg
  have hh' : W.heap.size ≤ h := Nat.le_trans hB0.size hh
  have hG : ∀ b ∈ [g, h], W.heap.size ≤ b := by simp [hg', hh']
  have hBW1 := below_call hB0 hB0.size hB1
  by_cases h300 : (300 : Int) < l.length
  · clear h3
    go_wp2
    go_ret
    exact ⟨rfl, hBW1⟩
  · go_wp2
    go_loopw [30] (fun i wr => ∃ (k : Nat) (S : List Bool), k ≤ l.length ∧ i = .int .i64 (k : Int) ∧ S.length = 64 ∧ Spc wr g h S ∧ Tab wr ∧ Below W.heap.size W wr) (fun i _ => l.length - (intOf i).toNat)
    case atStart => exact ⟨0, _, Nat.zero_le _, rfl, by simp, hS1, hT1, hBW1⟩
    case round =>
      obtain ⟨k, S, hk, rfl, hS64, hS, hTr, hB⟩ := hrel
      by_cases hlt : k < l.length
      · obtain ⟨b, o, rfl, hc⟩ := h3 (by simp; omega)
        have hc' := hc k (.int .u32 ((l[k] : Nat) : Int)) (by rw [uv_get, List.getElem?_eq_getElem hlt]; rfl)
        rw [← (bcell hB).1 _ (o + k) (cell_lt hc')] at hc'
        have hb := Hl.out l[k] (List.getElem_mem hlt)
        have hm := Lib.hid (hmark.out g h S (l[k] % 64) wr hS (by omega))
        clear hc h3
        generalize l[k] = x at *
        have hxI : (x : Int) ≤ 4294967295 := by omega
        clear hb
        go_wp2_with fail
        refine hm.out.mono ?_
        rintro e w2 ⟨rfl, hS2, hK2⟩
        have hT2 := hTr.keepsS hS hK2
        have hB2 := hB.trans (hK2.below hB.size hG)
        have hTl : (markS S (x % 64)).length = 64 := by rw [markS_length]; exact hS64
        generalize markS S (x % 64) = T at *
        generalize markE S (x % 64) = m at *
        have hok := Lib.hid hS2.ok
        have htl := Lib.hid (taken_lt hS2.ok)
        clear hm hS
        go_wp2_with fail
        refine (htaken.out g h T w2 hS2 hT2).mono ?_
        rintro e w3 ⟨v3, rfl, hv3, hfr3, hB3⟩
        have hS3 := hS2.keep hB3
        have hT3 := hT2.keep hB3
        have hBW3 := below_call hB2 hB2.size hB3
        go_wp2_with fail
        refine (htake.out g h T w3 hS3 hT3).mono ?_
        rintro e w4 ⟨a, f, U, rfl, hP, hS4, hK4⟩
        have hT4 := hT3.keepsS hS3 hK4
        have hB4 := hBW3.trans (hK4.below hBW3.size hG)
        have hv4 := hv3.keeps hK4 (fresh_ne hS2 hfr3)
        clear hfr3 hv3
        cases hP with
        | none hfull =>
          have hcn := full_cnt hok.out hfull
          have hlb : (T.length : Int) - 2 - (cnt T : Nat) = 0 := by omega
          have hl' := Lib.hid (hleft.out g h T w4 hS4)
          rw [hlb] at hl'
          clear hfull hcn hlb hTl
          go_wp2_with fail
          refine hl'.out.mono ?_
          rintro e w5 ⟨rfl, hB5⟩
          have hBW5 := below_call hB4 hB4.size hB5
          go_wp2
          go_ret
          exact ⟨rfl, hBW5⟩
        | some _ hA hf hlow =>
          have haI : (a : Int) ≤ 63 := by have := hA.2; omega
          have hnot : Hid (∀ x ∈ taken T, x ≠ a) := fun x hx e => by subst e; rw [mem_taken.1 hx] at hf; cases hf
          have hlow' : Hid (∀ b, 2 ≤ b → b < a → has (T.set a true) b = true) := fun b h1 h2 => by rw [has_set_ne T true hA.2 (by omega)]; exact hlow b h1 h2
          have hfE : freeE (T.set a true) a = 0 := by rw [freeE, if_pos ⟨hA.1, by simpa using hA.2⟩, if_pos (has_set_eq T true hA.2)]
          have hUl : (T.set a true).length = 64 := by simpa using hTl
          have hfl := Lib.hid (show (freeS (T.set a true) a).length = 64 by unfold freeS; split <;> simpa using hTl)
          have ha2 : Hid (2 ≤ a) := hA.1
          clear hf hlow hA
          generalize T.set a true = U at *
          have hF := Lib.hid (hfree.out g h U a w4 hS4 (by omega))
          rw [hfE] at hF
          have HUl := Lib.hid hUl
          obtain ⟨A4, c4, rfl, hv41, hv42, hv43⟩ := hv4
          rw [uv_length] at hv41 hv43 ⊢
          have htl2 : (taken T).length ≤ 64 := by have := cnt_le T; unfold cnt at this; omega
          have htlI : ((taken T).length : Int) ≤ 64 := by omega
          clear hfE hUl hTl htl2
          generalize taken T = L at *
          go_wp2
          go_loop [56] (fun i => ∃ j : Nat, j ≤ L.length ∧ i = .int .i64 (j : Int)) (fun i => L.length - (intOf i).toNat)
          case atStart => exact ⟨0, Nat.zero_le _, rfl⟩
          case round =>
            obtain ⟨j, hj, rfl⟩ := hrel
            by_cases hjl : j < L.length
            · obtain ⟨b4, o4, rfl, hc4⟩ := hv43 (by omega)
              have hc4' := hc4 j (.int .u32 ((L[j] : Nat) : Int)) (by rw [uv_get, List.getElem?_eq_getElem hjl]; rfl)
              have hne := hnot.out L[j] (List.getElem_mem hjl)
              have hne' : ((a : Int) == (L[j] : Nat)) = false := by simp; omega
              clear hc4 hv43 hne
              generalize L[j] = y at *
              go_wp2
              go_round
              case rel => exact ⟨j + 1, by omega, by simp⟩
              case measure => simp [intOf]; omega
            · obtain rfl : j = L.length := by omega
              clear hv43
              go_wp2
              go_loop [12] (fun i => ∃ j : Nat, 2 ≤ j ∧ (j : Int) ≤ a ∧ i = .int .u32 (j : Int)) (fun i => a - (intOf i).toNat)
              case atStart => exact ⟨2, Nat.le_refl _, by have := ha2.out; omega, rfl⟩
              case round =>
                obtain ⟨j, hj2, hja, rfl⟩ := hrel
                by_cases hjl : (j : Int) < a
                · have hh := Lib.hid (hhas.out g h U j w4 hS4 (by omega))
                  rw [hlow'.out j hj2 (by omega)] at hh
                  go_wp2_with fail
                  refine hh.out.mono ?_
                  rintro e w5 ⟨rfl, rfl⟩
                  go_wp2
                  go_round
                  case rel => exact ⟨j + 1, by omega, by omega, by simp⟩
                  case measure => simp [intOf]; omega
                · by_cases hx3 : x % 3 = 0
                  · have hx3' : ((x : Int) % 3 == 0) = true := by simp; omega
                    clear hx3
                    go_wp2_with fail
                    refine hF.out.mono ?_
                    rintro e w5 ⟨rfl, hS5, hK5⟩
                    have hT5 := hT4.keepsS hS4 hK5
                    have hB5 := hB4.trans (hK5.below hB4.size hG)
                    go_wp2
                    go_roundw
                    case rel => exact ⟨k + 1, _, by omega, by simp, hfl.out, hS5, hT5, hB5⟩
                    case measure => simp [intOf]; omega
                  · have hx3' : ((x : Int) % 3 == 0) = false := by simp; omega
                    clear hx3
                    go_wp2
                    go_roundw
                    case rel => exact ⟨k + 1, _, by omega, by simp, HUl.out, hS4, hT4, hB4⟩
                    case measure => simp [intOf]; omega
      · obtain rfl : k = l.length := by omega
        clear h3
        go_wp2
        go_ret
        exact ⟨rfl, hB⟩
theorem walk (W : World) (hT : Tab W) (v0 : Value) (l0 : List Nat) (s0 : Sl W v0 (uv l0)) (b0 : ∀ b ∈ l0, b < 4294967296) (m0 : l0.length ≤ 140737488351232) :
    Calls Tryd.prog 5 #[v0] W fun e w' => e = .returned (.bool true) ∧ Below W.heap.size W w' := by
  obtain ⟨A, c, rfl, h1, h2, h3⟩ := s0
  rw [uv_length]
  exact core W hT A c l0 h3 b0 m0
end w_SpaceLowest
end Go.Proofs.YtnkkcfhjgnfchaaDoor
