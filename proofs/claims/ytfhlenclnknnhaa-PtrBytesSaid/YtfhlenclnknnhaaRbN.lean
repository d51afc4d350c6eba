/- Contract of banyanref01.Num (parted from RbA). -/
import Derived.Test.YtfhlenclnknnhaaNumE
set_option linter.unusedVariables false
set_option linter.unusedSimpArgs false
namespace Go.Proofs.Ytfhlenclnknnhaa
open Go.RowKit
open Go.Proofs.PlainSha
set_option maxRecDepth 100000 in
set_option maxHeartbeats 1000000 in
theorem rnum_core (A : Option Addr) (c : Nat) (l : List Nat) (w : World) (h3 : 0 < (bv l).length → ∃ g o, A = some ⟨g, o, none⟩ ∧ ∀ i u, (bv l)[i]? = some u → w.cell? ⟨g, o + i, none⟩ = some u) (hl : ∀ b ∈ l, b < 256) (hn : l.length ≤ 8) :
    Calls Try.prog 51 #[.slice A l.length c] w fun e w' => e = .returned (.int .u64 (num l : Nat)) ∧ w = w' := by
  have hnI : (l.length : Int) ≤ 8 := by omega
  go_enter Try.func51, Try.ntmps51
  go_wp2
  go_loop [3, 8] (fun x i => ∃ (k : Nat) (y : Int), k ≤ l.length ∧ i = .int .i64 k ∧ x = .int .u64 y ∧ Hid (y = (num (l.take k) : Nat))) (fun _ i => l.length - (intOf i).toNat)
  case atStart => exact ⟨0, 0, Nat.zero_le _, rfl, rfl, rfl⟩
  case round =>
    obtain ⟨k, y, hk, rfl, rfl, hy⟩ := hrel
    by_cases hlt : k < l.length
    · obtain ⟨g, o, rfl, hc⟩ := h3 (by simp; omega)
      have hc' := hc k (.int .u8 ((l[k] : Nat) : Int)) (by rw [bv_get, List.getElem?_eq_getElem hlt]; rfl)
      have hb := hl l[k] (List.getElem_mem hlt)
      have hlt' := num_lt (l.take k) (fun b hb => hl b (List.mem_of_mem_take hb))
      rw [List.length_take, Nat.min_eq_left hk] at hlt'
      have hp : (256 : Nat) ^ k ≤ 256 ^ 7 := Nat.pow_le_pow_right (by omega) (by omega)
      have hsn := num_snoc (l.take k) l[k]
      rw [← take_snoc l k hlt] at hsn
      generalize hz : num (l.take k) = z at *
      obtain rfl : y = (z : Int) := hy
      have hz2 : (z : Int) ≤ 72057594037927935 := by omega
      have HS := Lib.hid hsn
      clear hsn hz hlt' hp h3
      generalize hcc : l[k] = cc at *
      have hb' : (cc : Int) < 256 := by omega
      have HC := Lib.hid hcc
      clear hcc hc hl
      go_wp2
      go_round
      case rel => exact ⟨k + 1, (z : Int) * 256 + cc, by omega, by go_num, rfl, by show _ = _; rw [HS.out]; simp⟩
      case measure => simp [intOf]; omega
    · obtain rfl : k = l.length := by omega
      clear h3
      go_wp2
      go_ret
      refine ⟨?_, rfl⟩
      have := hy.out
      rw [List.take_length] at this
      rw [← this]
      rfl

theorem rfnum_any (v : Value) (l : List Nat) (w : World) (h : Sl w v (bv l)) (hl : ∀ b ∈ l, b < 256) (hn : l.length ≤ 8) :
    Calls Try.prog 51 #[v] w fun e w' => e = .returned (.int .u64 (num l : Nat)) ∧ w = w' := by
  obtain ⟨A, c, rfl, h1, h2, h3⟩ := h
  rw [bv_length]
  exact rnum_core A c l w h3 hl hn
end Go.Proofs.Ytfhlenclnknnhaa
