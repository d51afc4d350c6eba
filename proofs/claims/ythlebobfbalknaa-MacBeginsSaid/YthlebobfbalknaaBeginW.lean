/- The walk of MacBegins. -/
import Derived.Test.YthlebobfbalknaaMacD
import Derived.Test.YthlebobfbalknaaMacF
import Derived.Deep.QuietTactic
import Derived.BigQuiet
set_option linter.unusedVariables false
set_option linter.unusedSimpArgs false
namespace Go.Proofs.Ythlebobfbalknaa.w_MacBegins
open Go.RowKit
open Go.Proofs.PlainAes
open Go.Proofs.PlainSha
open Go.Proofs.PlainMac

theorem begins (k l : List Nat) {i j : Nat} (h : i ≤ j) : ((expL k l ((j + 31) / 32)).take j).take i = (expL k l ((i + 31) / 32)).take i := by
  have h1 := expL_take k l (macL_len k) ((i + 31) / 32) ((j + 31) / 32 - (i + 31) / 32)
  rw [show (i + 31) / 32 + ((j + 31) / 32 - (i + 31) / 32) = (j + 31) / 32 by omega] at h1
  rw [← h1, List.take_take, List.take_take, Nat.min_eq_left h, Nat.min_eq_left (by omega)]
theorem take_len (k l : List Nat) (j : Nat) : ((expL k l ((j + 31) / 32)).take j).length = j := by
  rw [List.length_take, expL_len]
  omega

set_option maxRecDepth 100000 in
set_option maxHeartbeats 4000000 in
theorem core (A : Option Addr) (n c a b : Nat) (k l : List Nat) (W : World) (hs : Sl W (.slice A n c) (bv k)) (bk : Byt k) (bl : Byt l) (hn : n = k.length) (hkn : (n : Int) ≤ 140737488351232) (hln : (l.length : Int) ≤ 140737488351232) (ha : (a : Int) ≤ 65535) (hb : (b : Int) ≤ 65535) :
    Calls Try.prog 6 #[.agg #[.slice A n c, .string (bstr l), .int .u16 (a : Int), .int .u16 (b : Int)]] W fun e w' => e = .returned (.bool true) ∧ Below W.heap.size W w' := by
  have hal := Lib.hid (fun w => alive_any w)
  have hsz := bstr_size l
  have b0 := Blk.new W 41 #[.slice A n c, .string (bstr l), .int .u16 (a : Int), .int .u16 (b : Int)]
  have hB0 := (Below.refl W.heap.size W).alloc (Nat.le_refl _) (.cells #[.slice A n c, .string (bstr l), .int .u16 (a : Int), .int .u16 (b : Int)] 41)
  replace hs := Lib.hid hs
  replace hn := Lib.hid hn
  go_enter Try.func6, Try.ntmps6
  go_wp2_with fail
  refine (hal.out _).mono ?_
  rintro e w1 ⟨rfl, hB1⟩
  have b1 := b0.keep hB1
  have hB := below_call hB0 (by simp) hB1
  have c0 : w1.cell? ⟨W.heap.size, 0, none⟩ = some (.slice A n c) := by have := b1.cell 0; simpa using this
  have c1 : w1.cell? ⟨W.heap.size, 1, none⟩ = some (.string (bstr l)) := by have := b1.cell 1; simpa using this
  have c2 : w1.cell? ⟨W.heap.size, 2, none⟩ = some (.int .u16 (a : Int)) := by have := b1.cell 2; simpa using this
  have c3 : w1.cell? ⟨W.heap.size, 3, none⟩ = some (.int .u16 (b : Int)) := by have := b1.cell 3; simpa using this
  clear b0 hB0 hB1 b1 hal
  go_wp2
  go_quiet (fail)
  clear c0 c1 c2 c3
  replace hB := below_drewN hB nq
  generalize w1.drewN nq = w2 at *
  by_cases hbig : (1000 : Int) < (n : Int) + (l.length : Int)
  · go_wp2
    go_ret
    exact ⟨rfl, hB⟩
  · obtain ⟨i, hi⟩ : ∃ i : Nat, min ((a : Int) % 600) ((b : Int) % 600) = (i : Int) := ⟨min (a % 600) (b % 600), by omega⟩
    obtain ⟨j, hj⟩ : ∃ j : Nat, max ((a : Int) % 600) ((b : Int) % 600) = (j : Int) := ⟨max (a % 600) (b % 600), by omega⟩
    have hij : (i : Int) ≤ (j : Int) := by omega
    have hj6 : (j : Int) ≤ 599 := by omega
    have hk1 := hn.out
    have hexp := Lib.hid (fun (m : Nat) w (h : Sl w (.slice A n c) (bv k)) (hm : (m : Int) ≤ 8160) => expand_any _ m k l w h bk (by omega) bl (by omega) hm)
    have Hb : Hid (∀ m, Byt ((expL k l ((m + 31) / 32)).take m)) := fun m x hx => expL_byt k l _ x (List.mem_of_mem_take hx)
    have Hl := Lib.hid (take_len k l)
    have Hg := Lib.hid (begins k l (show i ≤ j by omega))
    clear bk bl hk1
    have hx1 := Lib.hid (hexp.out i w2 (hs.out.keep hB) (by omega))
    go_wp2_with fail
    refine hx1.out.mono ?_
    rintro e w3 ⟨v3, rfl, sl3, hB3⟩
    obtain ⟨A3, c3, hv, -⟩ := id sl3
    rw [bv_length, Hl.out] at hv
    subst hv
    have hB3' := below_call hB hB.size hB3
    have hx2 := Lib.hid (hexp.out j w3 (hs.out.keep hB3') (by omega))
    have Sl3 := Lib.hid sl3
    clear sl3 hB hB3 hx1
    go_wp2_with fail
    refine hx2.out.mono ?_
    rintro e w4 ⟨v4, rfl, sl4, hB4⟩
    obtain ⟨A4, c4, hv, -⟩ := id sl4
    rw [bv_length, Hl.out] at hv
    subst hv
    have hB4' := below_call hB3' hB3'.size hB4
    have s3 := Lib.hid (Sl3.out.keep hB4)
    have hc4 : (j : Int) ≤ c4 := by have := sl4.cap; omega
    have hc5 : (c4 : Int) ≤ 9223372036854775807 := by have := sl4.cap; unfold maxLen at this; omega
    have s4 := sl4.head (i := i) (by rw [bv_length, Hl.out]) (by omega)
    rw [show (bv ((expL k l ((j + 31) / 32)).take j)).take i = bv (((expL k l ((j + 31) / 32)).take j).take i) from by simp [bv], Hg.out] at s4
    replace s4 := Lib.hid s4
    have hsm := Lib.hid (same_any _ _ _ _ w4 s3.out s4.out (Hb.out i) (Hb.out i))
    rw [decide_eq_true rfl] at hsm
    clear sl4 hB3' hB4 hx2 s3 s4 Sl3
    go_wp2_with fail
    refine hsm.out.mono ?_
    rintro e w5 ⟨rfl, rfl⟩
    go_wp2
    go_ret
    exact ⟨rfl, hB4'⟩
theorem walk (A : Option Addr) (n c a b : Nat) (k l : List Nat) (W : World) (hs : Sl W (.slice A n c) (bv k)) (bk : Byt k) (bl : Byt l) (hn : n = k.length) (hkn : (n : Int) ≤ 140737488351232) (hln : (l.length : Int) ≤ 140737488351232) (ha : (a : Int) ≤ 65535) (hb : (b : Int) ≤ 65535) :
    Calls Try.prog 6 #[.agg #[.slice A n c, .string (bstr l), .int .u16 (a : Int), .int .u16 (b : Int)]] W fun e w' => e = .returned (.bool true) ∧ Below W.heap.size W w' := core A n c a b k l W hs bk bl hn hkn hln ha hb
end Go.Proofs.Ythlebobfbalknaa.w_MacBegins
