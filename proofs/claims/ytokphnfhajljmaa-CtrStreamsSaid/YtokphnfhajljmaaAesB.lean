/- Contracts of package aes: the sum of blocks, columns mixed, tables. -/
import Derived.Test.YtokphnfhajljmaaAesA
import Derived.Test.YtokphnfhajljmaaArr
import Derived.BigQuiet
import Derived.IntWalk
set_option linter.unusedVariables false
set_option linter.unusedSimpArgs false
namespace Go.Proofs.Ytokphnfhajljmaa
open Go.RowKit
open Go.Proofs.PlainAes

theorem arrB : ArrTy Try.prog 55 16 := ⟨_, Try.underlying55, rfl, by kernel_rfl⟩
/-- What a function that makes memory of its own answers. -/
def RetA (l : List Nat) (w : World) (e : Ending) (w' : World) : Prop := e = .returned (.agg (bv l).toArray) ∧ Below w.heap.size w w'

set_option maxRecDepth 100000 in
set_option maxHeartbeats 1000000 in
theorem asum_any (a b : List Nat) (w : World) (ha : a.length = 16) (hb : b.length = 16) (ba : Byt a) (bb : Byt b) : Calls Try.prog 31 #[.agg (bv a).toArray, .agg (bv b).toArray] w (RetA (xorl a b) w) := by
  have hxl := xorl_length (a := a) (b := b) (by omega)
  have Hx := Lib.hid hxl
  have Ha := Lib.hid ha
  have Hb := Lib.hid hb
  have Ba := Lib.hid ba
  have Bb := Lib.hid bb
  clear hxl ha hb ba bb
  go_enter Try.func31, Try.ntmps31
  go_wp2
  go_loopw [6] (fun i wr => ∃ k : Nat, k ≤ 16 ∧ i = .int .i64 k ∧ Blk wr w.heap.size 55 (bv (upd (xorl a b) a k)) ∧ Blk wr (w.heap.size + 1) 55 (bv b) ∧ Blk wr (w.heap.size + 1 + 1) 55 (bv (zeros 16)) ∧ Below w.heap.size w wr) (fun i _ => 16 - (intOf i).toNat)
  case atStart =>
    refine ⟨0, Nat.zero_le _, rfl, ?_, ?_, ?_, ?_⟩
    · rw [upd_zero]
      exact ((Blk.new_at rfl rfl).alloc _).alloc _
    · exact (Blk.new_at (by simp) (by simp)).alloc _
    · exact Blk.new_at (by simp) rfl
    · exact (((Below.refl _ _).alloc (Nat.le_refl _) _).alloc (by simp) _).alloc (by simp; omega) _
  case round =>
    obtain ⟨k, hk, rfl, h1, h2, h3, hB⟩ := hrel
    by_cases hlt : (k : Int) < 16
    · obtain ⟨x, hx⟩ := get_lt (l := a) (k := k) (by have := Ha.out; omega)
      obtain ⟨y, hy⟩ := get_lt (l := b) (k := k) (by have := Hb.out; omega)
      have c1 := h1.cell k
      have f1 := h1.frozen k
      have c2 := h2.cell k
      rw [bv_some hy] at c2
      rw [bv_get, upd_get (by have := Ha.out; have := Hx.out; omega) (Nat.le_refl _) (by have := Ha.out; omega), hx] at c1
      simp only [Option.map_some] at c1
      obtain ⟨hxy, hl⟩ := x8 (Ba.out.get hx) (Bb.out.get hy)
      have hs := upd_set (k := k) (by have := Ha.out; have := Hx.out; omega) (by have := Ha.out; omega) (xorl_get hx hy)
      have HS := Lib.hid hs
      clear hs hx hy
      go_wp2
      go_still_tail 8, (by kernel_rfl)
      change wpList _ _ _ _ _ wr.drew
      go_wp2
      go_roundw
      case rel =>
        refine ⟨k + 1, by omega, by go_num, ?_, (h2.drew).far (by simp) _, (h3.drew).far (by simp; omega) _, hB.drew.setCell (by simp) _⟩
        rw [← HS.out, ← bv_set]
        exact h1.drew.set_ k _
      case measure => simp [intOf]; omega
    · obtain rfl : k = 16 := by omega
      rw [upd_all (by have := Ha.out; have := Hx.out; omega) Ha.out] at h1
      have hxl : (bv (xorl a b)).length = 16 := by have := Ha.out; have := Hx.out; simp; omega
      go_wp2_with (first | refine wpList_loadW rfl 55 (.tmp 2) rfl 16 arrB _ rfl 55 _ h1 hxl ?_ | refine wpList_storeW rfl 55 (.tmp 4) (.tmp 18) rfl 16 arrB _ rfl (bv (xorl a b)) rfl 55 _ h3 hxl (by simp) (ones_bv _) ?_)
      intro w' h4 hK
      go_wp2
      exact bodyPost_ret (v := .agg (bv (xorl a b)).toArray) (res_cell Try.results31 _ _ _ 55 _ arrB hxl rfl h4) rfl ⟨rfl, hB.trans (hK.below hB.size (by simp; omega))⟩

theorem mixAt_at (b : List Nat) {m k : Nat} (hm : m % 4 = 0) (hk : k < 4) : mixAt b (m + k) = gd b (m + k) ^^^ (all4 b m ^^^ dbl (gd b (m + k) ^^^ gd b (m + (k + 1) % 4))) := by
  unfold mixAt
  rw [show (m + k) / 4 * 4 = m from by omega, show (m + k) % 4 = k from by omega]

set_option maxRecDepth 100000 in
set_option maxHeartbeats 2000000 in
theorem amix_any (b : List Nat) (w : World) (hb : b.length = 16) (bb : Byt b) : Calls Try.prog 32 #[.agg (bv b).toArray] w (RetA (mix b) w) := by
  have Hb := Lib.hid hb
  have Bb := Lib.hid bb
  have hd := Lib.hid (fun a ha w => (double_any a ha w).mono (fun e w' h => And.intro h.1 h.2.symm))
  clear hb bb
  go_enter Try.func32, Try.ntmps32
  go_wp2
  go_loopw [3] (fun i wr => ∃ m : Nat, m ≤ 16 ∧ Hid (m % 4 = 0) ∧ i = .int .i64 (m : Int) ∧ Blk wr w.heap.size 55 (bv (upd (mix b) b m)) ∧ Blk wr (w.heap.size + 1) 55 (bv (zeros 16)) ∧ Below w.heap.size w wr) (fun i _ => 16 - (intOf i).toNat)
  case atStart =>
    refine ⟨0, Nat.zero_le _, rfl, rfl, ?_, ?_, ?_⟩
    · rw [upd_zero]
      exact (Blk.new_at rfl rfl).alloc _
    · exact Blk.new_at (by simp) rfl
    · exact ((Below.refl _ _).alloc (Nat.le_refl _) _).alloc (by simp) _
  case round =>
    obtain ⟨m, hm, hm4, rfl, h1, h2, hB⟩ := hrel
    have hr : Hid (∀ k j, k ≤ j → j < 16 → k ≤ 16 → (bv (upd (mix b) b k))[j]? = some (.int .u8 ((gd b j : Nat) : Int))) := fun k j hj h16 hk => by
      rw [bv_get, upd_get (by have := Hb.out; simp [mix]; omega) hj (by have := Hb.out; omega), gd_get (by have := Hb.out; omega)]
      rfl
    by_cases hlt : (m : Int) < 16
    · have hI : (m : Int) ≤ 12 := by have := hm4.out; omega
      have c0 := h1.cell m
      have c1 := h1.cell (m + 1)
      have c2 := h1.cell (m + 2)
      have c3 := h1.cell (m + 3)
      rw [hr.out _ _ (by omega) (by omega) (by omega)] at c0 c1 c2 c3
      obtain ⟨q1, z1⟩ := x8 (gd_lt Bb.out m) (gd_lt Bb.out (m + 1))
      obtain ⟨q2, z2⟩ := x8 z1 (gd_lt Bb.out (m + 2))
      obtain ⟨q3, z3⟩ := x8 z2 (gd_lt Bb.out (m + 3))
      obtain ⟨A, hA⟩ : ∃ A, A = gd b m ^^^ gd b (m + 1) ^^^ gd b (m + 2) ^^^ gd b (m + 3) := ⟨_, rfl⟩
      have HA : Hid (A = all4 b m) := hA
      rw [← hA] at q3 z3
      clear hA
      go_wp2
      go_quiet (fail)
      clear q1 q2 q3 z1 z2 c0 c1 c2 c3
      have c0 := h1.cell m
      rw [hr.out _ _ (by omega) (by omega) (by omega)] at c0
      go_wp2
      clear c0
      obtain ⟨wo, rfl⟩ : ∃ wo : World, wo = wr := ⟨_, rfl⟩
      go_loopw [33] (fun i wr => ∃ k : Nat, k ≤ 4 ∧ i = .int .i64 (k : Int) ∧ Blk wr w.heap.size 55 (bv (upd (mix b) b (m + k))) ∧ Blk wr (w.heap.size + 1) 55 (bv (zeros 16)) ∧ Below w.heap.size w wr) (fun i _ => 4 - (intOf i).toNat)
      case atStart => exact ⟨0, Nat.zero_le _, rfl, h1.drewN _, h2.drewN _, below_drewN hB _⟩
      case round =>
        clear h1 h2 hB
        obtain ⟨k, hk, rfl, h1, h2, hB⟩ := hrel
        by_cases hk4 : (k : Int) < 4
        · have hmx := mixAt_at b hm4.out (show k < 4 by omega)
          have hs := upd_set (new := mix b) (old := b) (k := m + k) (by have := Hb.out; simp [mix]; omega) (by have := Hb.out; omega) (mk_get (mixAt b) (show m + k < 16 by omega))
          have c0 := h1.cell (m + k)
          have f0 := h1.frozen (m + k)
          rw [hr.out _ _ (by omega) (by omega) (by omega)] at c0
          obtain ⟨Y, hY⟩ : ∃ Y, Y = gd b (m + (k + 1) % 4) := ⟨_, rfl⟩
          have hYl : Y < 256 := hY ▸ gd_lt Bb.out _
          have HY := Lib.hid hY
          rw [← hY, ← HA.out] at hmx
          have hX := gd_lt Bb.out (m + k)
          obtain ⟨X, eX⟩ : ∃ X, X = gd b (m + k) := ⟨_, rfl⟩
          have HX := Lib.hid eX
          rw [← eX] at hmx c0 hX
          clear hY eX
          obtain ⟨p1, y1⟩ := x8 hX hYl
          obtain ⟨p2, y2⟩ := x8 z3 (dbl_lt (X ^^^ Y))
          obtain ⟨p3, y3⟩ := x8 hX y2
          rw [← hmx] at p3
          have HS := Lib.hid hs
          clear hs hmx
          generalize hMX : mixAt b (m + k) = MX at *
          have hMX := Lib.hid hMX
          by_cases hk3 : (k : Int) + 1 < 4
          · have c1 := h1.cell (m + k + 1)
            rw [hr.out _ _ (by omega) (by omega) (by omega)] at c1
            rw [show gd b (m + k + 1) = Y from by rw [HY.out, show (k + 1) % 4 = k + 1 from by omega]; rfl] at c1
            go_wp2
            have hw1 : IntKind.i64.wrap ((m : Int) + (k : Int)) = (m : Int) + (k : Int) := IntWalk.i64_in _ (by omega)
            have hw2 : (0 : Int) ≤ (m : Int) + (k : Int) := by omega
            have hw3 : (m : Int) + (k : Int) < 16 := by omega
            have hw4 : ((m : Int) + (k : Int)).toNat = m + k := by omega
            go_still_tail 17, (by kernel_rfl)
            still_call (hd.out _ y1 _)
            repeat still_step
            refine wpStill_nil ?_
            change wpList _ _ _ _ _ wr.drew
            clear hw1 hw2 hw3 hw4
            go_wp2
            go_roundw
            case rel =>
              refine ⟨k + 1, by omega, by go_num, ?_, (h2.drew).far (by simp) _, hB.drew.setCell (by simp) _⟩
              rw [← Nat.add_assoc, ← HS.out, ← bv_set]
              exact h1.drew.set_ (m + k) _
            case measure => simp [intOf]; omega
          · have eY : Y = gd b m := by rw [HY.out, show (k + 1) % 4 = 0 from by omega]; rfl
            subst eY
            go_wp2
            have hw1 : IntKind.i64.wrap ((m : Int) + (k : Int)) = (m : Int) + (k : Int) := IntWalk.i64_in _ (by omega)
            have hw2 : (0 : Int) ≤ (m : Int) + (k : Int) := by omega
            have hw3 : (m : Int) + (k : Int) < 16 := by omega
            have hw4 : ((m : Int) + (k : Int)).toNat = m + k := by omega
            go_still_tail 17, (by kernel_rfl)
            still_call (hd.out _ y1 _)
            repeat still_step
            refine wpStill_nil ?_
            change wpList _ _ _ _ _ wr.drew
            clear hw1 hw2 hw3 hw4
            go_wp2
            go_roundw
            case rel =>
              refine ⟨k + 1, by omega, by go_num, ?_, (h2.drew).far (by simp) _, hB.drew.setCell (by simp) _⟩
              rw [← Nat.add_assoc, ← HS.out, ← bv_set]
              exact h1.drew.set_ (m + k) _
            case measure => simp [intOf]; omega
        · obtain rfl : k = 4 := by omega
          go_wp2
          go_roundw
          case rel => exact ⟨m + 4, by omega, by have := hm4.out; show _ = _; omega, by go_num, h1, h2, hB⟩
          case measure => simp [intOf]; omega
    · obtain rfl : m = 16 := by omega
      have hml : (mix b).length = 16 := by simp [mix]
      have hxl : (bv (mix b)).length = 16 := by simp [mix]
      rw [upd_all hml Hb.out] at h1
      go_wp2_with (first | refine wpList_loadW rfl 55 (.tmp 1) rfl 16 arrB _ rfl 55 _ h1 hxl ?_ | refine wpList_storeW rfl 55 (.tmp 2) (.tmp 64) rfl 16 arrB _ rfl (bv (mix b)) rfl 55 _ h2 hxl (by simp) (ones_bv _) ?_)
      intro w' h4 hK
      go_wp2
      exact bodyPost_ret (v := .agg (bv (mix b)).toArray) (res_cell Try.results32 _ _ _ 55 _ arrB hxl rfl h4) rfl ⟨rfl, hB.trans (hK.below hB.size (by simp))⟩
end Go.Proofs.Ytokphnfhajljmaa
