/- The law AesKeys: plain laws; the walk. -/
import Derived.Test.YtmlaopohlmnegaaAesL
import Derived.Test.YtmlaopohlmnegaaOpenB
set_option linter.unusedVariables false
set_option linter.unusedSimpArgs false
namespace Go.Proofs.Ytmlaopohlmnegaa
open Go.RowKit
open Go.Proofs.PlainAes

theorem KeyRow.first {k K : List Nat} (h : KeyRow k K) {p : Nat} (hp : p < 32) : gd K p = gd k p := by
  have h1 := h.lo (p / 4) (by omega)
  have h2 : gd (seg K (4 * (p / 4)) 4) (p % 4) = gd (seg k (4 * (p / 4)) 4) (p % 4) := by rw [h1]
  rw [gd_seg (Nat.mod_lt _ (by decide)), gd_seg (Nat.mod_lt _ (by decide)), show 4 * (p / 4) + p % 4 = p from by omega] at h2
  exact h2
theorem KeyRow.step {k K : List Nat} (h : KeyRow k K) {i j : Nat} (h2 : 2 ≤ i) (hi : i < 15) (h4 : 4 ≤ j) (hj : j < 16) : gd K (i * 16 + j) = gd K (i * 16 + (j - 4)) ^^^ gd K ((i - 2) * 16 + j) := by
  have hh := h.hi (4 * i + j / 4) (by omega) (by omega) (j % 4) (Nat.mod_lt _ (by decide))
  have e : ∀ x, kmid box (4 * i + j / 4) x = x := by
    intro x
    unfold kmid
    rw [kturn, if_neg (by omega), ksub, if_neg (by omega), krc, if_neg (by omega)]
  rw [e, gd_seg (Nat.mod_lt _ (by decide)), show 4 * (4 * i + j / 4) + j % 4 = i * 16 + j from by omega, show 4 * (4 * i + j / 4 - 8) + j % 4 = (i - 2) * 16 + j from by omega,
    show 4 * (4 * i + j / 4) - 4 + j % 4 = i * 16 + (j - 4) from by omega, Nat.xor_comm] at hh
  exact hh

theorem arr32 : ArrTy Try.prog 26 32 := ⟨_, Try.underlying26, rfl, by kernel_rfl⟩
namespace w_AesKeys
set_option maxRecDepth 100000 in
set_option maxHeartbeats 2000000 in
theorem walk (k : List Nat) (hk : k.length = 32) (bk : Byt k) (w : World) : Calls Try.prog 9 #[.agg (bv k).toArray] w fun e w' => e = .returned (.bool true) ∧ Below w.heap.size w w' := by
  have hal := Lib.hid (fun w => alive_any w)
  have hro := Lib.hid (fun w => rounds_any k w hk bk)
  have HK := Lib.hid (keyRow hk bk)
  have Hk := Lib.hid hk
  have hkl := Lib.hid (show (bv k).length = 32 by simp [hk])
  clear hk bk
  generalize keys box k = K at *
  have hKl := Lib.hid (show (bv K).length = 240 by simp [HK.out.len])
  go_enter Try.func9, Try.ntmps9
  have h0 := (Blk.new_at (w := w) (t := 26) (cs := (bv k).toArray) rfl rfl)
  have hB0 := (Below.refl w.heap.size w).alloc (Nat.le_refl _) (.cells (bv k).toArray 26)
  simp only [List.size_toArray] at h0
  go_wp2_with (first
    | (go_at_call 10; refine (hal.out _).mono ?_; rintro e w1 ⟨rfl, hB1⟩)
    | refine wpList_loadW rfl 26 (.tmp 1) rfl 32 arr32 _ rfl 26 _ (h0.keep hB1) hkl.out ?_
    | (go_at_call 19; refine (hro.out _).mono ?_; rintro e w2 ⟨rfl, hB2⟩)
    | refine wpList_allocA rfl 36 rfl (bv (zeros 240)) (by kernel_rfl) ?_)
  intro w3 h3 hK3 hz3
  have h0 := ((h0.keep hB1).keep hB2).keeps hK3 (by simp)
  have hg : w.heap.size < w2.heap.size := by have h1 := hB1.size; have h2 := hB2.size; simp at h1; omega
  have hB := (below_call (below_call hB0 (by simp) hB1) (by have := hB1.size; simp at this; omega) hB2).trans (hK3.below (by omega) (by simp))
  clear hK3 hB0 hB1 hB2
  generalize w2.heap.size = gr at *
  go_wp2_with (refine wpList_storeW rfl 36 (.tmp 3) (.tmp 10) rfl 240 arrR gr rfl (bv K) rfl 36 _ h3 hKl.out (by simp) (ones_bv _) ?_)
  intro w4 h4 hK4
  have h0 := h0.keeps hK4 (by simp; omega)
  have hB := hB.trans (hK4.below hB.size (by simp; omega))
  clear hK4 h3 hz3
  go_wp2
  go_loopw [11] (fun i wr => ∃ j : Nat, j ≤ 16 ∧ i = .int .i64 (j : Int) ∧ Blk wr w.heap.size 26 (bv k) ∧ Blk wr gr 36 (bv K) ∧ Below w.heap.size w wr) (fun i _ => (16 - intOf i).toNat)
  case atStart => exact ⟨0, Nat.zero_le _, rfl, h0, h4, hB⟩
  case round =>
    clear h0 h4 hB
    obtain ⟨j, hj, rfl, h0, h4, hB⟩ := hrel
    by_cases hlt : (j : Int) < 16
    · have c0 := h4.byte (i := j) (by rw [HK.out.len]; omega)
      have c1 := h4.byte (i := 16 + j) (by rw [HK.out.len]; omega)
      have d0 := h0.byte (i := j) (by rw [Hk.out]; omega)
      have d1 := h0.byte (i := 16 + j) (by rw [Hk.out]; omega)
      rw [HK.out.first (by omega)] at c0 c1
      generalize gd k j = X at *
      generalize gd k (16 + j) = Y at *
      have a1 : IntKind.i64.wrap (16 + (j : Int)) = 16 + (j : Int) := IntWalk.i64_in _ (by omega)
      have a2 : (0 : Int) ≤ 16 + (j : Int) := by omega
      have a3 : 16 + (j : Int) < 32 := by omega
      have a4 : (16 + (j : Int)).toNat = 16 + j := by omega
      go_wp2
      go_quiet (fail)
      clear a1 a2 a3 a4 c0 c1 d0 d1
      go_wp2
      go_roundw
      case rel => exact ⟨j + 1, by omega, by go_num, h0.drewN _, h4.drewN _, below_drewN hB _⟩
      case measure => simp [intOf]; omega
    · obtain rfl : j = 16 := by omega
      go_wp2
      go_loopw [5] (fun i wr => ∃ n : Nat, 2 ≤ n ∧ n ≤ 15 ∧ i = .int .i64 (n : Int) ∧ Blk wr gr 36 (bv K) ∧ Below w.heap.size w wr) (fun i _ => (15 - intOf i).toNat)
      case atStart => exact ⟨2, by decide, by decide, rfl, h4, hB⟩
      case round =>
        clear h0 h4 hB
        obtain ⟨n, hn2, hn, rfl, h4, hB⟩ := hrel
        by_cases hlt : (n : Int) < 15
        · have hn2I : (2 : Int) ≤ n := by omega
          go_wp2
          obtain ⟨wo, rfl⟩ : ∃ wo : World, wo = wr := ⟨_, rfl⟩
          go_loopw [6] (fun i wr => ∃ j : Nat, 4 ≤ j ∧ j ≤ 16 ∧ i = .int .i64 (j : Int) ∧ Blk wr gr 36 (bv K) ∧ Below w.heap.size w wr) (fun i _ => (16 - intOf i).toNat)
          case atStart => exact ⟨4, by decide, by decide, rfl, h4, hB⟩
          case round =>
            clear h4 hB
            obtain ⟨j, hj4, hj, rfl, h4, hB⟩ := hrel
            by_cases hlt : (j : Int) < 16
            · have hj4I : (4 : Int) ≤ j := by omega
              have hs := HK.out.step hn2 (by omega) hj4 (by omega)
              have c0 := h4.byte (i := n * 16 + j) (by rw [HK.out.len]; omega)
              have c1 := h4.byte (i := n * 16 + (j - 4)) (by rw [HK.out.len]; omega)
              have c2 := h4.byte (i := (n - 2) * 16 + j) (by rw [HK.out.len]; omega)
              obtain ⟨q, ql⟩ := x8 (gd_lt HK.out.byt (n * 16 + (j - 4))) (gd_lt HK.out.byt ((n - 2) * 16 + j))
              rw [← hs] at q
              generalize gd K (n * 16 + j) = X at *
              generalize gd K (n * 16 + (j - 4)) = Y at *
              generalize gd K ((n - 2) * 16 + j) = Z at *
              clear hs ql
              have a1 : IntKind.i64.wrap ((j : Int) - 4) = (j : Int) - 4 := IntWalk.i64_in _ (by omega)
              have a2 : (0 : Int) ≤ (j : Int) - 4 := by omega
              have a3 : (j : Int) - 4 < 16 := by omega
              have a4 : ((j : Int) - 4).toNat = j - 4 := by omega
              have b1 : IntKind.i64.wrap ((n : Int) - 2) = (n : Int) - 2 := IntWalk.i64_in _ (by omega)
              have b2 : (0 : Int) ≤ (n : Int) - 2 := by omega
              have b3 : (n : Int) - 2 < 15 := by omega
              have b4 : ((n : Int) - 2).toNat = n - 2 := by omega
              go_wp2
              go_quiet (fail)
              clear a1 a2 a3 a4 b1 b2 b3 b4 c0 c1 c2 q
              go_wp2
              go_roundw
              case rel => exact ⟨j + 1, by omega, by omega, by go_num, h4.drewN _, below_drewN hB _⟩
              case measure => simp [intOf]; omega
            · obtain rfl : j = 16 := by omega
              go_wp2
              go_roundw
              case rel => exact ⟨n + 1, by omega, by omega, by go_num, h4, hB⟩
              case measure => simp [intOf]; omega
        · go_wp2
          go_ret
          exact ⟨rfl, hB⟩
end w_AesKeys
end Go.Proofs.Ytmlaopohlmnegaa
