/- Contract of banyanref01.Turn; the law NumBits's walk. -/
import Derived.Test.YtlifpmglaoppoaaRbA
set_option linter.unusedVariables false
set_option linter.unusedSimpArgs false
namespace Go.Proofs.Ytlifpmglaoppoaa
open Go.RowKit
open Go.Proofs.PlainSha

theorem turn_rot {x k : Nat} (hx : x < 4294967296) (hk : k < 32) : turn x k = ((BitVec.ofNat 32 x).rotateLeft k).toNat := by
  rw [BitVec.toNat_rotateLeft]
  simp only [BitVec.toNat_ofNat, turn, Nat.mod_eq_of_lt hk, Nat.shiftLeft_eq, Nat.shiftRight_eq_div_pow]
  rw [Nat.mod_eq_of_lt (a := x) (by simpa using hx)]

/-- What the reference's Turn lays in its first k rounds. -/
def rotL (x m k : Nat) : List Nat := (List.range 32).map fun j => if (j + 32 - m) % 32 < k then x / 2 ^ ((j + 32 - m) % 32) % 2 else 0
@[simp] theorem rotL_length (x m k : Nat) : (rotL x m k).length = 32 := by simp [rotL]
theorem rotL_bit (x m k : Nat) : ∀ b ∈ rotL x m k, b ≤ 1 := by
  intro b hb
  simp only [rotL, List.mem_map] at hb
  obtain ⟨i, _, rfl⟩ := hb
  split <;> omega
theorem rotL_zero (x m : Nat) : rotL x m 0 = List.replicate 32 0 := by
  have : ∀ j, (if (j + 32 - m) % 32 < 0 then x / 2 ^ ((j + 32 - m) % 32) % 2 else 0) = 0 := fun j => by simp
  simp only [rotL, this]
  decide
theorem rotL_set (x m k : Nat) (hm : m < 32) (hk : k < 32) : (bv (rotL x m k)).set ((k + m) % 32) (.int .u8 ((x : Int) / 2 ^ k % 2)) = bv (rotL x m (k + 1)) := by
  apply List.ext_getElem?
  intro i
  rw [List.getElem?_set, bv_get, bv_get]
  by_cases h : (k + m) % 32 = i
  · subst h
    have h1 : (k + m) % 32 < 32 := Nat.mod_lt _ (by omega)
    have h2 : ((k + m) % 32 + 32 - m) % 32 = k := by omega
    rw [if_pos rfl, if_pos (by simpa using h1)]
    simp [rotL, h1, h2]
  · rw [if_neg h]
    by_cases h1 : i < 32
    · have h2 : (i + 32 - m) % 32 ≠ k := by omega
      have e : (i + 32 - m) % 32 < k + 1 ↔ (i + 32 - m) % 32 < k := by omega
      simp [rotL, h1, e]
    · simp [rotL, h1]

theorem testBit_ofL : ∀ (l : List Nat) (j : Nat), (∀ b ∈ l, b ≤ 1) → (ofL l).testBit j = decide (l[j]? = some 1)
  | [], j, _ => by simp [ofL]
  | b :: l, 0, h => by
    have := h b (by simp)
    simp [ofL, Nat.testBit_zero]
    omega
  | b :: l, j + 1, h => by
    have hb := h b (by simp)
    rw [Nat.testBit_succ, ofL, show (ofL l * 2 + b) / 2 = ofL l from by omega, testBit_ofL l j (fun c hc => h c (by simp [hc]))]
    simp
theorem ofL_rotL {x m : Nat} (hx : x < 4294967296) (hm : m < 32) : ofL (rotL x m 32) = turn x m := by
  apply Nat.eq_of_testBit_eq
  intro j
  rw [testBit_ofL _ _ (rotL_bit x m 32), turn_rot hx hm, BitVec.testBit_toNat]
  by_cases hj : j < 32
  · rw [BitVec.getLsbD_rotateLeft, Nat.mod_eq_of_lt hm]
    have hb : ∀ i, i < 32 → (BitVec.ofNat 32 x).getLsbD i = decide (x / 2 ^ i % 2 = 1) := by
      intro i hi
      rw [BitVec.getLsbD_ofNat, Nat.testBit_eq_decide_div_mod_eq]
      simp [hi]
    have hr : (rotL x m 32)[j]? = some (x / 2 ^ ((j + 32 - m) % 32) % 2) := by
      have : (j + 32 - m) % 32 < 32 := Nat.mod_lt _ (by omega)
      simp [rotL, hj, this]
    rw [hr]
    simp only [Bool.cond_decide]
    by_cases h1 : j < m
    · rw [if_pos h1, hb _ (by omega), show (j + 32 - m) % 32 = 32 - m + j from by omega]
      simp
    · rw [if_neg h1, hb _ (by omega), show (j + 32 - m) % 32 = j - m from by omega]
      simp [hj]
  · rw [List.getElem?_eq_none (by simp; omega)]
    rw [BitVec.getLsbD_of_ge _ _ (by omega)]
    simp

theorem tmod32 (n : Int) : -31 ≤ n.tmod 32 ∧ n.tmod 32 ≤ 31 ∧ (n.tmod 32) % 32 = n % 32 := by
  rcases Int.le_total 0 n with h | h
  · rw [Int.tmod_eq_emod_of_nonneg h]; omega
  · have e : n.tmod 32 = -((-n) % 32) := by
      rw [← Int.tmod_eq_emod_of_nonneg (show 0 ≤ -n by omega), Int.neg_tmod, Int.neg_neg]
    rw [e]; omega

set_option maxRecDepth 100000 in
set_option maxHeartbeats 1000000 in
theorem rturn_any (x : Nat) (n : Int) (w : World) (hx : x < 4294967296) (hn0 : -9223372036854775808 ≤ n) (hn1 : n ≤ 9223372036854775807) :
    Calls Try.prog 93 #[.int .u32 (x : Int), .int .i64 n] w fun e w' => e = .returned (.int .u32 (turn x (n % 32).toNat : Nat)) ∧ Below w.heap.size w w' := by
  have hmk : ∀ w, (Instr.makeSlice 22 (.int .i64 32) (.int .i64 32)).run Try.prog w = .ok (.slice (some ⟨w.heap.size, 0, none⟩) 32 32) (w.alloc (.cells (madeCells #[.int .u8 0] 32) 5)) :=
    run_make_row' (P := Try.prog) 22 5 (.int .u8 0) 1 Try.underlying22 (by kernel_rfl) rfl .i64 .i64 32 (by omega) (by omega)
  have hbi := Lib.hid (fun W => bits_any x 32 W (by omega) (by omega))
  have hof := Lib.hid (fun v W h => of_any v (rotL x (n % 32).toNat 32) W h (rotL_bit _ _ _) (by simp))
  have hm : (n % 32).toNat < 32 := by omega
  have hol := Lib.hid (ofL_rotL hx hm)
  have hTlt := Lib.hid (turn_lt (x := x) (k := (n % 32).toNat) hx)
  have hl32 := Lib.hid (bitsL_length x 32)
  go_enter Try.func93, Try.ntmps93
  go_wp2_with fail
  refine (hbi.out _).mono ?_
  rintro e w1 ⟨v, rfl, hv, hB1⟩
  obtain ⟨A, c, rfl, hv1, hv2, hv3⟩ := id hv
  rw [bv_length, hl32.out] at hv hv1 hv3 ⊢
  go_wp2
  go_loopw [14] (fun i wr => ∃ k : Nat, k ≤ 32 ∧ i = .int .i64 k ∧ Below w.heap.size w wr ∧ Below w1.heap.size w1 wr ∧ Blk wr w1.heap.size 5 (bv (rotL x (n % 32).toNat k))) (fun i _ => 32 - (intOf i).toNat)
  case atStart =>
    refine ⟨0, Nat.zero_le _, rfl, hB1.alloc hB1.size _, (Below.refl _ _).alloc (Nat.le_refl _) _, ?_⟩
    have := Blk.new w1 5 (madeCells #[.int .u8 0] 32)
    rw [toList_madeCells_one] at this
    rw [rotL_zero]
    simpa [bv] using this
  case round =>
    obtain ⟨k, hk, rfl, hB, hB', hb⟩ := hrel
    by_cases hlt : k < 32
    · obtain ⟨g, o, rfl, hc⟩ := hv3 (by omega)
      have hc' := (bcell hB').1 _ (o + k) (cell_lt (hc k _ (bitsL_get x 32 k hlt)))
      rw [hc k _ (bitsL_get x 32 k hlt)] at hc'
      have hq : (k + (n % 32).toNat) % 32 < 32 := by omega
      have c0 := hb.cell ((k + (n % 32).toNat) % 32)
      have f0 := hb.frozen ((k + (n % 32).toNat) % 32)
      obtain ⟨u, hu⟩ : ∃ u, (bv (rotL x (n % 32).toNat k))[(k + (n % 32).toNat) % 32]? = some u := ⟨_, List.getElem?_eq_getElem (by simpa using hq)⟩
      rw [hu] at c0
      obtain ⟨q, hqq⟩ : ∃ q, q = (k + (n % 32).toNat) % 32 := ⟨_, rfl⟩
      rw [← hqq] at c0 f0 hq
      obtain ⟨t, ht⟩ : ∃ t, n.tmod 32 = t := ⟨_, rfl⟩
      obtain ⟨t1, t2, t3⟩ := tmod32 n
      rw [ht] at t1 t2 t3
      obtain ⟨s, hs⟩ : ∃ s, ((k : Int) + t).tmod 32 = s := ⟨_, rfl⟩
      obtain ⟨s1, s2, s3⟩ := tmod32 ((k : Int) + t)
      rw [hs] at s1 s2 s3
      have hsq : (s + 32) % 32 = (q : Int) := by omega
      have Hq := Lib.hid hqq
      clear hu hc hqq t3 s3
      go_wp2
      go_roundw
      case rel =>
        refine ⟨k + 1, by omega, by go_num, hB.setCell (hB1.size) _, hB'.setCell (by simp) _, ?_⟩
        rw [← rotL_set x _ k hm hlt, ← Hq.out]
        exact hb.set_ q _
      case measure => simp [intOf]; omega
    · obtain rfl : k = 32 := by omega
      have hs := Sl.of_blk (n := 32) (c := 32) hb (Nat.le_refl _) (by simp) (by unfold maxLen; omega)
      rw [List.take_of_length_le (by simp)] at hs
      clear hv3
      go_wp2_with fail
      refine (hof.out _ _ hs).mono ?_
      rintro e w2 ⟨rfl, rfl⟩
      rw [hol.out]
      have hlt2 := hTlt.out
      obtain ⟨y, hy⟩ : ∃ y, y = turn x (n % 32).toNat := ⟨_, rfl⟩
      rw [← hy] at hlt2 ⊢
      have hyI : (y : Int) ≤ 4294967295 := by omega
      have Hy := Lib.hid hy
      clear hy
      go_wp2
      go_ret
      exact ⟨by rw [← Hy.out]; rfl, hB⟩

end Go.Proofs.Ytlifpmglaoppoaa
