/- Contracts of banyanref01's Put, Bits, Of, Num, Get, Narrow, Top. -/
import Derived.Test.YtdobeokljplkiaaBackW
import Derived.Test.YtdobeokljplkiaaNarrowW
set_option linter.unusedVariables false
set_option linter.unusedSimpArgs false
namespace Go.Proofs.Ytdobeokljplkiaa
open Go.RowKit

/-- A row that is filled from the right: from j on L's cells are laid, the rest holds z. -/
def fillr (L : List Value) (z : Value) (j : Nat) : List Value := List.replicate j z ++ L.drop j
theorem fillr_length (L : List Value) (z : Value) {j : Nat} (hj : j ≤ L.length) : (fillr L z j).length = L.length := by simp [fillr]; omega
theorem fillr_all (L : List Value) (z : Value) : fillr L z 0 = L := by simp [fillr]
theorem fillr_none (L : List Value) (z : Value) : fillr L z L.length = List.replicate L.length z := by simp [fillr]
theorem fillr_set (L : List Value) (z u : Value) {j : Nat} (hj : L[j]? = some u) : (fillr L z (j + 1)).set j u = fillr L z j := by
  have hl : j < L.length := (List.getElem?_eq_some_iff.1 hj).1
  apply List.ext_getElem?
  intro i
  rw [List.getElem?_set]
  unfold fillr
  by_cases h : j = i
  · subst h
    rw [if_pos rfl, if_pos (by simp; omega), List.getElem?_append_right (by simp)]
    simp [hj]
  · rw [if_neg h]
    by_cases h1 : i < j
    · rw [List.getElem?_append_left (by simp; omega), List.getElem?_append_left (by simp; omega)]
      simp [h1, show i < j + 1 from by omega]
    · rw [List.getElem?_append_right (by simp; omega), List.getElem?_append_right (by simp; omega)]
      simp only [List.length_replicate, List.getElem?_drop]
      congr 1; omega

/-- What both Puts answer. -/
def putE (x : Nat) (n : Int) : Int := if n < 0 ∨ 8 < n ∨ 0 < x / 2 ^ (8 * n.toNat) then 2 else 0
def putL (x : Nat) (n : Int) : List Nat := if n < 0 ∨ 8 < n ∨ 0 < x / 2 ^ (8 * n.toNat) then [] else putB x n.toNat
theorem putL_lt (x : Nat) (n : Int) : ∀ b ∈ putL x n, b < 256 := by
  unfold putL
  split
  · intro b hb; cases hb
  · exact putB_lt _ _

theorem put_any (x : Nat) (n : Int) (w : World) (hx : x < 18446744073709551616) (hn0 : -9223372036854775808 ≤ n) (hn1 : n ≤ 9223372036854775807) :
    Calls Try.prog 14 #[.int .u64 (x : Int), .int .i64 n] w (RetB (putL x n) (putE x n) w) := by
  by_cases h : n < 0 ∨ 8 < n ∨ 0 < x / 2 ^ (8 * n.toNat)
  · rw [putL, putE, if_pos h, if_pos h]
    have h' : n < 0 ∨ 8 < n ∨ (0 ≤ n ∧ n < 8 ∧ 0 < x / 2 ^ (8 * n.toNat)) := by
      rcases h with h | h | h
      · exact .inl h
      · exact .inr (.inl h)
      · by_cases h8 : n = 8
        · subst h8
          rw [Nat.div_eq_of_lt (by simpa using hx)] at h
          exact absurd h (by omega)
        · omega
    refine (put_bad x n w hx hn0 hn1 h').mono ?_
    rintro e w' ⟨rfl, rfl⟩
    exact ⟨_, rfl, Sl.nil_ w, Below.refl _ _⟩
  · rw [putL, putE, if_neg h, if_neg h]
    obtain ⟨m, rfl⟩ := Int.eq_ofNat_of_zero_le (show 0 ≤ n by omega)
    exact put_ok x m w hx (by omega) (Nat.eq_zero_of_not_pos fun h' => h (.inr (.inr (by simpa using h'))))

set_option maxHeartbeats 1000000 in
theorem rput_in (x n : Nat) (w : World) (hx : x < 18446744073709551616) (hn : n ≤ 8) (L : List Nat) (E : Int) (hy : Hid (0 < x / 2 ^ (8 * n) → L = [] ∧ E = 2)) (hno : Hid (¬ 0 < x / 2 ^ (8 * n) → L = putB x n ∧ E = 0)) :
    Calls Try.prog 19 #[.int .u64 (x : Int), .int .i64 (n : Int)] w (RetB L E w) := by
  have hmk := run_make_row' (P := Try.prog) 33 5 (.int .u8 0) 1 Try.underlying33 Try.info5 rfl .i64 .i64 n (by omega) (by omega)
  have hn8 : (n : Int) ≤ 8 := by omega
  have hxI : (x : Int) ≤ 18446744073709551615 := by omega
  go_enter Try.func19, Try.ntmps19
  go_wp2
  go_loopw [0, 7] (fun y i wr => ∃ (j : Nat) (z : Nat), j ≤ n ∧ i = .int .i64 ((j : Int) - 1) ∧ y = .int .u64 (z : Int) ∧ z ≤ 18446744073709551615 ∧ Hid (z = x / 2 ^ (8 * (n - j))) ∧ Below w.heap.size w wr ∧ Blk wr w.heap.size 5 (fillr (bv (putB x n)) (.int .u8 0) j)) (fun _ i _ => (intOf i + 1).toNat)
  case atStart =>
    refine ⟨n, x, Nat.le_refl _, rfl, rfl, by omega, by show _ = _; simp, (Below.refl _ _).alloc (Nat.le_refl _) _, ?_⟩
    have := Blk.new w 5 (madeCells #[.int .u8 0] n)
    rw [toList_madeCells_one] at this
    have e := fillr_none (bv (putB x n)) (.int .u8 0)
    simp only [bv_length, putB_length] at e
    rw [e]
    exact this
  case round =>
    obtain ⟨j, z, hj, rfl, rfl, hz, hzx, hB, hb⟩ := hrel
    by_cases h0 : j = 0
    · subst h0
      have hb' := hb
      rw [fillr_all] at hb'
      have hs := Sl.of_blk (n := n) (c := n) hb' (Nat.le_refl _) (by simp) (by unfold maxLen; omega)
      rw [List.take_of_length_le (by simp)] at hs
      have hz' : z = x / 2 ^ (8 * n) := hzx
      by_cases hz0 : 0 < (z : Int)
      · obtain ⟨rfl, rfl⟩ := hy.out (by omega)
        clear hb hb' hz' hs
        go_wp2
        go_ret2
        exact ⟨_, rfl, Sl.nil_ wr, hB⟩
      · obtain ⟨rfl, rfl⟩ := hno.out (by omega)
        clear hb hb' hz'
        go_wp2
        go_ret2
        exact ⟨_, rfl, hs, hB⟩
    · obtain ⟨m, rfl⟩ : ∃ m, j = m + 1 := ⟨j - 1, by omega⟩
      have c0 := hb.cell m
      have f0 := hb.frozen m
      obtain ⟨u, hu⟩ : ∃ u, (fillr (bv (putB x n)) (.int .u8 0) (m + 1))[m]? = some u := ⟨_, List.getElem?_eq_getElem (by rw [fillr_length _ _ (by simp; omega)]; simp; omega)⟩
      rw [hu] at c0
      clear hu
      have hp := putB_get x n m (by omega)
      have hz' : z = x / 2 ^ (8 * (n - (m + 1))) := hzx
      rw [show n - 1 - m = n - (m + 1) from by omega] at hp
      have e3 : ((x : Int) / 2 ^ (8 * (n - (m + 1)))) = (z : Int) := by rw [hz']; simp
      rw [e3] at hp
      have Hz := Lib.hid hz'
      have HP := Lib.hid hp
      clear hz' e3 hp
      go_wp2
      go_roundw
      case rel =>
        refine ⟨m, z / 256, by omega, by simp, by simp, by omega, ?_, hB.setCell (by simp) _, ?_⟩
        · show _ = _
          rw [Hz.out, Nat.div_div_eq_div_mul, show n - m = (n - (m + 1)) + 1 from by omega, show 8 * ((n - (m + 1)) + 1) = 8 * (n - (m + 1)) + 8 from by omega, Nat.pow_add]
        · rw [← fillr_set _ _ _ HP.out]
          exact hb.set_ m _
      case measure => simp [intOf]

theorem rput_any (x : Nat) (n : Int) (w : World) (hx : x < 18446744073709551616) (hn0 : -9223372036854775808 ≤ n) (hn1 : n ≤ 9223372036854775807) :
    Calls Try.prog 19 #[.int .u64 (x : Int), .int .i64 n] w (RetB (putL x n) (putE x n) w) := by
  by_cases c1 : n < 0
  · rw [putL, putE, if_pos (.inl c1), if_pos (.inl c1)]
    go_enter Try.func19, Try.ntmps19
    go_wp2
    go_ret2
    exact ⟨_, rfl, Sl.nil_ w, Below.refl _ _⟩
  · by_cases c2 : 8 < n
    · rw [putL, putE, if_pos (.inr (.inl c2)), if_pos (.inr (.inl c2))]
      go_enter Try.func19, Try.ntmps19
      go_wp2
      go_ret2
      exact ⟨_, rfl, Sl.nil_ w, Below.refl _ _⟩
    · obtain ⟨m, rfl⟩ := Int.eq_ofNat_of_zero_le (show 0 ≤ n by omega)
      refine rput_in x m w hx (by omega) _ _ (fun h => ?_) (fun h => ?_)
      · exact ⟨by rw [putL, if_pos (.inr (.inr h))], by rw [putE, if_pos (.inr (.inr h))]⟩
      · have : ¬ ((m : Int) < 0 ∨ 8 < (m : Int) ∨ 0 < x / 2 ^ (8 * (m : Int).toNat)) := by
          rintro (h1 | h1 | h1)
          · omega
          · omega
          · exact h h1
        exact ⟨by rw [putL, if_neg this]; rfl, by rw [putE, if_neg this]⟩

/-- A number's bits, the lowest first; bits' number. -/
def bitsL (x n : Nat) : List Nat := (List.range n).map fun i => x / 2 ^ i % 2
@[simp] theorem bitsL_length (x n : Nat) : (bitsL x n).length = n := by simp [bitsL]
theorem bitsL_get (x n k : Nat) (hk : k < n) : (bv (bitsL x n))[k]? = some (.int .u8 ((x : Int) / 2 ^ k % 2)) := by
  rw [bv_get]
  simp [bitsL, hk]
def ofL : List Nat → Nat
  | [] => 0
  | b :: l => ofL l * 2 + b

set_option maxHeartbeats 1000000 in
theorem bits_any (x n : Nat) (w : World) (hx : x < 18446744073709551616) (hn : n ≤ 281474976710656) :
    Calls Try.prog 33 #[.int .u64 (x : Int), .int .i64 (n : Int)] w fun e w' => ∃ v, e = .returned v ∧ Sl w' v (bv (bitsL x n)) ∧ Below w.heap.size w w' := by
  have hmk := run_make_row' (P := Try.prog) 33 5 (.int .u8 0) 1 Try.underlying33 Try.info5 rfl .i64 .i64 n (by omega) (by omega)
  have hn8 : (n : Int) ≤ 281474976710656 := by omega
  have hxI : (x : Int) ≤ 18446744073709551615 := by omega
  go_enter Try.func33, Try.ntmps33
  go_wp2
  go_loopw [0, 11] (fun y i wr => ∃ (k : Nat) (z : Nat), k ≤ n ∧ i = .int .i64 (k : Int) ∧ y = .int .u64 (z : Int) ∧ z ≤ 18446744073709551615 ∧ Hid (z = x / 2 ^ k) ∧ Below w.heap.size w wr ∧ Blk wr w.heap.size 5 (fill (bv (bitsL x n)) (.int .u8 0) k)) (fun _ i _ => n - (intOf i).toNat)
  case atStart =>
    refine ⟨0, x, Nat.zero_le _, rfl, rfl, by omega, by show _ = _; simp, (Below.refl _ _).alloc (Nat.le_refl _) _, ?_⟩
    have := Blk.new w 5 (madeCells #[.int .u8 0] n)
    rw [toList_madeCells_one] at this
    simpa [fill_zero] using this
  case round =>
    obtain ⟨k, z, hk, rfl, rfl, hz, hzx, hB, hb⟩ := hrel
    by_cases hlt : k < n
    · have c0 := hb.cell k
      have f0 := hb.frozen k
      obtain ⟨u, hu⟩ := fill_get (bv (bitsL x n)) (.int .u8 0) (k := k) (by simpa using hlt)
      rw [hu] at c0
      clear hu
      have hp := bitsL_get x n k hlt
      have hz' : z = x / 2 ^ k := hzx
      have e3 : ((x : Int) / 2 ^ k) = (z : Int) := by rw [hz']; simp
      rw [e3] at hp
      have Hz := Lib.hid hz'
      have HP := Lib.hid hp
      clear hz' e3 hp
      go_wp2
      go_roundw
      case rel =>
        refine ⟨k + 1, z / 2, by omega, by simp, by simp, by omega, ?_, hB.setCell (by simp) _, ?_⟩
        · show _ = _
          rw [Hz.out, Nat.div_div_eq_div_mul, Nat.pow_succ]
        · rw [← fill_set _ _ _ HP.out]
          exact hb.set_ k _
      case measure => simp [intOf]; omega
    · obtain rfl : k = n := by omega
      have e := fill_all (bv (bitsL x k)) (.int .u8 0)
      simp only [bv_length, bitsL_length] at e
      rw [e] at hb
      have hs := Sl.of_blk (n := k) (c := k) hb (Nat.le_refl _) (by simp) (by unfold maxLen; omega)
      rw [List.take_of_length_le (by simp)] at hs
      clear hb e
      go_wp2
      go_ret
      exact ⟨_, rfl, hs, hB⟩

theorem ofL_lt : ∀ (l : List Nat), (∀ b ∈ l, b ≤ 1) → ofL l < 2 ^ l.length
  | [], _ => by simp [ofL]
  | b :: l, h => by
    have h1 := ofL_lt l (fun c hc => h c (by simp [hc]))
    have h2 := h b (by simp)
    simp only [ofL, List.length_cons, Nat.pow_succ]
    omega
theorem drop_cons (l : List Nat) (j : Nat) (h : j < l.length) : ofL (l.drop j) = ofL (l.drop (j + 1)) * 2 + l[j] := by
  rw [List.drop_eq_getElem_cons h, ofL]

set_option maxHeartbeats 1000000 in
theorem of_core (A : Option Addr) (c : Nat) (l : List Nat) (w : World) (h3 : 0 < (bv l).length → ∃ g o, A = some ⟨g, o, none⟩ ∧ ∀ i u, (bv l)[i]? = some u → w.cell? ⟨g, o + i, none⟩ = some u) (hl : ∀ b ∈ l, b ≤ 1) (hn : l.length ≤ 63) :
    Calls Try.prog 34 #[.slice A l.length c] w fun e w' => e = .returned (.int .u64 (ofL l : Nat)) ∧ w = w' := by
  have hnI : (l.length : Int) ≤ 63 := by omega
  go_enter Try.func34, Try.ntmps34
  go_wp2
  go_loop [3, 4] (fun x i => ∃ (j z : Nat), j ≤ l.length ∧ i = .int .i64 ((j : Int) - 1) ∧ x = .int .u64 (z : Int) ∧ Hid (z = ofL (l.drop j))) (fun _ i => (intOf i + 1).toNat)
  case atStart => exact ⟨l.length, 0, Nat.le_refl _, by simp, rfl, by show _ = _; simp [ofL]⟩
  case round =>
    obtain ⟨j, z, hj, rfl, rfl, hz⟩ := hrel
    by_cases h0 : j = 0
    · subst h0
      clear h3
      go_wp2
      go_ret
      refine ⟨?_, rfl⟩
      have hz' : z = ofL (l.drop 0) := hz
      rw [List.drop_zero] at hz'
      rw [← hz']
      rfl
    · obtain ⟨m, rfl⟩ : ∃ m, j = m + 1 := ⟨j - 1, by omega⟩
      obtain ⟨g, o, rfl, hc⟩ := h3 (by simp; omega)
      have hml : m < l.length := by omega
      have hc' := hc m (.int .u8 ((l[m] : Nat) : Int)) (by rw [bv_get, List.getElem?_eq_getElem hml]; rfl)
      have hb := hl l[m] (List.getElem_mem hml)
      have hlt := ofL_lt (l.drop (m + 1)) (fun b hb => hl b (List.mem_of_mem_drop hb))
      have hz' : z = ofL (l.drop (m + 1)) := hz
      rw [← hz'] at hlt
      have hpp : (2 : Nat) ^ (l.drop (m + 1)).length ≤ 2 ^ 62 := Nat.pow_le_pow_right (by omega) (by simp; omega)
      have hz2 : (z : Int) ≤ 4611686018427387904 := by omega
      have hdc := drop_cons l m hml
      rw [← hz'] at hdc
      have HD := Lib.hid hdc
      clear hdc hz' hlt hpp hz hc h3 hl
      generalize l[m] = cc at *
      have hb' : (cc : Int) ≤ 1 := by omega
      go_wp2
      go_round
      case rel => exact ⟨m, z * 2 + cc, by omega, by simp, by simp, HD.out.symm⟩
      case measure => simp [intOf]

theorem of_any (v : Value) (l : List Nat) (w : World) (h : Sl w v (bv l)) (hl : ∀ b ∈ l, b ≤ 1) (hn : l.length ≤ 63) :
    Calls Try.prog 34 #[v] w fun e w' => e = .returned (.int .u64 (ofL l : Nat)) ∧ w = w' := by
  obtain ⟨A, c, rfl, h1, h2, h3⟩ := h
  rw [bv_length]
  exact of_core A c l w h3 hl hn

/-! ### Num, Get, Narrow, Top -/
set_option maxHeartbeats 1000000 in
theorem rnum_core (A : Option Addr) (c : Nat) (l : List Nat) (w : World) (h3 : 0 < (bv l).length → ∃ g o, A = some ⟨g, o, none⟩ ∧ ∀ i u, (bv l)[i]? = some u → w.cell? ⟨g, o + i, none⟩ = some u) (hl : ∀ b ∈ l, b < 256) (hn : l.length ≤ 8) :
    Calls Try.prog 32 #[.slice A l.length c] w fun e w' => e = .returned (.int .u64 (num l : Nat)) ∧ w = w' := by
  have hnI : (l.length : Int) ≤ 8 := by omega
  go_enter Try.func32, Try.ntmps32
  go_wp2
  go_loop [3, 8] (fun x i => ∃ (k : Nat) (y : Int), k ≤ l.length ∧ i = .int .i64 k ∧ x = .int .u64 y ∧ Hid (y = (num (l.take k) : Nat))) (fun _ i => l.length - (intOf i).toNat)
  case atStart => exact ⟨0, 0, Nat.zero_le _, rfl, rfl, rfl⟩
  case round =>
    obtain ⟨k, y, hk, rfl, rfl, hy⟩ := hrel
    by_cases hlt : k < l.length
    · obtain ⟨g, o, rfl, hc⟩ := h3 (by simp; omega)
      have hc' := hc k (.int .u8 ((l[k] : Nat) : Int)) (by rw [bv_get, List.getElem?_eq_getElem hlt]; rfl)
      have hb := hl l[k] (List.getElem_mem hlt)
      have hlt' := num_lt (l.take k) (fun b hb => hl b (List.mem_of_mem_take hb))
      rw [List.length_take, Nat.min_eq_left hk] at hlt'
      have hp : (256 : Nat) ^ k ≤ 256 ^ 7 := Nat.pow_le_pow_right (by omega) (by omega)
      have hsn := num_snoc (l.take k) l[k]
      rw [← take_snoc l k hlt] at hsn
      generalize hz : num (l.take k) = z at *
      obtain rfl : y = (z : Int) := hy
      have hz2 : (z : Int) ≤ 72057594037927935 := by omega
      have HS := Lib.hid hsn
      clear hsn hz hlt' hp h3
      generalize hcc : l[k] = cc at *
      have hb' : (cc : Int) < 256 := by omega
      have HC := Lib.hid hcc
      clear hcc hc hl
      go_wp2
      go_round
      case rel => exact ⟨k + 1, (z : Int) * 256 + cc, by omega, by go_num, rfl, by show _ = _; rw [HS.out]; simp⟩
      case measure => simp [intOf]; omega
    · obtain rfl : k = l.length := by omega
      clear h3
      go_wp2
      go_ret
      refine ⟨?_, rfl⟩
      have := hy.out
      rw [List.take_length] at this
      rw [← this]
      rfl

/-- What both Gets answer. -/
def getE (l : List Nat) : Int := if 8 < l.length then 2 else 0
def getR (l : List Nat) : Nat := if 8 < l.length then 0 else num l
theorem get_any (v : Value) (l : List Nat) (w : World) (h : Sl w v (bv l)) (hl : ∀ b ∈ l, b < 256) :
    Calls Try.prog 15 #[v] w fun e w' => e = .returned (.tuple #[.int .u64 (getR l : Nat), .int .i64 (getE l)]) ∧ w = w' := by
  by_cases hn : 8 < l.length
  · rw [getR, getE, if_pos hn, if_pos hn]
    exact get_bad v l w h hn
  · rw [getR, getE, if_neg hn, if_neg hn]
    exact get_ok v l w h hl (by omega)
theorem rget_any (v : Value) (l : List Nat) (w : World) (h : Sl w v (bv l)) (hl : ∀ b ∈ l, b < 256) :
    Calls Try.prog 20 #[v] w fun e w' => e = .returned (.tuple #[.int .u64 (getR l : Nat), .int .i64 (getE l)]) ∧ w = w' := by
  obtain ⟨A, c, rfl, h1, h2, h3⟩ := h
  rw [bv_length]
  by_cases hn : 8 < l.length
  · rw [getR, getE, if_pos hn, if_pos hn]
    have hnI : (8 : Int) < l.length := by omega
    clear h1 h2 h3
    generalize l.length = n at *
    go_enter Try.func20, Try.ntmps20
    go_wp2
    go_ret2
    exact ⟨rfl, rfl⟩
  · rw [getR, getE, if_neg hn, if_neg hn]
    have hnI : ¬ (8 : Int) < l.length := by omega
    have hc := Lib.hid (fun W h => rnum_core A c l W h hl (by omega))
    have H3 := Lib.hid h3
    clear h1 h2 h3
    go_enter Try.func20, Try.ntmps20
    go_wp2_with fail
    refine (hc.out _ H3.out).mono ?_
    rintro e w1 ⟨rfl, rfl⟩
    go_wp2
    go_ret2
    exact ⟨rfl, rfl⟩

/-- What both Narrows answer. -/
def narE (x n : Int) : Int := if n < 0 ∨ 63 < n ∨ x < 0 ∨ 0 < x / 2 ^ n.toNat then 2 else 0
def narR (x n : Int) : Int := if n < 0 ∨ 63 < n ∨ x < 0 ∨ 0 < x / 2 ^ n.toNat then 0 else x
theorem narrow_any (x n : Int) (w : World) (hx0 : -9223372036854775808 ≤ x) (hx : x ≤ 9223372036854775807) (hn0 : -9223372036854775808 ≤ n) (hn : n ≤ 9223372036854775807) :
    Calls Try.prog 17 #[.int .i64 x, .int .i64 n] w fun e w' => e = .returned (.tuple #[.int .u64 (narR x n), .int .i64 (narE x n)]) ∧ w = w' := by
  by_cases h : n < 0 ∨ 63 < n ∨ x < 0 ∨ 0 < x / 2 ^ n.toNat
  · rw [narR, narE, if_pos h, if_pos h]
    exact narrow_bad x n w hx0 hx hn0 hn h
  · rw [narR, narE, if_neg h, if_neg h]
    obtain ⟨y, rfl⟩ := Int.eq_ofNat_of_zero_le (show 0 ≤ x by omega)
    obtain ⟨m, rfl⟩ := Int.eq_ofNat_of_zero_le (show 0 ≤ n by omega)
    refine narrow_ok y m w (by omega) (by omega) (Nat.eq_zero_of_not_pos fun h' => h (.inr (.inr (.inr ?_))))
    have h2 : (0 : Int) < ((y / 2 ^ m : Nat) : Int) := by omega
    simpa using h2

set_option maxHeartbeats 1000000 in
theorem rnarrow_in (x n : Nat) (w : World) (hx : x ≤ 9223372036854775807) (hn : n ≤ 63) (R E : Int) (hy : Hid (0 < x / 2 ^ n → R = 0 ∧ E = 2)) (hno : Hid (¬ 0 < x / 2 ^ n → R = x ∧ E = 0)) :
    Calls Try.prog 21 #[.int .i64 (x : Int), .int .i64 (n : Int)] w fun e w' => e = .returned (.tuple #[.int .u64 R, .int .i64 E]) ∧ w = w' := by
  have hnI : (n : Int) ≤ 63 := by omega
  have hxI : (x : Int) ≤ 9223372036854775807 := by omega
  go_enter Try.func21, Try.ntmps21
  go_wp2
  go_loop [6, 7] (fun y i => ∃ (k z : Nat), k ≤ n ∧ i = .int .i64 (k : Int) ∧ y = .int .i64 (z : Int) ∧ z ≤ 9223372036854775807 ∧ Hid (z = x / 2 ^ k)) (fun _ i => n - (intOf i).toNat)
  case atStart => exact ⟨0, x, Nat.zero_le _, rfl, rfl, by omega, by show _ = _; simp⟩
  case round =>
    obtain ⟨k, z, hk, rfl, rfl, hz, hzx⟩ := hrel
    have hzI : (z : Int) ≤ 9223372036854775807 := by omega
    by_cases hlt : k < n
    · go_wp2
      go_round
      case rel =>
        refine ⟨k + 1, z / 2, by omega, by simp, by simp, by omega, ?_⟩
        show _ = _
        rw [hzx.out, Nat.div_div_eq_div_mul, Nat.pow_succ]
      case measure => simp [intOf]; omega
    · obtain rfl : k = n := by omega
      have hz' := hzx.out
      by_cases hz0 : 0 < (z : Int)
      · obtain ⟨rfl, rfl⟩ := hy.out (by omega)
        clear hz'
        go_wp2
        go_ret2
        exact ⟨rfl, rfl⟩
      · obtain ⟨rfl, rfl⟩ := hno.out (by omega)
        clear hz'
        go_wp2
        go_ret2
        exact ⟨rfl, rfl⟩
theorem rnarrow_any (x n : Int) (w : World) (hx0 : -9223372036854775808 ≤ x) (hx : x ≤ 9223372036854775807) (hn0 : -9223372036854775808 ≤ n) (hn : n ≤ 9223372036854775807) :
    Calls Try.prog 21 #[.int .i64 x, .int .i64 n] w fun e w' => e = .returned (.tuple #[.int .u64 (narR x n), .int .i64 (narE x n)]) ∧ w = w' := by
  by_cases c1 : n < 0
  · rw [narR, narE, if_pos (.inl c1), if_pos (.inl c1)]
    go_enter Try.func21, Try.ntmps21
    go_wp2
    go_ret2
    exact ⟨rfl, rfl⟩
  · by_cases c2 : 63 < n
    · rw [narR, narE, if_pos (.inr (.inl c2)), if_pos (.inr (.inl c2))]
      go_enter Try.func21, Try.ntmps21
      go_wp2
      go_ret2
      exact ⟨rfl, rfl⟩
    · by_cases c3 : x < 0
      · rw [narR, narE, if_pos (.inr (.inr (.inl c3))), if_pos (.inr (.inr (.inl c3)))]
        go_enter Try.func21, Try.ntmps21
        go_wp2
        go_ret2
        exact ⟨rfl, rfl⟩
      · obtain ⟨y, rfl⟩ := Int.eq_ofNat_of_zero_le (show 0 ≤ x by omega)
        obtain ⟨m, rfl⟩ := Int.eq_ofNat_of_zero_le (show 0 ≤ n by omega)
        have e : (0 < y / 2 ^ m) ↔ (0 < (y : Int) / 2 ^ (m : Int).toNat) := by
          have : ((y / 2 ^ m : Nat) : Int) = (y : Int) / 2 ^ (m : Int).toNat := by simp
          rw [← this]; omega
        refine rnarrow_in y m w (by omega) (by omega) _ _ (fun h => ?_) (fun h => ?_)
        · have h' : (m : Int) < 0 ∨ 63 < (m : Int) ∨ (y : Int) < 0 ∨ 0 < (y : Int) / 2 ^ (m : Int).toNat := Or.inr (Or.inr (Or.inr (e.1 h)))
          exact ⟨by rw [narR, if_pos h'], by rw [narE, if_pos h']⟩
        · have h' : ¬ ((m : Int) < 0 ∨ 63 < (m : Int) ∨ (y : Int) < 0 ∨ 0 < (y : Int) / 2 ^ (m : Int).toNat) := by
            rintro (h1 | h1 | h1 | h1)
            · exact c1 h1
            · exact c2 h1
            · exact c3 h1
            · exact h (e.2 h1)
          exact ⟨by rw [narR, if_neg h'], by rw [narE, if_neg h']⟩

theorem bitLen_half {x : Nat} (hx : x < 18446744073709551616) (h : 0 < x) : Lib.bitLen x = Lib.bitLen (x / 2) + 1 := by
  apply Nat.le_antisymm
  · rw [bitLen_le_iff hx, Nat.pow_succ]
    have := (bitLen_le_iff (x := x / 2) (n := Lib.bitLen (x / 2)) (by omega)).1 (Nat.le_refl _)
    omega
  · have h1 := (bitLen_le_iff (x := x) (n := Lib.bitLen x) hx).1 (Nat.le_refl _)
    have h2 : 0 < Lib.bitLen x := by
      rcases Nat.eq_zero_or_pos (Lib.bitLen x) with h0 | h0
      · rw [h0] at h1; omega
      · exact h0
    have h3 : Lib.bitLen (x / 2) ≤ Lib.bitLen x - 1 := by
      rw [bitLen_le_iff (by omega)]
      have : 2 ^ Lib.bitLen x = 2 ^ (Lib.bitLen x - 1) * 2 := by rw [← Nat.pow_succ]; congr 1; omega
      omega
    omega

set_option maxHeartbeats 1000000 in
theorem rtop_any (x : Nat) (w : World) (hx : x < 18446744073709551616) :
    Calls Try.prog 23 #[.int .u64 (x : Int)] w fun e w' => e = .returned (.int .i64 ((Lib.bitLen x : Nat) - 1)) ∧ w = w' := by
  have hl : Lib.bitLen x ≤ 64 := (bitLen_le_iff hx).2 (by simpa using hx)
  obtain ⟨b, hb⟩ : ∃ b, b = Lib.bitLen x := ⟨_, rfl⟩
  rw [← hb] at hl ⊢
  have Hb := Lib.hid hb
  clear hb
  go_enter Try.func23, Try.ntmps23
  go_wp2
  go_loop [0, 3] (fun y i => ∃ (k z : Nat), k ≤ b ∧ i = .int .i64 ((k : Int) - 1) ∧ y = .int .u64 (z : Int) ∧ z ≤ 18446744073709551615 ∧ Hid (k + Lib.bitLen z = b)) (fun _ i => b - (intOf i + 1).toNat)
  case atStart => exact ⟨0, x, Nat.zero_le _, rfl, rfl, by omega, by show _ = _; rw [Hb.out]; simp⟩
  case round =>
    obtain ⟨k, z, hk, rfl, rfl, hz, hkz⟩ := hrel
    have hzI : (z : Int) ≤ 18446744073709551615 := by omega
    by_cases hz0 : 0 < z
    · have h1 := hkz.out
      rw [bitLen_half (by omega) hz0] at h1
      have hkb : k < b := by omega
      have H1 := Lib.hid h1
      clear h1
      go_wp2
      go_round
      case rel => exact ⟨k + 1, z / 2, by omega, by simp, by simp, by omega, by show _ = _; have := H1.out; omega⟩
      case measure => simp [intOf]; omega
    · obtain rfl : z = 0 := by omega
      have h1 := hkz.out
      have h2 : Lib.bitLen 0 = 0 := by decide
      rw [h2] at h1
      obtain rfl : k = b := by omega
      clear h1
      go_wp2
      go_ret
      exact ⟨rfl, rfl⟩
end Go.Proofs.Ytdobeokljplkiaa
