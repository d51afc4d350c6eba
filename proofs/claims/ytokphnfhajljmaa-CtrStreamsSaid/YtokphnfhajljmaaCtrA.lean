/- Contracts of package ctr: put32, block; of slices.Clone, banyanref01.Same. -/
import Derived.Test.YtokphnfhajljmaaCtrP
import Derived.Test.YtokphnfhajljmaaClo
set_option linter.unusedVariables false
set_option linter.unusedSimpArgs false
namespace Go.Proofs.Ytokphnfhajljmaa
open Go.RowKit
open Go.Proofs.PlainAes

theorem put32_row (b m : List Nat) (o : Nat) (hm : m.length = 4) (ho : o + 4 ≤ b.length) : (b.take o ++ m ++ b.drop (o + 4)).length = b.length := by simp [hm]; omega
theorem put32_get (b m : List Nat) (o j : Nat) (hm : m.length = 4) (ho : o + 4 ≤ b.length) (hj : j < 4) : (b.take o ++ m ++ b.drop (o + 4))[o + j]? = m[j]? := by
  rw [List.getElem?_append_left (by simp [hm]; omega), List.getElem?_append_right (by simp; omega)]
  congr 1
  simp
  omega
theorem put32_start (b m : List Nat) (o : Nat) (hm : m.length = 4) (ho : o + 4 ≤ b.length) : upd (b.take o ++ m ++ b.drop (o + 4)) b o = b := by
  unfold upd
  rw [List.append_assoc, List.take_append_of_le_length (by simp; omega)]
  simp [List.take_take]
theorem put32_end (b m : List Nat) (o : Nat) (hm : m.length = 4) (ho : o + 4 ≤ b.length) : upd (b.take o ++ m ++ b.drop (o + 4)) b (o + 4) = b.take o ++ m ++ b.drop (o + 4) := by
  unfold upd
  have h : (b.take o ++ m).length = o + 4 := by simp [hm]; omega
  rw [List.take_append_of_le_length (by omega), List.take_of_length_le (by omega)]

set_option maxHeartbeats 1000000 in
theorem put32_at (g t o c : Nat) (b : List Nat) (x : Nat) (w : World) (n : Nat) (hn : 4 ≤ n) (hb : Blk w g t (bv b)) (ho : o + 4 ≤ b.length) (hx : (x : Int) ≤ 4294967295) :
    Calls Try.prog 21 #[.slice (some ⟨g, o, none⟩) n c, .int .u32 (x : Int)] w fun e w' => (∃ r, e = .returned r) ∧ Blk w' g t (bv (b.take o ++ be4 x ++ b.drop (o + 4))) ∧ Keeps [g] w w' := by
  obtain ⟨m, hm⟩ : ∃ m, m = be4 x := ⟨_, rfl⟩
  have hml : m.length = 4 := by rw [hm]; rfl
  have e0 := put32_start b m o hml ho
  have e4 := put32_end b m o hml ho
  have el := put32_row b m o hml ho
  have hget := fun j hj => put32_get b m o j hml ho hj
  rw [← hm]
  generalize b.take o ++ m ++ b.drop (o + 4) = B at *
  have e0 := Lib.hid e0
  have e4 := Lib.hid e4
  have el := Lib.hid el
  have hget := Lib.hid hget
  have hmh := Lib.hid hm
  have hnI : (4 : Int) ≤ n := by omega
  have ho := Lib.hid ho
  clear hm hml
  go_enter Try.func21, Try.ntmps21
  go_wp2
  go_loopw [5] (fun i wr => ∃ k : Nat, k ≤ 4 ∧ i = .int .i64 (k : Int) ∧ Blk wr g t (bv (upd B b (o + k))) ∧ Keeps [g] w wr) (fun i _ => (4 - intOf i).toNat)
  case atStart => exact ⟨0, by omega, rfl, by rw [Nat.add_zero, e0.out]; exact hb, Keeps.refl _ _⟩
  case round =>
    clear hb
    obtain ⟨k, hk, rfl, hb, hK⟩ := hrel
    by_cases hlt : (k : Int) < 4
    · have c0 := hb.cell (o + k)
      rw [bv_get, upd_get el.out (Nat.le_refl _) (by have := ho.out; omega), gd_get (by have := ho.out; omega)] at c0
      simp only [Option.map_some] at c0
      have f0 := hb.frozen (o + k)
      have hs := upd_set (new := B) (old := b) (k := o + k) el.out (by have := ho.out; omega) ((hget.out k (by omega)).trans (by rw [hmh.out]; exact gd_get (by simp; omega)))
      have HS := Lib.hid hs
      clear hs
      rcases (by omega : k = 0 ∨ k = 1 ∨ k = 2 ∨ k = 3) with rfl | rfl | rfl | rfl
      · simp only [Nat.add_zero] at c0 f0 HS hb
        go_wp2
        go_roundw
        case rel =>
          refine ⟨1, by omega, by go_num, ?_, hK.setCell (by simp) _⟩
          have h := hb.set_ o (.int .u8 ((x / 16777216 % 256 : Nat) : Int))
          rw [bv_set] at h
          have h2 := HS.out
          simp only [be4, gd, List.getD_cons_zero, List.getD_cons_succ] at h2
          rw [h2] at h
          rw [show (x : Int) / 16777216 = ((x / 16777216 % 256 : Nat) : Int) from by omega]
          exact h
        case measure => simp [intOf]
      · skip
        go_wp2
        go_roundw
        case rel =>
          refine ⟨2, by omega, by go_num, ?_, hK.setCell (by simp) _⟩
          have h := hb.set_ (o + 1) (.int .u8 ((x / 65536 % 256 : Nat) : Int))
          rw [bv_set] at h
          have h2 := HS.out
          simp only [be4, gd, List.getD_cons_zero, List.getD_cons_succ] at h2
          rw [h2] at h
          rw [show (x : Int) / 65536 % 256 = ((x / 65536 % 256 : Nat) : Int) from by omega]
          exact h
        case measure => simp [intOf]
      · skip
        go_wp2
        go_roundw
        case rel =>
          refine ⟨3, by omega, by go_num, ?_, hK.setCell (by simp) _⟩
          have h := hb.set_ (o + 2) (.int .u8 ((x / 256 % 256 : Nat) : Int))
          rw [bv_set] at h
          have h2 := HS.out
          simp only [be4, gd, List.getD_cons_zero, List.getD_cons_succ] at h2
          rw [h2] at h
          rw [show (x : Int) / 256 % 256 = ((x / 256 % 256 : Nat) : Int) from by omega]
          exact h
        case measure => simp [intOf]
      · skip
        go_wp2
        go_roundw
        case rel =>
          refine ⟨4, by omega, by go_num, ?_, hK.setCell (by simp) _⟩
          have h := hb.set_ (o + 3) (.int .u8 ((x % 256 : Nat) : Int))
          rw [bv_set] at h
          have h2 := HS.out
          simp only [be4, gd, List.getD_cons_zero, List.getD_cons_succ] at h2
          rw [h2] at h
          rw [show (x : Int) % 256 = ((x % 256 : Nat) : Int) from by omega]
          exact h
        case measure => simp [intOf]
    · obtain rfl : k = 4 := by omega
      rw [e4.out] at hb
      go_wp2
      exact bodyPost_end (results_none Try.results21 _ _ _) rfl ⟨⟨_, rfl⟩, hb, hK⟩
/-! ### block -/
theorem put_lo (n : List Nat) (hn : n.length = 12) : putL (bv (zeros 16)) 0 (bv n) = bv (n ++ zeros 4) := by
  rw [putL_bv]
  simp [zeros, hn]
theorem put_hi (n : List Nat) (hn : n.length = 12) (i : Nat) : (n ++ zeros 4).take 12 ++ be4 i ++ (n ++ zeros 4).drop (12 + 4) = nblk n i := by
  simp [nblk, zeros, hn, List.take_append, List.drop_append]
theorem arrN : ArrTy Try.prog 30 12 := ⟨_, Try.underlying30, rfl, by kernel_rfl⟩
theorem nblk_length {n : List Nat} (hn : n.length = 12) (i : Nat) : (nblk n i).length = 16 := by simp [nblk, hn]
theorem nblk_byt {n : List Nat} (bn : Byt n) (i : Nat) : Byt (nblk n i) := by
  intro x hx
  rcases List.mem_append.1 hx with h | h
  · exact bn x h
  · exact be4_byt i x h

set_option maxRecDepth 100000 in
set_option maxHeartbeats 1000000 in
theorem block_any (k n : List Nat) (i : Nat) (w : World) (hk : k.length = 32) (bk : Byt k) (hn : n.length = 12) (bn : Byt n) (hi : (i : Int) ≤ 4294967295) :
    Calls Try.prog 22 #[.agg (bv n).toArray, .agg (bv k).toArray, .int .u32 (i : Int)] w (RetA (sblk k n i) w) := by
  have hse := Lib.hid (fun w => seal_any k (nblk n i) w hk bk (nblk_length hn i) (nblk_byt bn i))
  have hpu := Lib.hid (fun g w h => put32_at g 55 12 4 (n ++ zeros 4) i w 4 (by decide) h (by simp [hn]) hi)
  have hkl := Lib.hid (show (bv k).length = 32 by simp [hk])
  have hnl := Lib.hid (show (bv n).length = 12 by simp [hn])
  have hlo := Lib.hid (put_lo n hn)
  have hhi := put_hi n hn i
  simp only [hhi] at hpu
  have hbl := Lib.hid (show (bv (nblk n i)).length = 16 by simp [nblk_length hn])
  have hsl := Lib.hid (show (bv (sblk k n i)).length = 16 by simp [sblk, sealB_length (keys_length box hk) (nblk_length hn i)])
  change Hid (∀ w, Calls _ _ _ w (RetA (sblk k n i) w)) at hse
  clear hk bk hn bn hhi
  generalize sblk k n i = S at *
  generalize nblk n i = b at *
  go_enter Try.func22, Try.ntmps22
  go_wp2_with (refine wpList_allocA rfl 55 rfl (bv (zeros 16)) (by kernel_rfl) ?_)
  intro w1 h1 hK1 hz1
  have h3 := ((Blk.new_at (w := w) (t := 30) (cs := (bv n).toArray) rfl rfl).alloc (.cells (bv k).toArray 28)).keeps hK1 (by simp)
  have h4 := (Blk.new_at (w := w.alloc (.cells (bv n).toArray 30)) (t := 28) (cs := (bv k).toArray) rfl rfl).keeps hK1 (by simp)
  simp only [List.size_toArray, World.size_alloc] at h3 h4
  have hB : Below w.heap.size w w1 := (((Below.refl _ _).alloc (Nat.le_refl _) _).alloc (by simp) _).trans (hK1.below (by simp; omega) (by simp))
  clear hK1
  go_wp2_with (refine wpList_allocA rfl 55 rfl (bv (zeros 16)) (by kernel_rfl) ?_)
  intro w2 h2 hK2 hz2
  have h1 := h1.keeps hK2 (by simp)
  have h3 := h3.keeps hK2 (by simp)
  have h4 := h4.keeps hK2 (by simp)
  have hB := hB.trans (hK2.below hB.size (by simp))
  clear hK2
  go_wp2
  go_still_tail 2, (by kernel_rfl)
  go_wp2_with (refine wpList_copyA rfl (.tmp 8) (.tmp 9) 32 32 rfl 5 Try.underlying32 (by kernel_rfl) (w.heap.size + 1 + 1 + 1) _ _ _ rfl ⟨w.heap.size, 0, none⟩ _ _ rfl 55 _ h2 (bv n) ?_ ?_ ?_ (ones_bv _) ?_)
  · rw [hnl.out]; rfl
  · intro j v hj
    have := h3.cellAdd 0 j
    rw [Nat.zero_add] at this
    exact this.trans hj
  · simp only [hnl.out, bv_length, zeros_length]; decide
  intro w3 h2' hK3
  rw [hlo.out] at h2'
  have h1 := h1.drew.keeps hK3 (by simp)
  have h4 := h4.drew.keeps hK3 (by simp)
  have hB := hB.drew.trans (hK3.below hB.drew.size (by simp; omega))
  clear hK3 h2 h3 hlo
  go_wp2_with (first
    | (go_at_call 21; refine (hpu.out _ _ h2').mono ?_; rintro e w4 ⟨⟨r, rfl⟩, h5, hK4⟩)
    | refine wpList_loadW rfl 28 (.tmp 4) rfl 32 arrK _ rfl 28 _ (h4.keeps hK4 (by simp)) hkl.out ?_
    | refine wpList_loadW rfl 55 (.tmp 7) rfl 16 arrB _ rfl 55 _ h5 hbl.out ?_
    | (go_at_call 20; refine (hse.out _).mono ?_; rintro e w5 ⟨rfl, hB5⟩)
    | refine wpList_storeW rfl 55 (.tmp 6) (.tmp 16) rfl 16 arrB _ rfl (bv S) rfl 55 _ ((h1.keeps hK4 (by simp)).keep hB5) hsl.out (by simp) (ones_bv _) ?_)
  intro w6 h6 hK6
  go_wp2
  exact bodyPost_ret (v := .agg (bv S).toArray) (res_cell Try.results22 _ _ _ 55 _ arrB hsl.out rfl h6) rfl ⟨rfl, (below_call (hB.trans (hK4.below hB.size (by simp; omega))) (by have := hB.size; have := hK4.size; omega) hB5).trans (hK6.below (by have := hB.size; have := hK4.size; have := hB5.size; omega) (by simp; omega))⟩
end Go.Proofs.Ytokphnfhajljmaa