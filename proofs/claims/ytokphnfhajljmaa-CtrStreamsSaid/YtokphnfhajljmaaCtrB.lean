/- Contracts of package ctr: Stream. -/
import Derived.Test.YtokphnfhajljmaaCtrQ
import Derived.Test.YtokphnfhajljmaaOwn
set_option linter.unusedVariables false
set_option linter.unusedSimpArgs false
namespace Go.Proofs.Ytokphnfhajljmaa
open Go.RowKit
open Go.Proofs.PlainAes

/-- A new row of the call's own, and no error. -/
def RetOK (l : List Nat) (w : World) (e : Ending) (w' : World) : Prop := ∃ v, e = .returned (.tuple #[v, .int .i64 0]) ∧ w'.ownsRow w.heap.size 5 1 v l.length (bv l) ∧ Below w.heap.size w w'
set_option maxRecDepth 100000 in
set_option maxHeartbeats 2000000 in
theorem stream_any (k n : List Nat) (p m : Nat) (w : World) (hk : k.length = 32) (bk : Byt k) (hn : n.length = 12) (bn : Byt n) (hp : (p : Int) ≤ 65536) (hm : (m : Int) ≤ 65536) :
    Calls Try.prog 11 #[.agg (bv k).toArray, .agg (bv n).toArray, .int .i64 (p : Int), .int .i64 (m : Int)] w (RetOK (strm k n p m) w) := by
  obtain ⟨i0, hi, hz0, hz1, hz2⟩ := info_parts (P := Try.prog) (e := 5) (z := .int .u8 0) (size := 1) (bytes := 1) (by kernel_rfl)
  have hbk := Lib.hid (fun i w hi => block_any k n i w hk bk hn bn hi)
  have hstep := Lib.hid (fun q j => strm_block hk hn q j)
  have hpart := Lib.hid (fun j h => strm_part k n p m j h)
  have hkl := Lib.hid (show (bv k).length = 32 by simp [hk])
  have hnl := Lib.hid (show (bv n).length = 12 by simp [hn])
  have hsl := Lib.hid (fun i => show (bv (sblk k n i)).length = 16 by simp [sblk_length hk hn])
  have hmk : ∀ w, (Instr.makeSlice 32 (.int .i64 0) (.int .i64 ((m : Int) + 32))).run Try.prog w = .ok (.slice (some ⟨w.heap.size, 0, none⟩) 0 (m + 32)) (w.alloc (.cells (madeCells #[.int .u8 0] (m + 32)) 5)) := by
    intro w
    have := run_make (P := Try.prog) w 32 5 i0 (.int .u8 0) Try.underlying32 hi hz0 .i64 .i64 0 ((m : Int) + 32) (by omega) (by omega) (by rw [hz2]; omega) (by omega)
    rw [hz1, Nat.mul_one, show ((m : Int) + 32).toNat = m + 32 from by omega] at this
    exact this
  have q1 : (p : Int) % 16 = ((p % 16 : Nat) : Int) := by omega
  have q2 : (p : Int) / 16 = ((p / 16 : Nat) : Int) := by omega
  have hsk : ((p % 16 : Nat) : Int) ≤ 15 := by omega
  have hq : ((p / 16 : Nat) : Int) ≤ 4096 := by omega
  clear hk bk hn bn
  generalize hS : p % 16 = sk at *
  generalize hQ : p / 16 = q at *
  clear hS hQ
  go_enter Try.func11, Try.ntmps11
  go_wp2
  simp only [q1]
  go_loopw [10, 12] (fun s i wr => ∃ j g c : Nat, i = .int .u32 ((q : Int) + (j : Int)) ∧ s = .slice (some ⟨g, 0, none⟩) (16 * j) c ∧ 16 ≤ c ∧ 16 * j ≤ c ∧ c ≤ maxLen ∧ (16 * j : Int) ≤ (sk : Int) + m + 15 ∧
    wr.ownsRow (w.heap.size + 2) 5 1 s (16 * j) (bv (strm k n (16 * q) (16 * j))) ∧ Blk wr w.heap.size 28 (bv k) ∧ Blk wr (w.heap.size + 1) 30 (bv n) ∧ Below w.heap.size w wr) (fun _ i _ => 100000 - (intOf i).toNat)
  case atStart =>
    refine ⟨0, w.heap.size + 1 + 1, m + 32, by simp, rfl, by omega, by omega, by simp [maxLen]; omega, by omega, ?_, ?_, ?_, ?_⟩
    · have := World.ownsRow_made (base := w.heap.size + 2) (e := 5) (size := 1) ((w.alloc (.cells (bv k).toArray 28)).alloc (.cells (bv n).toArray 30)) (madeCells #[.int .u8 0] (m + 32)) (m + 32) (by simp) (by simp [maxLen]; omega) (by simp [madeCells])
      simpa [strm, mk, bv] using this
    · exact ((Blk.new_at (w := w) (t := 28) (cs := (bv k).toArray) rfl rfl).alloc _).alloc _
    · exact (Blk.new_at (w := w.alloc (.cells (bv k).toArray 28)) (t := 30) (cs := (bv n).toArray) (by simp) rfl).alloc _
    · exact (((Below.refl _ _).alloc (Nat.le_refl _) _).alloc (by simp) _).alloc (by simp; omega) _
  case round =>
    obtain ⟨j, g, c, rfl, rfl, hc1, hc2, hc3, hj, own, h4, h5, hB⟩ := hrel
    by_cases hlt : (16 * j : Int) < (sk : Int) + m
    · have hst := Lib.hid (hstep.out q j)
      have hsl := Lib.hid (hsl.out (q + j))
      have hbk := Lib.hid (fun w => hbk.out (q + j) w (by omega))
      have hLl : (strm k n (16 * q) (16 * j)).length = 16 * j := strm_length _ _ _ _
      generalize strm k n (16 * q) (16 * j) = L at *
      generalize sblk k n (q + j) = S at *
      have e1 : ((q + j : Nat) : Int) = (q : Int) + (j : Int) := by omega
      rw [e1] at hbk
      have own := Lib.hid own
      have hLl := Lib.hid hLl
      have hc := Lib.hid (And.intro hc1 (And.intro hc2 hc3))
      clear e1 hc1 hc2 hc3
      go_wp2_with (first
        | refine wpList_loadW rfl 28 (.tmp 4) rfl 32 arrK _ rfl 28 _ h4 hkl.out ?_
        | refine wpList_loadW rfl 30 (.tmp 5) rfl 12 arrN _ rfl 30 _ h5 hnl.out ?_
        | (go_at_call 22; refine (hbk.out _).mono ?_; rintro e w2 ⟨rfl, hB2⟩)
        | refine wpList_allocA rfl 55 rfl (bv (zeros 16)) (by kernel_rfl) ?_)
      intro w3 h3 hK3 hz3
      have hg3 : w.heap.size + 1 < w2.heap.size := by have := h5.lt; have := hB2.size; omega
      have hB3 : Below wr.heap.size wr w3 := hB2.trans (hK3.below hB2.size (by simp))
      have hg4 : wr.heap.size ≤ w2.heap.size := hB2.size
      clear hK3 hB2
      generalize w2.heap.size = g3 at *
      go_wp2_with (refine wpList_storeW rfl 55 (.tmp 13) (.tmp 47) rfl 16 arrB g3 rfl (bv S) rfl 55 _ h3 hsl.out (by simp) (ones_bv _) ?_)
      intro w4 h6 hK4
      have hB4 : Below wr.heap.size wr w4 := hB3.trans (hK4.below hB3.size (by simp; omega))
      have own4 := own_keep own.out hB4
      have sl4 : Sl w4 (.slice (some ⟨g3, 0, none⟩) 16 16) (bv S) := by
        have := Sl.of_blk (n := 16) (c := 16) h6 (Nat.le_refl _) (by rw [hsl.out]; exact Nat.le_refl _) (by unfold maxLen; omega)
        rwa [List.take_of_length_le (by rw [hsl.out]; exact Nat.le_refl _)] at this
      have h4' := h4.keep hB4
      have h5' := h5.keep hB4
      have hB5 := below_call hB hB.size hB4
      have hz4 : w.heap.size + 2 ≤ w4.heap.size := by have := h5'.lt; omega
      clear hK4 hB4 hB3 h3 own h4 h5 hB
      go_wp2_with (at_builtin; refine wpList_append_sl rfl (.tmp 48) (.tmp 49) 32 rfl (w.heap.size + 2) 5 i0 (.int .u8 0) 1 Try.underlying32 hi hz0 hz1 hz2 rfl _ _ _ rfl own4 _ (bv S) rfl sl4 (bv_oneCell S) ?_ ?_ hz4 ?_)
      · rw [hsl.out]; unfold maxLen; omega
      · rw [hsl.out]; omega
      intro v' w5 own5 gr5
      have hB6 := own_below (Below.refl (w.heap.size + 2) w4) gr5 own4 hz4
      rw [show S.length = 16 from by have := hsl.out; rwa [bv_length] at this, show bv L ++ bv S = bv (strm k n (16 * q) (16 * (j + 1))) from by rw [← hst.out]; simp [bv], show 16 * j + 16 = 16 * (j + 1) from by omega] at own5
      have h4 := h4'.below hB6 (by omega)
      have h5 := h5'.below hB6 (by omega)
      have hB := hB5.trans (hB6.mono (by omega))
      obtain ⟨g', c', rfl, f1, f2⟩ := own_form own5 (by omega)
      clear gr5 own4 h4' h5' hB5 hB6
      have own5 := Lib.hid own5
      go_wp2
      go_roundw
      case rel =>
        refine ⟨j + 1, g', c', ?_, rfl, by omega, f1, f2, by omega, own5.out, h4, h5, hB⟩
        go_num
      case measure => simp [intOf]; omega
    · have hpt := hpart.out j (by omega)
      have sl := own_part own sk m (by omega) hc3 hc2
      rw [show ((bv (strm k n (16 * q) (16 * j))).drop sk).take m = bv (strm k n p m) from by rw [← hpt]; simp [bv]] at sl
      have hcl := Lib.hid (clone_any ⟨g, sk, none⟩ m (c - sk) (strm k n p m) wr sl (by rw [strm_length]; omega))
      have hll : (strm k n p m).length = m := strm_length _ _ _ _
      have hll := Lib.hid hll
      clear hpt own sl
      generalize strm k n p m = T at *
      go_wp2_with fail
      refine hcl.out.mono ?_
      rintro e w6 ⟨v, rfl, own6, hB6⟩
      have own6 := Lib.hid (ownsRow_mono own6 hB.size)
      have hB7 := below_call hB hB.size hB6
      go_wp2
      go_returns
      exact ⟨v, rfl, own6.out, hB7⟩
end Go.Proofs.Ytokphnfhajljmaa
