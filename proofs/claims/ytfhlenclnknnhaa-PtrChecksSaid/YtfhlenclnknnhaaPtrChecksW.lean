/- The walk of PtrChecks. -/
import Derived.Test.YtfhlenclnknnhaaPtL
import Derived.Test.YtfhlenclnknnhaaEqH
import Derived.Deep.Cut
set_option linter.unusedVariables false
set_option linter.unusedSimpArgs false
namespace Go.Proofs.PlainPtr
theorem chkP_four {p : PtrD} {n : Int} (h : chkP p n ≠ 0) : chkP p n = 4 := by
  unfold chkP at h ⊢
  split
  · split
    · rename_i h1 h2; rw [if_pos h1, if_pos h2] at h; exact absurd rfl h
    · rfl
  · split
    · rename_i h1 h2; rw [if_neg h1, if_pos h2] at h; exact absurd rfl h
    · rfl
theorem chkP_in {p : PtrD} {n : Int} (h : chkP p n = 0) (hz : p ≠ pz) : p.a ≠ 0 ∧ 2 ≤ p.a ∧ (p.a : Int) < n ∧ 0 < p.b := by
  unfold chkP at h
  split at h
  · exact absurd h (by simp [hz])
  · rename_i h1
    split at h
    · rename_i h2; exact ⟨h1, h2⟩
    · cases h
theorem chkP_more {p : PtrD} {n m : Int} (h : chkP p n = 0) (hm : n ≤ m) : chkP p m = 0 := by
  by_cases hz : p = pz
  · subst hz; rfl
  · obtain ⟨h1, h2, h3, h4⟩ := chkP_in h hz
    unfold chkP
    rw [if_neg h1, if_pos ⟨h2, by omega, h4⟩]
end Go.Proofs.PlainPtr
namespace Go.Proofs.Ytfhlenclnknnhaa.w_PtrChecks
open Go.RowKit
open Go.Proofs.PlainPtr Go.Proofs.PlainSha

theorem zero_eq (w : World) : (Op.equalIn 9999 25 (.agg #[.int .u8 0, .int .u8 0, .int .u8 0, .int .u8 0, .int .u8 0, .int .u8 0, .int .u8 0, .int .u8 0, .int .u8 0, .int .u8 0, .int .u8 0, .int .u8 0, .int .u8 0, .int .u8 0, .int .u8 0, .int .u8 0, .int .u8 0, .int .u8 0, .int .u8 0, .int .u8 0, .int .u8 0, .int .u8 0, .int .u8 0, .int .u8 0, .int .u8 0, .int .u8 0, .int .u8 0, .int .u8 0, .int .u8 0, .int .u8 0, .int .u8 0, .int .u8 0]) (.agg #[.int .u8 0, .int .u8 0, .int .u8 0, .int .u8 0, .int .u8 0, .int .u8 0, .int .u8 0, .int .u8 0, .int .u8 0, .int .u8 0, .int .u8 0, .int .u8 0, .int .u8 0, .int .u8 0, .int .u8 0, .int .u8 0, .int .u8 0, .int .u8 0, .int .u8 0, .int .u8 0, .int .u8 0, .int .u8 0, .int .u8 0, .int .u8 0, .int .u8 0, .int .u8 0, .int .u8 0, .int .u8 0, .int .u8 0, .int .u8 0, .int .u8 0, .int .u8 0])).run Try.prog w = .ok true w := by
  have h := run_equalIn_bytes (P := Try.prog) 9997 (t := 25) (e := 5) (n := 32) Try.underlying25 Try.underlying5 (by kernel_rfl) (l := List.replicate 32 0) (m := List.replicate 32 0) List.length_replicate List.length_replicate w
  rw [decide_eq_true rfl] at h
  exact h
set_option maxRecDepth 100000 in
set_option maxHeartbeats 1000000 in
theorem core (p : PtrD) (hp : PtOk p) (n m : Nat) (hn : (n : Int) ≤ 65535) (hm : (m : Int) ≤ 65535) (w : World) : Calls Try.prog 3 #[.agg (pcl p).toArray, .int .u16 (n : Int), .int .u16 (m : Int)] w fun e w' => e = .returned (.bool true) ∧ Below w.heap.size w w' := by
  have hal := Lib.hid (fun w => alive08 w)
  have h0 := Blk.new_at (w := w) (t := 27) (cs := (pcl p).toArray) rfl rfl
  have B0 : Below w.heap.size w (w.alloc (.cells (pcl p).toArray 27)) := (Below.refl _ _).alloc (Nat.le_refl _) _
  have hl := pcl_len hp
  have hc1 := Lib.hid (fun w => chk_any p hp (n : Int) (by omega) (by omega) w)
  have hc2 := Lib.hid (fun w => chk_any p hp ((n : Int) + (m : Int)) (by omega) (by omega) w)
  have hnl := Lib.hid (fun w => null_any p hp w)
  have hbz := Lib.hid built_pz
  have ha := hp.a
  have hb := hp.b
  replace h0 := Lib.hid h0
  replace B0 := Lib.hid B0
  by_cases hk : chkP p (n : Int) = 0
  · have hk2 := chkP_more hk (m := (n : Int) + (m : Int)) (by omega)
    rw [hk] at hc1
    rw [hk2] at hc2
    by_cases hz : p = pz
    · subst hz
      have hpz : pcl pz = [.int .u32 0, .int .u64 0, .int .u8 0, .int .u8 0, .int .u8 0, .int .u8 0, .int .u8 0, .int .u8 0, .int .u8 0, .int .u8 0, .int .u8 0, .int .u8 0, .int .u8 0, .int .u8 0, .int .u8 0, .int .u8 0, .int .u8 0, .int .u8 0, .int .u8 0, .int .u8 0, .int .u8 0, .int .u8 0, .int .u8 0, .int .u8 0, .int .u8 0, .int .u8 0, .int .u8 0, .int .u8 0, .int .u8 0, .int .u8 0, .int .u8 0, .int .u8 0, .int .u8 0, .int .u8 0] := rfl
      clear hk hk2
      go_enter Try.func3, Try.ntmps3
      go_wp2_with fail
      refine (hal.out _).mono ?_
      rintro e w1 ⟨rfl, B1⟩
      have h1 := h0.out.keep B1
      have B1' := Lib.hid (B0.out.trans (B1.mono B0.out.size))
      clear B1
      go_wp2_with (refine wpList_loadW rfl 27 (.tmp 3) rfl 34 arrPt w.heap.size rfl 27 (pcl pz) h1 hl ?_)
      refine (hc1.out _).mono ?_
      rintro e w2 ⟨rfl, B2⟩
      have h2 := h1.keep B2
      have B2' := Lib.hid (B1'.out.trans (B2.mono B1'.out.size))
      clear B2 h1
      go_wp2_with (refine wpList_loadW rfl 27 (.tmp 3) rfl 34 arrPt w.heap.size rfl 27 (pcl pz) h2 hl ?_)
      refine (hc2.out _).mono ?_
      rintro e w3 ⟨rfl, B3⟩
      have h3 := h2.keep B3
      have B3' := Lib.hid (B2'.out.trans (B3.mono B2'.out.size))
      clear B3 h2
      change Blk w3 w.heap.size 27 (pcl pz) at h3
      rw [hpz] at h3
      have heq := zero_eq w3
      go_upto_region 9 with fail
      go_wp2_with (with_reducible (refine (?_ : wpList _ _ _ (_ :: _) _ _)); refine wpList_loadW rfl 27 (.tmp 3) rfl 34 arrPt w.heap.size rfl 27 _ h3 rfl ?_)
      go_ret
      exact ⟨rfl, B3'.out⟩
    · obtain ⟨a0, a2, an, ab⟩ := chkP_in hk hz
      have a2I : (2 : Int) ≤ p.a := by omega
      have e0 : ((p.a : Int) == 0) = false := by simpa using a0
      rw [decide_eq_false a0] at hnl
      obtain ⟨S, hS⟩ : ∃ S, Hid (S = bv p.s) := ⟨_, rfl⟩
      have hpp : Hid (pcl p = .int .u32 (p.a : Int) :: .int .u64 (p.b : Int) :: S) := by show _ = _; rw [hS.out]; rfl
      clear hk hk2 hz a0 a2
      go_enter Try.func3, Try.ntmps3
      go_wp2_with fail
      refine (hal.out _).mono ?_
      rintro e w1 ⟨rfl, B1⟩
      have h1 := h0.out.keep B1
      have B1' := Lib.hid (B0.out.trans (B1.mono B0.out.size))
      clear B1
      go_wp2_with (refine wpList_loadW rfl 27 (.tmp 3) rfl 34 arrPt w.heap.size rfl 27 (pcl p) h1 hl ?_)
      refine (hc1.out _).mono ?_
      rintro e w2 ⟨rfl, B2⟩
      have h2 := h1.keep B2
      have B2' := Lib.hid (B1'.out.trans (B2.mono B1'.out.size))
      clear B2 h1
      go_wp2_with (refine wpList_loadW rfl 27 (.tmp 3) rfl 34 arrPt w.heap.size rfl 27 (pcl p) h2 hl ?_)
      refine (hc2.out _).mono ?_
      rintro e w3 ⟨rfl, B3⟩
      have h3 := h2.keep B3
      have B3' := Lib.hid (B2'.out.trans (B3.mono B2'.out.size))
      have c0 : w3.cell? ⟨w.heap.size, 0, none⟩ = some (.int .u32 (p.a : Int)) := (h3.cell 0).trans rfl
      have c1 : w3.cell? ⟨w.heap.size, 1, none⟩ = some (.int .u64 (p.b : Int)) := (h3.cell 1).trans rfl
      clear B3 h2
      have h3' := Lib.hid h3
      change Blk w3 w.heap.size 27 (pcl p) at h3
      rw [hpp.out] at h3
      go_upto_region 9 with fail
      have hl3 : (Value.int .u32 (p.a : Int) :: .int .u64 (p.b : Int) :: S).length = 34 := by rw [← hpp.out]; exact hl
      go_wp2_with (first
        | refine wpList_loadW rfl 27 (.tmp 3) rfl 34 arrPt w.heap.size rfl 27 _ h3 hl3 ?_
        | refine wpList_loadG rfl 27 (.tmp 3) rfl 34 arrPt w.heap.size rfl 27 (pcl p) h3'.out hl ?_)
      refine (hnl.out _).mono ?_
      rintro e w4 ⟨rfl, B4⟩
      have B4' := Lib.hid (B3'.out.trans (B4.mono B3'.out.size))
      clear B4 c0 c1 h3
      go_wp2
      go_ret
      exact ⟨rfl, B4'.out⟩
  · rw [chkP_four hk] at hc1
    clear hk
    go_enter Try.func3, Try.ntmps3
    go_wp2_with fail
    refine (hal.out _).mono ?_
    rintro e w1 ⟨rfl, B1⟩
    have h1 := h0.out.keep B1
    have B1' := Lib.hid (B0.out.trans (B1.mono B0.out.size))
    clear B1
    go_wp2_with (refine wpList_loadW rfl 27 (.tmp 3) rfl 34 arrPt w.heap.size rfl 27 (pcl p) h1 hl ?_)
    refine (hc1.out _).mono ?_
    rintro e w2 ⟨rfl, B2⟩
    have B2' := Lib.hid (B1'.out.trans (B2.mono B1'.out.size))
    clear B2 h1
    go_wp2
    go_ret
    exact ⟨rfl, B2'.out⟩

theorem walk (p : PtrD) (hp : PtOk p) (n : Int) (n0 : 0 ≤ n) (n1 : n ≤ 65535) (m : Int) (m0 : 0 ≤ m) (m1 : m ≤ 65535) (w : World) : Calls Try.prog 3 #[.agg (pcl p).toArray, .int .u16 n, .int .u16 m] w fun e w' => e = .returned (.bool true) ∧ Below w.heap.size w w' := by
  obtain ⟨a, rfl⟩ := Int.eq_ofNat_of_zero_le n0
  obtain ⟨b, rfl⟩ := Int.eq_ofNat_of_zero_le m0
  exact core p hp a b n1 m1 w
end Go.Proofs.Ytfhlenclnknnhaa.w_PtrChecks
