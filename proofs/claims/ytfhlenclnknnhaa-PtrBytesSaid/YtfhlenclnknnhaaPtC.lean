/- ptr.Check. -/
import Derived.Test.YtfhlenclnknnhaaPtR
set_option linter.unusedVariables false
set_option linter.unusedSimpArgs false
namespace Go.Proofs.Ytfhlenclnknnhaa
open Go.RowKit
open Go.Proofs.PlainPtr

set_option maxRecDepth 100000 in
set_option maxHeartbeats 1000000 in
theorem chk_any (p : PtrD) (hp : PtOk p) (n : Int) (hn0 : -9223372036854775808 ≤ n) (hn1 : n ≤ 9223372036854775807) (w : World) : Calls Try.prog 11 #[.agg (pcl p).toArray, .int .i64 n] w fun e w' => e = .returned (.int .i64 (chkP p n)) ∧ Below w.heap.size w w' := by
  have h0 := Blk.new_at (w := w) (t := 27) (cs := (pcl p).toArray) rfl rfl
  have B0 : Below w.heap.size w (w.alloc (.cells (pcl p).toArray 27)) := (Below.refl _ _).alloc (Nat.le_refl _) _
  have hl := pcl_len hp
  have hnl := Lib.hid (fun w => null_any p hp w)
  have ha := hp.a
  have hb := hp.b
  have hbp := Lib.hid built_pz
  have H0 := Lib.hid h0
  replace B0 := Lib.hid B0
  have hv : Hid (chkP p n = if p.a = 0 then (if p = pz then 0 else 4) else if 2 ≤ p.a ∧ (p.a : Int) < n ∧ 0 < p.b then 0 else 4) := rfl
  by_cases hz : p.a = 0
  · rw [if_pos hz] at hv
    rw [decide_eq_true hz] at hnl
    by_cases hpz : p = pz
    · rw [if_pos hpz] at hv
      rw [hv.out]
      have hd := Lib.hid (decide_eq_true hpz)
      clear hv hpz hz
      go_enter Try.func11, Try.ntmps11
      go_wp2_with (first
        | refine wpList_loadW rfl 27 (.tmp 2) rfl 34 arrPt w.heap.size rfl 27 (pcl p) h0 hl ?_
        | refine wpList_buildV rfl 27 #[] rfl [] rfl (pcl pz) hbp.out ?_
        | (refine wpList_eqPt (.tmp 6) (.tmp 7) 27 rfl p pz hp pz_ok rfl rfl rfl ?_; rw [hd.out]))
      refine (hnl.out _).mono ?_
      rintro e w1 ⟨rfl, B1⟩
      have BB := Lib.hid (B0.out.trans (B1.mono B0.out.size))
      clear h0
      go_wp2
      go_ret
      exact ⟨rfl, BB.out⟩
    · rw [if_neg hpz] at hv
      rw [hv.out]
      have hd := Lib.hid (decide_eq_false hpz)
      clear hv hpz hz
      go_enter Try.func11, Try.ntmps11
      go_wp2_with (first
        | refine wpList_loadW rfl 27 (.tmp 2) rfl 34 arrPt w.heap.size rfl 27 (pcl p) h0 hl ?_
        | refine wpList_buildV rfl 27 #[] rfl [] rfl (pcl pz) hbp.out ?_
        | (refine wpList_eqPt (.tmp 6) (.tmp 7) 27 rfl p pz hp pz_ok rfl rfl rfl ?_; rw [hd.out]))
      refine (hnl.out _).mono ?_
      rintro e w1 ⟨rfl, B1⟩
      have BB := Lib.hid (B0.out.trans (B1.mono B0.out.size))
      clear h0
      go_wp2
      go_ret
      exact ⟨rfl, BB.out⟩
  · rw [if_neg hz] at hv
    rw [decide_eq_false hz] at hnl
    have hd := Lib.hid (decide_eq_false (show ¬ p = pz from fun e => hz (by rw [e]; rfl)))
    have haI : (p.a : Int) ≠ 0 := by omega
    by_cases h2 : (2 : Int) ≤ p.a
    · by_cases h3 : (p.a : Int) < n
      · by_cases h4 : (0 : Int) < p.b
        · rw [if_pos ⟨by omega, h3, by omega⟩] at hv
          have h4n : 0 < p.b := by omega
          rw [hv.out]
          clear hv hz
          go_enter Try.func11, Try.ntmps11
          go_wp2_with (first
            | refine wpList_loadW rfl 27 (.tmp 2) rfl 34 arrPt w.heap.size rfl 27 (pcl p) h0 hl ?_
            | refine wpList_buildV rfl 27 #[] rfl [] rfl (pcl pz) hbp.out ?_
            | (refine wpList_eqPt (.tmp 6) (.tmp 7) 27 rfl p pz hp pz_ok rfl rfl rfl ?_; rw [hd.out]))
          refine (hnl.out _).mono ?_
          rintro e w1 ⟨rfl, B1⟩
          have BB := Lib.hid (B0.out.trans (B1.mono B0.out.size))
          have c0 : w1.cell? ⟨w.heap.size, 0, none⟩ = some (.int .u32 (p.a : Int)) := ((H0.out.keep B1).cell 0).trans rfl
          have c1 : w1.cell? ⟨w.heap.size, 1, none⟩ = some (.int .u64 (p.b : Int)) := ((H0.out.keep B1).cell 1).trans rfl
          clear h0 B1
          go_wp2
          go_ret
          exact ⟨rfl, BB.out⟩
        · rw [if_neg (by omega)] at hv
          rw [hv.out]
          clear hv hz
          go_enter Try.func11, Try.ntmps11
          go_wp2_with (first
            | refine wpList_loadW rfl 27 (.tmp 2) rfl 34 arrPt w.heap.size rfl 27 (pcl p) h0 hl ?_
            | refine wpList_buildV rfl 27 #[] rfl [] rfl (pcl pz) hbp.out ?_
            | (refine wpList_eqPt (.tmp 6) (.tmp 7) 27 rfl p pz hp pz_ok rfl rfl rfl ?_; rw [hd.out]))
          refine (hnl.out _).mono ?_
          rintro e w1 ⟨rfl, B1⟩
          have BB := Lib.hid (B0.out.trans (B1.mono B0.out.size))
          have c0 : w1.cell? ⟨w.heap.size, 0, none⟩ = some (.int .u32 (p.a : Int)) := ((H0.out.keep B1).cell 0).trans rfl
          have c1 : w1.cell? ⟨w.heap.size, 1, none⟩ = some (.int .u64 0) := ((H0.out.keep B1).cell 1).trans (by show some (Value.int .u64 (p.b : Int)) = _; rw [show (p.b : Int) = 0 by omega])
          clear h0 B1 h4 hb
          go_wp2
          go_ret
          exact ⟨rfl, BB.out⟩
      · rw [if_neg (fun h => h3 h.2.1)] at hv
        rw [hv.out]
        clear hv hz
        go_enter Try.func11, Try.ntmps11
        go_wp2_with (first
          | refine wpList_loadW rfl 27 (.tmp 2) rfl 34 arrPt w.heap.size rfl 27 (pcl p) h0 hl ?_
          | refine wpList_buildV rfl 27 #[] rfl [] rfl (pcl pz) hbp.out ?_
          | (refine wpList_eqPt (.tmp 6) (.tmp 7) 27 rfl p pz hp pz_ok rfl rfl rfl ?_; rw [hd.out]))
        refine (hnl.out _).mono ?_
        rintro e w1 ⟨rfl, B1⟩
        have BB := Lib.hid (B0.out.trans (B1.mono B0.out.size))
        have c0 : w1.cell? ⟨w.heap.size, 0, none⟩ = some (.int .u32 (p.a : Int)) := ((H0.out.keep B1).cell 0).trans rfl
        clear h0 B1
        go_wp2
        go_ret
        exact ⟨rfl, BB.out⟩
    · rw [if_neg (fun h => h2 (by omega))] at hv
      rw [hv.out]
      clear hv hz
      go_enter Try.func11, Try.ntmps11
      go_wp2_with (first
        | refine wpList_loadW rfl 27 (.tmp 2) rfl 34 arrPt w.heap.size rfl 27 (pcl p) h0 hl ?_
        | refine wpList_buildV rfl 27 #[] rfl [] rfl (pcl pz) hbp.out ?_
        | (refine wpList_eqPt (.tmp 6) (.tmp 7) 27 rfl p pz hp pz_ok rfl rfl rfl ?_; rw [hd.out]))
      refine (hnl.out _).mono ?_
      rintro e w1 ⟨rfl, B1⟩
      have BB := Lib.hid (B0.out.trans (B1.mono B0.out.size))
      have c0 : w1.cell? ⟨w.heap.size, 0, none⟩ = some (.int .u32 (p.a : Int)) := ((H0.out.keep B1).cell 0).trans rfl
      clear h0 B1
      go_wp2
      go_ret
      exact ⟨rfl, BB.out⟩
end Go.Proofs.Ytfhlenclnknnhaa
