/- Contract of banyanref02's fracs. -/
import Derived.Test.YtlifpmglaoppoaaScB
import Derived.Test.YtlifpmglaoppoaaLgC
set_option linter.unusedVariables false
set_option linter.unusedSimpArgs false
namespace Go.Proofs.Ytlifpmglaoppoaa
open Go.RowKit
open Go.Proofs.PlainAes
open Go.Proofs.PlainSha

set_option maxRecDepth 100000 in
set_option maxHeartbeats 2000000 in
theorem fracs_any (n P k : Nat) (hn : (n : Int) ≤ 64) (hP : (P : Int) ≤ 312) (hP2 : 2 ≤ P) (hlt : ∀ p, p < P → (pl p).length < n) (hPe : (pl P).length = n) (hk : 2 ≤ k) (hk' : k ≤ 3) (w : World) :
    Calls Try.prog 69 #[.int .i64 (n : Int), .int .i64 (k : Int)] w (RetU ((pl P).map fun p => PlainRoot.frac p k) w) := by
  obtain ⟨i0, hi, hz0, hz1, hz2⟩ := info_parts (P := Try.prog) (e := 35) (z := .int .u32 0) (size := 1) (bytes := 4) (by kernel_rfl)
  have hpr := Lib.hid (fun w => primes_any n P hn hP hP2 hlt hPe w)
  have hmem := Lib.hid (fun q hq => pl_mem P q hq)
  have hfr := Lib.hid (fun p w h1 h2 => rfrac_ok p k w hk hk' h1 h2)
  have hll : ((pl P).length : Int) ≤ 64 := by rw [hPe]; exact hn
  have hPI : P ≤ 312 := by omega
  clear hlt hPe hP2
  generalize pl P = L at *
  go_enter Try.func69, Try.ntmps69
  go_wp2_with fail
  refine (hpr.out _).mono ?_
  rintro e w1 ⟨v, rfl, hs, hB1, -⟩
  obtain ⟨A, c, hu, -⟩ := id hs
  rw [wv_length] at hu
  subst hu
  replace hs := Lib.hid hs
  go_wp2
  go_loopw [5, 13] (fun u i wr => ∃ j : Nat, j ≤ L.length ∧ i = .int .i64 (j : Int) ∧ wr.ownsRow w1.heap.size 35 1 u j (wv ((L.take j).map fun p => PlainRoot.frac p k)) ∧ Below w1.heap.size w1 wr) (fun _ i _ => L.length - (intOf i).toNat)
  case atStart => exact ⟨0, Nat.zero_le _, rfl, World.ownsRow_nil _ _ _ _, Below.refl _ _⟩
  case round =>
    obtain ⟨j, hj, rfl, own, hB⟩ := hrel
    by_cases hjl : (j : Int) < (L.length : Int)
    · obtain ⟨q, hq⟩ := get_lt (l := L) (k := j) (by omega)
      obtain ⟨g, o, rfl, hcell⟩ := (hs.out.keep hB).at_ (k := j) (by rw [wv_get, hq]; rfl)
      replace hcell : wr.cell? ⟨g, o + j, none⟩ = some (.int .u32 (q : Int)) := hcell
      have hqm := hmem.out q (List.mem_of_getElem? hq)
      have hfq := Lib.hid (fun w => hfr.out q w (by omega) (by omega))
      have hst := Lib.hid (show (L.take (j + 1)).map (fun p => PlainRoot.frac p k) = (L.take j).map (fun p => PlainRoot.frac p k) ++ [PlainRoot.frac q k] by rw [List.take_add_one, hq]; simp)
      have hxl := frac_lt q k
      clear hq hqm
      generalize PlainRoot.frac q k = x at *
      generalize (L.take j).map (fun p => PlainRoot.frac p k) = M at *
      have hMl : M.length = j := by have := own.1; simpa using this
      replace hMl := Lib.hid hMl
      replace own := Lib.hid own
      go_wp2_with fail
      refine (hfq.out _).mono ?_
      rintro e w2 ⟨rfl, hB2⟩
      have own1 := (own_keep own.out hB2).alloc (.cells #[.int .u32 (x : Int)] 35)
      have sl1 : Sl (w2.alloc (.cells #[.int .u32 (x : Int)] 35)) (.slice (some ⟨w2.heap.size, 0, none⟩) 1 1) (wv [x]) :=
        Sl.of_blk (n := 1) (c := 1) (Blk.new_at (w := w2) (t := 35) (cs := #[.int .u32 (x : Int)]) rfl rfl) (Nat.le_refl _) (by simp) (by unfold maxLen; omega)
      have hB3 := below_call hB hB.size hB2
      have bel1 := hB3.alloc hB3.size (.cells #[.int .u32 (x : Int)] 35)
      clear hB hB2 own
      go_wp2_with (at_builtin; refine wpList_append_sl rfl (.tmp 23) (.tmp 25) 101 rfl w1.heap.size 35 i0 (.int .u32 0) 4 Try.underlying101 hi hz0 hz1 hz2 rfl _ j (wv M) rfl own1 _ (wv [x]) rfl sl1 (ones_wv _) ?_ ?_ ?_ ?_)
      · simp [maxLen]; omega
      · first | omega | (simp; omega)
      · have := hB3.size; first | omega | (simp; omega)
      intro v' w4 own2 gr
      have bel2 := own_below bel1 gr own1 bel1.size
      rw [← wv_app] at own2
      replace own2 := Lib.hid own2
      clear own1 sl1 bel1 gr hB3
      go_wp2
      go_roundw
      case rel => exact ⟨j + 1, by omega, by go_num, by rw [hst.out]; exact own2.out, bel2⟩
      case measure => simp [intOf]; omega
    · obtain rfl : j = L.length := by omega
      rw [List.take_length] at own
      have hr := Lib.hid (Sl.of_own own)
      have hB' := below_call hB1 hB1.size hB
      have hnew := Lib.hid (fun A' n' c' e => Nat.le_trans hB1.size (own_new own A' n' c' e))
      clear own hB
      go_wp2
      go_ret
      exact ⟨_, rfl, hr.out, hB', hnew.out⟩
theorem pl20_lt : ∀ p, p < 20 → (pl p).length < 8 := by decide +kernel
theorem pl312_lt : ∀ p, p < 312 → (pl p).length < 64 := by decide +kernel
theorem fracs8 (w : World) : Calls Try.prog 69 #[.int .i64 8, .int .i64 2] w (RetU H0 w) := fracs_any 8 20 2 (by decide) (by decide) (by decide) pl20_lt pl20_length (by decide) (by decide) w
theorem fracs64 (w : World) : Calls Try.prog 69 #[.int .i64 64, .int .i64 3] w (RetU K0 w) := fracs_any 64 312 3 (by decide) (by decide) (by decide) pl312_lt pl312_length (by decide) (by decide) w
end Go.Proofs.Ytlifpmglaoppoaa
