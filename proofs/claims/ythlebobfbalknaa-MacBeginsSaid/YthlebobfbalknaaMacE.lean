/- Contracts of slices.Grow (of none), slices.Concat. -/
import Derived.Test.YthlebobfbalknaaCatP
import Derived.Test.YthlebobfbalknaaApZ
import Derived.Test.YthlebobfbalknaaShF
set_option linter.unusedVariables false
set_option linter.unusedSimpArgs false
namespace Go.Proofs.Ythlebobfbalknaa
open Go.RowKit
open Go.Proofs.PlainAes

set_option maxRecDepth 100000 in
set_option maxHeartbeats 1000000 in
theorem grow_nil (k : Nat) (w : World) (hk : (k : Int) ≤ 1099511627776) :
    Calls Try.prog 39 #[.slice none 0 0, .int .i64 (k : Int)] w fun e w' => ∃ v, e = .returned v ∧ w'.ownsRow w.heap.size 5 1 v 0 [] ∧ Below w.heap.size w w' := by
  obtain ⟨i0, hi, hz0, hz1, hz2⟩ := info_parts (P := Try.prog) (e := 5) (z := .int .u8 0) (size := 1) (bytes := 1) (by kernel_rfl)
  by_cases h0 : (0 : Int) < (k : Int)
  · have own0 := World.ownsRow_nil w w.heap.size 5 1
    obtain ⟨v', w', hr, own, gr⟩ := run_append_zeros (P := Try.prog) w w.heap.size 22 3 22 5 i0 .i64 .i64 Try.underlying22 Try.underlying3 hi hz0 hz1 hz2 _ 0 [] own0 k (by simp [maxLen]; omega) (by omega) (Nat.le_refl _)
    have hB := own_below (Below.refl _ w) gr own0 (Nat.le_refl _)
    obtain ⟨A, c, rfl, h1, h2, h3⟩ := own_shape own
    obtain ⟨g, rfl, hg⟩ := h3 (by omega)
    have ownE : w'.ownsRow w.heap.size 5 1 (.slice (some ⟨g, 0, none⟩) 0 c) 0 [] := by
      obtain ⟨_, ⟨e, _⟩ | ⟨g', cap, cur, e, hb, hgg, hn, hm, hcs, htk⟩⟩ := own
      · cases e
      · injection e with e1 e2 e3
        injection e1 with e1
        injection e1 with e1
        subst e1 e3
        exact ⟨rfl, .inr ⟨g, c, cur, rfl, hb, hgg, Nat.zero_le _, hm, hcs, by simp⟩⟩
    replace own := Lib.hid own
    replace ownE := Lib.hid ownE
    replace gr := Lib.hid gr
    clear own0
    have hc0 : (0 : Int) ≤ c := by omega
    go_enter Try.func39, Try.ntmps39
    go_wp2_with (at_builtin; refine Lib.wpList_append_run _ rfl _ _ _ _ rfl _ _ rfl rfl _ _ hr ?_)
    go_wp2
    go_ret
    exact ⟨_, rfl, ownE.out, hB⟩
  · obtain rfl : k = 0 := by omega
    go_enter Try.func39, Try.ntmps39
    go_wp2
    go_ret
    exact ⟨_, rfl, World.ownsRow_nil w w.heap.size 5 1, Below.refl _ _⟩

set_option maxRecDepth 100000 in
set_option maxHeartbeats 2000000 in
theorem concat_core (A : Option Addr) (n c : Nat) (vs : List Value) (ls : List (List Nat)) (w : World) (hs : Sl w (.slice A n c) vs) (hn : n = ls.length) (hrow : ∀ (i : Nat) (l : List Nat), ls[i]? = some l → ∃ u, vs[i]? = some u ∧ Sl w u (bv l)) (ht : (ls.flatten.length : Int) ≤ 1099511627776) :
    Calls Try.prog 27 #[.slice A n c] w fun e w' => ∃ v, e = .returned v ∧ w'.ownsRow w.heap.size 5 1 v ls.flatten.length (bv ls.flatten) ∧ Below w.heap.size w w' := by
  have hgr := Lib.hid (fun k w h => grow_nil k w h)
  obtain ⟨i0, hi, hz0, hz1, hz2⟩ := info_parts (P := Try.prog) (e := 5) (z := .int .u8 0) (size := 1) (bytes := 1) (by kernel_rfl)
  have hnI : (n : Int) ≤ 9223372036854775807 := by have := hs.cap; unfold maxLen at this; omega
  have Hn := Lib.hid hn
  have hget : Hid (∀ (k : Nat), k < n → ∃ (ga oa : Nat) (Au : Option Addr) (nl cu : Nat) (l : List Nat), A = some ⟨ga, oa, none⟩ ∧ (∀ w', Below w.heap.size w w' → w'.cell? ⟨ga, oa + k, none⟩ = some (.slice Au nl cu)) ∧ (∀ w', Below w.heap.size w w' → Sl w' (.slice Au nl cu) (bv l)) ∧ nl = l.length ∧ ls[k]? = some l) := fun k hk => by
    obtain ⟨l, hl⟩ := get_lt (l := ls) (k := k) (by rw [← Hn.out]; exact hk)
    obtain ⟨u, hu, hsl⟩ := hrow k l hl
    obtain ⟨ga, oa, hA, hc⟩ := hs.at_ hu
    obtain ⟨Au, cu, rfl, -⟩ := id hsl
    refine ⟨ga, oa, Au, (bv l).length, cu, l, hA, fun w' hB => ?_, fun w' hB => hsl.keep hB, by simp, hl⟩
    rw [(bcell hB).1 _ _ (cell_lt hc)]; exact hc
  have hcs : Hid (∀ k l, ls[k]? = some l → cat ls (k + 1) = cat ls k ++ l) := fun k l h => cat_succ h
  have hall := Lib.hid (cat_all ls)
  rw [← Hn.out] at hall
  have hle : Hid (∀ k, ((cat ls k).length : Int) ≤ 1099511627776) := fun k => by have h := cat_le ls k; rw [cat_all] at h; omega
  have hc0 : Hid (cat ls 0 = []) := rfl
  clear hs hn hrow ht
  rw [← hall.out]
  clear hall
  generalize cat ls = C at *
  go_enter Try.func27, Try.ntmps27
  go_wp2
  go_loop [3, 11] (fun s i => ∃ (k x : Nat), (k : Int) ≤ n ∧ i = .int .i64 (k : Int) ∧ s = .int .i64 (x : Int) ∧ Hid (x = (C k).length)) (fun _ i => n - (intOf i).toNat)
  case atStart => exact ⟨0, 0, by omega, rfl, rfl, by rw [hc0.out]; rfl⟩
  case round =>
    obtain ⟨k, x, hk, rfl, rfl, hx⟩ := hrel
    by_cases hlt : (k : Int) < n
    · obtain ⟨ga, oa, Au, nl, cu, l, rfl, hc, -, hnl2, hlk⟩ := hget.out k (by omega)
      have hc1 := hc _ (Below.refl _ _)
      have hx2 : Hid (x + nl = (C (k + 1)).length) := by show _ = _; rw [hcs.out k l hlk, List.length_append, hx.out, hnl2]
      have hxb : ((x + nl : Nat) : Int) ≤ 1099511627776 := by rw [hx2.out]; exact hle.out _
      clear hc hlk hnl2 hx
      have hxn : (x : Int) + nl ≤ 1099511627776 := by omega
      have hx0 : (0 : Int) ≤ (x : Int) + nl := by omega
      go_wp2
      go_round
      case rel => exact ⟨k + 1, x + nl, by omega, by go_num, by go_num, hx2⟩
      case measure => simp [intOf]; omega
    · obtain rfl : n = k := by omega
      have hxb : (x : Int) ≤ 1099511627776 := by rw [hx.out]; exact hle.out _
      have hg1 := Lib.hid (hgr.out x w hxb)
      clear hx
      go_wp2_with fail
      refine hg1.out.mono ?_
      rintro e w1 ⟨v1, rfl, own1, hB1⟩
      have own1' : w1.ownsRow w.heap.size 5 1 v1 (C 0).length (bv (C 0)) := by rw [hc0.out]; exact own1
      clear own1 hg1
      go_wp2
      go_loopw [6, 27] (fun va i wr' => ∃ (k : Nat), (k : Int) ≤ n ∧ i = .int .i64 (k : Int) ∧ wr'.ownsRow w.heap.size 5 1 va (C k).length (bv (C k)) ∧ Below w.heap.size w wr') (fun _ i _ => n - (intOf i).toNat)
      case atStart => exact ⟨0, by omega, rfl, own1', hB1⟩
      case round =>
        clear own1' hB1
        obtain ⟨k, hk, rfl, own, hB⟩ := hrel
        by_cases hlt2 : (k : Int) < n
        · obtain ⟨ga, oa, Au, nl, cu, l, rfl, hc, hslu, hnl2, hlk⟩ := hget.out k (by omega)
          have hc1 := hc _ hB
          have hsl := hslu _ hB
          have hcat := Lib.hid (hcs.out k l hlk)
          have hlen : Hid ((C k).length + l.length ≤ 1099511627776) := by have := hle.out (k + 1); rw [hcat.out, List.length_append] at this; show _ ≤ _; omega
          clear hc hslu hnl2 hlk
          go_wp2_with (at_builtin; refine wpList_append_sl rfl (.tmp 31) (.tmp 32) 22 rfl w.heap.size 5 i0 (.int .u8 0) 1 Try.underlying22 hi hz0 hz1 hz2 rfl _ (C k).length (bv (C k)) rfl own _ (bv l) rfl hsl (bv_oneCell l) ?_ ?_ ?_ ?_)
          · have := hlen.out; simp [maxLen]; omega
          · have := hlen.out; simp; omega
          · exact hB.size
          intro v2 w2 own2 gr2
          have hB2 := own_below hB gr2 own hB.size
          rw [← bv_app, ← List.length_append, ← hcat.out] at own2
          clear gr2 own hB hsl hc1
          go_wp2
          go_roundw
          case rel => exact ⟨k + 1, by omega, by go_num, own2, hB2⟩
          case measure => simp [intOf]; omega
        · obtain rfl : n = k := by omega
          go_wp2
          go_ret
          exact ⟨_, rfl, own, hB⟩
end Go.Proofs.Ythlebobfbalknaa
