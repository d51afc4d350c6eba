/- Contract of banyanref04: Back. -/
import Derived.Test.YtmlaopohlmnegaaRefF
import Derived.Test.YtmlaopohlmnegaaRefG
import Derived.Test.YtmlaopohlmnegaaAesE
set_option linter.unusedVariables false
set_option linter.unusedSimpArgs false
namespace Go.Proofs.PlainAes
/-- What bytes were, so many of them laid. -/
def bakN : Nat → List Nat
  | 0 => List.replicate 256 0
  | k + 1 => (bakN k).set (box k) k
theorem bakN_len : ∀ k, (bakN k).length = 256
  | 0 => List.length_replicate
  | k + 1 => by rw [bakN, List.length_set, bakN_len k]
set_option maxRecDepth 100000 in
theorem bak_all : bakN 256 = tbl unbox := by decide +kernel
end Go.Proofs.PlainAes
namespace Go.Proofs.Ytmlaopohlmnegaa
open Go.RowKit
open Go.Proofs.PlainAes

theorem index_byte256 (L : List Nat) (k : Nat) (hL : L.length = 256) (hk : k < 256) (w : World) : (Instr.index 34 (.agg (bv L).toArray) (.int .i64 (k : Int))).run Try.prog w = .ok (.int .u8 ((gd L k : Nat) : Int)) w := by
  have hu : Try.prog.underlying 34 = some (.array 256 5) := Try.underlying34
  have hs : (sizeOf 5).run Try.prog w = .ok 1 w := by kernel_rfl
  have ha : (isAgg 5).run Try.prog w = .ok false w := by kernel_rfl
  have hg : (bv L)[k]? = some (.int .u8 ((gd L k : Nat) : Int)) := bv_some (gd_get (by omega))
  have hkI : (k : Int) < 256 := by omega
  simp [Instr.index, asIntOf, Sem.run_bind, run_underlying hu, hs, ha, part, hk, hg]

set_option maxRecDepth 100000 in
set_option maxHeartbeats 4000000 in
theorem rback_any (w : World) : Calls Try.prog 36 #[.agg (bv (tbl box)).toArray] w (RetA (tbl unbox) w) := by
  have hix := Lib.hid (fun k hk w => index_byte256 (tbl box) k (by simp [tbl]) hk w)
  have hgb : Hid (∀ k, k < 256 → gd (tbl box) k = box k) := fun k hk => by rw [tbl, gd_mk _ hk]
  have hbl : Hid (∀ k, k < 256 → box k < 256) := fun k hk => box_lt hk
  have hTl := Lib.hid (show (bv (tbl box)).length = 256 by simp [tbl])
  have hUl := Lib.hid (show (bv (tbl unbox)).length = 256 by simp [tbl])
  have hfin := Lib.hid bak_all
  have hN0 : Hid (bakN 0 = zeros 256) := rfl
  have hNs : Hid (∀ k, bakN (k + 1) = (bakN k).set (box k) k) := fun k => rfl
  have hNl := Lib.hid bakN_len
  have hRet : Hid (∀ w', Below w.heap.size w w' → RetA (tbl unbox) w (.returned (.agg (bv (tbl unbox)).toArray)) w') := fun w' h => ⟨rfl, h⟩
  generalize RetA (tbl unbox) w = RX at *
  generalize tbl unbox = U at *
  generalize tbl box = TB at *
  go_enter Try.func36, Try.ntmps36
  go_wp2_with (refine wpList_allocA rfl 34 rfl (bv (zeros 256)) (by kernel_rfl) ?_)
  intro w1 h1 hK1 hz1
  have h0 := (Blk.new_at (w := w) (t := 34) (cs := (bv TB).toArray) rfl rfl).keeps hK1 (by simp)
  simp only [List.size_toArray, World.size_alloc] at h0 h1
  have hB : Below w.heap.size w w1 := ((Below.refl _ _).alloc (Nat.le_refl _) _).trans (hK1.below (by simp) (by simp))
  clear hK1 hz1
  have ga := Lib.hid h1.lt
  go_wp2_with (refine wpList_allocA rfl 34 rfl (bv (zeros 256)) (by kernel_rfl) ?_)
  intro w2 h2 hK2 hz2
  replace h0 := h0.keeps hK2 (by simp)
  replace h1 := h1.keeps hK2 (by simp)
  replace hB := hB.trans (hK2.below hB.size (by simp))
  clear hK2 hz2
  generalize w1.heap.size = g2 at *
  have gw1 : Hid (w.heap.size ≤ w.heap.size + 1) := by show _ ≤ _; omega
  have gw2 : Hid (w.heap.size ≤ g2) := by show _ ≤ _; have := ga.out; omega
  generalize w.heap.size + 1 = g1 at *
  go_wp2_with (refine wpList_loadW rfl 34 (.tmp 1) rfl 256 arrT256 _ rfl 34 _ h0 hTl.out ?_)
  clear h0
  rw [← hN0.out] at h2
  go_loopw [7] (fun s wr => ∃ j : Nat, (j : Int) ≤ 256 ∧ s = .int .i64 (j : Int) ∧ Blk wr g1 34 (bv (zeros 256)) ∧ Blk wr g2 34 (bv (bakN j)) ∧ Below w.heap.size w wr) (fun s _ => 256 - (intOf s).toNat)
  case atStart => exact ⟨0, by omega, rfl, by rw [← hN0.out] at h1 ⊢; exact h1, h2, hB⟩
  case round =>
    clear h1 h2 hB
    obtain ⟨j, hj, rfl, h1, h2, hB⟩ := hrel
    by_cases hlt : (j : Int) < 256
    · have hi := fun w => hix.out j (by omega) w
      rw [hgb.out j (by omega)] at hi
      have hx := hbl.out j (by omega)
      have hs := Lib.hid (hNs.out j)
      have hl := Lib.hid (hNl.out j)
      generalize box j = X at *
      have hXI : (X : Int) < 256 := by omega
      have c2 := h2.byte (i := X) (by rw [hl.out]; exact hx)
      have f2 := h2.frozen X
      have hset : Hid (Blk (wr.setCell ⟨g2, X, none⟩ (.int .u8 (j : Int))) g2 34 (bv (bakN (j + 1)))) := by
        rw [hs.out, ← bv_set]
        exact h2.set_ X _
      have h1' := Lib.hid (h1.far (w := wr) (p := ⟨g2, X, none⟩) (by simp; have := ga.out; omega) (.int .u8 (j : Int)))
      have hB' : Hid (Below w.heap.size w (wr.setCell ⟨g2, X, none⟩ (.int .u8 (j : Int)))) := hB.setCell (by simp; exact gw2.out) _
      have hjw : IntKind.u8.wrap (j : Int) = (j : Int) := by rw [IntKind.wrap_u8]; omega
      clear h1 h2 hB hs hx
      go_wp2
      go_roundw
      case rel => exact ⟨j + 1, by omega, by go_num, h1'.out, hset.out, hB'.out⟩
      case measure => simp [intOf]; omega
    · obtain rfl : j = 256 := by omega
      rw [hfin.out] at h2
      go_wp2_with (first
        | refine wpList_loadW rfl 34 (.tmp 3) rfl 256 arrT256 _ rfl 34 _ h2 hUl.out ?_
        | refine wpList_storeW rfl 34 (.tmp 2) (.tmp 16) rfl 256 arrT256 _ rfl (bv U) rfl 34 _ h1 hUl.out (by simp) (ones_bv _) ?_)
      intro wf hf hKf
      go_wp2
      exact bodyPost_ret (v := .agg (bv U).toArray) (res_cell Try.results36 _ _ _ 34 _ arrT256 hUl.out rfl hf) rfl (hRet.out _ (hB.trans (hKf.below hB.size (by intro b hb; simp only [List.mem_singleton] at hb; subst hb; exact gw1.out))))
end Go.Proofs.Ytmlaopohlmnegaa
