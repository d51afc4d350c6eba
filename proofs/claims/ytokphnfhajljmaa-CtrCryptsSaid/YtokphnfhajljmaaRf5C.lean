/- Contract of banyanref05: Crypt. -/
import Derived.Test.YtokphnfhajljmaaRf5S
set_option linter.unusedVariables false
set_option linter.unusedSimpArgs false
namespace Go.Proofs.Ytokphnfhajljmaa
open Go.RowKit
open Go.Proofs.PlainAes

set_option maxRecDepth 100000 in
set_option maxHeartbeats 1000000 in
theorem rcrypt_err (k n : List Nat) (A : Option Addr) (len cap : Nat) (w : World) (hk : k.length = 32) (hn : n.length = 12) (hl : 65536 < (len : Int)) (hl2 : (len : Int) ≤ 9223372036854775807) :
    Calls Try.prog 17 #[.agg (bv (tbl box)).toArray, .agg (bv k).toArray, .agg (bv n).toArray, .slice A len cap] w (RetE w) := by
  have hst := Lib.hid (fun w => rstream_err (tbl box) k n 0 len w (by omega) (by omega) (by omega) hl2 (.inr (.inr (.inr hl))))
  have hkl := Lib.hid (show (bv k).length = 32 by simp [hk])
  have hnl := Lib.hid (show (bv n).length = 12 by simp [hn])
  have t0 := ((Blk.new_at (w := w) (t := 37) (cs := (bv (tbl box)).toArray) rfl rfl).alloc (.cells (bv k).toArray 22)).alloc (.cells (bv n).toArray 29)
  have k0 := (Blk.new_at (w := w.alloc (.cells (bv (tbl box)).toArray 37)) (n := w.heap.size + 1) (t := 22) (cs := (bv k).toArray) (by simp) rfl).alloc (.cells (bv n).toArray 29)
  have n0 := Blk.new_at (w := (w.alloc (.cells (bv (tbl box)).toArray 37)).alloc (.cells (bv k).toArray 22)) (n := w.heap.size + 1 + 1) (t := 29) (cs := (bv n).toArray) (by simp) rfl
  have hB0 := Lib.hid (show Below w.heap.size w (((w.alloc (.cells (bv (tbl box)).toArray 37)).alloc (.cells (bv k).toArray 22)).alloc (.cells (bv n).toArray 29)) from (((Below.refl _ _).alloc (Nat.le_refl _) _).alloc (by simp) _).alloc (by simp; omega) _)
  have hR : Hid (∀ w', Below w.heap.size w w' → RetE w (.returned (.tuple #[.slice none 0 0, .int .i64 2])) w') := fun w' h => ⟨rfl, h⟩
  simp only [List.size_toArray] at k0 n0 t0
  clear hk hn hl
  generalize RetE w = RX at *
  go_enter Try.func17, Try.ntmps17
  go_wp2_with (first
    | refine wpList_loadW rfl 37 (.tmp 4) rfl 256 arrT256 _ rfl 37 _ t0 (tbl_len _) ?_
    | refine wpList_loadW rfl 22 (.tmp 5) rfl 32 arrK32 _ rfl 22 _ k0 hkl.out ?_
    | refine wpList_loadW rfl 29 (.tmp 6) rfl 12 arrN12 _ rfl 29 _ n0 hnl.out ?_
    | (go_at_call 12; refine (hst.out _).mono ?_; rintro e w2 ⟨rfl, hB2⟩))
  exact hR.out _ (below_call hB0.out hB0.out.size hB2)

set_option maxRecDepth 100000 in
set_option maxHeartbeats 2000000 in
theorem rcrypt_core (k n l : List Nat) (A : Option Addr) (len cap : Nat) (w : World) (hlen : len = l.length) (hk : k.length = 32) (bk : Byt k) (hn : n.length = 12) (bn : Byt n) (bl : Byt l) (hl : (l.length : Int) ≤ 65536) (hs : Sl w (.slice A len cap) (bv l)) :
    Calls Try.prog 17 #[.agg (bv (tbl box)).toArray, .agg (bv k).toArray, .agg (bv n).toArray, .slice A len cap] w (RetOK (crypt k n l) w) := by
  obtain ⟨i0, hi, hz0, hz1, hz2⟩ := info_parts (P := Try.prog) (e := 5) (z := .int .u8 0) (size := 1) (bytes := 1) (by kernel_rfl)
  have hst := Lib.hid (fun w => rstream_any k n 0 l.length w hk bk hn bn (by omega) hl)
  have hkl := Lib.hid (show (bv k).length = 32 by simp [hk])
  have hnl := Lib.hid (show (bv n).length = 12 by simp [hn])
  have Bs := Lib.hid (show Byt (strm k n 0 l.length) from strm_lt bk bn _ _)
  have Hs := Lib.hid (show (strm k n 0 l.length).length = l.length from strm_length _ _ _ _)
  have hC : crypt k n l = xorl (strm k n 0 l.length) l := rfl
  rw [hC]
  clear hk bk hn bn hC
  generalize strm k n 0 l.length = S at *
  have Hx := Lib.hid (show (xorl S l).length = l.length by rw [xorl_length Hs.out, Hs.out])
  have hcomm : Hid (∀ a b : Nat, a ^^^ b = b ^^^ a) := fun a b => Nat.xor_comm a b
  have Bl := Lib.hid bl
  have hR : Hid (∀ v w', w'.ownsRow w.heap.size 5 1 v len (bv (xorl S l)) → Below w.heap.size w w' → RetOK (xorl S l) w (.returned (.tuple #[v, .int .i64 0])) w') := fun v w' h1 h2 => ⟨v, rfl, by rw [Hx.out, ← hlen]; exact h1, h2⟩
  generalize RetOK (xorl S l) w = RX at *
  clear bl
  generalize hm : l.length = m at *
  subst hlen
  replace hm := Lib.hid hm
  replace hs := Lib.hid hs
  have t0 := ((Blk.new_at (w := w) (t := 37) (cs := (bv (tbl box)).toArray) rfl rfl).alloc (.cells (bv k).toArray 22)).alloc (.cells (bv n).toArray 29)
  have k0 := (Blk.new_at (w := w.alloc (.cells (bv (tbl box)).toArray 37)) (n := w.heap.size + 1) (t := 22) (cs := (bv k).toArray) (by simp) rfl).alloc (.cells (bv n).toArray 29)
  have n0 := Blk.new_at (w := (w.alloc (.cells (bv (tbl box)).toArray 37)).alloc (.cells (bv k).toArray 22)) (n := w.heap.size + 1 + 1) (t := 29) (cs := (bv n).toArray) (by simp) rfl
  have hB0 := Lib.hid (show Below w.heap.size w (((w.alloc (.cells (bv (tbl box)).toArray 37)).alloc (.cells (bv k).toArray 22)).alloc (.cells (bv n).toArray 29)) from (((Below.refl _ _).alloc (Nat.le_refl _) _).alloc (by simp) _).alloc (by simp; omega) _)
  simp only [List.size_toArray] at k0 n0 t0
  go_enter Try.func17, Try.ntmps17
  go_wp2_with (first
    | refine wpList_loadW rfl 37 (.tmp 4) rfl 256 arrT256 _ rfl 37 _ t0 (tbl_len _) ?_
    | refine wpList_loadW rfl 22 (.tmp 5) rfl 32 arrK32 _ rfl 22 _ k0 hkl.out ?_
    | refine wpList_loadW rfl 29 (.tmp 6) rfl 12 arrN12 _ rfl 29 _ n0 hnl.out ?_
    | (go_at_call 12; refine (hst.out _).mono ?_; rintro e w2 ⟨v, rfl, sl, hB2⟩; obtain ⟨A2, c2, hv, hv2, hv3, -⟩ := id sl; rw [show (bv S).length = len from by rw [bv_length, Hs.out]] at hv hv2; subst hv; replace sl := Lib.hid sl; replace hB2 := below_call hB0.out hB0.out.size hB2; have own0 : (w2.alloc (.cells #[] 5)).ownsRow w2.heap.size 5 1 (.slice (some ⟨w2.heap.size, 0, none⟩) 0 0) 0 [] := World.ownsRow_made w2 #[] 0 (Nat.le_refl _) (Nat.zero_le _) rfl; have bel0 : Below w2.heap.size w2 (w2.alloc (.cells #[] 5)) := (Below.refl _ _).alloc (Nat.le_refl _) _; have sl0 := hs.out.keep ((hB2.trans (bel0.mono hB2.size)).mono (Nat.le_refl _)))
    | (at_builtin; refine wpList_append_sl rfl (.tmp 26) (.tmp 27) 32 rfl w2.heap.size 5 i0 (.int .u8 0) 1 Try.underlying32 hi hz0 hz1 hz2 rfl _ 0 [] rfl own0 _ (bv l) rfl sl0 (bv_oneCell l) ?_ ?_ ?_ ?_))
  · rw [bv_length, hm.out]; unfold maxLen; omega
  · rw [bv_length, hm.out]; omega
  · simp
  intro v' w3 own1 gr1
  have bel1 := own_below bel0 gr1 own0 (by simp)
  clear gr1 own0 sl0 bel0 t0 k0 n0
  have own1 : w3.ownsRow w2.heap.size 5 1 v' len (bv l) := by have := own1; simp only [bv_length, hm.out, Nat.zero_add, List.nil_append] at this; exact this
  obtain ⟨A3, c3, hv4, hv5, -, -⟩ := Sl.of_own own1
  rw [show (bv l).length = len from by rw [bv_length, hm.out]] at hv4 hv5
  subst hv4
  have hw2 := Lib.hid hB2.size
  have hz3 := Lib.hid bel1.size
  replace hB2 := Lib.hid hB2
  replace own1 := Lib.hid own1
  replace bel1 := Lib.hid bel1
  clear hB0
  go_wp2
  go_loopw [31] (fun i wr => ∃ j : Nat, (j : Int) ≤ len ∧ i = .int .i64 (j : Int) ∧ wr.ownsRow w2.heap.size 5 1 (.slice A3 len c3) len (bv (upd (xorl S l) l j)) ∧ Below w2.heap.size w2 wr) (fun i _ => len - (intOf i).toNat)
  case atStart => exact ⟨0, by omega, rfl, by rw [upd_zero]; exact own1.out, bel1.out⟩
  case round =>
    obtain ⟨j, hj, rfl, own, hB⟩ := hrel
    by_cases hlt : (j : Int) < len
    · obtain ⟨g, c', e, -, -⟩ := own_form own (by omega)
      cases e
      have c1 := own.cellAt j (by omega)
      have f1 := own.frozenAt j
      obtain ⟨x, hx⟩ := get_lt (l := S) (k := j) (by have := Hs.out; omega)
      obtain ⟨y, hy⟩ := get_lt (l := l) (k := j) (by have := hm.out; omega)
      rw [bv_get, upd_get (by have := hm.out; have := Hx.out; omega) (Nat.le_refl _) (by have := hm.out; omega), hy] at c1
      simp only [Option.map_some] at c1
      obtain ⟨A', cc, e', -, -, hce⟩ := sl.out.keep hB
      obtain ⟨g2, o2, e2, hcell⟩ := hce (by rw [bv_length, Hs.out]; omega)
      have eA : A2 = some ⟨g2, o2, none⟩ := by rw [← e2]; injection e'
      subst eA
      clear e' e2
      have c2 := hcell j _ (bv_some hx)
      obtain ⟨hxy, hl2⟩ := x8 (Bl.out.get hy) (Bs.out.get hx)
      rw [hcomm.out y x] at hxy
      have hst := (own.stored j (.int .u8 ((x ^^^ y : Nat) : Int)))
      rw [bv_set, upd_set (by have := hm.out; have := Hx.out; omega) (by have := hm.out; omega) (xorl_get hx hy)] at hst
      have hst := Lib.hid hst
      have own := Lib.hid own
      clear hx hy hcell hce hl2
      go_wp2
      go_still_tail 10, (by kernel_rfl)
      change wpList _ _ _ _ _ wr.drew
      go_wp2
      go_roundw
      case rel =>
        refine ⟨j + 1, by omega, by go_num, hst.out.1, ?_⟩
        exact hB.drew.setCell (by simp; exact (own.out.lt g rfl).1) _
      case measure => simp [intOf]; omega
    · obtain rfl : j = len := by omega
      rw [upd_all Hx.out hm.out] at own
      replace own := Lib.hid (ownsRow_mono own hw2.out)
      have hBf := Lib.hid (hB2.out.trans (hB.mono hw2.out))
      go_wp2
      exact hR.out _ _ own.out hBf.out
end Go.Proofs.Ytokphnfhajljmaa
