/- Contracts of package ctr: Crypt; of the statements' own example. -/
import Derived.Test.YtokphnfhajljmaaCtrB
set_option linter.unusedVariables false
set_option linter.unusedSimpArgs false
namespace Go.Proofs.Ytokphnfhajljmaa
open Go.RowKit
open Go.Proofs.PlainAes

set_option maxRecDepth 100000 in
set_option maxHeartbeats 2000000 in
theorem crypt_core (k n l : List Nat) (A : Option Addr) (len cap : Nat) (w : World) (hlen : len = l.length) (hk : k.length = 32) (bk : Byt k) (hn : n.length = 12) (bn : Byt n) (bl : Byt l) (hl : (l.length : Int) ≤ 65536) (hs : Sl w (.slice A len cap) (bv l)) :
    Calls Try.prog 16 #[.agg (bv k).toArray, .agg (bv n).toArray, .slice A len cap] w (RetOK (crypt k n l) w) := by
  have hst := Lib.hid (fun w => stream_any k n 0 l.length w hk bk hn bn (by omega) hl)
  have hkl := Lib.hid (show (bv k).length = 32 by simp [hk])
  have hnl := Lib.hid (show (bv n).length = 12 by simp [hn])
  have Bs := Lib.hid (show Byt (strm k n 0 l.length) from strm_lt bk bn _ _)
  have Hs := Lib.hid (show (strm k n 0 l.length).length = l.length from strm_length _ _ _ _)
  have hC : crypt k n l = xorl (strm k n 0 l.length) l := rfl
  rw [hC]
  have hs' := hs
  clear hk bk hn bn hC
  generalize strm k n 0 l.length = S at *
  have Hx := Lib.hid (show (xorl S l).length = l.length by rw [xorl_length Hs.out, Hs.out])
  have Bl := Lib.hid bl
  clear bl
  generalize hm : l.length = m at *
  subst hlen
  replace hm := Lib.hid hm
  replace hs := Lib.hid hs
  clear hs'
  have k0 := (Blk.new_at (w := w) (t := 28) (cs := (bv k).toArray) rfl rfl).alloc (.cells (bv n).toArray 30)
  have n0 := Blk.new_at (w := w.alloc (.cells (bv k).toArray 28)) (n := w.heap.size + 1) (t := 30) (cs := (bv n).toArray) (by simp) rfl
  have hB0 : Below w.heap.size w ((w.alloc (.cells (bv k).toArray 28)).alloc (.cells (bv n).toArray 30)) := ((Below.refl _ _).alloc (Nat.le_refl _) _).alloc (by simp) _
  simp only [List.size_toArray] at k0 n0 
  go_enter Try.func16, Try.ntmps16
  go_wp2_with (first
    | refine wpList_loadW rfl 28 (.tmp 3) rfl 32 arrK _ rfl 28 _ k0 hkl.out ?_
    | refine wpList_loadW rfl 30 (.tmp 4) rfl 12 arrN _ rfl 30 _ n0 hnl.out ?_
    | (go_at_call 11; refine (hst.out _).mono ?_; rintro e w2 ⟨v, rfl, own, hB2⟩; rw [Hs.out] at own; obtain ⟨A2, c2, hv, hv2, hv3, -⟩ := Sl.of_own own; rw [show (bv S).length = len from by rw [bv_length, Hs.out]] at hv hv2; subst hv; replace own := Lib.hid (ownsRow_mono own (b' := w.heap.size) (by simp; omega)); replace hB2 := below_call hB0 hB0.size hB2))
  go_loopw [24] (fun i wr => ∃ j : Nat, j ≤ len ∧ i = .int .i64 (j : Int) ∧ wr.ownsRow w.heap.size 5 1 (.slice A2 len c2) len (bv (upd (xorl S l) S j)) ∧ Below w.heap.size w wr) (fun i _ => len - (intOf i).toNat)
  case atStart => exact ⟨0, Nat.zero_le _, rfl, by rw [upd_zero]; exact own.out, hB2⟩
  case round =>
    clear own hB2 k0 n0 hB0
    obtain ⟨j, hj, rfl, own, hB⟩ := hrel
    by_cases hlt : (j : Int) < len
    · obtain ⟨g, c', e, -, -⟩ := own_form own (by omega)
      cases e
      have c1 := own.cellAt j (by omega)
      have f1 := own.frozenAt j
      obtain ⟨x, hx⟩ := get_lt (l := S) (k := j) (by have := Hs.out; omega)
      obtain ⟨y, hy⟩ := get_lt (l := l) (k := j) (by have := hm.out; omega)
      rw [bv_get, upd_get (by have := Hs.out; have := Hx.out; omega) (Nat.le_refl _) (by have := Hs.out; omega), hx] at c1
      simp only [Option.map_some] at c1
      obtain ⟨A', cc, e', -, -, hce⟩ := hs.out.keep (hB.mono (Nat.le_refl _))
      obtain ⟨g2, o2, e2, hcell⟩ := hce (by rw [bv_length, hm.out]; omega)
      have eA : A = some ⟨g2, o2, none⟩ := by rw [← e2]; injection e'
      subst eA
      clear e' e2
      have c2 := hcell j _ (bv_some hy)
      obtain ⟨hxy, hl2⟩ := x8 (Bs.out.get hx) (Bl.out.get hy)
      have hst := (own.stored j (.int .u8 ((x ^^^ y : Nat) : Int)))
      rw [bv_set, upd_set (by have := Hs.out; have := Hx.out; omega) (by have := Hs.out; omega) (xorl_get hx hy)] at hst
      have hst := Lib.hid hst
      have own := Lib.hid own
      clear hx hy hcell hce
      go_wp2
      go_still_tail 10, (by kernel_rfl)
      change wpList _ _ _ _ _ wr.drew
      go_wp2
      go_roundw
      case rel =>
        refine ⟨j + 1, by omega, by go_num, hst.out.1, ?_⟩
        exact hB.drew.setCell (by simp; have := (own.out.lt g rfl).1; omega) _
      case measure => simp [intOf]; omega
    · obtain rfl : j = len := by omega
      rw [upd_all (by rw [Hx.out]) (by rw [Hs.out])] at own
      replace own := Lib.hid own
      go_wp2
      go_returns
      exact ⟨_, rfl, by rw [Hx.out]; exact own.out, hB⟩
theorem crypt_any (k n l : List Nat) (v : Value) (w : World) (hk : k.length = 32) (bk : Byt k) (hn : n.length = 12) (bn : Byt n) (bl : Byt l) (hl : (l.length : Int) ≤ 65536) (hs : Sl w v (bv l)) :
    Calls Try.prog 16 #[.agg (bv k).toArray, .agg (bv n).toArray, v] w (RetOK (crypt k n l) w) := by
  obtain ⟨A, c, rfl, _⟩ := id hs
  exact crypt_core k n l A _ c w (bv_length l) hk bk hn bn bl hl hs
end Go.Proofs.Ytokphnfhajljmaa
