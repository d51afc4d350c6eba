/- The reference's device: Poke, Peek, Read. -/
import Derived.Test.YtkpefffephbhnaaRvC
set_option linter.unusedVariables false
set_option linter.unusedSimpArgs false
namespace Go.Proofs.Ytkpefffephbhnaa
open Go.RowKit Go.Maps
open Go.Proofs.PlainDev

/-- A part of a block reads as a slice. -/
theorem sl_at {w : World} {g t o n : Nat} {L : List Value} {l : List Nat} (hb : Blk w g t L) (h : (L.drop o).take n = bv l) (hl : l.length = n) (hn : n ≤ maxLen) : Sl w (.slice (some ⟨g, o, none⟩) n n) (bv l) := by
  refine ⟨some ⟨g, o, none⟩, n, by rw [bv_length, hl], by rw [bv_length, hl]; exact Nat.le_refl _, hn, fun _ => ⟨g, o, rfl, fun i u hu => ?_⟩⟩
  rw [hb.cell]
  rw [← h, List.getElem?_take] at hu
  split at hu
  · rw [List.getElem?_drop] at hu; exact hu
  · cases hu
set_option maxRecDepth 100000 in
set_option maxHeartbeats 1000000 in
theorem poke6 {B g : Nat} {w : World} {L : List Nat} {s : Dst} (h : Rx B w g L s) (a : Nat) (ha : (a : Int) ≤ 4294967295) (hlt : a < s.size) (A : Option Addr) (c : Nat) (l : List Nat) (hs : Sl w (.slice A 512 c) (bv l)) (hl : Sec l) (hap : Apart (.slice A 512 c) L) :
    Calls Try.prog 29 #[.pointer (some ⟨g, 0, none⟩), .int .u32 (a : Int), .slice A 512 c] w fun e w' => e = .returned (.int .i64 0) ∧ Rx B w' g L (pokeS s a l) ∧ Step L L w w' := by
  obtain ⟨gl, vw, h, rfl⟩ := h
  have ht := Lib.hid (there6 h a ha)
  rw [decide_eq_true hlt] at ht
  have c0 := h.c0
  have hzI : (s.size : Int) ≤ 4096 := by have := h.ok.size.2; omega
  have hltI : (a : Int) < s.size := by omega
  have hll := h.lies
  have hrl := Lib.hid (rcl_length (lies_len h.ok))
  have q1 := fun w => whole512 gl (a * 512) w
  have hl5 := Lib.hid (show (bv l).length = 512 by rw [bv_length]; exact hl.1)
  replace hl := Lib.hid hl
  have hlt' := Lib.hid hlt
  replace h := Lib.hid h
  clear hlt hap
  go_enter Try.func29, Try.ntmps29
  go_wp2_with fail
  refine ht.out.mono ?_
  rintro e w1 ⟨rfl, rfl⟩
  go_wp2_with (refine wpList_copySl rfl (.tmp 22) (.tmp 23) 22 22 rfl 5 Try.underlying22 (by kernel_rfl) gl (a * 512) 512 512 rfl _ (bv l) rfl hs 65 _ hll ?_ (ones_bv _) ?_)
  · refine Nat.le_trans (Nat.add_le_add_left (Nat.min_le_right _ _) _) (Nat.le_trans (row_le hlt'.out) (Nat.le_of_eq hrl.out.symm))
  intro w2 hb2 hK2
  rw [List.take_of_length_le (Nat.le_of_eq hl5.out)] at hb2
  have H2 := h.out.lay hK2 hlt'.out (Nat.le_of_eq hl.out.1) hl.out.2 hb2
  rw [hl.out.1, List.drop_of_length_le (Nat.le_of_eq (lies_len h.out.ok a hlt'.out)), List.append_nil] at H2
  have hS := Lib.hid (keeps_one (G := rblk g gl vw) hK2 (mem_rblk.2 (.inr (.inl rfl))))
  replace H2 := Lib.hid H2
  clear c0 hll hb2 hK2 hs
  go_wp2
  go_ret
  exact ⟨rfl, ⟨gl, vw, H2.out, rfl⟩, ⟨hS.out, fun k hk => .inl hk⟩⟩
set_option maxRecDepth 100000 in
theorem poke6_err {B g : Nat} {w : World} {L : List Nat} {s : Dst} (h : Rx B w g L s) (a : Nat) (ha : (a : Int) ≤ 4294967295) (A : Option Addr) (n c : Nat) (he : mayE s a n = 2) :
    Calls Try.prog 29 #[.pointer (some ⟨g, 0, none⟩), .int .u32 (a : Int), .slice A n c] w fun e w' => e = .returned (.int .i64 2) ∧ w = w' := by
  obtain ⟨gl, vw, h, rfl⟩ := h
  have ht := Lib.hid (there6 h a ha)
  unfold mayE at he
  clear h
  by_cases hlt : a < s.size
  · rw [if_pos hlt] at he
    rw [decide_eq_true hlt] at ht
    have hn : ¬ (n : Int) = 512 := fun e => by rw [if_pos (by omega)] at he; cases he
    clear he hlt
    go_enter Try.func29, Try.ntmps29
    go_wp2_with fail
    refine ht.out.mono ?_
    rintro e w1 ⟨rfl, rfl⟩
    go_wp2
    go_ret
    exact ⟨rfl, rfl⟩
  · rw [decide_eq_false hlt] at ht
    clear he hlt
    go_enter Try.func29, Try.ntmps29
    go_wp2_with fail
    refine ht.out.mono ?_
    rintro e w1 ⟨rfl, rfl⟩
    go_wp2
    go_ret
    exact ⟨rfl, rfl⟩
set_option maxRecDepth 100000 in
set_option maxHeartbeats 1000000 in
theorem peek6 {B g : Nat} {w : World} {L : List Nat} {s : Dst} (h : Rx B w g L s) (a : Nat) (ha : (a : Int) ≤ 4294967295) (hlt : a < s.size) :
    Calls Try.prog 31 #[.pointer (some ⟨g, 0, none⟩), .int .u32 (a : Int)] w (RetPk (liesL s a) w) := by
  obtain ⟨gl, vw, h, rfl⟩ := h
  have ht := Lib.hid (there6 h a ha)
  rw [decide_eq_true hlt] at ht
  have hzI : (s.size : Int) ≤ 4096 := by have := h.ok.size.2; omega
  have hltI : (a : Int) < s.size := by omega
  have q1 := fun w => whole512 gl (a * 512) w
  have hR : Hid (∀ v w', w'.ownsRow w.heap.size 5 1 v 512 (bv (liesL s a)) → Below w.heap.size w w' → RetPk (liesL s a) w (.returned (.tuple #[v, .int .i64 0])) w') := fun v w' h1 h2 => ⟨v, rfl, h1, h2⟩
  have hlen := Lib.hid (show (bv (liesL s a)).length = 512 by rw [bv_length]; exact lies_len h.ok a hlt)
  have own0 : (w.alloc (.cells #[] 5)).ownsRow w.heap.size 5 1 (.slice (some ⟨w.heap.size, 0, none⟩) 0 0) 0 [] := World.ownsRow_made w #[] 0 (Nat.le_refl _) (Nat.zero_le _) rfl
  have bel0 : Below w.heap.size w (w.alloc (.cells #[] 5)) := (Below.refl _ _).alloc (Nat.le_refl _) _
  have c0 := (h.blk.keep bel0).cell 0
  change _ = some (Value.slice (some ⟨gl, 0, none⟩) s.size s.size) at c0
  have sl0 := sl_at (h.lies.keep bel0) (rcl_get (lies_len h.ok) hlt) (lies_len h.ok a hlt) (by unfold maxLen; decide)
  obtain ⟨i0, hi, hz0, hz1, hz2⟩ := info_parts (P := Try.prog) (e := 5) (z := .int .u8 0) (size := 1) (bytes := 1) (by kernel_rfl)
  clear h hlt
  generalize RetPk (liesL s a) w = RX at *
  generalize liesL s a = l at *
  go_enter Try.func31, Try.ntmps31
  go_wp2_with fail
  refine ht.out.mono ?_
  rintro e w1 ⟨rfl, rfl⟩
  go_wp2_with (at_builtin; refine wpList_append_sl rfl (.tmp 10) (.tmp 17) 22 rfl w.heap.size 5 i0 (.int .u8 0) 1 Try.underlying22 hi hz0 hz1 hz2 rfl _ 0 [] rfl own0 _ (bv l) rfl sl0 (bv_oneCell l) ?_ ?_ ?_ ?_)
  · rw [hlen.out]; simp [maxLen]
  · rw [hlen.out]; simp
  · simp
  intro v2 w2 own2 gr2
  have bel2 := Lib.hid (own_below bel0 gr2 own0 (by simp))
  have hlen2 := hlen.out
  rw [bv_length] at hlen2
  have own2' : Hid (w2.ownsRow w.heap.size 5 1 v2 512 (bv l)) := Lib.hid (by simpa [hlen2] using own2)
  clear own2 gr2 own0 bel0 sl0 c0 q1 hlen2
  go_wp2
  exact hR.out _ _ own2'.out bel2.out
set_option maxRecDepth 100000 in
theorem peek6_err {B g : Nat} {w : World} {L : List Nat} {s : Dst} (h : Rx B w g L s) (a : Nat) (ha : (a : Int) ≤ 4294967295) (he : ¬ a < s.size) :
    Calls Try.prog 31 #[.pointer (some ⟨g, 0, none⟩), .int .u32 (a : Int)] w fun e w' => e = .returned (.tuple #[.slice none 0 0, .int .i64 2]) ∧ w = w' := by
  obtain ⟨gl, vw, h, rfl⟩ := h
  have ht := Lib.hid (there6 h a ha)
  rw [decide_eq_false he] at ht
  clear h he
  go_enter Try.func31, Try.ntmps31
  go_wp2_with fail
  refine ht.out.mono ?_
  rintro e w1 ⟨rfl, rfl⟩
  go_wp2
  go_ret2
  exact ⟨rfl, rfl⟩
set_option maxRecDepth 100000 in
theorem read6_err {B g : Nat} {w : World} {L : List Nat} {s : Dst} (h : Rx B w g L s) (a : Nat) (ha : (a : Int) ≤ 4294967295) (he : ¬ a < s.size) :
    Calls Try.prog 30 #[.pointer (some ⟨g, 0, none⟩), .int .u32 (a : Int)] w fun e w' => e = .returned (.tuple #[.slice none 0 0, .int .i64 2]) ∧ w = w' := by
  obtain ⟨gl, vw, h, rfl⟩ := h
  have ht := Lib.hid (there6 h a ha)
  rw [decide_eq_false he] at ht
  clear h he
  go_enter Try.func30, Try.ntmps30
  go_wp2_with fail
  refine ht.out.mono ?_
  rintro e w1 ⟨rfl, rfl⟩
  go_wp2
  go_ret2
  exact ⟨rfl, rfl⟩
set_option maxRecDepth 100000 in
theorem read6_down {B g : Nat} {w : World} {L : List Nat} {s : Dst} (h : Rx B w g L s) (a : Nat) (ha : (a : Int) ≤ 4294967295) (hlt : a < s.size) (hd : s.down = true) :
    Calls Try.prog 30 #[.pointer (some ⟨g, 0, none⟩), .int .u32 (a : Int)] w fun e w' => e = .returned (.tuple #[.slice none 0 0, .int .i64 7]) ∧ w = w' := by
  obtain ⟨gl, vw, h, rfl⟩ := h
  have ht := Lib.hid (there6 h a ha)
  rw [decide_eq_true hlt] at ht
  have c3 := h.c3
  rw [hd] at c3
  clear h hlt hd
  go_enter Try.func30, Try.ntmps30
  go_wp2_with fail
  refine ht.out.mono ?_
  rintro e w1 ⟨rfl, rfl⟩
  go_wp2
  go_ret2
  exact ⟨rfl, rfl⟩
theorem read_take (s : Dst) {k x : Nat} {b : List Nat} (h : s.waits[k]? = some (x, b)) (a : Nat) : readL { s with waits := s.waits.take (k + 1) } a = if a = x then b else readL { s with waits := s.waits.take k } a := by
  rw [take_succ_get s.waits k _ h]
  exact readL_app { s with waits := s.waits.take k } x b a
set_option maxRecDepth 100000 in
set_option maxHeartbeats 2000000 in
theorem read6 {B g : Nat} {w : World} {L : List Nat} {s : Dst} (h : Rx B w g L s) (a : Nat) (ha : (a : Int) ≤ 4294967295) (hlt : a < s.size) (hd : s.down = false) (hnw : (s.waits.length : Int) ≤ 100000) :
    Calls Try.prog 30 #[.pointer (some ⟨g, 0, none⟩), .int .u32 (a : Int)] w (RetPk (readL s a) w) := by
  obtain ⟨gl, vw, h, rfl⟩ := h
  have ht := Lib.hid (there6 h a ha)
  rw [decide_eq_true hlt] at ht
  have c3 := h.c3
  rw [hd] at c3
  have hzI : (s.size : Int) ≤ 4096 := by have := h.ok.size.2; omega
  have hltI : (a : Int) < s.size := by omega
  have q1 := fun w => whole512 gl (a * 512) w
  have hR : Hid (∀ v w', w'.ownsRow w.heap.size 5 1 v 512 (bv (readL s a)) → Below w.heap.size w w' → RetPk (readL s a) w (.returned (.tuple #[v, .int .i64 0])) w') := fun v w' h1 h2 => ⟨v, rfl, h1, h2⟩
  have hfin : Hid (∀ k, k = s.waits.length → readL { s with waits := s.waits.take k } a = readL s a) := fun k hk => by rw [hk, List.take_length]
  have hstep : Hid (∀ k x b, s.waits[k]? = some (x, b) → readL { s with waits := s.waits.take (k + 1) } a = if a = x then b else readL { s with waits := s.waits.take k } a) := fun k x b hp => read_take s hp a
  have h0 : Hid (readL { s with waits := s.waits.take 0 } a = liesL s a) := by show _ = _; rw [List.take_zero]; rfl
  have hlen := Lib.hid (show (bv (liesL s a)).length = 512 by rw [bv_length]; exact lies_len h.ok a hlt)
  have own0 : (w.alloc (.cells #[] 5)).ownsRow w.heap.size 5 1 (.slice (some ⟨w.heap.size, 0, none⟩) 0 0) 0 [] := World.ownsRow_made w #[] 0 (Nat.le_refl _) (Nat.zero_le _) rfl
  have bel0 : Below w.heap.size w (w.alloc (.cells #[] 5)) := (Below.refl _ _).alloc (Nat.le_refl _) _
  have c0 := (h.blk.keep bel0).cell 0
  change _ = some (Value.slice (some ⟨gl, 0, none⟩) s.size s.size) at c0
  have sl0 := sl_at (h.lies.keep bel0) (rcl_get (lies_len h.ok) hlt) (lies_len h.ok a hlt) (by unfold maxLen; decide)
  obtain ⟨i0, hi, hz0, hz1, hz2⟩ := info_parts (P := Try.prog) (e := 5) (z := .int .u8 0) (size := 1) (bytes := 1) (by kernel_rfl)
  obtain ⟨Aw, cw, hvw⟩ : ∃ A c, vw = .slice A s.waits.length c := by
    rcases h.row.2 with ⟨e, e2⟩ | ⟨g', cap, cur, e, _⟩
    · exact ⟨none, 0, by rw [e, e2]⟩
    · exact ⟨_, _, e⟩
  subst hvw
  replace h := Lib.hid h
  clear hlt
  generalize RetPk (readL s a) w = RX at *
  generalize liesL s a = l0 at *
  generalize readL s a = lR at *
  generalize hn0 : s.waits.length = n at *
  have hn := Lib.hid hn0.symm
  clear hn0
  go_enter Try.func30, Try.ntmps30
  go_wp2_with fail
  refine ht.out.mono ?_
  rintro e w1 ⟨rfl, rfl⟩
  go_wp2_with (at_builtin; refine wpList_append_sl rfl (.tmp 17) (.tmp 24) 22 rfl w.heap.size 5 i0 (.int .u8 0) 1 Try.underlying22 hi hz0 hz1 hz2 rfl _ 0 [] rfl own0 _ (bv l0) rfl sl0 (bv_oneCell l0) ?_ ?_ ?_ ?_)
  · rw [hlen.out]; simp [maxLen]
  · rw [hlen.out]; simp
  · simp
  intro v2 w2 own2 gr2
  have bel2 := Lib.hid (own_below bel0 gr2 own0 (by simp))
  have hlen2 := hlen.out
  rw [bv_length] at hlen2
  have own2' : Hid (w2.ownsRow w.heap.size 5 1 v2 512 (bv l0)) := Lib.hid (by simpa [hlen2] using own2)
  clear own2 gr2 own0 bel0 sl0 c0 q1 hlen2 c3
  have c1 := (h.out.blk.keep bel2.out).cell 1
  change _ = some (Value.slice Aw n cw) at c1
  go_wp2_with fail
  go_loopw [6, 31] (fun v i wr => ∃ (k : Nat), (k : Int) ≤ n ∧ i = .int .i64 (k : Int) ∧ Hid (wr.ownsRow w.heap.size 5 1 v 512 (bv (readL { s with waits := s.waits.take k } a))) ∧ Hid (Below w.heap.size w wr)) (fun _ i _ => n - (intOf i).toNat)
  case atStart => exact ⟨0, by omega, rfl, by rw [h0.out]; exact own2', bel2⟩
  case round =>
    clear own2' bel2 c1
    obtain ⟨k, hk, rfl, own, hB⟩ := hrel
    by_cases hlt2 : (k : Int) < n
    · obtain ⟨p, hp⟩ : ∃ p, s.waits[k]? = some p := ⟨_, List.getElem?_eq_getElem (by have := hn.out; omega)⟩
      obtain ⟨x, b⟩ := p
      have hst := hstep.out k _ _ hp
      have hps := h.out.ok.waits (x, b) (List.mem_of_getElem? hp)
      have hbl := Lib.hid (show (bv b).length = 512 by rw [bv_length]; exact hps.2.1)
      obtain ⟨kk, cap, LL, hvw, hkk, hLl, hLd⟩ := h.out.wait (p := (x, b)) hp
      replace hkk := hkk.keep hB.out
      injection hvw with e1 e2 e3
      subst e1 e3
      clear e2
      replace hLd := Lib.hid hLd
      replace hLl := Lib.hid hLl
      replace hst := Lib.hid hst
      replace hps := Lib.hid hps
      clear hp
      go_wp2_with (first
        | refine wpList_loadA rfl 80 (.tmp 33) rfl 513 arrWr6 kk (k * 513) rfl 80 LL hkk (by have := hLl.out; omega) (.int .u32 (x : Int) :: bv b) hLd.out ?_
        | refine wpList_allocA rfl 80 rfl (.int .u32 0 :: bv (zeros 512)) wr6_zero ?_)
      intro w3 h4 hK3 hz3
      have B3 := Lib.hid (hB.out.trans (hK3.below hB.out.size (by simp)))
      have own3 := Lib.hid (own_keep own.out (hK3.below (Nat.le_refl _) (by simp)))
      have hge4 : Hid (w.heap.size ≤ wr.heap.size) := hB.out.size
      have hne4 : Hid (∀ q, w.heap.size ≤ q → (u6).ownBlock = some q → q ∉ [wr.heap.size]) := fun q _ hq => by have := (own.out.lt q hq).2; simp; omega
      clear hK3 hkk hLd hLl hz3 own hB
      generalize wr.heap.size = g4 at *
      go_wp2_with (refine wpList_storeW rfl 80 (.tmp 8) (.tmp 34) rfl 513 arrWr6 g4 rfl (.int .u32 (x : Int) :: bv b) rfl 80 _ h4 ?_ ?_ (ones_wr x b) ?_)
      · rw [List.length_cons, hbl.out]
      · rw [List.length_cons, bv_length]; rw [show (zeros 512).length = 512 from List.length_replicate]
      intro w4 h4 hK4
      have B4 := Lib.hid (B3.out.trans (hK4.below B3.out.size (by simp; exact hge4.out)))
      have own4 := Lib.hid (own_keeps own3.out hK4 hne4.out)
      clear hK4 own3 B3 hne4
      have hxz : (x : Int) ≤ 4294967295 := by have : x < s.size := hps.out.1; omega
      have cx : w4.cell? ⟨g4, 0, none⟩ = some (.int .u32 (x : Int)) := (h4.cell 0).trans rfl
      by_cases hxa : (x : Int) = (a : Int)
      · rw [if_pos (by omega)] at hst
        rw [hxa] at cx
        have q2 := fun w => whole512 g4 1 w
        have own0 : (w4.alloc (.cells #[] 5)).ownsRow w4.heap.size 5 1 (.slice (some ⟨w4.heap.size, 0, none⟩) 0 0) 0 [] := World.ownsRow_made w4 #[] 0 (Nat.le_refl _) (Nat.zero_le _) rfl
        have bel0 : Below w4.heap.size w4 (w4.alloc (.cells #[] 5)) := (Below.refl _ _).alloc (Nat.le_refl _) _
        have sl0 := sl_at (h4.keep bel0) (wr_drop x hbl.out) hps.out.2.1 (by unfold maxLen; decide)
        clear own4 hxa
        go_wp2_with (at_builtin; refine wpList_append_sl rfl (.tmp 39) (.tmp 41) 22 rfl w4.heap.size 5 i0 (.int .u8 0) 1 Try.underlying22 hi hz0 hz1 hz2 rfl _ 0 [] rfl own0 _ (bv b) rfl sl0 (bv_oneCell b) ?_ ?_ ?_ ?_)
        · rw [hbl.out]; simp [maxLen]
        · rw [hbl.out]; simp
        · simp
        intro v5 w5 own5 gr5
        have bel5 := own_below bel0 gr5 own0 (by simp)
        have hlen5 := hps.out.2.1
        have own5' : w5.ownsRow w4.heap.size 5 1 v5 512 (bv b) := by simpa [hlen5] using own5
        rw [← hst.out] at own5'
        have own6 := Lib.hid (ownsRow_mono own5' B4.out.size)
        have B5 := Lib.hid (below_call B4.out B4.out.size bel5)
        clear hlen5 own5 own5' gr5 own0 bel0 sl0 bel5 B4 cx q2 h4
        go_wp2
        go_roundw
        case rel => exact ⟨k + 1, by omega, by go_num, own6, B5⟩
        case measure => simp [intOf]; omega
      · rw [if_neg (by omega)] at hst
        rw [← hst.out] at own4
        clear h4
        go_wp2
        go_roundw
        case rel => exact ⟨k + 1, by omega, by go_num, own4, B4⟩
        case measure => simp [intOf]; omega
    · obtain rfl : k = n := by omega
      rw [hfin.out k rfl] at own
      go_wp2
      exact hR.out _ _ own.out hB.out
end Go.Proofs.Ytkpefffephbhnaa
