/- Contracts of banyanref02's With and Sum. -/
import Derived.Test.YtlifpmglaoppoaaScG
import Derived.Test.YtlifpmglaoppoaaQ12P3
set_option linter.unusedVariables false
set_option linter.unusedSimpArgs false
namespace Go.Proofs.Ytlifpmglaoppoaa
open Go.RowKit
open Go.Proofs.PlainAes
open Go.Proofs.PlainSha

theorem index_word8 (L : List Nat) (k : Nat) (hL : L.length = 8) (hk : k < 8) (w : World) : (Instr.index 105 (.agg (wv L).toArray) (.int .i64 (k : Int))).run Try.prog w = .ok (.int .u32 ((gd L k : Nat) : Int)) w := by
  have hu : Try.prog.underlying 105 = some (.array 8 35) := Try.underlying105
  have hs : (sizeOf 35).run Try.prog w = .ok 1 w := by kernel_rfl
  have ha : (isAgg 35).run Try.prog w = .ok false w := by kernel_rfl
  have hg : (wv L)[k]? = some (.int .u32 ((gd L k : Nat) : Int)) := gd_wv (by omega)
  have hkI : (k : Int) < 8 := by omega
  simp [Instr.index, asIntOf, Sem.run_bind, run_underlying hu, hs, ha, part, hk, hg]
theorem pad_byt {l : List Nat} (bl : Byt l) : Byt (pad l) := by
  intro x hx
  simp only [pad, List.mem_append, List.mem_cons, List.not_mem_nil, or_false, List.mem_replicate] at hx
  rcases hx with ((h | h) | h) | h
  · exact bl x h
  · omega
  · omega
  · exact putB_lt _ _ x h
theorem pad_step (n j : Nat) (h : j < noughts n) : ¬ (n + 1 + j) % 64 = 56 := by unfold noughts at h; omega
theorem pad_last (n : Nat) : (n + 1 + noughts n) % 64 = 56 := by unfold noughts; omega

set_option maxRecDepth 100000 in
set_option maxHeartbeats 4000000 in
theorem with_core (AH AK : Option Addr) (cH cK : Nat) (A : Option Addr) (n c : Nat) (l : List Nat) (w : World) (hH : Sl w (.slice AH 8 cH) (wv H0)) (hK : Sl w (.slice AK 64 cK) (wv K0)) (hs : Sl w (.slice A n c) (bv l)) (bl : Byt l) (hlen : (l.length : Int) ≤ 549755813888) :
    Calls Try.prog 52 #[.agg #[.slice AH 8 cH, .slice AK 64 cK], .slice A n c] w (RetH (shaL l) w) := by
  obtain ⟨i0, hi, hz0, hz1, hz2⟩ := info_parts (P := Try.prog) (e := 5) (z := .int .u8 0) (size := 1) (bytes := 1) (by kernel_rfl)
  have hbl := Lib.hid (fun (AS A : Option Addr) (c cK : Nat) (s b : List Nat) (w : World) a1 a2 a3 a4 a5 a6 => rblock_core A AK c cK s b K0 w a1 a2 a3 a4 K0_length K0_wds a5 a6)
  have hby := Lib.hid (fun x n w a1 a2 a3 => rbytes_any x n w a1 a2 a3)
  have hn : n = l.length := by obtain ⟨_, _, e, _⟩ := hs; injection e with _ e _; simpa using e
  subst hn
  have Hs := Lib.hid hs
  have HK := Lib.hid hK
  have HH := Lib.hid hH
  have Bl := Lib.hid bl
  clear hs hK hH bl
  have hk0 := Blk.new w 103 #[.slice AH 8 cH, .slice AK 64 cK]
  have hB0 := (Below.refl w.heap.size w).alloc (Nat.le_refl _) (.cells #[.slice AH 8 cH, .slice AK 64 cK] 103)
  go_enter Try.func52, Try.ntmps52
  go_wp2_with (refine wpList_allocA rfl 26 rfl (bv (zeros 32)) (by kernel_rfl) ?_)
  intro w1 ho1 hK1 hz1
  have hc1 := hk0.keeps hK1 (by simp)
  have hB1 := hB0.trans (hK1.below (by simp) (by simp))
  have hzw : Hid (w1.heap.size = w.heap.size + 2) := by show _ = _; simpa using hz1
  replace ho1 : Blk w1 (w.heap.size + 1) 26 (bv (zeros 32)) := by simpa using ho1
  clear hK1 hz1 hk0 hB0
  have own0 : (w1.alloc (.cells #[] 5)).ownsRow w1.heap.size 5 1 (.slice (some ⟨w1.heap.size, 0, none⟩) 0 0) 0 [] := World.ownsRow_made w1 #[] 0 (Nat.le_refl _) (Nat.zero_le _) rfl
  have bel0 : Below w1.heap.size w1 (w1.alloc (.cells #[] 5)) := (Below.refl _ _).alloc (Nat.le_refl _) _
  have sl1 := (Hs.out.keep hB1).keep bel0
  go_wp2_with (at_builtin; refine wpList_append_sl rfl (.tmp 11) (.tmp 12) 22 rfl w1.heap.size 5 i0 (.int .u8 0) 1 Try.underlying22 hi hz0 hz1 hz2 rfl _ 0 [] rfl own0 _ (bv l) rfl sl1 (bv_oneCell l) ?_ ?_ ?_ ?_)
  · simp [maxLen]; omega
  · simp; omega
  · simp
  intro v2 w2 own2 gr2
  have hB2 := own_below bel0 gr2 own0 (by simp)
  try simp only [Nat.zero_add, List.nil_append, bv_length] at own2
  clear gr2 own0 bel0 sl1
  obtain ⟨A2, c2, rfl, -⟩ := own_shape own2
  go_wp2_with (at_builtin; refine wpList_append_sl rfl (.tmp 13) (.tmp 14) 22 rfl w1.heap.size 5 i0 (.int .u8 0) 1 Try.underlying22 hi hz0 hz1 hz2 rfl _ l.length (bv l) rfl (own2.alloc _) _ (bv [128]) rfl ?_ (bv_oneCell _) ?_ ?_ ?_ ?_)
  · exact Sl.of_blk (n := 1) (c := 1) (Blk.new_at (w := w2) (t := 5) (cs := #[.int .u8 128]) rfl rfl) (Nat.le_refl _) (by simp) (by unfold maxLen; omega)
  · simp [maxLen]; omega
  · simp; omega
  · have := hB2.size; simp; omega
  intro v3 w3 own3 gr3
  have hB3 : Below w1.heap.size w1 w3 := own_below (hB2.alloc hB2.size (.cells #[.int .u8 128] 5)) gr3 (own2.alloc _) (by have := hB2.size; simp; omega)
  rw [← bv_app] at own3
  clear gr3 own2 hB2
  obtain ⟨z, hz⟩ : ∃ z, z = noughts l.length := ⟨_, rfl⟩
  have hzlt : Hid (z < 64) := by show _ < _; rw [hz]; unfold noughts; omega
  have hstep := Lib.hid (fun j h => pad_step l.length j h)
  have hlast := Lib.hid (pad_last l.length)
  rw [← hz] at hlast hstep
  replace hz := Lib.hid hz
  go_wp2
  go_loopg [5] z (fun gk v wr => ∃ j, Hid (gk + j = z) ∧ wr.ownsRow w1.heap.size 5 1 v (l.length + 1 + j) (bv (l ++ [128] ++ List.replicate j 0)) ∧ Below w1.heap.size w1 wr)
  case atStart => exact ⟨0, rfl, by simpa using own3, hB3⟩
  case round =>
    clear own3 hB3
    obtain ⟨j, hgk, own, hB⟩ := hrel
    obtain ⟨Aj, cj, rfl, -⟩ := own_shape own
    replace own := Lib.hid own
    by_cases hj : j < z
    · have ht : (((l.length + 1 + j : Nat) : Int) % 64 != 56) = true := by
        have := hstep.out j hj
        simp only [bne_iff_ne, ne_eq]
        omega
      go_wp2_with (at_builtin; refine wpList_append_sl rfl (.tmp 20) (.tmp 21) 22 rfl w1.heap.size 5 i0 (.int .u8 0) 1 Try.underlying22 hi hz0 hz1 hz2 rfl _ (l.length + 1 + j) (bv (l ++ [128] ++ List.replicate j 0)) rfl (own.out.alloc _) _ (bv [0]) rfl ?_ (bv_oneCell _) ?_ ?_ ?_ ?_)
      · exact (Sl.of_blk (n := 1) (c := 1) (Blk.new_at (w := wr) (t := 5) (cs := #[.int .u8 0]) rfl rfl) (Nat.le_refl _) (by simp) (by unfold maxLen; omega))
      · have := hzlt.out; simp [maxLen]; omega
      · have := hzlt.out; simp; omega
      · have := hB.size; simp; omega
      intro v' w4 own4 gr4
      have hB4 : Below w1.heap.size w1 w4 := own_below (hB.alloc hB.size (.cells #[.int .u8 0] 5)) gr4 (own.out.alloc _) (by have := hB.size; simp; omega)
      rw [← bv_app] at own4
      replace own4 := Lib.hid own4
      clear gr4 own hB
      go_wp2
      go_roundg (gk - 1)
      case measure => have := hgk.out; omega
      case rel =>
        refine ⟨j + 1, by show _ = _; have := hgk.out; omega, ?_, hB4⟩
        have h := own4.out
        rw [show l ++ 128 :: List.replicate j 0 ++ [0] = l ++ [128] ++ List.replicate (j + 1) 0 from by rw [List.replicate_succ']; simp] at h
        exact h
    · have hjz : j = z := by have := hgk.out; omega
      subst hjz
      have ht : (((l.length + 1 + j : Nat) : Int) % 64 != 56) = false := by
        have := hlast.out
        simp only [bne_eq_false_iff_eq]
        omega
      have hput := Lib.hid (hby.out (l.length * 8) 8 wr (by omega) (by decide) (Nat.div_eq_of_lt (Nat.lt_of_lt_of_le (show l.length * 8 < 18446744073709551616 by omega) (by decide))))
      rw [show ((l.length * 8 : Nat) : Int) = (l.length : Int) * 8 from by simp] at hput
      go_wp2_with fail
      refine hput.out.mono ?_
      rintro e w5 ⟨v5, rfl, sl5, hB5⟩
      have own5 := own_keep own.out hB5
      have hB5' := below_call hB hB.size hB5
      obtain ⟨A5, c5, hv5, -⟩ := id sl5
      subst hv5
      go_wp2_with (at_builtin; refine wpList_append_sl rfl (.tmp 23) (.tmp 28) 22 rfl w1.heap.size 5 i0 (.int .u8 0) 1 Try.underlying22 hi hz0 hz1 hz2 rfl _ (l.length + 1 + j) (bv (l ++ [128] ++ List.replicate j 0)) rfl own5 _ (bv (putB (l.length * 8) 8)) rfl sl5 (bv_oneCell _) ?_ ?_ ?_ ?_)
      · have := hzlt.out; simp [maxLen]; omega
      · have := hzlt.out; simp; omega
      · exact hB5'.size
      intro v6 w6 own6 gr6
      have hB6 : Below w1.heap.size w1 w6 := own_below hB5' gr6 own5 hB5'.size
      rw [← bv_app] at own6
      have hE : Hid (l ++ [128] ++ List.replicate j 0 ++ putB (l.length * 8) 8 = pad l) := by
        show _ = _
        unfold pad
        rw [← hz.out, Nat.mod_eq_of_lt (a := l.length * 8) (by omega)]
      obtain ⟨q, hq⟩ : ∃ q, l.length + 1 + j + 8 = 64 * q := ⟨(l.length + 1 + j + 8) / 64, by have := hlast.out; omega⟩
      have own6' : w6.ownsRow w1.heap.size 5 1 v6 (64 * q) (bv (pad l)) := by
        rw [← hE.out, ← hq]
        simpa using own6
      have hqI : (q : Int) ≤ 17179869184 := by have := hzlt.out; omega
      have hPl : (pad l).length = 64 * q := by have h := own6'.1; simpa using h
      have hsh : Hid (shaL l = outL (states K0 H0 (pad l) q)) := by
        show _ = _
        unfold shaL
        rw [hPl, show 64 * q / 64 = q by omega]
      have hPb := Lib.hid (pad_byt Bl.out)
      replace hPl := Lib.hid hPl
      have hq0 : 0 < q := by omega
      clear own6 gr6 own5 sl5 own hB hB5 hB5' hput hE hq ht hlast hstep hz hzlt hgk hj
      generalize pad l = P at *
      generalize shaL l = O at *
      obtain ⟨A6, c6, hv6, hn6, hm6, hs6⟩ := own_shape own6'
      subst hv6
      have hcw := hc1.keep hB6
      have how := ho1.keep hB6
      obtain ⟨ge, hge, hgl6⟩ := hs6 (by omega)
      subst hge
      have hge1 := (own6'.lt ge rfl).1
      replace own6' := Lib.hid own6'
      go_wp2_with (refine wpList_allocA rfl 105 rfl (wv (zeros 8)) (by kernel_rfl) ?_)
      intro w7 h7 hK7 hz7
      have hB7 := hB6.trans (hK7.below hB6.size (by simp))
      have own7 := Lib.hid (own_keeps own6'.out hK7 (by simp))
      have hc7 := hcw.keeps hK7 (by simp)
      have ho7 := how.keeps hK7 (by simp)
      have hBW7 : Below w.heap.size w w7 := hB1.trans (hB7.mono (by have := hzw.out; omega))
      have hg7 : w1.heap.size ≤ w6.heap.size := hB6.size
      have hoL := how.lt
      have hcL := hcw.lt
      clear hK7 hz7 hB7 hB6 hcw how own6' hs6
      generalize hg7e : w6.heap.size = g5 at *
      have c0 : w7.cell? ⟨w.heap.size, 0, none⟩ = some (.slice AH 8 cH) := by have := hc7.cell 0; simpa using this
      go_wp2
      go_still_tail 3, (by kernel_rfl)
      have hsH := HH.out.keep hBW7.drew
      have hg5 := h7.lt
      go_wp2_with (refine wpList_copySl rfl (.tmp 30) (.tmp 32) 101 101 rfl 35 Try.underlying101 (by kernel_rfl) g5 0 8 8 rfl _ (wv H0) rfl hsH 105 _ h7.drew ?_ (ones_wv _) ?_)
      · rw [wv_length, wv_length, H0_length, zeros_length]; decide
      intro w8 h8 hK8
      rw [List.take_of_length_le (by rw [wv_length, H0_length]; decide), putL_all (by rw [wv_length, wv_length, H0_length, zeros_length])] at h8
      have hB8 : Below g5 w7 w8 := ((Below.refl g5 w7).drew).trans (hK8.below (Nat.le_of_lt hg5) (by simp))
      have own8 := Lib.hid (own_belowB own7.out hB8 (fun k hk => by have e : some ge = some k := hk; cases e; exact hgl6))
      have ho8 := ho7.below hB8 (by omega)
      have hc8 := hc7.below hB8 (by omega)
      have hBW8 : Below w.heap.size w w8 := hBW7.trans (hB8.mono (by omega))
      have hg8 := h8.lt
      clear hK8 h7 own7 hc7 ho7 hsH c0 hB8 hBW7 hg5 hc1 ho1 hB1
      go_wp2
      go_loopw [7] (fun i wr => ∃ k : Nat, (k : Int) ≤ q ∧ i = .int .i64 (64 * (k : Int)) ∧ Blk wr g5 105 (wv (states K0 H0 P k)) ∧ Below g5 w8 wr) (fun i _ => 64 * q - (intOf i).toNat)
      case atStart => exact ⟨0, by omega, by simp, h8, Below.refl _ _⟩
      case round =>
        clear h8
        obtain ⟨k, hk, rfl, hx, hB⟩ := hrel
        have hs8 := Lib.hid (show (states K0 H0 P k).length = 8 from states_length H0_length k)
        have hsw := Lib.hid (show Wds (states K0 H0 P k) from states_wds H0_wds k)
        by_cases hlt : (k : Int) < q
        · have hst : Hid (states K0 H0 P (k + 1) = takeS K0 (states K0 H0 P k) (seg P (64 * k) 64)) := rfl
          generalize states K0 H0 P k = S at *
          have HSl := Lib.hid (show (wv S).length = 8 by rw [wv_length, hs8.out])
          have hTl := Lib.hid (show (wv (takeS K0 S (seg P (64 * k) 64))).length = 8 by rw [wv_length, takeS_length])
          have hwr := hB.drew
          have hpv : Sl wr.drew (.slice (some ⟨ge, 64 * k, none⟩) 64 (c6 - 64 * k)) (bv (seg P (64 * k) 64)) := by
            have o1 : wr.drew.ownsRow _ _ _ _ _ _ := own_belowB own8.out hwr (fun k hk => by have e : some ge = some k := hk; cases e; exact hgl6)
            have h := own_part o1 (64 * k) 64 (by omega) hm6 hn6
            rw [bv_seg] at h
            exact h
          have hsK : Sl wr.drew (.slice AK 64 cK) (wv K0) := HK.out.keep (hBW8.trans (hwr.mono (by omega)))
          have hcl := Lib.hid (hbl.out none (some ⟨ge, 64 * k, none⟩) (c6 - 64 * k) cK S (seg P (64 * k) 64) wr.drew hpv (seg_length (by rw [hPl.out]; omega)) (seg_lt hPb.out _ _) hsK hs8.out hsw.out)
          generalize takeS K0 S (seg P (64 * k) 64) = S2 at *
          have c1 : wr.cell? ⟨w.heap.size, 1, none⟩ = some (.slice AK 64 cK) := by have := (hc8.below hB (by omega)).cell 1; simpa using this
          have hcI : (64 : Int) * q ≤ c6 := by omega
          have hmI : (c6 : Int) ≤ 9223372036854775807 := by unfold maxLen at hm6; omega
          clear hpv hsK hwr
          go_wp2
          go_still_tail 8, (by kernel_rfl)
          refine wpStill_loadW rfl 105 (.tmp 6) rfl 8 arr8u g5 rfl 105 _ hx.drew HSl.out ?_
          have a1 : IntKind.i64.wrap (64 * (k : Int) + 64) = 64 * (k : Int) + 64 := IntWalk.i64_in _ (by omega)
          have a2 : (0 : Int) ≤ 64 * (k : Int) := by omega
          have a3 : 64 * (k : Int) ≤ 64 * (k : Int) + 64 := by omega
          have a4 : 64 * (k : Int) + 64 ≤ c6 := by omega
          have a5 : (64 * (k : Int)).toNat = 64 * k := by omega
          have a6 : (64 * (k : Int) + 64).toNat = 64 * k + 64 := by omega
          have a7 : (0 : Int) ≤ 64 * (k : Int) + 64 := by omega
          have a8 : 64 * k + 64 - 64 * k = 64 := by omega
          have a9 : ¬ c6 = 64 * k := by omega
          repeat still_step
          refine wpStill_nil ?_
          change wpList _ _ _ _ _ wr.drew
          clear a2 a3 a4 a5 a6 a7 a8 a9
          go_wp2_with (first
            | (go_at_call 68; refine hcl.out.mono ?_; rintro e w9 ⟨rfl, hB9⟩)
            | refine wpList_storeW rfl 105 (.tmp 6) (.tmp 48) rfl 8 arr8u g5 rfl (wv S2) rfl 105 _ (hx.drew.keep hB9) hTl.out HSl.out (ones_wv _) ?_)
          intro w10 hx10 hK10
          have hB9' := below_call hB.drew (Nat.le_of_lt hx.drew.lt) hB9
          have hB10 : Below g5 w8 w10 := hB9'.trans (hK10.below (Nat.le_of_lt (hx.drew.keep hB9).lt) (by simp))
          clear hB9 hB9' hK10 hx hB hcl c1
          go_wp2
          go_roundw
          case rel => exact ⟨k + 1, by omega, by congr 1 <;> omega, by rw [hst.out]; exact hx10, hB10⟩
          case measure => simp [intOf]; omega
        · obtain rfl : k = q := by omega
          have HSl := Lib.hid (show (wv (states K0 H0 P k)).length = 8 by rw [wv_length, hs8.out])
          have hix := Lib.hid (fun j hj w => index_word8 (states K0 H0 P k) j hs8.out hj w)
          have hseg := Lib.hid (fun j hj => outL_seg (states K0 H0 P k) j hj)
          have hol := Lib.hid (outL_length (states K0 H0 P k))
          rw [← hsh.out] at hseg hol
          have hpt := Lib.hid (fun j w => hby.out (gd (states K0 H0 P k) j) 4 w (by have := hsw.out.gd j; omega) (by decide) (Nat.div_eq_of_lt (Nat.lt_of_lt_of_le (hsw.out.gd j) (by decide))))
          generalize states K0 H0 P k = S at *
          have ho9 := ho8.below hB (by omega)
          have hBW9 : Below w.heap.size w wr := hBW8.trans (hB.mono (by omega))
          have hg9 := hx.lt
          have ho9l : w.heap.size + 1 < g5 := by omega
          clear ho8 hc8 hBW8 hB own8 hsh hlen
          go_wp2_with (refine wpList_allocA rfl 26 rfl (bv (zeros 32)) (by kernel_rfl) ?_)
          intro w11 h11 hK11 hz11
          have hx11 := hx.keeps hK11 (by simp)
          have ho11 := ho9.keeps hK11 (by simp)
          have hB11 := hBW9.trans (hK11.below hBW9.size (by simp))
          clear hK11 hx ho9 hBW9 hz11
          generalize hg8e : wr.heap.size = g8 at *
          clear hg8e
          go_wp2_with (refine wpList_loadW rfl 105 (.tmp 6) rfl 8 arr8u g5 rfl 105 _ hx11 HSl.out ?_)
          clear hx11
          go_loopw [50] (fun i wr => ∃ k : Nat, (k : Int) ≤ 8 ∧ i = .int .i64 (k : Int) ∧ Blk wr g8 26 (bv (upd O (zeros 32) (4 * k))) ∧ Blk wr (w.heap.size + 1) 26 (bv (zeros 32)) ∧ Below w.heap.size w wr) (fun i _ => 8 - (intOf i).toNat)
          case atStart => exact ⟨0, by omega, rfl, by rw [Nat.mul_zero, upd_zero]; exact h11, ho11, hB11⟩
          case round =>
            clear h11 ho11 hB11
            obtain ⟨k, hk8, rfl, hob, hrb, hBW⟩ := hrel
            by_cases hlt8 : (k : Int) < 8
            · have hi0 := hix.out k (by omega)
              have hpk := Lib.hid (fun w => hpt.out k w)
              have hsk := Lib.hid (hseg.out k (by omega))
              have hlk := hsw.out.gd k
              generalize gd S k = x at *
              have hxI : (x : Int) ≤ 4294967295 := by omega
              have q4 := Lib.hid (show IntKind.i64.wrap (4 * (k : Int)) = 4 * (k : Int) from IntWalk.i64_in _ (by omega))
              have q64 := Lib.hid (show IntKind.u64.wrap (x : Int) = (x : Int) by rw [IntKind.wrap_u64]; omega)
              have hsl2 : Hid (∀ w', (Instr.sliceAt 26 (.pointer (some ⟨g8, 0, none⟩)) (some (.int .i64 (4 * (k : Int)))) none none).run Try.prog w' = .ok (.slice (some ⟨g8, 4 * k, none⟩) (32 - 4 * k) (32 - 4 * k)) w') := fun w' => by
                have h := run_sliceA_l (P := Try.prog) (ty := 26) (len := 32) (el := 5) (s := 1) Try.underlying26 (by kernel_rfl) g8 0 (4 * k) (4 * (k : Int)) (by simp) (by omega) w'
                simpa using h
              have hkeep : Hid (∀ w1 w2, ((Blk w1 g8 26 (bv (upd O (zeros 32) (4 * k))) ∨ Blk w1 g8 26 (bv (upd O (zeros 32) (4 * (k + 1))))) ∧ Blk w1 (w.heap.size + 1) 26 (bv (zeros 32)) ∧ Below w.heap.size w w1) → Below w1.heap.size w1 w2 → ((Blk w2 g8 26 (bv (upd O (zeros 32) (4 * k))) ∨ Blk w2 g8 26 (bv (upd O (zeros 32) (4 * (k + 1))))) ∧ Blk w2 (w.heap.size + 1) 26 (bv (zeros 32)) ∧ Below w.heap.size w w2)) := fun w1 w2 h hb =>
                ⟨h.1.imp (fun h => h.keep hb) (fun h => h.keep hb), h.2.1.keep hb, below_call h.2.2 h.2.2.size hb⟩
              go_wp2
              refine wp_region_held_drew (S := fun w1 => (Blk w1 g8 26 (bv (upd O (zeros 32) (4 * k))) ∨ Blk w1 g8 26 (bv (upd O (zeros 32) (4 * (k + 1))))) ∧ Blk w1 (w.heap.size + 1) 26 (bv (zeros 32)) ∧ Below w.heap.size w w1) (by kernel_rfl) ⟨.inl hob.drew, hrb.drew, hBW.drew⟩ (fun hH => ?_)
              refine takeH_move (o := ⟨some 54, _, _, _, _, _⟩) (i := 0) rfl (by kernel_rfl) (by kernel_rfl) (by kernel_rfl) (fun _ _ _ _ h => h) rfl (.tmp 9) rfl (.int .i64 (k : Int)) rfl hH ?_
              simp only [Act.put, List.setIfInBounds_toArray, List.set_cons_zero, List.set_cons_succ, Nat.zero_add, decide_true, beq_self_eq_true]
              refine takeH_S (o := ⟨some 55, _, _, _, _, _⟩) (i := 1) rfl (by kernel_rfl) (by kernel_rfl) (by kernel_rfl) (fun _ _ _ _ h => h) rfl (.int .i64 (4 * (k : Int))) (fun w _ => by go_simp; exact q4.out) hH ?_
              simp only [Act.put, List.setIfInBounds_toArray, List.set_cons_zero, List.set_cons_succ, Nat.zero_add, decide_true, beq_self_eq_true]
              refine takeH_S (o := ⟨some 56, _, _, _, _, _⟩) (i := 2) rfl (by kernel_rfl) (by kernel_rfl) (by kernel_rfl) (fun _ _ _ _ h => h) rfl (.slice (some ⟨g8, 4 * k, none⟩) (32 - 4 * k) (32 - 4 * k)) (fun w _ => by go_simp; rw [hsl2.out]; rfl) hH ?_
              simp only [Act.put, List.setIfInBounds_toArray, List.set_cons_zero, List.set_cons_succ, Nat.zero_add, decide_true, beq_self_eq_true]
              refine takeH_move (o := ⟨some 57, _, _, _, _, _⟩) (i := 3) rfl (by kernel_rfl) (by kernel_rfl) (by kernel_rfl) (fun _ _ _ _ h => h) rfl (.tmp 10) rfl (.int .u32 (x : Int)) rfl hH ?_
              simp only [Act.put, List.setIfInBounds_toArray, List.set_cons_zero, List.set_cons_succ, Nat.zero_add, decide_true, beq_self_eq_true]
              refine takeH_S (o := ⟨some 58, _, _, _, _, _⟩) (i := 4) rfl (by kernel_rfl) (by kernel_rfl) (by kernel_rfl) (fun _ _ _ _ h => h) rfl (.int .u64 (x : Int)) (fun w _ => by go_simp; exact q64.out) hH ?_
              simp only [Act.put, List.setIfInBounds_toArray, List.set_cons_zero, List.set_cons_succ, Nat.zero_add, decide_true, beq_self_eq_true]
              refine wpAnyH_ready (rs := [5]) (by kernel_rfl) (by simp) ?_
              refine AllReadyH.cons rfl (fun K1 hK1 => ?_) AllReadyH.nil
              rw [if_pos (by rfl)]
              go_wp2_with fail
              refine (hpk.out _).mono ?_
              rintro e wa ⟨v11, rfl, sl11, hBa⟩
              obtain ⟨A11, c11, hv11, -⟩ := id sl11
              subst hv11
              have sl11 := Lib.hid sl11
              refine hK1.out _ _ (hkeep.out _ _ hH hBa) (fun hH => ?_)
              clear hK1 K1
              refine wpAnyH_ready (rs := [6]) (by kernel_rfl) (by simp) ?_
              refine AllReadyH.cons rfl (fun K1 hK1 => ?_) AllReadyH.nil
              rw [if_pos (by rfl)]
              obtain ⟨L0, hL0, hL1, hL2⟩ : ∃ L0, Blk wa g8 26 (bv L0) ∧ L0.length = 32 ∧ putL (bv L0) (4 * k) ((bv (putB x 4)).take (32 - 4 * k)) = bv (upd O (zeros 32) (4 * (k + 1))) := by
                have e4 : (bv (putB x 4)).take (32 - 4 * k) = bv (putB x 4) := List.take_of_length_le (by rw [bv_length, putB_length]; omega)
                rw [e4, show 4 * (k + 1) = 4 * k + 4 from by omega]
                rcases hH.1 with h | h
                · refine ⟨_, h, by rw [upd_length (by rw [hol.out]; simp) (by simp; omega), zeros_length], ?_⟩
                  rw [putL_bv, putB_length, ← hsk.out, upd_put (by rw [hol.out]; simp) (by simp; omega)]
                · rw [show 4 * (k + 1) = 4 * k + 4 from by omega] at h
                  refine ⟨_, h, by rw [upd_length (by rw [hol.out]; simp) (by simp; omega), zeros_length], ?_⟩
                  rw [putL_bv, putB_length, ← hsk.out, upd_again (by rw [hol.out]; simp) (by simp; omega)]
              refine wp_copySl (.tmp 56) (.tmp 59) 22 22 rfl 5 Try.underlying22 (by kernel_rfl) g8 (4 * k) (32 - 4 * k) (32 - 4 * k) rfl _ (bv (putB x 4)) rfl sl11.out 26 _ hL0 ?_ (ones_bv _) ?_
              · have h9 : Nat.min (bv (putB x 4)).length (32 - 4 * k) ≤ 32 - 4 * k := Nat.min_le_right _ _
                have h8 : (bv L0).length = 32 := by rw [bv_length, hL1]
                rw [h8]
                omega
              intro wb hb2 hKb
              rw [hL2] at hb2
              have hrb2 := hH.2.1.keeps hKb (by simp; omega)
              have hBb := hH.2.2.trans (hKb.below hH.2.2.size (by simp; omega))
              refine hK1.out _ _ ⟨.inr hb2, hrb2, hBb⟩ (fun hH => ?_)
              clear hK1 K1
              refine wpAnyH_done (by kernel_rfl) ?_ _
              go_wp2
              go_roundw
              case rel => exact ⟨k + 1, by omega, by go_num, hb2, hrb2, hBb⟩
              case measure => simp [intOf]; omega
            · obtain rfl : k = 8 := by omega
              rw [show 4 * 8 = 32 from rfl, upd_all hol.out (by simp)] at hob
              have hxl := Lib.hid (show (bv O).length = 32 by simp [hol.out])
              go_wp2_with (first | refine wpList_loadW rfl 26 (.tmp 8) rfl 32 arrH _ rfl 26 _ hob hxl.out ?_ | refine wpList_storeW rfl 26 (.tmp 4) (.tmp 62) rfl 32 arrH _ rfl (bv O) rfl 26 _ hrb hxl.out (by simp) (ones_bv _) ?_)
              intro w13 hob4 hK13
              go_wp2
              exact bodyPost_ret (v := .agg (bv O).toArray) (res_cell Try.results52 _ _ _ 26 _ arrH hxl.out rfl hob4) rfl ⟨rfl, hBW.trans (hK13.below hBW.size (by simp))⟩
theorem with_any (vH vK v : Value) (l : List Nat) (w : World) (hH : Sl w vH (wv H0)) (hK : Sl w vK (wv K0)) (hs : Sl w v (bv l)) (bl : Byt l) (hlen : (l.length : Int) ≤ 549755813888) :
    Calls Try.prog 52 #[.agg #[vH, vK], v] w (RetH (shaL l) w) := by
  obtain ⟨AH, cH, rfl, _⟩ := id hH
  obtain ⟨AK, cK, rfl, _⟩ := id hK
  obtain ⟨A, c, rfl, _⟩ := id hs
  rw [wv_length, H0_length] at hH ⊢
  rw [wv_length, K0_length] at hK ⊢
  exact with_core AH AK cH cK A _ c l w hH hK hs bl hlen
set_option maxRecDepth 100000 in
set_option maxHeartbeats 1000000 in
theorem refsum_core (A : Option Addr) (n c : Nat) (l : List Nat) (w : World) (hs : Sl w (.slice A n c) (bv l)) (bl : Byt l) (hlen : (l.length : Int) ≤ 549755813888) :
    Calls Try.prog 33 #[.slice A n c] w (RetH (shaL l) w) := by
  have hm := Lib.hid (fun w => made_any w)
  have hw := Lib.hid (fun vH vK w a b (c : Sl w (.slice A n c) (bv l)) => with_any vH vK _ l w a b c bl hlen)
  have hol := Lib.hid (show (bv (shaL l)).length = 32 by rw [bv_length]; exact outL_length _)
  replace hs := Lib.hid hs
  clear hlen bl
  change Hid (∀ vH vK w, _ → _ → _ → Calls _ _ _ w (RetH (shaL l) w)) at hw
  generalize shaL l = O at *
  go_enter Try.func33, Try.ntmps33
  go_wp2_with (refine wpList_allocA rfl 26 rfl (bv (zeros 32)) (by kernel_rfl) ?_)
  intro w1 h1 hK1 hz1
  have hB1 := (Below.refl w.heap.size w).trans (hK1.below (Nat.le_refl _) (by simp))
  clear hK1 hz1
  go_wp2_with fail
  refine (hm.out _).mono ?_
  rintro e w2 ⟨vH, vK, rfl, sH, sK, hB2⟩
  have h2 := h1.keep hB2
  have hB2' := below_call hB1 hB1.size hB2
  have hw2 := Lib.hid (hw.out vH vK w2 sH sK (hs.out.keep hB2'))
  clear h1 hB1 hB2 sH sK
  go_wp2_with fail
  refine hw2.out.mono ?_
  rintro e w3 ⟨rfl, hB3⟩
  have h3 := h2.keep hB3
  have hB3' := below_call hB2' hB2'.size hB3
  clear h2 hB2' hB3 hw2
  go_wp2_with (refine wpList_storeW rfl 26 (.tmp 2) (.tmp 5) rfl 32 arrH _ rfl (bv O) rfl 26 _ h3 hol.out (by simp) (ones_bv _) ?_)
  intro w4 h4 hK4
  go_wp2
  exact bodyPost_ret (v := .agg (bv O).toArray) (res_cell Try.results33 _ _ _ 26 _ arrH hol.out rfl h4) rfl ⟨rfl, hB3'.trans (hK4.below hB3'.size (by simp))⟩
theorem refsum_any (v : Value) (l : List Nat) (w : World) (hs : Sl w v (bv l)) (bl : Byt l) (hlen : (l.length : Int) ≤ 549755813888) :
    Calls Try.prog 33 #[v] w (RetH (shaL l) w) := by
  obtain ⟨A, c, rfl, _⟩ := id hs
  exact refsum_core A _ c l w hs bl hlen
end Go.Proofs.Ytlifpmglaoppoaa
