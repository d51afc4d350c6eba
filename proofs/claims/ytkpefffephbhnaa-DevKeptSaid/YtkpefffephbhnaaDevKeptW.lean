/- The walk of DevKept. -/
import Derived.Test.YtkpefffephbhnaaDevP
set_option linter.unusedVariables false
set_option linter.unusedSimpArgs false
namespace Go.Proofs.Ytkpefffephbhnaa.w_DevKept
open Go.RowKit Go.Maps
open Go.Proofs.PlainDev

/-- What is written at place i. -/
def sK (i : Nat) : List Nat := secL i (i + 1)
theorem sK_sec {i : Nat} (h : (i : Int) < 100) : Sec (sK i) := secL_sec (by omega) (by omega)
def stC (l : List Nat) (k : Nat) : Dst := { new0 16 with waits := wsK sK l k }
theorem stC_succ (l : List Nat) (k : Nat) : { stC l k with waits := (stC l k).waits ++ [(l.getD k 0 % 16, sK k)] } = stC l (k + 1) := by
  unfold stC; rw [wsK_succ]
theorem pack {B : Nat} {w : World} {g N : Nat} {L : List Nat} {s : Dst} (h : Dx B w g L N s) (hz : s.size = 16) {F : Nat → List Nat} (hl : ∀ x, liesL s x = F x) : ∃ s', Dx B w g L N s' ∧ s'.size = 16 ∧ ∀ x, liesL s' x = F x := ⟨s, h, hz, hl⟩
set_option maxRecDepth 100000 in
set_option maxHeartbeats 1000000 in
theorem core (A : Option Addr) (n c : Nat) (all : Bool) (l : List Nat) (bl : Byt l) (hn : n = l.length) (hm : (n : Int) ≤ 140737488355328) (w : World) (hs : Sl w (.slice A n c) (bv l)) : Calls Try.prog 3 #[.slice A n c, .bool all] w fun e w' => e = .returned (.bool true) ∧ Below w.heap.size w w' := by
  have hal := Lib.hid (fun w => alive06 w)
  by_cases hbig : (100 : Int) < n
  · clear hs
    go_enter Try.func3, Try.ntmps3
    go_wp2_with fail
    refine (hal.out _).mono ?_
    rintro e w1 ⟨rfl, hB1⟩
    go_wp2
    go_ret
    exact ⟨rfl, hB1⟩
  have hnew := Lib.hid (fun w => new_x 16 w (by decide) (by decide))
  replace hn := Lib.hid hn
  replace hs := Lib.hid hs
  have hbl := Lib.hid bl
  go_enter Try.func3, Try.ntmps3
  go_wp2_with fail
  refine (hal.out w).mono ?_
  rintro e w0 ⟨rfl, B0⟩
  go_wp2_with fail
  refine (hnew.out w0).mono ?_
  rintro e w1 ⟨gc, Lc, rfl, Hc, B1⟩
  go_wp2_with fail
  refine (hnew.out w1).mono ?_
  rintro e w2 ⟨gd, Ld, rfl, Hd, B2⟩
  have hap : Hid (∀ k ∈ Ld, k ∉ Lc) := fun k hk hm => by have := (Hd.lt k hk).1; have := (Hc.lt k hm).2; omega
  have Hc2 := Lib.hid (Hc.keep B2)
  have Hd2 := Lib.hid (Hd.mono B1.size)
  have hC := Lib.hid B0.size
  have B2' := Lib.hid ((B0.trans (B1.mono B0.size)).trans (B2.mono (Nat.le_trans B0.size B1.size)))
  clear B0 B1 B2 Hc Hd
  generalize w0.heap.size = B at *
  go_wp2_with fail
  go_loopw [38] (fun i wr => ∃ (k : Nat) (Lc Ld : List Nat), (k : Int) ≤ n ∧ i = .int .i64 (k : Int) ∧ Hid (Dx B wr gc Lc k (stC l k)) ∧ Hid (Dx B wr gd Ld k (if all then stC l k else new0 16)) ∧ Hid (∀ k ∈ Ld, k ∉ Lc) ∧ Hid (Below w.heap.size w wr)) (fun i _ => n - (intOf i).toNat)
  case atStart => exact ⟨0, Lc, Ld, by omega, rfl, Hc2, by cases all <;> exact Hd2, hap, B2'⟩
  case round =>
    clear Hc2 Hd2 hap B2'
    obtain ⟨k, Lc, Ld, hk, rfl, Hc, Hd, hap, hB⟩ := hrel
    by_cases hlt : (k : Int) < n
    · obtain ⟨x, hx⟩ : ∃ x, l[k]? = some x := ⟨_, List.getElem?_eq_getElem (by have := hn.out; omega)⟩
      obtain ⟨ga, oa, rfl, ca⟩ := (hs.out.keep hB.out).at_ (k := k) (u := .int .u8 (x : Int)) (by rw [bv_get, hx]; rfl)
      have hx8 : (x : Int) < 256 := by have := hbl.out x (List.mem_of_getElem? hx); omega
      have hsec : Hid (∀ w, Calls Try.prog 13 #[.int .u8 (k : Int), .int .u8 ((k : Int) + 1)] w fun e w' => ∃ b, e = .returned (.slice (some ⟨b, 0, none⟩) 512 512) ∧ Blk w' b 5 (bv (sK k)) ∧ w.heap.size ≤ b ∧ Below w.heap.size w w') := fun w => sector_any k (k + 1) w (by omega) (by omega)
      have hgd : Hid (l.getD k 0 = x) := by show _ = _; rw [List.getD_eq_getElem?_getD, hx]; rfl
      have hss := Lib.hid (sK_sec (i := k) (by omega))
      clear hx
      go_wp2_with fail
      refine (hsec.out wr).mono ?_
      rintro e w3 ⟨k3, rfl, b3, g3, B3⟩
      have B3' := hB.out.trans (B3.mono hB.out.size)
      have hk3 := Hc.out.fresh g3
      have hk3d := Lib.hid (Hd.out.fresh g3)
      have Hc3 := Hc.out.keep B3
      have Hd3 := Hd.out.keep B3
      have hw := Lib.hid (write_free Hc3 ⟨rfl, rfl⟩ (by omega) (x % 16) (show x % 16 < 16 from Nat.mod_lt _ (by decide)) k3 _ _ hss.out b3 hk3)
      clear Hc Hd hB B3 g3 ca
      rw [show ((x % 16 : Nat) : Int) = (x : Int) % 16 from by simp] at hw
      go_wp2_with fail
      refine hw.out.mono ?_
      rintro e w4 ⟨L4, rfl, Hc4, S4⟩
      have Hd4 := Hd3.other S4 hap.out
      have ap4 := apart_step S4 hap.out (fun k hk => (Hd3.lt k hk).2)
      have B4 := Hc3.go S4 B3' hC.out
      rw [← hgd.out, stC_succ] at Hc4
      clear Hc3 Hd3 B3' hw S4 b3 hap
      cases all with
      | false =>
        replace Hc4 := Lib.hid Hc4
        replace Hd4 := Lib.hid (Hd4.more (Nat.le_succ k))
        replace ap4 := Lib.hid ap4
        replace B4 := Lib.hid B4
        go_wp2_with fail
        go_roundw
        case rel => exact ⟨k + 1, L4, Ld, by omega, by go_num, Hc4, Hd4, ap4, B4⟩
        case measure => simp [intOf]; omega
      | true =>
        change Dx B w4 gd Ld k (stC l k) at Hd4
        go_wp2_with fail
        refine (hsec.out w4).mono ?_
        rintro e w5 ⟨k5, rfl, b5, g5, B5⟩
        have B5' := B4.trans (B5.mono B4.size)
        have hk5 := Hd4.fresh g5
        have Hc5 := Hc4.keep B5
        have Hd5 := Hd4.keep B5
        have hw := Lib.hid (write_free Hd5 ⟨rfl, rfl⟩ (by omega) (x % 16) (show x % 16 < 16 from Nat.mod_lt _ (by decide)) k5 _ _ hss.out b5 hk5)
        rw [show ((x % 16 : Nat) : Int) = (x : Int) % 16 from by simp] at hw
        clear Hc4 Hd4 B4 B5 g5
        go_wp2_with fail
        refine hw.out.mono ?_
        rintro e w6 ⟨L6, rfl, Hd6, S6⟩
        have hap' : ∀ k ∈ L4, k ∉ Ld := fun k hk hm => ap4 k hm hk
        have Hc6 := Lib.hid (Hc5.other S6 hap')
        have ap6 := apart_step S6 hap' (fun k hk => (Hc5.lt k hk).2)
        have ap6' : Hid (∀ k ∈ L6, k ∉ L4) := fun k hk hm => ap6 k hm hk
        have B6 := Lib.hid (Hd5.go S6 B5' hC.out)
        rw [← hgd.out, stC_succ] at Hd6
        replace Hd6 := Lib.hid Hd6
        clear Hc5 Hd5 B5' hw S6 b5 ap4 hap' ap6
        go_wp2_with fail
        go_roundw
        case rel => exact ⟨k + 1, L4, L6, by omega, by go_num, Hc6, Hd6, ap6', B6⟩
        case measure => simp [intOf]; omega
    · obtain rfl : k = n := by omega
      have hfin : Hid (∀ x, liesL (crashS (stC l k) (if all then 18446744073709551615 else 0) (-1)) x = liesL { (if all then stC l k else new0 16) with lies := flushL (if all then stC l k else new0 16).lies (if all then stC l k else new0 16).waits, waits := [] } x) := fun x => by
        unfold liesL crashS
        have hl : (stC l k).waits.length = k := wsK_length _ _ _
        cases all with
        | false =>
          show ((crashN _ (stC l k).waits 0 (-1) (stC l k).waits.length) x).getD _ = (flushL _ [] x).getD _
          rw [crash_none]
          rfl
        | true =>
          show ((crashN _ (stC l k).waits 18446744073709551615 (-1) (stC l k).waits.length) x).getD _ = (flushL (stC l k).lies (stC l k).waits x).getD _
          rw [crash_all _ _ _ ones_bit _ (Nat.le_refl _), List.take_length]
      cases all with
      | false =>
        change Hid (Dx B wr gd Ld k (new0 16)) at Hd
        have hc := Lib.hid (crash_x Hc.out (by omega) 0 (-1) (by decide) (by decide) (by decide))
        go_wp2_with fail
        refine hc.out.mono ?_
        rintro e w3 ⟨L3, rfl, Hc3, S3⟩
        have Hd3 := Hd.out.other S3 hap.out
        have ap3 := apart_step S3 hap.out (fun k hk => (Hd.out.lt k hk).2)
        have B3 := Hc.out.go S3 hB.out hC.out
        clear Hc Hd hB hap hc S3
        have hf := Lib.hid (flush_free Hd3 ⟨rfl, rfl⟩ (by omega))
        go_wp2_with fail
        refine hf.out.mono ?_
        rintro e w4 ⟨L4, rfl, Hd4, S4⟩
        have hap' : ∀ k ∈ L3, k ∉ Ld := fun k hk hm => ap3 k hm hk
        have Hc4 := Hc3.other S4 hap'
        have B4 := Lib.hid (Hd3.go S4 B3 hC.out)
        obtain ⟨sd, Hd5, hzd, hld⟩ := pack Hd4 rfl (F := fun x => liesL (crashS (stC l k) 0 (-1)) x) (fun x => (hfin.out x).symm)
        have hzc : (crashS (stC l k) 0 (-1)).size = 16 := rfl
        replace Hd5 := Lib.hid Hd5
        replace Hc4 := Lib.hid Hc4
        replace hzc := Lib.hid hzc
        replace hzd := Lib.hid hzd
        replace hld := Lib.hid hld
        clear Hc3 Hd3 Hd4 S4 B3 hf ap3 hap' hfin
        generalize crashS (stC l k) 0 (-1) = sc at *
        go_wp2_with fail
        go_loopw [74] (fun i wr => ∃ (a : Nat), (a : Int) ≤ 16 ∧ i = .int .u32 (a : Int) ∧ Hid (Dx B wr gc L3 k sc) ∧ Hid (Dx B wr gd L4 k sd) ∧ Hid (Below w.heap.size w wr)) (fun i _ => 16 - (intOf i).toNat)
        case atStart => exact ⟨0, by omega, rfl, Hc4, Hd5, B4⟩
        case round =>
          clear Hc4 Hd5 B4
          obtain ⟨a, ha, rfl, Hc, Hd, hB⟩ := hrel
          by_cases hlt : (a : Int) < 16
          · have hp := Lib.hid (peek_x Hc.out a (by omega) (by rw [hzc.out]; omega))
            have hsc := Lib.hid (liesL_sec Hc.out.ok a)
            go_wp2_with fail
            refine hp.out.mono fun e w5 hr => ?_
            obtain ⟨k5, c5, rfl, s5, B5⟩ := RetPk.out hr
            have Hc5 := Lib.hid (Hc.out.keep B5)
            have Hd5 := Lib.hid (Hd.out.keep B5)
            have B5' := hB.out.trans (B5.mono hB.out.size)
            have hp2 := Lib.hid (peek_x Hd5.out a (by omega) (by rw [hzd.out]; omega))
            rw [hld.out a] at hp2
            clear hp hr Hc Hd hB B5
            go_wp2_with fail
            refine hp2.out.mono fun e w6 hr => ?_
            obtain ⟨k6, c6, rfl, s6, B6⟩ := RetPk.out hr
            have Hc6 := Lib.hid (Hc5.out.keep B6)
            have Hd6 := Lib.hid (Hd5.out.keep B6)
            have B6' := Lib.hid (B5'.trans (B6.mono B5'.size))
            have hsm := Lib.hid (same_any _ _ _ _ w6 (s5.keep B6) s6 hsc.out.2 hsc.out.2)
            rw [decide_eq_true rfl] at hsm
            clear hp2 hr Hc5 Hd5 B5' B6 s5 s6
            go_wp2_with fail
            refine hsm.out.mono ?_
            rintro e w7 ⟨rfl, rfl⟩
            go_wp2_with fail
            go_roundw
            case rel => exact ⟨a + 1, by omega, by go_num, Hc6, Hd6, B6'⟩
            case measure => simp [intOf]; omega
          · obtain rfl : a = 16 := by omega
            go_wp2
            go_ret
            exact ⟨rfl, hB.out⟩
      | true =>
        change Hid (Dx B wr gd Ld k (stC l k)) at Hd
        have hc := Lib.hid (crash_x Hc.out (by omega) 18446744073709551615 (-1) (by decide) (by decide) (by decide))
        go_wp2_with fail
        refine hc.out.mono ?_
        rintro e w3 ⟨L3, rfl, Hc3, S3⟩
        have Hd3 := Hd.out.other S3 hap.out
        have ap3 := apart_step S3 hap.out (fun k hk => (Hd.out.lt k hk).2)
        have B3 := Hc.out.go S3 hB.out hC.out
        clear Hc Hd hB hap hc S3
        have hf := Lib.hid (flush_free Hd3 ⟨rfl, rfl⟩ (by omega))
        go_wp2_with fail
        refine hf.out.mono ?_
        rintro e w4 ⟨L4, rfl, Hd4, S4⟩
        have hap' : ∀ k ∈ L3, k ∉ Ld := fun k hk hm => ap3 k hm hk
        have Hc4 := Hc3.other S4 hap'
        have B4 := Lib.hid (Hd3.go S4 B3 hC.out)
        obtain ⟨sd, Hd5, hzd, hld⟩ := pack Hd4 rfl (F := fun x => liesL (crashS (stC l k) 18446744073709551615 (-1)) x) (fun x => (hfin.out x).symm)
        have hzc : (crashS (stC l k) 18446744073709551615 (-1)).size = 16 := rfl
        replace Hd5 := Lib.hid Hd5
        replace Hc4 := Lib.hid Hc4
        replace hzc := Lib.hid hzc
        replace hzd := Lib.hid hzd
        replace hld := Lib.hid hld
        clear Hc3 Hd3 Hd4 S4 B3 hf ap3 hap' hfin
        generalize crashS (stC l k) 18446744073709551615 (-1) = sc at *
        go_wp2_with fail
        go_loopw [74] (fun i wr => ∃ (a : Nat), (a : Int) ≤ 16 ∧ i = .int .u32 (a : Int) ∧ Hid (Dx B wr gc L3 k sc) ∧ Hid (Dx B wr gd L4 k sd) ∧ Hid (Below w.heap.size w wr)) (fun i _ => 16 - (intOf i).toNat)
        case atStart => exact ⟨0, by omega, rfl, Hc4, Hd5, B4⟩
        case round =>
          clear Hc4 Hd5 B4
          obtain ⟨a, ha, rfl, Hc, Hd, hB⟩ := hrel
          by_cases hlt : (a : Int) < 16
          · have hp := Lib.hid (peek_x Hc.out a (by omega) (by rw [hzc.out]; omega))
            have hsc := Lib.hid (liesL_sec Hc.out.ok a)
            go_wp2_with fail
            refine hp.out.mono fun e w5 hr => ?_
            obtain ⟨k5, c5, rfl, s5, B5⟩ := RetPk.out hr
            have Hc5 := Lib.hid (Hc.out.keep B5)
            have Hd5 := Lib.hid (Hd.out.keep B5)
            have B5' := hB.out.trans (B5.mono hB.out.size)
            have hp2 := Lib.hid (peek_x Hd5.out a (by omega) (by rw [hzd.out]; omega))
            rw [hld.out a] at hp2
            clear hp hr Hc Hd hB B5
            go_wp2_with fail
            refine hp2.out.mono fun e w6 hr => ?_
            obtain ⟨k6, c6, rfl, s6, B6⟩ := RetPk.out hr
            have Hc6 := Lib.hid (Hc5.out.keep B6)
            have Hd6 := Lib.hid (Hd5.out.keep B6)
            have B6' := Lib.hid (B5'.trans (B6.mono B5'.size))
            have hsm := Lib.hid (same_any _ _ _ _ w6 (s5.keep B6) s6 hsc.out.2 hsc.out.2)
            rw [decide_eq_true rfl] at hsm
            clear hp2 hr Hc5 Hd5 B5' B6 s5 s6
            go_wp2_with fail
            refine hsm.out.mono ?_
            rintro e w7 ⟨rfl, rfl⟩
            go_wp2_with fail
            go_roundw
            case rel => exact ⟨a + 1, by omega, by go_num, Hc6, Hd6, B6'⟩
            case measure => simp [intOf]; omega
          · obtain rfl : a = 16 := by omega
            go_wp2
            go_ret
            exact ⟨rfl, hB.out⟩

theorem walk (v : Value) (l : List Nat) (b : Byt l) (m : l.length ≤ 140737488351232) (all : Bool) (W : World) (s : Sl W v (bv l)) : Calls Try.prog 3 #[v, .bool all] W fun e w' => e = .returned (.bool true) ∧ Below W.heap.size W w' := by
  obtain ⟨A, c, rfl, h1, h2, h3⟩ := id s
  exact core A _ c all l b (bv_length l) (by rw [bv_length]; omega) W s
end Go.Proofs.Ytkpefffephbhnaa.w_DevKept
