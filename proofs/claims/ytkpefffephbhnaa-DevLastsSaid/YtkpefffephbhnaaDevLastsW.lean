/- The walk of DevLasts. -/
import Derived.Test.YtkpefffephbhnaaDevLastsP
import Derived.Test.YtkpefffephbhnaaMayM
set_option linter.unusedVariables false
set_option linter.unusedSimpArgs false
namespace Go.Proofs.Ytkpefffephbhnaa.w_DevLasts
open Go.RowKit Go.Maps
open Go.Proofs.PlainDev

def g1 (i : Nat) : List Nat := twL (i + 1)
def g2 (i : Nat) : List Nat := twL (i + 100)
theorem tw_sec {v : Nat} (h : (v : Int) ≤ 255) : Sec (twL v) := secL_sec (f := v) (b := v) (by omega) (by omega)
def st1 (l : List Nat) (k : Nat) : Dst := { new0 16 with waits := wsK g1 l k }
theorem st1_succ (l : List Nat) (k : Nat) : { st1 l k with waits := (st1 l k).waits ++ [(l.getD k 0 % 16, g1 k)] } = st1 l (k + 1) := by
  unfold st1; rw [wsK_succ]
def st2 (l : List Nat) (n : Nat) (m : List Nat) (k : Nat) : Dst := { new0 16 with lies := flushL (fun _ => none) (wsK g1 l n), waits := wsK g2 m k }
theorem st2_succ (l : List Nat) (n : Nat) (m : List Nat) (k : Nat) : { st2 l n m k with waits := (st2 l n m k).waits ++ [(m.getD k 0 % 16, g2 k)] } = st2 l n m (k + 1) := by
  unfold st2; rw [wsK_succ]
theorem st2_zero (l : List Nat) (n : Nat) (m : List Nat) : { st1 l n with lies := flushL (st1 l n).lies (st1 l n).waits, waits := [] } = st2 l n m 0 := rfl
def wasV (l : List Nat) (k : Nat) : Nat → Option Value := fun x => (wasF l k x).map fun (v : Nat) => (.int .u8 (v : Int))
theorem wasV_set (l : List Nat) (k : Nat) : fset (wasV l k) (l.getD k 0 % 16) (.int .u8 ((k : Int) + 1)) = wasV l (k + 1) := by
  funext x
  unfold fset wasV
  show _ = (if x = l.getD k 0 % 16 then some (k + 1) else wasF l k x).map _
  by_cases e : x = l.getD k 0 % 16
  · rw [if_pos e, if_pos e]; rfl
  · rw [if_neg e, if_neg e]
theorem twL_rep (v : Nat) : twL v = List.replicate 512 v := rfl
theorem good (l : List Nat) (n : Nat) (m : List Nat) (q keep : Nat) (torn : Int) (a : Nat) :
    Gd (fun v => v = (wasF l n a).getD 0 ∨ mayF m q a v = true) (liesL (crashS (st2 l n m q) keep torn) a) := by
  have := crash_gd (flushL (fun _ => none) (wsK g1 l n)) m keep torn q (fun x => (wasF l n x).getD 0) (fun x => by
    have e : flushL (fun _ => none) (wsK g1 l n) = fun x => (wasF l n x).map twL := flush_was l n
    rw [e]
    show ((wasF l n x).map twL).getD _ = _
    cases wasF l n x <;> rfl) q (Nat.le_refl _) a
  unfold liesL crashS
  have e : (st2 l n m q).waits.length = q := wsK_length _ _ _
  rw [e]
  exact this
set_option maxRecDepth 100000 in
theorem eq_nil (w : World) : (binOp .eql 48 (.map none) (.map none)).run Try.prog w = .ok (.bool true) w := by kernel_rfl
set_option maxRecDepth 100000 in
theorem eq_some (b : Nat) (w : World) : (binOp .eql 48 (.map (some b)) (.map none)).run Try.prog w = .ok (.bool false) w := by kernel_rfl
set_option maxRecDepth 100000 in
theorem ix0 (x y : Int) (w : World) : (Instr.index 49 (.agg #[.int .u8 x, .int .u8 y]) (.int .i64 0)).run Try.prog w = .ok (.int .u8 x) w := by kernel_rfl
set_option maxRecDepth 100000 in
theorem ix1 (x y : Int) (w : World) : (Instr.index 49 (.agg #[.int .u8 x, .int .u8 y]) (.int .i64 1)).run Try.prog w = .ok (.int .u8 y) w := by kernel_rfl
/-- What lies apart from the device. -/
def Sep (L : List Nat) (bw bm : Nat) (Bf : Nat → Option Nat) : Prop := bw ∉ L ∧ bm ∉ L ∧ bw ≠ bm ∧ ∀ x b, Bf x = some b → b ∉ L ∧ b ≠ bw
theorem Sep.step {L L' : List Nat} {bw bm : Nat} {Bf : Nat → Option Nat} {w w' : World} (h : Sep L bw bm Bf) (hS : Step L L' w w') (h1 : bw < w.heap.size) (h2 : bm < w.heap.size) (h3 : ∀ x b, Bf x = some b → b < w.heap.size) : Sep L' bw bm Bf :=
  ⟨hS.out h.1 h1, hS.out h.2.1 h2, h.2.2.1, fun x b hb => ⟨hS.out (h.2.2.2 x b hb).1 (h3 x b hb), (h.2.2.2 x b hb).2⟩⟩
set_option maxRecDepth 100000 in
set_option maxHeartbeats 4000000 in
theorem core (A A2 : Option Addr) (n c n2 c2 : Nat) (keep : Nat) (hkp : (keep : Int) ≤ 18446744073709551615) (torn : Int) (ht0 : -128 ≤ torn) (ht1 : torn ≤ 127) (l : List Nat) (bl : Byt l) (hn : n = l.length) (hm : (n : Int) ≤ 9223372036854775807) (m : List Nat) (bm : Byt m) (hn2 : n2 = m.length) (hm2 : (n2 : Int) ≤ 9223372036854775807) (w : World) (hs : Sl w (.slice A n c) (bv l)) (hs2 : Sl w (.slice A2 n2 c2) (bv m)) :
    Calls Try.prog 7 #[.agg #[.slice A n c, .slice A2 n2 c2, .int .u64 (keep : Int), .int .i8 torn]] w fun e w' => e = .returned (.bool true) ∧ Below w.heap.size w w' := by
  have hal := Lib.hid (fun w => alive06 w)
  replace hn := Lib.hid hn
  replace hn2 := Lib.hid hn2
  replace hs := Lib.hid hs
  replace hs2 := Lib.hid hs2
  have hbl := Lib.hid bl
  have hbm := Lib.hid bm
  have x0 := Blk.new_at (w := w) (t := 45) (cs := #[.slice A n c, .slice A2 n2 c2, .int .u64 (keep : Int), .int .i8 torn]) rfl rfl
  have X0 : Below w.heap.size w (w.alloc (.cells #[.slice A n c, .slice A2 n2 c2, .int .u64 (keep : Int), .int .i8 torn] 45)) := (Below.refl _ _).alloc (Nat.le_refl _) _
  replace x0 := Lib.hid x0
  replace X0 := Lib.hid X0
  clear bl bm
  go_enter Try.func7, Try.ntmps7
  go_wp2_with fail
  refine (hal.out _).mono ?_
  rintro e w0 ⟨rfl, B0⟩
  have hb0 := x0.out.keep B0
  have B0' := Lib.hid (X0.out.trans (B0.mono X0.out.size))
  have f0 : w0.cell? ⟨w.heap.size, 0, none⟩ = some (.slice A n c) := by have := hb0.cell 0; simpa using this
  have f1 : w0.cell? ⟨w.heap.size, 1, none⟩ = some (.slice A2 n2 c2) := by have := hb0.cell 1; simpa using this
  have f2 : w0.cell? ⟨w.heap.size, 2, none⟩ = some (.int .u64 (keep : Int)) := by have := hb0.cell 2; simpa using this
  have f3 : w0.cell? ⟨w.heap.size, 3, none⟩ = some (.int .i8 torn) := by have := hb0.cell 3; simpa using this
  clear hb0 B0 x0 X0
  go_wp2
  go_quiet (fail)
  clear f0 f1 f2 f3
  replace B0' := Lib.hid (below_drewN B0'.out nq)
  generalize w0.drewN nq = w0 at *
  by_cases hbig : (60 : Int) < n
  · go_wp2
    go_ret
    exact ⟨rfl, B0'.out⟩
  by_cases hbig2 : (60 : Int) < n2
  · go_wp2
    go_ret
    exact ⟨rfl, B0'.out⟩
  have hnew := Lib.hid (fun w => new_x 16 w (by decide) (by decide))
  have hC := Lib.hid B0'.out.size
  go_wp2_with fail
  refine (hnew.out w0).mono ?_
  rintro e w1 ⟨g, L1, rfl, H1, B1⟩
  have B1' := B0'.out.trans (B1.mono B0'.out.size)
  have hBl1 := B1.size
  clear B0' B1
  generalize w0.heap.size = B at *
  have hmm := @run_makeMap Try.prog
  have b2 : Below w1.heap.size w1 (w1.alloc (.map #[] 0)) := (Below.refl _ _).alloc (Nat.le_refl _) _
  have H2 := Lib.hid (H1.keep b2)
  have B2 := Lib.hid (B1'.trans (b2.mono B1'.size))
  have M2 := Lib.hid (Fm.made w1)
  have hw2 : Hid (w1.heap.size ∉ L1) := H1.fresh (Nat.le_refl _)
  have hbB := Lib.hid hBl1
  clear H1 B1' b2 hBl1
  go_wp2_with fail
  generalize w1.alloc (.map #[] 0) = w2 at *
  generalize w1.heap.size = bw at *
  clear hmm
  go_loopw [49] (fun i wr => ∃ (k : Nat) (L : List Nat), (k : Int) ≤ n ∧ i = .int .i64 (k : Int) ∧ Hid (Dx B wr g L k (st1 l k)) ∧ Hid (Fm wr bw (wasV l k) k) ∧ Hid (bw ∉ L) ∧ Hid (Below w.heap.size w wr)) (fun i _ => n - (intOf i).toNat)
  case atStart => exact ⟨0, L1, by omega, rfl, H2, M2, hw2, B2⟩
  case round =>
    clear H2 M2 hw2 B2
    obtain ⟨k, L, hk, rfl, H, hM, hap, hB⟩ := hrel
    by_cases hlt : (k : Int) < n
    · obtain ⟨x, hx⟩ : ∃ x, l[k]? = some x := ⟨_, List.getElem?_eq_getElem (by have := hn.out; omega)⟩
      obtain ⟨ga, oa, rfl, ca⟩ := (hs.out.keep hB.out).at_ (k := k) (u := .int .u8 (x : Int)) (by rw [bv_get, hx]; rfl)
      have hx8 : (x : Int) < 256 := by have := hbl.out x (List.mem_of_getElem? hx); omega
      have hsec : Hid (∀ w, Calls Try.prog 13 #[.int .u8 ((k : Int) + 1), .int .u8 ((k : Int) + 1)] w fun e w' => ∃ b, e = .returned (.slice (some ⟨b, 0, none⟩) 512 512) ∧ Blk w' b 5 (bv (g1 k)) ∧ w.heap.size ≤ b ∧ Below w.heap.size w w') := fun w => sector_any (k + 1) (k + 1) w (by omega) (by omega)
      have hgd : Hid (l.getD k 0 = x) := by show _ = _; rw [List.getD_eq_getElem?_getD, hx]; rfl
      have hss : Hid (Sec (g1 k)) := tw_sec (v := k + 1) (by omega)
      clear hx
      go_wp2_with fail
      refine (hsec.out wr).mono ?_
      rintro e w3 ⟨k3, rfl, b3, g3, B3⟩
      have B3' := hB.out.trans (B3.mono hB.out.size)
      have hk3 := H.out.fresh g3
      have H3 := H.out.keep B3
      have M3 := hM.out.keep B3
      have hw := Lib.hid (write_free H3 ⟨rfl, rfl⟩ (by omega) (x % 16) (show x % 16 < 16 from Nat.mod_lt _ (by decide)) k3 _ _ hss.out b3 hk3)
      clear H hB B3 g3 ca hM
      rw [show ((x % 16 : Nat) : Int) = (x : Int) % 16 from by simp] at hw
      go_wp2_with fail
      refine hw.out.mono ?_
      rintro e w4 ⟨L4, rfl, H4, S4⟩
      have B4 := H3.go S4 B3' hC.out
      have M4 := M3.keeps S4.keeps hap.out
      have ap4 := S4.out hap.out M3.lt
      rw [← hgd.out, st1_succ] at H4
      obtain ⟨w5, hr5, M5, K5⟩ := M4.put Try.underlying46 (by omega) (a := x % 16) (by omega) (.int .u8 ((k : Int) + 1))
      rw [show ((x % 16 : Nat) : Int) = (x : Int) % 16 from by simp] at hr5
      rw [← hgd.out, wasV_set] at M5
      have H5 := Lib.hid (H4.keeps K5 (fun q hq => by simp; rintro rfl; exact ap4 hq))
      have B5 := Lib.hid (B4.trans (K5.below B4.size (by simp; have := hbB.out; have := hC.out; omega)))
      replace M5 := Lib.hid M5
      replace ap4 := Lib.hid ap4
      clear H3 B3' hw S4 b3 H4 B4 M3 M4 K5 hap
      go_wp2_with fail
      go_roundw
      case rel => exact ⟨k + 1, L4, by omega, by go_num, H5, M5, ap4, B5⟩
      case measure => simp [intOf]; omega
    · obtain rfl : k = n := by omega
      have hf := Lib.hid (flush_free H.out ⟨rfl, rfl⟩ (by omega))
      have hmlt := hM.out.lt
      go_wp2_with fail
      refine hf.out.mono ?_
      rintro e w3 ⟨L3, rfl, H3, S3⟩
      have B3 := H.out.go S3 hB.out hC.out
      have M3 := hM.out.keeps S3.keeps hap.out
      have ap3 := S3.out hap.out hmlt
      have H3' : Dx B w3 g L3 k (st2 l k m 0) := H3
      have hmm := @run_makeMap Try.prog
      have b4 : Below w3.heap.size w3 (w3.alloc (.map #[] 0)) := (Below.refl _ _).alloc (Nat.le_refl _) _
      have H4 := Lib.hid (H3'.keep b4)
      have M4 := Lib.hid (M3.keep b4)
      have Y4 := Lib.hid (My.made B w3)
      have B4 := Lib.hid (B3.trans (b4.mono B3.size))
      have sep4 : Hid (Sep L3 bw w3.heap.size (fun _ => none)) := ⟨ap3, H3'.fresh (Nat.le_refl _), by have := M3.lt; omega, fun x b h => by cases h⟩
      have hbm4 : Hid (B ≤ w3.heap.size) := by
        have := H3'.lt g (by obtain ⟨bl, ba, vw, nl, hd, rfl, -⟩ := H3'; exact g_mem _ _ _ _)
        show _ ≤ _; omega
      clear H3 H3' M3 ap3 B3 b4 S3 hf H hM hap hB hmlt
      go_wp2_with fail
      generalize w3.alloc (.map #[] 0) = w4 at *
      generalize w3.heap.size = bmm at *
      go_loopw [80] (fun i wr => ∃ (j : Nat) (L : List Nat) (Bf : Nat → Option Nat), (j : Int) ≤ n2 ∧ i = .int .i64 (j : Int) ∧ Hid (Dx B wr g L (k + j) (st2 l k m j)) ∧ Hid (Fm wr bw (wasV l k) k) ∧ Hid (My B wr bmm (2 * j) Bf (mayF m j)) ∧ Hid (Sep L bw bmm Bf) ∧ Hid (Below w.heap.size w wr)) (fun i _ => n2 - (intOf i).toNat)
      case atStart => exact ⟨0, L3, _, by omega, rfl, H4, M4, Y4, sep4, B4⟩
      case round =>
        clear H4 M4 Y4 sep4 B4
        obtain ⟨j, L, Bf, hj, rfl, H, hM, hY, hsp, hB⟩ := hrel
        by_cases hlt : (j : Int) < n2
        · obtain ⟨x, hx⟩ : ∃ x, m[j]? = some x := ⟨_, List.getElem?_eq_getElem (by have := hn2.out; omega)⟩
          obtain ⟨ga, oa, rfl, ca⟩ := (hs2.out.keep hB.out).at_ (k := j) (u := .int .u8 (x : Int)) (by rw [bv_get, hx]; rfl)
          have hx8 : (x : Int) < 256 := by have := hbm.out x (List.mem_of_getElem? hx); omega
          have hsec : Hid (∀ w, Calls Try.prog 13 #[.int .u8 ((j : Int) + 100), .int .u8 ((j : Int) + 100)] w fun e w' => ∃ b, e = .returned (.slice (some ⟨b, 0, none⟩) 512 512) ∧ Blk w' b 5 (bv (g2 j)) ∧ w.heap.size ≤ b ∧ Below w.heap.size w w') := fun w => sector_any (j + 100) (j + 100) w (by omega) (by omega)
          have hgd : Hid (m.getD j 0 = x) := by show _ = _; rw [List.getD_eq_getElem?_getD, hx]; rfl
          have hss : Hid (Sec (g2 j)) := tw_sec (v := j + 100) (by omega)
          clear hx
          go_wp2_with fail
          refine (hsec.out wr).mono ?_
          rintro e w5 ⟨k5, rfl, b5, g5, B5⟩
          have B5' := hB.out.trans (B5.mono hB.out.size)
          have hk5 := H.out.fresh g5
          have H5 := H.out.keep B5
          have M5 := hM.out.keep B5
          have Y5 := hY.out.keep B5
          have hw := Lib.hid (write_free H5 ⟨rfl, rfl⟩ (by omega) (x % 16) (show x % 16 < 16 from Nat.mod_lt _ (by decide)) k5 _ _ hss.out b5 hk5)
          clear H hB B5 g5 ca hM hY
          rw [show ((x % 16 : Nat) : Int) = (x : Int) % 16 from by simp] at hw
          go_wp2_with fail
          refine hw.out.mono ?_
          rintro e w6 ⟨L6, rfl, H6, S6⟩
          have B6 := H5.go S6 B5' hC.out
          have M6 := M5.keeps S6.keeps hsp.out.1
          have Y6 := Y5.keeps S6.keeps hsp.out.2.1 (fun x b hb => (hsp.out.2.2.2 x b hb).1)
          have sp6 := hsp.out.step S6 M5.lt Y5.top.lt (fun x b hb => (Y5.low x b hb).1.lt)
          rw [← hgd.out, st2_succ] at H6
          have hle6 : B ≤ w6.heap.size := by
            have := H6.lt g (by obtain ⟨bl, ba, vw, nl, hd, rfl, -⟩ := H6; exact g_mem _ _ _ _)
            omega
          have hlk := Y6.look (x := x % 16) (by omega)
          clear H5 B5' hw S6 b5 M5 Y5 hsp
          cases hbf : Bf (x % 16) with
          | none =>
            obtain ⟨w7, hr7, Y7, K7⟩ := Y6.new hle6 (by omega) (x := x % 16) (by omega) hbf
            have hlk7 := Y7.look (x := x % 16) (by omega)
            obtain ⟨w8, hr8, Y8, K8⟩ := Y7.put (by omega) (x := x % 16) (v := j + 100) (b := w6.heap.size) (by omega) (by simp)
            have hM8 := (M6.keeps K7 (by simp; exact sp6.2.2.1)).keeps K8 (by simp; have := M6.lt; omega)
            have hH8 := (H6.keeps K7 (fun q hq => by simp; rintro rfl; exact sp6.2.1 hq)).keeps K8 (fun q hq => by simp; have := (H6.lt q hq).2; omega)
            have K78 : Below w.heap.size w w8 := (B6.trans (K7.below B6.size (by simp; have := hbm4.out; have := hC.out; omega))).trans (K8.below (Nat.le_trans B6.size K7.size) (by simp; exact B6.size))
            have sp8 : Hid (Sep L6 bw bmm (fun y => if y = x % 16 then some w6.heap.size else Bf y)) := ⟨sp6.1, sp6.2.1, sp6.2.2.1, fun y b hb => by
              by_cases e : y = x % 16
              · simp only [if_pos e] at hb
                injection hb with hb
                subst hb
                exact ⟨H6.fresh (Nat.le_refl _), by have := M6.lt; omega⟩
              · simp only [if_neg e] at hb
                exact sp6.2.2.2 y b hb⟩
            have Y8' : Hid (My B w8 bmm (2 * (j + 1)) (fun y => if y = x % 16 then some w6.heap.size else Bf y) (mayF m (j + 1))) := by
              have e : mayF m (j + 1) = fun y u => mayF m j y u || (y == x % 16 && u == j + 100) := by rw [← hgd.out]; rfl
              rw [e]
              exact Y8.mono (by omega)
            have heq := eq_nil w6
            rw [hbf] at hlk
            simp only [if_true] at hlk7
            rw [show ((x % 16 : Nat) : Int) = (x : Int) % 16 from by simp] at hlk hlk7 hr7
            rw [show ((j + 100 : Nat) : Int) = (j : Int) + 100 from by simp] at hr8
            replace hM8 := Lib.hid hM8
            replace hH8 := Lib.hid hH8
            replace K78 := Lib.hid K78
            clear Y6 Y7 Y8 K7 K8 M6 H6 B6 sp6 hle6 hbf
            go_wp2_with fail
            go_roundw
            case rel => exact ⟨j + 1, L6, _, by omega, by go_num, hH8, hM8, Y8', sp8, K78⟩
            case measure => simp [intOf]; omega
          | some b =>
            obtain ⟨w8, hr8, Y8, K8⟩ := Y6.put (by omega) (x := x % 16) (v := j + 100) (b := b) (by omega) hbf
            have hsb := sp6.2.2.2 _ b hbf
            have hYb := (Y6.low _ b hbf).2
            have hM8 := M6.keeps K8 (by simp; exact fun e => hsb.2 e.symm)
            have hH8 := H6.keeps K8 (fun q hq => by simp; rintro rfl; exact hsb.1 hq)
            have K78 : Below w.heap.size w w8 := B6.trans (K8.below B6.size (by simp; have := hYb.1; have := hC.out; omega))
            have sp8 := Lib.hid sp6
            have Y8' : Hid (My B w8 bmm (2 * (j + 1)) Bf (mayF m (j + 1))) := by
              have e : mayF m (j + 1) = fun y u => mayF m j y u || (y == x % 16 && u == j + 100) := by rw [← hgd.out]; rfl
              rw [e]
              exact Y8.mono (by omega)
            have heq := eq_some b w6
            rw [hbf] at hlk
            rw [show ((x % 16 : Nat) : Int) = (x : Int) % 16 from by simp] at hlk
            rw [show ((j + 100 : Nat) : Int) = (j : Int) + 100 from by simp] at hr8
            replace hM8 := Lib.hid hM8
            replace hH8 := Lib.hid hH8
            replace K78 := Lib.hid K78
            clear Y6 Y8 K8 M6 H6 B6 sp6 hle6 hbf hsb hYb hmm
            go_wp2_with fail
            go_roundw
            case rel => exact ⟨j + 1, L6, _, by omega, by go_num, hH8, hM8, Y8', sp8, K78⟩
            case measure => simp [intOf]; omega
        · obtain rfl : j = n2 := by omega
          have hgood := Lib.hid (fun a => good l k m j keep torn a)
          have hcr := Lib.hid (crash_x H.out (by omega) keep torn hkp (by omega) (by omega))
          have hz1 := Lib.hid (show (crashS (st2 l k m j) keep torn).size = 16 from rfl)
          have hd1 := Lib.hid (show (crashS (st2 l k m j) keep torn).down = false from rfl)
          have hw1 := Lib.hid (show (crashS (st2 l k m j) keep torn).waits = [] from rfl)
          generalize crashS (st2 l k m j) keep torn = s1 at *
          clear hmm
          go_wp2_with fail
          refine hcr.out.mono ?_
          rintro e w5 ⟨L5, rfl, H5, S5⟩
          have B5 := Lib.hid (H.out.go S5 hB.out hC.out)
          have M5 := Lib.hid (hM.out.keeps S5.keeps hsp.out.1)
          have Y5 := Lib.hid (hY.out.keeps S5.keeps hsp.out.2.1 (fun x b hb => (hsp.out.2.2.2 x b hb).1))
          have hsc := Lib.hid (fun x => liesL_sec H5.ok x)
          replace H5 := Lib.hid H5
          clear H hB hM hY hsp hcr S5
          have b0 := Lib.hid (Below.refl w5.heap.size w5)
          go_wp2_with fail
          go_loopw [122] (fun i wr => ∃ a : Nat, (a : Int) ≤ 16 ∧ i = .int .u32 (a : Int) ∧ Hid (Below w5.heap.size w5 wr)) (fun i _ => 16 - (intOf i).toNat)
          case atStart => exact ⟨0, by omega, rfl, b0⟩
          case round =>
            clear b0
            obtain ⟨a, ha, rfl, hB⟩ := hrel
            have H := H5.out.keep hB.out
            by_cases hlt : (a : Int) < 16
            · have hr := read_x H (by omega) a (by omega) (by rw [hz1.out]; omega) hd1.out
              rw [readL_none _ hw1.out] at hr
              replace hr := Lib.hid hr
              obtain ⟨y1, ⟨v0, hv0, hP0⟩, ⟨v1, hv1, hP1⟩⟩ := hgood.out a
              have hys := hsc.out a
              have hpk := Lib.hid (fun w (h : Dx B w g L5 (k + j) s1) => peek_x h a (by omega) (by rw [hz1.out]; omega))
              generalize liesL s1 a = y at *
              replace hys := Lib.hid hys
              go_wp2_with fail
              refine hr.out.mono fun e w6 hq => ?_
              obtain ⟨k6, rfl, b6, g6, B6⟩ := RetRd.out hq
              have hB6 := hB.out.trans (B6.mono hB.out.size)
              have hp := Lib.hid (hpk.out w6 (H.keep B6))
              clear hr hq hB B6 H g6 hpk
              go_wp2_with fail
              refine hp.out.mono fun e w7 hq => ?_
              obtain ⟨k7, c7, rfl, s7, B7⟩ := RetPk.out hq
              have hB7 := hB6.trans (B7.mono hB6.size)
              have b7 := b6.keep B7
              have hsm := Lib.hid (same_any _ _ _ _ w7 (sl512 b7 hys.out.1) s7 hys.out.2 hys.out.2)
              rw [decide_eq_true rfl] at hsm
              have e0 := blk_cell b7 hv0
              have e1 := blk_cell b7 hv1
              have u0 : (v0 : Int) ≤ 255 := by have := hys.out.2 v0 (List.mem_of_getElem? hv0); omega
              have u1 : (v1 : Int) ≤ 255 := by have := hys.out.2 v1 (List.mem_of_getElem? hv1); omega
              clear hp hq hB6 B7 s7 b6 b7 hv0 hv1 y1
              replace hB7 := Lib.hid hB7
              go_wp2_with fail
              refine hsm.out.mono ?_
              rintro e w8 ⟨rfl, rfl⟩
              go_wp2
              go_quiet (fail)
              have hB8 := Lib.hid (below_drewN hB7.out nq)
              clear e0 e1 hB7 hsm
              generalize w7.drewN nq = w8 at *
              have M7 := M5.out.keep hB8.out
              have Y7 := Y5.out.keep hB8.out
              have lw : (Instr.lookup 46 (.map (some bw)) (.int .u32 (a : Int)) false).run Try.prog w8 = .ok (.int .u8 (((wasF l k a).getD 0 : Nat) : Int)) w8 := by
                rw [M7.lookV Try.underlying46 (zeroU8 w8) (by omega)]
                unfold wasV
                cases wasF l k a <;> rfl
              have lm := Y7.look (x := a) (by omega)
              have l0 := Y7.has (x := a) (v := v0) (by omega)
              have l1 := Y7.has (x := a) (v := v1) (by omega)
              clear M7 Y7
              have i0 := fun w => ix0 v0 v1 w
              have i1 := fun w => ix1 v0 v1 w
              generalize (wasF l k a).getD 0 = q at *
              go_wp2
              go_loop [156] (fun i => ∃ t : Nat, (t : Int) ≤ 2 ∧ i = .int .i64 (t : Int)) (fun i => 2 - (intOf i).toNat)
              case atStart => exact ⟨0, by omega, rfl⟩
              case round =>
                obtain ⟨t, ht, rfl⟩ := hrel
                by_cases h2 : (t : Int) < 2
                · rcases (by omega : t = 0 ∨ t = 1) with rfl | rfl
                  · by_cases hq : (v0 : Int) = q
                    · obtain rfl : v0 = q := by omega
                      clear hq
                      go_wp2
                      go_round
                      case rel => exact ⟨1, by omega, by go_num⟩
                      case measure => simp [intOf]
                    · have hS := hP0.resolve_left (by omega)
                      rw [hS] at l0
                      go_wp2
                      go_round
                      case rel => exact ⟨1, by omega, by go_num⟩
                      case measure => simp [intOf]
                  · by_cases hq : (v1 : Int) = q
                    · obtain rfl : v1 = q := by omega
                      clear hq
                      go_wp2
                      go_round
                      case rel => exact ⟨2, by omega, by go_num⟩
                      case measure => simp [intOf]
                    · have hS := hP1.resolve_left (by omega)
                      rw [hS] at l1
                      go_wp2
                      go_round
                      case rel => exact ⟨2, by omega, by go_num⟩
                      case measure => simp [intOf]
                · obtain rfl : t = 2 := by omega
                  clear lw lm l0 l1 hP0 hP1 i0 i1
                  go_wp2
                  go_roundw
                  case rel => exact ⟨a + 1, by omega, by go_num, hB8⟩
                  case measure => simp [intOf]; omega
            · obtain rfl : a = 16 := by omega
              have BB := Lib.hid (B5.out.trans (hB.out.mono B5.out.size))
              have hwt := Lib.hid (waits_x H)
              rw [hw1.out] at hwt
              have hdn := Lib.hid (down_x H)
              rw [hd1.out] at hdn
              clear hB H
              go_wp2_with fail
              refine hwt.out.mono ?_
              rintro e w6 ⟨rfl, rfl⟩
              go_wp2_with fail
              refine hdn.out.mono ?_
              rintro e w6 ⟨rfl, rfl⟩
              go_wp2
              go_ret
              exact ⟨rfl, BB.out⟩

theorem walk (va vb : Value) (l m : List Nat) (k : Nat) (t : Int) (W : World) (sa : Sl W va (bv l)) (ba : Byt l) (sb : Sl W vb (bv m)) (bb : Byt m) (hk : (k : Int) ≤ 18446744073709551615) (t0 : -128 ≤ t) (t1 : t ≤ 127) :
    Calls Try.prog 7 #[.agg #[va, vb, .int .u64 (k : Int), .int .i8 t]] W fun e w' => e = .returned (.bool true) ∧ Below W.heap.size W w' := by
  obtain ⟨A, c, rfl, h1, h2, h3⟩ := id sa
  obtain ⟨A2, c2, rfl, k1, k2, k3⟩ := id sb
  exact core A A2 _ c _ c2 k hk t t0 t1 l ba (bv_length l) (by unfold maxLen at h2; omega) m bb (bv_length m) (by unfold maxLen at k2; omega) W sa sb
end Go.Proofs.Ytkpefffephbhnaa.w_DevLasts
