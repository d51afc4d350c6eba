/- Contracts of package mac: Fits, and the statements' own example. -/
import Derived.Test.YthlebobfbalknaaMacC
import Derived.Test.YthlebobfbalknaaShX
import Derived.Test.YthlebobfbalknaaEqH
import Derived.Test.YthlebobfbalknaaShK
import Derived.Lib.SlBytesConst
set_option linter.unusedVariables false
set_option linter.unusedSimpArgs false
namespace Go.Proofs.Ythlebobfbalknaa
open Go.RowKit
open Go.Proofs.PlainAes
open Go.Proofs.PlainSha
open Go.Proofs.PlainMac

theorem or_zero8 {a b : Nat} : a ||| b = 0 ↔ a = 0 ∧ b = 0 := by
  constructor
  · intro h
    constructor
    · have := Nat.left_le_or (n := a) (m := b); omega
    · have := Nat.right_le_or (n := a) (m := b); omega
  · rintro ⟨rfl, rfl⟩; rfl
theorem xor_zero8 {a b : Nat} : a ^^^ b = 0 ↔ a = b := by
  constructor
  · intro h
    have := congrArg (· ^^^ b) h
    simpa [Nat.xor_assoc] using this
  · rintro rfl; simp
theorem o8m {a b : Nat} (ha : a < 256) (hb : b < 256) : bits .or .u8 (a : Int) (b : Int) = ((a ||| b : Nat) : Int) ∧ a ||| b < 256 := ⟨u8_or_nat a b ha hb, Nat.or_lt_two_pow (n := 8) ha hb⟩

set_option maxRecDepth 100000 in
set_option maxHeartbeats 2000000 in
theorem fits_core (A A2 : Option Addr) (n c n2 c2 : Nat) (k m x : List Nat) (w : World) (hs : Sl w (.slice A n c) (bv k)) (hm : Sl w (.slice A2 n2 c2) (bv m)) (bk : Byt k) (bm : Byt m) (hlk : (k.length : Int) ≤ 549755813888) (hlm : (m.length : Int) ≤ 549755813888) (hx : x.length = 32) (bx : Byt x) :
    Calls Try.prog 11 #[.slice A n c, .slice A2 n2 c2, .agg (bv x).toArray] w fun e w' => e = .returned (.bool (decide (macL k m = x))) ∧ Below w.heap.size w w' := by
  have hmac := Lib.hid (fun w (h : Sl w (.slice A n c) (bv k)) (h2 : Sl w (.slice A2 n2 c2) (bv m)) => mac_any _ _ k m w h h2 bk bm hlk hlm)
  have hOl := Lib.hid (macL_len k m)
  have hOb := Lib.hid (macL_byt k m)
  replace hs := Lib.hid hs
  replace hm := Lib.hid hm
  have Hx := Lib.hid hx
  have Bx := Lib.hid bx
  have hb0 := Blk.new w 25 (bv x).toArray
  have hB0 := (Below.refl w.heap.size w).alloc (Nat.le_refl _) (.cells (bv x).toArray 25)
  clear bk bm hlk hlm hx bx
  generalize macL k m = O at *
  go_enter Try.func11, Try.ntmps11
  have hm1 := Lib.hid (hmac.out _ (hs.out.keep hB0) (hm.out.keep hB0))
  go_wp2_with fail
  refine hm1.out.mono ?_
  rintro e w1 ⟨rfl, hB1⟩
  have hx1 := hb0.keep hB1
  have hB1' := below_call hB0 (by simp) hB1
  clear hb0 hB0 hB1 hm1
  go_wp2_with (refine wpList_allocA rfl 25 rfl (bv (zeros 32)) (by kernel_rfl) ?_)
  intro w2 h2 hK2 hz2
  have hx2 := hx1.keeps hK2 (by simp)
  have hB2 := hB1'.trans (hK2.below hB1'.size (by simp))
  have hg := hx1.lt
  clear hK2 hx1 hB1' hz2
  generalize w1.heap.size = g7 at *
  have hOl2 := Lib.hid (show (bv O).length = 32 by rw [bv_length, hOl.out])
  go_wp2_with (refine wpList_storeW rfl 25 (.tmp 7) (.tmp 12) rfl 32 arrH g7 rfl (bv O) rfl 25 _ h2 hOl2.out (by simp) (ones_bv _) ?_)
  intro w3 h3 hK3
  have hx3 := hx2.keeps hK3 (by simp; omega)
  have hB3 := hB2.trans (hK3.below hB2.size (by simp; omega))
  clear hK3 h2 hx2 hB2
  go_wp2
  go_loopw [8, 13] (fun d i wr => ∃ k a : Nat, (k : Int) ≤ 32 ∧ i = .int .i64 (k : Int) ∧ d = .int .u8 (a : Int) ∧ (a : Int) ≤ 255 ∧ Hid (a = 0 ↔ ∀ j, j < k → gd O j = gd x j) ∧ Blk wr g7 25 (bv O) ∧ Blk wr w.heap.size 25 (bv x) ∧ Below w.heap.size w wr) (fun _ i _ => 32 - (intOf i).toNat)
  case atStart => exact ⟨0, 0, by omega, rfl, rfl, by omega, ⟨fun _ j hj => by omega, fun _ => rfl⟩, h3, hx3, hB3⟩
  case round =>
    clear h3 hx3 hB3
    obtain ⟨k, a, hk, rfl, rfl, ha, hd, ho, hx, hB⟩ := hrel
    by_cases hlt : (k : Int) < 32
    · have c0 := ho.cell k
      have c1 := hx.cell k
      rw [gd_bv (by rw [hOl.out]; omega)] at c0
      rw [gd_bv (by rw [Hx.out]; omega)] at c1
      have l0 := gd_lt hOb.out k
      have l1 := gd_lt Bx.out k
      have hn : Hid ((a ||| (gd O k ^^^ gd x k)) = 0 ↔ ∀ j, j < k + 1 → gd O j = gd x j) := by
        show _ ↔ _
        rw [or_zero8, xor_zero8, hd.out]
        constructor
        · rintro ⟨h1, h2⟩ j hj
          rcases Nat.lt_or_ge j k with h | h
          · exact h1 j h
          · obtain rfl : j = k := by omega
            exact h2
        · intro h
          exact ⟨fun j hj => h j (by omega), h k (by omega)⟩
      generalize gd O k = p at *
      generalize gd x k = q at *
      have q1 := x8m l0 l1
      have q2 := o8m (show a < 256 by omega) q1.2
      have hle : ((a ||| (p ^^^ q) : Nat) : Int) ≤ 255 := by have := q2.2; omega
      replace q1 := q1.1
      replace q2 := q2.1
      clear l0 l1
      generalize hv : a ||| (p ^^^ q) = v at *
      generalize p ^^^ q = pq at *
      clear hv
      go_wp2
      go_quiet (fail)
      clear c0 c1
      replace ho := ho.drewN nq
      replace hx := hx.drewN nq
      replace hB := below_drewN hB nq
      generalize wr.drewN nq = wr at *
      go_wp2
      go_roundw
      case rel => exact ⟨k + 1, v, by omega, by go_num, rfl, hle, hn, ho, hx, hB⟩
      case measure => simp [intOf]; omega
    · obtain rfl : k = 32 := by omega
      have hfin : Hid (decide ((a : Int) = 0) = decide (O = x)) := by
        show _ = _
        refine decide_eq_decide.2 ⟨fun h => ?_, fun h => ?_⟩
        · exact ext_gd (by rw [hOl.out, Hx.out]) (fun i hi => hd.out.1 (by omega) i (by rw [hOl.out] at hi; omega))
        · have := hd.out.2 (fun j _ => by rw [h]); omega
      have hq : ((a : Int) == 0) = decide ((a : Int) = 0) := by rw [Bool.eq_iff_iff]; simp
      rw [hfin.out] at hq
      go_wp2
      go_ret
      exact ⟨rfl, hB⟩
theorem fits_any (v v2 : Value) (k m x : List Nat) (w : World) (hs : Sl w v (bv k)) (hm : Sl w v2 (bv m)) (bk : Byt k) (bm : Byt m) (hlk : (k.length : Int) ≤ 549755813888) (hlm : (m.length : Int) ≤ 549755813888) (hx : x.length = 32) (bx : Byt x) :
    Calls Try.prog 11 #[v, v2, .agg (bv x).toArray] w fun e w' => e = .returned (.bool (decide (macL k m = x))) ∧ Below w.heap.size w w' := by
  obtain ⟨A, c, rfl, _⟩ := id hs
  obtain ⟨A2, c2, rfl, _⟩ := id hm
  exact fits_core A A2 _ c _ c2 k m x w hs hm bk bm hlk hlm hx bx
theorem jefe_byt : Byt jefe := by
  intro x hx
  simp only [jefe, List.mem_cons, List.not_mem_nil, or_false] at hx
  omega
theorem what_byt : Byt what := by
  intro x hx
  simp only [what, List.mem_cons, List.not_mem_nil, or_false] at hx
  omega
def jeS : ByteArray := bstr (hexL (macL jefe what))
theorem jeS_eq : jeS = ⟨#[53, 98, 100, 99, 99, 49, 52, 54, 98, 102, 54, 48, 55, 53, 52, 101, 54, 97, 48, 52, 50, 52, 50, 54, 48, 56, 57, 53, 55, 53, 99, 55, 53, 97, 48, 48, 51, 102, 48, 56, 57, 100, 50, 55, 51, 57, 56, 51, 57, 100, 101, 99, 53, 56, 98, 57, 54, 52, 101, 99, 51, 56, 52, 51]⟩ := by
  unfold jeS
  rw [macL_jefe]
  decide +kernel
theorem jw_sl (w : World) : Sl ((w.alloc (.cells #[.int .u8 74, .int .u8 101, .int .u8 102, .int .u8 101] 5 (4, 5))).alloc (.cells (bv what).toArray 5 (28, 29))) (.slice (some ⟨w.heap.size, 0, none⟩) 4 4) (bv jefe) ∧
    Sl ((w.alloc (.cells #[.int .u8 74, .int .u8 101, .int .u8 102, .int .u8 101] 5 (4, 5))).alloc (.cells (bv what).toArray 5 (28, 29))) (.slice (some ⟨w.heap.size + 1, 0, none⟩) 28 28) (bv what) := by
  have h1 : Sl (w.alloc (.cells #[.int .u8 74, .int .u8 101, .int .u8 102, .int .u8 101] 5 (4, 5))) (.slice (some ⟨w.heap.size, 0, none⟩) 4 4) (bv jefe) := Sl.of_new w #[.int .u8 74, .int .u8 101, .int .u8 102, .int .u8 101] 5 (4, 5) (by simp [maxLen])
  have h2 := Sl.of_new (w.alloc (.cells #[.int .u8 74, .int .u8 101, .int .u8 102, .int .u8 101] 5 (4, 5))) (bv what).toArray 5 (28, 29) (by simp [maxLen, what])
  refine ⟨h1.keep ((Below.refl _ _).alloc (Nat.le_refl _) _), ?_⟩
  have e : (w.alloc (.cells #[.int .u8 74, .int .u8 101, .int .u8 102, .int .u8 101] 5 (4, 5))).heap.size = w.heap.size + 1 := by simp
  rw [e] at h2
  exact h2
set_option maxRecDepth 100000 in
set_option maxHeartbeats 1000000 in
theorem alive_any (w : World) : Calls Try.prog 8 #[] w fun e w' => e = .returned (.bool true) ∧ Below w.heap.size w w' := by
  have hmac := Lib.hid (fun v v2 w h1 h2 => mac_any v v2 jefe what w h1 h2 jefe_byt what_byt (by decide) (by decide))
  have hfit := Lib.hid (fun v v2 w h1 h2 => fits_any v v2 jefe what (macL jefe what) w h1 h2 jefe_byt what_byt (by decide) (by decide) (macL_len _ _) (macL_byt _ _))
  rw [show decide (macL jefe what = macL jefe what) = true from decide_eq_true rfl] at hfit
  have hhex : Hid (∀ w, Calls Try.prog 18 #[.agg (bv (macL jefe what)).toArray] w fun e w' => e = .returned (.string jeS) ∧ Below w.heap.size w w') := Lib.hid (fun w => hex_any (macL jefe what) w (macL_len _ _) (macL_byt _ _))
  have hXl := Lib.hid (show (bv (macL jefe what)).length = 32 by rw [bv_length, macL_len])
  have hs : (jeS.toList == [53, 98, 100, 99, 99, 49, 52, 54, 98, 102, 54, 48, 55, 53, 52, 101, 54, 97, 48, 52, 50, 52, 50, 54, 48, 56, 57, 53, 55, 53, 99, 55, 53, 97, 48, 48, 51, 102, 48, 56, 57, 100, 50, 55, 51, 57, 56, 51, 57, 100, 101, 99, 53, 56, 98, 57, 54, 52, 101, 99, 51, 56, 52, 51]) = true := by rw [jeS_eq, ByteArray.toList_eq]; decide
  replace hs := Lib.hid hs
  have kc := fun (w : World) (C : Array Value) (n c : Nat) => Lib.run_convert_bytes_const (P := Try.prog) w 22 5 C n c Try.underlying22 Try.underlying5
  have kc2 : ∀ (w : World) (O : Obj) (C : Array Value) (n c : Nat), (convert 22 22 (.slice (some ⟨w.heap.size + 1, 0, none⟩) n c)).run Try.prog ((w.alloc O).alloc (.cells C 5)) = .ok (.slice (some ⟨w.heap.size + 1, 0, none⟩) n c) ((w.alloc O).alloc (.cells C 5 (C.size, C.size + 1))) := fun w O C n c => by
    have h := kc (w.alloc O) C n c
    rw [show (w.alloc O).heap.size = w.heap.size + 1 by simp] at h
    exact h
  change Hid (∀ v v2 w, _ → _ → Calls _ _ _ w (RetH (macL jefe what) w)) at hmac
  generalize macL jefe what = X at *
  generalize jeS = S at *
  go_enter Try.func8, Try.ntmps8
  have hj1 := Lib.hid (hmac.out _ _ _ (jw_sl w).1 (jw_sl w).2)
  have hB0 : Below w.heap.size w ((w.alloc (.cells #[.int .u8 74, .int .u8 101, .int .u8 102, .int .u8 101] 5 (4, 5))).alloc (.cells (bv what).toArray 5 (28, 29))) := ((Below.refl _ w).alloc (Nat.le_refl _) _).alloc (by simp) _
  go_wp2_with fail
  refine hj1.out.mono ?_
  rintro e w1 ⟨rfl, hB1⟩
  have hB1' := below_call hB0 (by simp; omega) hB1
  clear hB1 hB0 hj1
  go_wp2_with (refine wpList_allocA rfl 25 rfl (bv (zeros 32)) (by kernel_rfl) ?_)
  intro w2 h2 hK2 hz2
  have hB2 := hB1'.trans (hK2.below hB1'.size (by simp))
  have hg2 : w.heap.size ≤ w1.heap.size := hB1'.size
  clear hK2 hB1' hz2
  generalize w1.heap.size = g2 at *
  go_wp2_with (refine wpList_storeW rfl 25 (.tmp 1) (.tmp 6) rfl 32 arrH g2 rfl (bv X) rfl 25 _ h2 hXl.out (by simp) (ones_bv _) ?_)
  intro w3 h3 hK3
  have hB3 := hB2.trans (hK3.below hB2.size (by simp; omega))
  clear hK3 h2 hB2
  go_wp2_with (refine wpList_loadW rfl 25 (.tmp 1) rfl 32 arrH g2 rfl 25 _ h3 hXl.out ?_)
  refine (hhex.out _).mono ?_
  rintro e w4 ⟨rfl, hB4⟩
  have h4 := h3.keep hB4
  have hB4' := below_call hB3 hB3.size hB4
  clear h3 hB3 hB4
  have hs := hs.out
  have hf1 := Lib.hid (hfit.out _ _ _ (jw_sl w4).1 (jw_sl w4).2)
  have hB5 : Below w.heap.size w ((w4.alloc (.cells #[.int .u8 74, .int .u8 101, .int .u8 102, .int .u8 101] 5 (4, 5))).alloc (.cells (bv what).toArray 5 (28, 29))) := (hB4'.alloc hB4'.size _).alloc (by have := hB4'.size; simp; omega) _
  have h5 := (h4.alloc (.cells #[.int .u8 74, .int .u8 101, .int .u8 102, .int .u8 101] 5 (4, 5))).alloc (.cells (bv what).toArray 5 (28, 29))
  go_wp2_with (refine wpList_loadG rfl 25 (.tmp 1) rfl 32 arrH g2 rfl 25 (bv X) h5 hXl.out ?_)
  refine hf1.out.mono ?_
  rintro e w6 ⟨rfl, hB6⟩
  have hB6' := below_call hB5 (by have := hB4'.size; simp; omega) hB6
  go_wp2
  go_ret
  exact ⟨rfl, hB6'⟩
end Go.Proofs.Ythlebobfbalknaa
