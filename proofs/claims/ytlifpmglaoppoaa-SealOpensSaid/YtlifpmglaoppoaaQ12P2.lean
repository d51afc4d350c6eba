/- Several texts in one (written by mergetop.py): AesA AesB AesT AesE AesS AesO CtrP CtrA CtrQ CtrB CtrC. -/
import Derived.Test.YtlifpmglaoppoaaBase
import Derived.Test.YtlifpmglaoppoaaAesP
import Derived.Test.YtlifpmglaoppoaaArr
import Derived.BigQuiet
import Derived.IntWalk
import Derived.Test.YtlifpmglaoppoaaAesQ
import Derived.Test.YtlifpmglaoppoaaArrB
import Derived.Test.YtlifpmglaoppoaaAesR
import Derived.Test.YtlifpmglaoppoaaReg
import Derived.Deep.DeepCutAuto
import Derived.Test.YtlifpmglaoppoaaApp
import Derived.Test.YtlifpmglaoppoaaClo
import Derived.Test.YtlifpmglaoppoaaOwn
set_option linter.unusedVariables false
set_option linter.unusedSimpArgs false

/- Contracts of package aes: double, Times, inverse, turn, Box, Unbox. -/
namespace Go.Proofs.Ytlifpmglaoppoaa
open Go.RowKit
open Go.Proofs.PlainAes

theorem byte_cases {p : Nat → Prop} [DecidablePred p] (h : (List.range 256).all (fun x => decide (p x)) = true) : ∀ x, x < 256 → p x := by
  intro x hx
  have := List.all_eq_true.1 h x (List.mem_range.2 hx)
  simpa using this

theorem dbl_bits : ∀ a, a < 256 → bits .xor .u8 ((a : Nat) * 2 % 256) (bits .and .u8 27 (-((a : Nat) / 128) % 256)) = ((dbl a : Nat) : Int) := byte_cases (by decide +kernel)
theorem double_any (a : Nat) (ha : a < 256) (w : World) : Calls Try.prog 61 #[.int .u8 (a : Int)] w fun e w' => e = .returned (.int .u8 (dbl a : Nat)) ∧ w = w' := by
  have haI : (a : Int) ≤ 255 := by omega
  have h := dbl_bits a ha
  go_enter Try.func61, Try.ntmps61
  go_wp2
  go_ret
  exact ⟨rfl, rfl⟩

theorem neg_bit : ∀ b, b < 256 → -(bits .and .u8 ((b : Nat) : Int) 1) % 256 = ((if b % 2 = 1 then 255 else 0 : Nat) : Int) := byte_cases (by decide +kernel)
theorem and_all : ∀ a, a < 256 → a &&& 255 = a := byte_cases (by decide +kernel)
theorem times_step {o a b : Nat} (ho : o < 256) (ha : a < 256) (hb : b < 256) : bits .xor .u8 (o : Int) (bits .and .u8 (a : Int) (-(bits .and .u8 (b : Int) 1) % 256)) = ((o ^^^ (if b % 2 = 1 then a else 0) : Nat) : Int) := by
  rw [neg_bit b hb, u8_and_nat a _ ha (by split <;> decide)]
  have e : (a &&& if b % 2 = 1 then 255 else 0) = if b % 2 = 1 then a else 0 := by
    split
    · exact and_all a ha
    · simp
  rw [e, u8_xor_nat _ _ ho (by split <;> omega)]

set_option maxHeartbeats 400000 in
theorem atimes_any (a b : Nat) (ha : a < 256) (hb : b < 256) (w : World) : Calls Try.prog 76 #[.int .u8 (a : Int), .int .u8 (b : Int)] w fun e w' => e = .returned (.int .u8 (mul a b : Nat)) ∧ w = w' := by
  have hd := Lib.hid (fun a ha w => double_any a ha w)
  go_enter Try.func76, Try.ntmps76
  go_wp2
  go_loop [4, 0, 1] (fun o x y => ∃ (n o' a' b' : Nat), o = .int .u8 (o' : Int) ∧ x = .int .u8 (a' : Int) ∧ y = .int .u8 (b' : Int) ∧ o' < 256 ∧ a' < 256 ∧ b' < 256 ∧ Hid (b' < 2 ^ n ∧ mulGo n o' a' b' = mul a b)) (fun _ _ y => (intOf y).toNat)
  case atStart => exact ⟨8, 0, a, b, rfl, rfl, rfl, by decide, ha, hb, hb, rfl⟩
  case round =>
    obtain ⟨n, o', a', b', rfl, rfl, rfl, ho, ha', hb', hH⟩ := hrel
    have hoI : (o' : Int) ≤ 255 := by omega
    have haI : (a' : Int) ≤ 255 := by omega
    have hbI : (b' : Int) ≤ 255 := by omega
    obtain ⟨h1, h2⟩ := hH.out
    by_cases h0 : b' = 0
    · have h3 := Lib.hid (show o' = mul a b by rw [← h2, h0, mulGo_zero])
      have hz : (b' : Int) ≤ 0 := by omega
      clear h2 h0 h1
      go_wp2
      go_ret
      exact ⟨by rw [h3.out]; rfl, rfl⟩
    · obtain ⟨m, rfl⟩ : ∃ m, n = m + 1 := ⟨n - 1, by cases n with | zero => simp at h1; omega | succ n => rfl⟩
      have ht := times_step ho ha' hb'
      have hbp : (0 : Int) < b' := by omega
      have h2 := Lib.hid (show mulGo m (o' ^^^ (if b' % 2 = 1 then a' else 0)) (dbl a') (b' / 2) = mul a b from h2)
      have hlt := Lib.hid (show b' / 2 < 2 ^ m by rw [Nat.pow_succ] at h1; omega)
      have hx := xor_lt ho (show (if b' % 2 = 1 then a' else 0) < 256 by split <;> omega)
      generalize o' ^^^ (if b' % 2 = 1 then a' else 0) = o2 at *
      clear h1
      go_wp2_with fail
      refine (hd.out a' ha' _).mono ?_
      rintro e w' ⟨rfl, rfl⟩
      go_wp2
      go_round
      case rel => exact ⟨m, o2, dbl a', b' / 2, rfl, rfl, by simp, hx, dbl_lt a', by omega, hlt.out, h2.out⟩
      case measure => simp [intOf]; omega

set_option maxHeartbeats 400000 in
theorem inverse_any (a : Nat) (ha : a < 256) (w : World) : Calls Try.prog 59 #[.int .u8 (a : Int)] w fun e w' => e = .returned (.int .u8 (inv a : Nat)) ∧ w = w' := by
  have hd := Lib.hid (fun a b ha hb w => atimes_any a b ha hb w)
  go_enter Try.func59, Try.ntmps59
  go_wp2
  go_loop [3, 4, 6] (fun o x y => ∃ (n o' a' : Nat), o = .int .u8 (o' : Int) ∧ x = .int .u8 (a' : Int) ∧ y = .int .i64 (n : Int) ∧ n ≤ 7 ∧ o' < 256 ∧ a' < 256 ∧ Hid (invGo (7 - n) o' a' = inv a)) (fun _ _ y => (7 - intOf y).toNat)
  case atStart => exact ⟨0, 1, a, rfl, rfl, rfl, by decide, by decide, ha, rfl⟩
  case round =>
    obtain ⟨n, o', a', rfl, rfl, rfl, hn, ho, ha', hH⟩ := hrel
    by_cases h7 : n = 7
    · have h3 := Lib.hid (show o' = inv a by have h := hH.out; rw [h7] at h; exact h)
      have hz : (7 : Int) ≤ n := by omega
      clear h7
      go_wp2
      go_ret
      exact ⟨by rw [h3.out]; rfl, rfl⟩
    · have hlt : (n : Int) < 7 := by omega
      have h2 : Hid (invGo (7 - (n + 1)) (mul o' (mul a' a')) (mul a' a') = inv a) := by
        have h := hH.out
        rw [show 7 - n = (7 - (n + 1)) + 1 from by omega] at h
        exact h
      have hs := mul_lt a' ha'
      have hm := mul_lt (mul a' a') ho
      go_wp2_with fail
      refine (hd.out a' a' ha' ha' _).mono ?_
      rintro e w' ⟨rfl, rfl⟩
      go_wp2_with fail
      refine (hd.out o' (mul a' a') ho hs _).mono ?_
      rintro e w' ⟨rfl, rfl⟩
      go_wp2
      go_round
      case rel => exact ⟨n + 1, _, _, rfl, rfl, by go_num, by omega, hm, hs, h2.out⟩
      case measure => simp [intOf]; omega

theorem rot_bits {b n : Nat} (hb : b < 256) (hn : n < 8) : bits .or .u8 ((b : Int) * 2 ^ (n : Int).toNat % 256) ((b : Int) / 2 ^ (8 - (n : Int)).toNat) = ((rot b n : Nat) : Int) := by
  have e1 : (b : Int) * 2 ^ (n : Int).toNat % 256 = ((b * 2 ^ n % 256 : Nat) : Int) := by simp
  have e2 : (b : Int) / 2 ^ (8 - (n : Int)).toNat = ((b / 2 ^ (8 - n) : Nat) : Int) := by
    have : (8 - (n : Int)).toNat = 8 - n := by omega
    rw [this]; simp
  rw [e1, e2, u8_or_nat _ _ (Nat.mod_lt _ (by decide)) (Nat.lt_of_le_of_lt (Nat.div_le_self _ _) hb)]
  rfl
theorem rot_any (b n : Nat) (hb : b < 256) (hn : n < 8) (w : World) : Calls Try.prog 60 #[.int .u8 (b : Int), .int .u64 (n : Int)] w fun e w' => e = .returned (.int .u8 (rot b n : Nat)) ∧ w = w' := by
  have H := Lib.hid (rot_bits hb hn)
  have hx1 : (b : Int) ≤ 255 := by omega
  have hk2 : (n : Int) ≤ 7 := by omega
  go_enter Try.func60, Try.ntmps60
  go_wp2
  go_ret
  refine ⟨?_, rfl⟩
  rw [← H.out]
  simp
theorem rot_at (b n : Nat) (ni : Int) (e : ni = n) (hb : b < 256) (hn : n < 8) (w : World) : Calls Try.prog 60 #[.int .u8 (b : Int), .int .u64 ni] w fun e w' => e = .returned (.int .u8 (rot b n : Nat)) ∧ w = w' := by
  subst e; exact rot_any b n hb hn w

theorem x8 {a b : Nat} (ha : a < 256) (hb : b < 256) : bits .xor .u8 (a : Int) (b : Int) = ((a ^^^ b : Nat) : Int) ∧ a ^^^ b < 256 := ⟨u8_xor_nat a b ha hb, xor_lt ha hb⟩

theorem x8c {a b : Nat} {c : Int} (ha : a < 256) (hb : b < 256) (e : c = b) : bits .xor .u8 (a : Int) c = ((a ^^^ b : Nat) : Int) ∧ a ^^^ b < 256 := by subst e; exact x8 ha hb

set_option maxHeartbeats 400000 in
theorem box_any (b : Nat) (hb : b < 256) (w : World) : Calls Try.prog 41 #[.int .u8 (b : Int)] w fun e w' => e = .returned (.int .u8 (box b : Nat)) ∧ w = w' := by
  have hd := Lib.hid (inverse_any b hb w)
  have hx := inv_lt hb
  have h1 := Lib.hid (rot_at (inv b) 1 1 rfl hx (by decide) w)
  have h2 := Lib.hid (rot_at (inv b) 2 2 rfl hx (by decide) w)
  have h3 := Lib.hid (rot_at (inv b) 3 3 rfl hx (by decide) w)
  have h4 := Lib.hid (rot_at (inv b) 4 4 rfl hx (by decide) w)
  have e0 : Hid (boxed (inv b) = box b) := rfl
  generalize inv b = x at *
  have r1 := rot_lt 1 hx
  have r2 := rot_lt 2 hx
  have r3 := rot_lt 3 hx
  have r4 := rot_lt 4 hx
  have E : Hid (x ^^^ rot x 1 ^^^ rot x 2 ^^^ rot x 3 ^^^ rot x 4 ^^^ 99 = box b) := e0
  generalize rot x 1 = y1 at *
  generalize rot x 2 = y2 at *
  generalize rot x 3 = y3 at *
  generalize rot x 4 = y4 at *
  obtain ⟨q1, z1⟩ := x8 hx r1
  obtain ⟨q2, z2⟩ := x8 z1 r2
  obtain ⟨q3, z3⟩ := x8 z2 r3
  obtain ⟨q4, z4⟩ := x8 z3 r4
  obtain ⟨q5, z5⟩ := x8c z4 (show 99 < 256 by decide) (show (99 : Int) = _ from rfl)
  go_enter Try.func41, Try.ntmps41
  go_wp2_with fail
  refine hd.out.mono ?_
  rintro e w' ⟨rfl, rfl⟩
  go_wp2_with fail
  refine h1.out.mono ?_
  rintro e w' ⟨rfl, rfl⟩
  go_wp2_with fail
  refine h2.out.mono ?_
  rintro e w' ⟨rfl, rfl⟩
  go_wp2_with fail
  refine h3.out.mono ?_
  rintro e w' ⟨rfl, rfl⟩
  go_wp2_with fail
  refine h4.out.mono ?_
  rintro e w' ⟨rfl, rfl⟩
  go_wp2
  go_ret
  exact ⟨by rw [E.out]; rfl, rfl⟩

set_option maxHeartbeats 400000 in
theorem unbox_any (b : Nat) (hb : b < 256) (w : World) : Calls Try.prog 42 #[.int .u8 (b : Int)] w fun e w' => e = .returned (.int .u8 (unbox b : Nat)) ∧ w = w' := by
  obtain ⟨q0, hx⟩ := x8c hb (show 99 < 256 by decide) (show (99 : Int) = _ from rfl)
  have h1 := Lib.hid (rot_at (b ^^^ 99) 1 1 rfl hx (by decide) w)
  have h2 := Lib.hid (rot_at (b ^^^ 99) 3 3 rfl hx (by decide) w)
  have h3 := Lib.hid (rot_at (b ^^^ 99) 6 6 rfl hx (by decide) w)
  have e0 : Hid (inv (rot (b ^^^ 99) 1 ^^^ rot (b ^^^ 99) 3 ^^^ rot (b ^^^ 99) 6) = unbox b) := rfl
  generalize b ^^^ 99 = x at *
  have r1 := rot_lt 1 hx
  have r2 := rot_lt 3 hx
  have r3 := rot_lt 6 hx
  generalize rot x 1 = y1 at *
  generalize rot x 3 = y2 at *
  generalize rot x 6 = y3 at *
  obtain ⟨q1, z1⟩ := x8 r1 r2
  obtain ⟨q2, z2⟩ := x8 z1 r3
  have hd := Lib.hid (inverse_any _ z2 w)
  go_enter Try.func42, Try.ntmps42
  go_wp2_with fail
  refine h1.out.mono ?_
  rintro e w' ⟨rfl, rfl⟩
  go_wp2_with fail
  refine h2.out.mono ?_
  rintro e w' ⟨rfl, rfl⟩
  go_wp2_with fail
  refine h3.out.mono ?_
  rintro e w' ⟨rfl, rfl⟩
  go_wp2_with fail
  refine hd.out.mono ?_
  rintro e w' ⟨rfl, rfl⟩
  go_wp2
  go_ret
  exact ⟨by rw [e0.out]; rfl, rfl⟩
end Go.Proofs.Ytlifpmglaoppoaa

/- Contracts of package aes: the sum of blocks, columns mixed, tables. -/
namespace Go.Proofs.Ytlifpmglaoppoaa
open Go.RowKit
open Go.Proofs.PlainAes

theorem arrB : ArrTy Try.prog 72 16 := ⟨_, Try.underlying72, rfl, by kernel_rfl⟩
/-- What a function that makes memory of its own answers. -/
def RetA (l : List Nat) (w : World) (e : Ending) (w' : World) : Prop := e = .returned (.agg (bv l).toArray) ∧ Below w.heap.size w w'

set_option maxRecDepth 100000 in
set_option maxHeartbeats 1000000 in
theorem asum_any (a b : List Nat) (w : World) (ha : a.length = 16) (hb : b.length = 16) (ba : Byt a) (bb : Byt b) : Calls Try.prog 44 #[.agg (bv a).toArray, .agg (bv b).toArray] w (RetA (xorl a b) w) := by
  have hxl := xorl_length (a := a) (b := b) (by omega)
  have Hx := Lib.hid hxl
  have Ha := Lib.hid ha
  have Hb := Lib.hid hb
  have Ba := Lib.hid ba
  have Bb := Lib.hid bb
  clear hxl ha hb ba bb
  go_enter Try.func44, Try.ntmps44
  go_wp2
  go_loopw [6] (fun i wr => ∃ k : Nat, k ≤ 16 ∧ i = .int .i64 k ∧ Blk wr w.heap.size 72 (bv (upd (xorl a b) a k)) ∧ Blk wr (w.heap.size + 1) 72 (bv b) ∧ Blk wr (w.heap.size + 1 + 1) 72 (bv (zeros 16)) ∧ Below w.heap.size w wr) (fun i _ => 16 - (intOf i).toNat)
  case atStart =>
    refine ⟨0, Nat.zero_le _, rfl, ?_, ?_, ?_, ?_⟩
    · rw [upd_zero]
      exact ((Blk.new_at rfl rfl).alloc _).alloc _
    · exact (Blk.new_at (by simp) (by simp)).alloc _
    · exact Blk.new_at (by simp) rfl
    · exact (((Below.refl _ _).alloc (Nat.le_refl _) _).alloc (by simp) _).alloc (by simp; omega) _
  case round =>
    obtain ⟨k, hk, rfl, h1, h2, h3, hB⟩ := hrel
    by_cases hlt : (k : Int) < 16
    · obtain ⟨x, hx⟩ := get_lt (l := a) (k := k) (by have := Ha.out; omega)
      obtain ⟨y, hy⟩ := get_lt (l := b) (k := k) (by have := Hb.out; omega)
      have c1 := h1.cell k
      have f1 := h1.frozen k
      have c2 := h2.cell k
      rw [bv_some hy] at c2
      rw [bv_get, upd_get (by have := Ha.out; have := Hx.out; omega) (Nat.le_refl _) (by have := Ha.out; omega), hx] at c1
      simp only [Option.map_some] at c1
      obtain ⟨hxy, hl⟩ := x8 (Ba.out.get hx) (Bb.out.get hy)
      have hs := upd_set (k := k) (by have := Ha.out; have := Hx.out; omega) (by have := Ha.out; omega) (xorl_get hx hy)
      have HS := Lib.hid hs
      clear hs hx hy
      go_wp2
      go_still_tail 8, (by kernel_rfl)
      change wpList _ _ _ _ _ wr.drew
      go_wp2
      go_roundw
      case rel =>
        refine ⟨k + 1, by omega, by go_num, ?_, (h2.drew).far (by simp) _, (h3.drew).far (by simp; omega) _, hB.drew.setCell (by simp) _⟩
        rw [← HS.out, ← bv_set]
        exact h1.drew.set_ k _
      case measure => simp [intOf]; omega
    · obtain rfl : k = 16 := by omega
      rw [upd_all (by have := Ha.out; have := Hx.out; omega) Ha.out] at h1
      have hxl : (bv (xorl a b)).length = 16 := by have := Ha.out; have := Hx.out; simp; omega
      go_wp2_with (first | refine wpList_loadW rfl 72 (.tmp 2) rfl 16 arrB _ rfl 72 _ h1 hxl ?_ | refine wpList_storeW rfl 72 (.tmp 4) (.tmp 18) rfl 16 arrB _ rfl (bv (xorl a b)) rfl 72 _ h3 hxl (by simp) (ones_bv _) ?_)
      intro w' h4 hK
      go_wp2
      exact bodyPost_ret (v := .agg (bv (xorl a b)).toArray) (res_cell Try.results44 _ _ _ 72 _ arrB hxl rfl h4) rfl ⟨rfl, hB.trans (hK.below hB.size (by simp; omega))⟩

theorem mixAt_at (b : List Nat) {m k : Nat} (hm : m % 4 = 0) (hk : k < 4) : mixAt b (m + k) = gd b (m + k) ^^^ (all4 b m ^^^ dbl (gd b (m + k) ^^^ gd b (m + (k + 1) % 4))) := by
  unfold mixAt
  rw [show (m + k) / 4 * 4 = m from by omega, show (m + k) % 4 = k from by omega]

set_option maxRecDepth 100000 in
set_option maxHeartbeats 2000000 in
theorem amix_any (b : List Nat) (w : World) (hb : b.length = 16) (bb : Byt b) : Calls Try.prog 45 #[.agg (bv b).toArray] w (RetA (mix b) w) := by
  have Hb := Lib.hid hb
  have Bb := Lib.hid bb
  have hd := Lib.hid (fun a ha w => (double_any a ha w).mono (fun e w' h => And.intro h.1 h.2.symm))
  clear hb bb
  go_enter Try.func45, Try.ntmps45
  go_wp2
  go_loopw [3] (fun i wr => ∃ m : Nat, m ≤ 16 ∧ Hid (m % 4 = 0) ∧ i = .int .i64 (m : Int) ∧ Blk wr w.heap.size 72 (bv (upd (mix b) b m)) ∧ Blk wr (w.heap.size + 1) 72 (bv (zeros 16)) ∧ Below w.heap.size w wr) (fun i _ => 16 - (intOf i).toNat)
  case atStart =>
    refine ⟨0, Nat.zero_le _, rfl, rfl, ?_, ?_, ?_⟩
    · rw [upd_zero]
      exact (Blk.new_at rfl rfl).alloc _
    · exact Blk.new_at (by simp) rfl
    · exact ((Below.refl _ _).alloc (Nat.le_refl _) _).alloc (by simp) _
  case round =>
    obtain ⟨m, hm, hm4, rfl, h1, h2, hB⟩ := hrel
    have hr : Hid (∀ k j, k ≤ j → j < 16 → k ≤ 16 → (bv (upd (mix b) b k))[j]? = some (.int .u8 ((gd b j : Nat) : Int))) := fun k j hj h16 hk => by
      rw [bv_get, upd_get (by have := Hb.out; simp [mix]; omega) hj (by have := Hb.out; omega), gd_get (by have := Hb.out; omega)]
      rfl
    by_cases hlt : (m : Int) < 16
    · have hI : (m : Int) ≤ 12 := by have := hm4.out; omega
      have c0 := h1.cell m
      have c1 := h1.cell (m + 1)
      have c2 := h1.cell (m + 2)
      have c3 := h1.cell (m + 3)
      rw [hr.out _ _ (by omega) (by omega) (by omega)] at c0 c1 c2 c3
      obtain ⟨q1, z1⟩ := x8 (gd_lt Bb.out m) (gd_lt Bb.out (m + 1))
      obtain ⟨q2, z2⟩ := x8 z1 (gd_lt Bb.out (m + 2))
      obtain ⟨q3, z3⟩ := x8 z2 (gd_lt Bb.out (m + 3))
      obtain ⟨A, hA⟩ : ∃ A, A = gd b m ^^^ gd b (m + 1) ^^^ gd b (m + 2) ^^^ gd b (m + 3) := ⟨_, rfl⟩
      have HA : Hid (A = all4 b m) := hA
      rw [← hA] at q3 z3
      clear hA
      go_wp2
      go_quiet (fail)
      clear q1 q2 q3 z1 z2 c0 c1 c2 c3
      have c0 := h1.cell m
      rw [hr.out _ _ (by omega) (by omega) (by omega)] at c0
      go_wp2
      clear c0
      obtain ⟨wo, rfl⟩ : ∃ wo : World, wo = wr := ⟨_, rfl⟩
      go_loopw [33] (fun i wr => ∃ k : Nat, k ≤ 4 ∧ i = .int .i64 (k : Int) ∧ Blk wr w.heap.size 72 (bv (upd (mix b) b (m + k))) ∧ Blk wr (w.heap.size + 1) 72 (bv (zeros 16)) ∧ Below w.heap.size w wr) (fun i _ => 4 - (intOf i).toNat)
      case atStart => exact ⟨0, Nat.zero_le _, rfl, h1.drewN _, h2.drewN _, below_drewN hB _⟩
      case round =>
        clear h1 h2 hB
        obtain ⟨k, hk, rfl, h1, h2, hB⟩ := hrel
        by_cases hk4 : (k : Int) < 4
        · have hmx := mixAt_at b hm4.out (show k < 4 by omega)
          have hs := upd_set (new := mix b) (old := b) (k := m + k) (by have := Hb.out; simp [mix]; omega) (by have := Hb.out; omega) (mk_get (mixAt b) (show m + k < 16 by omega))
          have c0 := h1.cell (m + k)
          have f0 := h1.frozen (m + k)
          rw [hr.out _ _ (by omega) (by omega) (by omega)] at c0
          obtain ⟨Y, hY⟩ : ∃ Y, Y = gd b (m + (k + 1) % 4) := ⟨_, rfl⟩
          have hYl : Y < 256 := hY ▸ gd_lt Bb.out _
          have HY := Lib.hid hY
          rw [← hY, ← HA.out] at hmx
          have hX := gd_lt Bb.out (m + k)
          obtain ⟨X, eX⟩ : ∃ X, X = gd b (m + k) := ⟨_, rfl⟩
          have HX := Lib.hid eX
          rw [← eX] at hmx c0 hX
          clear hY eX
          obtain ⟨p1, y1⟩ := x8 hX hYl
          obtain ⟨p2, y2⟩ := x8 z3 (dbl_lt (X ^^^ Y))
          obtain ⟨p3, y3⟩ := x8 hX y2
          rw [← hmx] at p3
          have HS := Lib.hid hs
          clear hs hmx
          generalize hMX : mixAt b (m + k) = MX at *
          have hMX := Lib.hid hMX
          by_cases hk3 : (k : Int) + 1 < 4
          · have c1 := h1.cell (m + k + 1)
            rw [hr.out _ _ (by omega) (by omega) (by omega)] at c1
            rw [show gd b (m + k + 1) = Y from by rw [HY.out, show (k + 1) % 4 = k + 1 from by omega]; rfl] at c1
            go_wp2
            have hw1 : IntKind.i64.wrap ((m : Int) + (k : Int)) = (m : Int) + (k : Int) := IntWalk.i64_in _ (by omega)
            have hw2 : (0 : Int) ≤ (m : Int) + (k : Int) := by omega
            have hw3 : (m : Int) + (k : Int) < 16 := by omega
            have hw4 : ((m : Int) + (k : Int)).toNat = m + k := by omega
            go_still_tail 17, (by kernel_rfl)
            still_call (hd.out _ y1 _)
            repeat still_step
            refine wpStill_nil ?_
            change wpList _ _ _ _ _ wr.drew
            clear hw1 hw2 hw3 hw4
            go_wp2
            go_roundw
            case rel =>
              refine ⟨k + 1, by omega, by go_num, ?_, (h2.drew).far (by simp) _, hB.drew.setCell (by simp) _⟩
              rw [← Nat.add_assoc, ← HS.out, ← bv_set]
              exact h1.drew.set_ (m + k) _
            case measure => simp [intOf]; omega
          · have eY : Y = gd b m := by rw [HY.out, show (k + 1) % 4 = 0 from by omega]; rfl
            subst eY
            go_wp2
            have hw1 : IntKind.i64.wrap ((m : Int) + (k : Int)) = (m : Int) + (k : Int) := IntWalk.i64_in _ (by omega)
            have hw2 : (0 : Int) ≤ (m : Int) + (k : Int) := by omega
            have hw3 : (m : Int) + (k : Int) < 16 := by omega
            have hw4 : ((m : Int) + (k : Int)).toNat = m + k := by omega
            go_still_tail 17, (by kernel_rfl)
            still_call (hd.out _ y1 _)
            repeat still_step
            refine wpStill_nil ?_
            change wpList _ _ _ _ _ wr.drew
            clear hw1 hw2 hw3 hw4
            go_wp2
            go_roundw
            case rel =>
              refine ⟨k + 1, by omega, by go_num, ?_, (h2.drew).far (by simp) _, hB.drew.setCell (by simp) _⟩
              rw [← Nat.add_assoc, ← HS.out, ← bv_set]
              exact h1.drew.set_ (m + k) _
            case measure => simp [intOf]; omega
        · obtain rfl : k = 4 := by omega
          go_wp2
          go_roundw
          case rel => exact ⟨m + 4, by omega, by have := hm4.out; show _ = _; omega, by go_num, h1, h2, hB⟩
          case measure => simp [intOf]; omega
    · obtain rfl : m = 16 := by omega
      have hml : (mix b).length = 16 := by simp [mix]
      have hxl : (bv (mix b)).length = 16 := by simp [mix]
      rw [upd_all hml Hb.out] at h1
      go_wp2_with (first | refine wpList_loadW rfl 72 (.tmp 1) rfl 16 arrB _ rfl 72 _ h1 hxl ?_ | refine wpList_storeW rfl 72 (.tmp 2) (.tmp 64) rfl 16 arrB _ rfl (bv (mix b)) rfl 72 _ h2 hxl (by simp) (ones_bv _) ?_)
      intro w' h4 hK
      go_wp2
      exact bodyPost_ret (v := .agg (bv (mix b)).toArray) (res_cell Try.results45 _ _ _ 72 _ arrB hxl rfl h4) rfl ⟨rfl, hB.trans (hK.below hB.size (by simp))⟩
end Go.Proofs.Ytlifpmglaoppoaa

/- Contracts of package aes: the tables. -/
namespace Go.Proofs.Ytlifpmglaoppoaa
open Go.RowKit
open Go.Proofs.PlainAes
theorem arrT : ArrTy Try.prog 38 256 := ⟨_, Try.underlying38, rfl, by kernel_rfl⟩

set_option maxRecDepth 100000 in
set_option maxHeartbeats 1000000 in
theorem table_box (w : World) : Calls Try.prog 40 #[.func (.func 41) #[] #[]] w (RetA (tbl box) w) := by
  have hd := Lib.hid (fun a ha w => box_any a ha w)
  go_enter Try.func40, Try.ntmps40
  go_wp2_with (refine wpList_allocA rfl 38 rfl (bv (zeros 256)) (by kernel_rfl) ?_)
  intro w1 h1 hK1 hz1
  have hB1 := hK1.below (Nat.le_refl _) (by simp)
  clear hK1
  go_wp2
  go_loopw [4] (fun i wr => ∃ k : Nat, k ≤ 256 ∧ i = .int .i64 (k : Int) ∧ Blk wr w.heap.size 38 (bv (upd (tbl box) (zeros 256) k)) ∧ Below w.heap.size w wr) (fun i _ => 256 - (intOf i).toNat)
  case atStart => exact ⟨0, Nat.zero_le _, rfl, by rw [upd_zero]; exact h1, hB1⟩
  case round =>
    clear h1 hB1 hz1
    obtain ⟨k, hk, rfl, h1, hB⟩ := hrel
    by_cases hlt : (k : Int) < 256
    · have hkI : (k : Int) ≤ 255 := by omega
      have hs := upd_set (new := tbl box) (old := zeros 256) (k := k) (by simp [tbl]) (by simp; omega) (mk_get box (show k < 256 by omega))
      have HS := Lib.hid hs
      have f0 := h1.frozen k
      have c0 := h1.cell k
      rw [bv_get, upd_get (by simp [tbl]) (Nat.le_refl _) (by simp; omega)] at c0
      rw [show (zeros 256)[k]? = some 0 from zeros_get (by omega)] at c0
      simp only [Option.map_some] at c0
      clear hs
      generalize hY : box k = Y at *
      have hY := Lib.hid hY
      go_wp2_with fail
      refine (hd.out k (by omega) _).mono ?_
      rintro e w' ⟨rfl, rfl⟩
      rw [hY.out]
      go_wp2
      go_roundw
      case rel =>
        refine ⟨k + 1, by omega, by go_num, ?_, hB.setCell (by simp) _⟩
        rw [← HS.out, ← bv_set]
        exact h1.set_ k _
      case measure => simp [intOf]; omega
    · obtain rfl : k = 256 := by omega
      have hxl : (bv (tbl box)).length = 256 := by simp [tbl]
      rw [upd_all (by simp [tbl]) (by simp)] at h1
      go_wp2_with (first | refine wpList_loadW rfl 38 (.tmp 2) rfl 256 arrT _ rfl 38 _ h1 hxl ?_ | refine wpList_storeW rfl 38 (.tmp 2) (.tmp 14) rfl 256 arrT _ rfl (bv (tbl box)) rfl 38 _ h1 hxl hxl (ones_bv _) ?_)
      intro w' h4 hK
      go_wp2
      exact bodyPost_ret (v := .agg (bv (tbl box)).toArray) (res_cell Try.results40 _ _ _ 38 _ arrT hxl rfl h4) rfl ⟨rfl, hB.trans (hK.below hB.size (by simp))⟩

set_option maxRecDepth 100000 in
set_option maxHeartbeats 1000000 in
theorem table_unbox (w : World) : Calls Try.prog 40 #[.func (.func 42) #[] #[]] w (RetA (tbl unbox) w) := by
  have hd := Lib.hid (fun a ha w => unbox_any a ha w)
  go_enter Try.func40, Try.ntmps40
  go_wp2_with (refine wpList_allocA rfl 38 rfl (bv (zeros 256)) (by kernel_rfl) ?_)
  intro w1 h1 hK1 hz1
  have hB1 := hK1.below (Nat.le_refl _) (by simp)
  clear hK1
  go_wp2
  go_loopw [4] (fun i wr => ∃ k : Nat, k ≤ 256 ∧ i = .int .i64 (k : Int) ∧ Blk wr w.heap.size 38 (bv (upd (tbl unbox) (zeros 256) k)) ∧ Below w.heap.size w wr) (fun i _ => 256 - (intOf i).toNat)
  case atStart => exact ⟨0, Nat.zero_le _, rfl, by rw [upd_zero]; exact h1, hB1⟩
  case round =>
    clear h1 hB1 hz1
    obtain ⟨k, hk, rfl, h1, hB⟩ := hrel
    by_cases hlt : (k : Int) < 256
    · have hkI : (k : Int) ≤ 255 := by omega
      have hs := upd_set (new := tbl unbox) (old := zeros 256) (k := k) (by simp [tbl]) (by simp; omega) (mk_get unbox (show k < 256 by omega))
      have HS := Lib.hid hs
      have f0 := h1.frozen k
      have c0 := h1.cell k
      rw [bv_get, upd_get (by simp [tbl]) (Nat.le_refl _) (by simp; omega)] at c0
      rw [show (zeros 256)[k]? = some 0 from zeros_get (by omega)] at c0
      simp only [Option.map_some] at c0
      clear hs
      generalize hY : unbox k = Y at *
      have hY := Lib.hid hY
      go_wp2_with fail
      refine (hd.out k (by omega) _).mono ?_
      rintro e w' ⟨rfl, rfl⟩
      rw [hY.out]
      go_wp2
      go_roundw
      case rel =>
        refine ⟨k + 1, by omega, by go_num, ?_, hB.setCell (by simp) _⟩
        rw [← HS.out, ← bv_set]
        exact h1.set_ k _
      case measure => simp [intOf]; omega
    · obtain rfl : k = 256 := by omega
      have hxl : (bv (tbl unbox)).length = 256 := by simp [tbl]
      rw [upd_all (by simp [tbl]) (by simp)] at h1
      go_wp2_with (first | refine wpList_loadW rfl 38 (.tmp 2) rfl 256 arrT _ rfl 38 _ h1 hxl ?_ | refine wpList_storeW rfl 38 (.tmp 2) (.tmp 14) rfl 256 arrT _ rfl (bv (tbl unbox)) rfl 38 _ h1 hxl hxl (ones_bv _) ?_)
      intro w' h4 hK
      go_wp2
      exact bodyPost_ret (v := .agg (bv (tbl unbox)).toArray) (res_cell Try.results40 _ _ _ 38 _ arrT hxl rfl h4) rfl ⟨rfl, hB.trans (hK.below hB.size (by simp))⟩
end Go.Proofs.Ytlifpmglaoppoaa

/- Contract of package aes: round keys. -/
namespace Go.Proofs.Ytlifpmglaoppoaa
open Go.RowKit
open Go.Proofs.PlainAes

theorem arrK : ArrTy Try.prog 25 32 := ⟨_, Try.underlying25, rfl, by kernel_rfl⟩
theorem arrR : ArrTy Try.prog 90 240 := ⟨_, Try.underlying90, rfl, by kernel_rfl⟩
theorem arrW : ArrTy Try.prog 120 240 := ⟨_, Try.underlying120, rfl, by kernel_rfl⟩
theorem arr4 : ArrTy Try.prog 119 4 := ⟨_, Try.underlying119, rfl, by kernel_rfl⟩

/-- K are the round keys of k. -/
structure KeyRow (k K : List Nat) : Prop where
  len : K.length = 240
  byt : Byt K
  lo : ∀ n, n < 8 → seg K (4 * n) 4 = seg k (4 * n) 4
  hi : ∀ n, 8 ≤ n → n < 60 → ∀ j, j < 4 → gd K (4 * n + j) = gd K (4 * (n - 8) + j) ^^^ gd (kmid box n (seg K (4 * n - 4) 4)) j
theorem keyRow {k : List Nat} (hk : k.length = 32) (bk : Byt k) : KeyRow k (keys box k) :=
  ⟨keys_length _ hk, keys_lt (fun x h => box_lt h) bk, fun n hn => keys_low _ hk hn, fun n h8 hn j hj => keys_high _ hk h8 hn hj⟩

theorem Blk.byte {w : World} {g t : Nat} {l : List Nat} (h : Blk w g t (bv l)) {i : Nat} (hi : i < l.length) : w.cell? ⟨g, i, none⟩ = some (.int .u8 ((gd l i : Nat) : Int)) := by
  rw [h.cell, bv_some (gd_get hi)]
/-- What lies there while words are made. -/
structure Ex (w : World) (k K : List Nat) (m : Nat) (wr : World) : Prop where
  k : Blk wr w.heap.size 25 (bv k)
  o : Blk wr (w.heap.size + 1) 90 (bv (zeros 240))
  ws : Blk wr (w.heap.size + 1 + 1) 120 (bv (upd K (zeros 240) m))
  below : Below w.heap.size w wr
theorem Ex.keeps {w : World} {k K : List Nat} {m : Nat} {wr wr' : World} {g : Nat} (h : Ex w k K m wr) (hk : Keeps [g] wr wr') (hg : w.heap.size + 1 + 1 < g) : Ex w k K m wr' :=
  ⟨h.k.keeps hk (by simp; omega), h.o.keeps hk (by simp; omega), h.ws.keeps hk (by simp; omega), h.below.trans (hk.below h.below.size (by simp; omega))⟩
theorem Ex.keeps0 {w : World} {k K : List Nat} {m : Nat} {wr wr' : World} (h : Ex w k K m wr) (hk : Keeps [] wr wr') : Ex w k K m wr' :=
  ⟨h.k.keeps hk (by simp), h.o.keeps hk (by simp), h.ws.keeps hk (by simp), h.below.trans (hk.below h.below.size (by simp))⟩
theorem Ex.drew {w : World} {k K : List Nat} {m : Nat} {wr : World} (h : Ex w k K m wr) : Ex w k K m wr.drew := ⟨h.k, h.o, h.ws, h.below.drew⟩
theorem Ex.put {w : World} {k K : List Nat} {m n : Nat} {wr wr' : World} (h : Ex w k K m wr) (hk : Keeps [w.heap.size + 1 + 1] wr wr') (hw : Blk wr' (w.heap.size + 1 + 1) 120 (bv (upd K (zeros 240) n))) : Ex w k K n wr' :=
  ⟨h.k.keeps hk (by simp; omega), h.o.keeps hk (by simp), hw, h.below.trans (hk.below h.below.size (by simp; omega))⟩
theorem Ex.set {w : World} {k K : List Nat} {m : Nat} {wr : World} (h : Ex w k K m wr) (hK : K.length = 240) (hm : m < 240) : Ex w k K (m + 1) (wr.setCell ⟨w.heap.size + 1 + 1, m, none⟩ (.int .u8 ((gd K m : Nat) : Int))) := by
  refine h.put ((Keeps.refl _ _).setCell (by simp) _) ?_
  rw [← upd_set (by simp [hK]) (by simpa using hm) (gd_get (by omega)), ← bv_set]
  exact h.ws.set_ m _

set_option maxRecDepth 100000 in
set_option maxHeartbeats 4000000 in
theorem expand_any (k : List Nat) (gt : Nat) (w : World) (hk : k.length = 32) (bk : Byt k) (hT : Blk w gt 38 (bv (tbl box))) :
    Calls Try.prog 43 #[.agg (bv k).toArray, .pointer (some ⟨gt, 0, none⟩)] w (RetA (keys box k) w) := by
  have HK := Lib.hid (keyRow hk bk)
  have Hk := Lib.hid hk
  have Bk := Lib.hid bk
  have HT := Lib.hid hT
  have hgt := Lib.hid (HT.out.lt)
  clear hk bk hT
  generalize keys box k = K at *
  go_enter Try.func43, Try.ntmps43
  go_wp2_with (first | refine wpList_allocA rfl 90 rfl (bv (zeros 240)) (by kernel_rfl) ?_)
  intro w1 h1 hK1 hz1
  go_wp2_with (first | refine wpList_allocA rfl 120 rfl (bv (zeros 240)) (by kernel_rfl) ?_)
  intro w2 h2 hK2 hz2
  have hE : Ex w k K 0 w2 := by
    refine ⟨?_, h1.keeps hK2 (by simp), by simpa [upd_zero] using h2, ?_⟩
    · have := (Blk.new_at (w := w) (t := 25) (cs := (bv k).toArray) rfl rfl)
      exact (this.keeps hK1 (by simp)).keeps hK2 (by simp)
    · exact (((Below.refl _ _).alloc (Nat.le_refl _) _).trans (hK1.below (by simp) (by simp))).trans (hK2.below (by omega) (by simp))
  clear hK1 hK2 h1 h2
  go_wp2
  go_loopw [12] (fun i wr => ∃ n : Nat, n ≤ 60 ∧ i = .int .i64 (n : Int) ∧ Ex w k K (4 * n) wr) (fun i _ => 60 - (intOf i).toNat)
  case atStart => exact ⟨0, Nat.zero_le _, rfl, hE⟩
  case round =>
    clear hE hz1 hz2
    obtain ⟨n, hn, rfl, hE⟩ := hrel
    by_cases hlt : (n : Int) < 60
    · have E1 : Hid ((4 : Int) * (n : Int) = ((4 * n : Nat) : Int)) := by show _ = _; omega
      by_cases h8 : (n : Int) < 8
      · have hlo := Lib.hid (HK.out.lo n (by omega))
        have EL : Hid (((bv k).drop (4 * n)).take 4 = bv (seg K (4 * n) 4)) := by show _ = _; rw [hlo.out, bv_seg]; rfl
        have sl := seg_length (l := K) (o := 4 * n) (n := 4) (by have := HK.out.len; omega)
        have h0 := hE.k
        have h2 := hE.ws
        have SL := Lib.hid sl
        clear sl
        go_wp2_with (first
          | refine wpList_sliceA rfl 25 (.tmp 2) (.tmp 19) (.tmp 22) rfl 32 5 1 Try.underlying25 (by kernel_rfl) w.heap.size 0 rfl _ _ rfl rfl (4 * n) (4 * n + 4) E1.out (by have := E1.out; omega) (by omega) (by omega) (by omega) ?_
          | refine wpList_arrayAt rfl 119 (.tmp 23) rfl 4 5 Try.underlying119 _ _ _ rfl (by omega) ?_
          | refine wpList_loadA rfl 119 (.tmp 24) rfl 4 arr4 _ _ rfl 25 (bv k) h0 (by have := Hk.out; simp; omega) (bv (seg K (4 * n) 4)) (by simpa using EL.out) ?_
          | refine wpList_storeA rfl 119 (.tmp 26) (.tmp 25) rfl 4 arr4 _ _ rfl (bv (seg K (4 * n) 4)) rfl 120 _ h2 ?_ ?_ (ones_bv _) ?_)
        · simp [SL.out]
        · rw [bv_length, upd_length (by simp [HK.out.len]) (by simp; omega)]; simp; omega
        intro w3 h2' hK3
        have hE' : Ex w k K (4 * (n + 1)) w3 := by
          refine hE.put hK3 ?_
          rw [putL_bv, SL.out, show n * 4 = 4 * n from by omega] at h2'
          have := upd_put (new := K) (old := zeros 240) (k := 4 * n) (n := 4) (by simp [HK.out.len]) (by simp; omega)
          rw [show 4 * (n + 1) = 4 * n + 4 from by omega, ← this]
          exact h2'
        clear h0 h2 h2' hE hK3
        go_wp2
        go_roundw
        case rel => exact ⟨n + 1, by omega, by go_num, hE'⟩
        case measure => simp [intOf]; omega
      · have hhi := Lib.hid (HK.out.hi n (by omega) (by omega))
        have sl := seg_length (l := K) (o := 4 * n - 4) (n := 4) (by have := HK.out.len; omega)
        have sb := seg_lt HK.out.byt (4 * n - 4) 4
        have EL : Hid (((bv (upd K (zeros 240) (4 * n))).drop (4 * n - 4)).take 4 = bv (seg K (4 * n - 4) 4)) := by
          show _ = _
          rw [bv_seg]
          congr 1
          unfold upd
          rw [List.drop_append_of_le_length (by have := HK.out.len; simp; omega), List.take_append_of_le_length (by have := HK.out.len; simp; omega), List.drop_take, List.take_take]
          unfold seg
          congr 1
          omega
        generalize seg K (4 * n - 4) 4 = x at *
        have SL := Lib.hid sl
        have SB := Lib.hid sb
        have h2 := hE.ws
        have hul : Hid ((bv (upd K (zeros 240) (4 * n))).length = 240) := by show _ = _; rw [bv_length, upd_length (by simp [HK.out.len]) (by simp; omega)]; simp
        clear sl sb
        have h1n : (1 : Int) ≤ n := by omega
        rcases (by omega : n % 8 = 0 ∨ n % 8 = 4 ∨ n % 4 ≠ 0) with hc | hc | hc
        · have t8 : (((n : Nat) : Int) % 8 == 0) = true := by simp; omega
          have t4 : (((n : Nat) : Int) % 4 == 0) = true := by simp; omega
          have HC := Lib.hid hc
          clear hc
          go_wp2_with (first
            | refine wpList_loadA rfl 119 (.tmp 29) rfl 4 arr4 _ _ rfl 120 _ h2 (by rw [hul.out]; simp; omega) (bv x) (by rw [← EL.out, Nat.sub_mul, Nat.mul_comm n 4]) ?_
            | refine wpList_allocA rfl 119 rfl (bv (zeros 4)) (by kernel_rfl) ?_)
          intro w3 h3 hK3 hz3
          have hE3 := hE.keeps0 hK3
          have hgx := Lib.hid (show w.heap.size + 1 + 1 < wr.heap.size from hE.ws.lt)
          clear hK3 hE h2 hul
          generalize wr.heap.size = gx at *
          have hgt2 : Hid (gx ≠ gt) := by
            have h1 := hgx.out
            have h2 := hgt.out
            show gx ≠ gt
            omega
          go_wp2_with (first | refine wpList_storeW rfl 119 (.tmp 7) (.tmp 30) rfl 4 arr4 gx rfl (bv x) rfl 119 _ h3 ?_ ?_ (ones_bv _) ?_)
          · simp [SL.out]
          · simp
          intro w4 h4 hK4
          have hE4 := hE3.keeps hK4 hgx.out
          clear hE3 h3 hK4
          have c0 := h4.byte (i := 0) (by rw [SL.out]; decide)
          have c1 := h4.byte (i := 1) (by rw [SL.out]; decide)
          have c2 := h4.byte (i := 2) (by rw [SL.out]; decide)
          have c3 := h4.byte (i := 3) (by rw [SL.out]; decide)
          go_wp2_with (first | refine wpList_storeW rfl 119 (.tmp 7) (.tmp 42) rfl 4 arr4 gx rfl (bv [gd x 1, gd x 2, gd x 3, gd x 0]) rfl 119 _ h4 ?_ ?_ (ones_bv _) ?_)
          · simp
          · simp [SL.out]
          intro w5 h5 hK5
          have hE5 := hE4.keeps hK5 hgx.out
          rw [show [gd x 1, gd x 2, gd x 3, gd x 0] = kturn n x by rw [kturn, if_pos HC.out]] at h5
          clear hE4 h4 hK5 c0 c1 c2 c3
          have hyl := Lib.hid (kturn_length (n := n) SL.out)
          have hyb := Lib.hid (kturn_lt (n := n) SB.out)
          generalize hy : kturn n x = y at *
          have hy := Lib.hid hy
          go_wp2
          go_loopw [46] (fun i wr => ∃ j : Nat, j ≤ 4 ∧ i = .int .i64 (j : Int) ∧ Blk wr gx 119 (bv (upd (mk 4 (fun j => box (gd y j))) y j)) ∧ Ex w k K (4 * n) wr) (fun i _ => 4 - (intOf i).toNat)
          case atStart => exact ⟨0, Nat.zero_le _, rfl, by rw [upd_zero]; exact h5, hE5⟩
          case round =>
            clear h5 hE5
            obtain ⟨j, hj, rfl, h5, hE5⟩ := hrel
            by_cases hj4 : (j : Int) < 4
            · have c0 := h5.cell j
              have f0 := h5.frozen j
              rw [bv_get, upd_get (by simp [hyl.out]) (Nat.le_refl _) (by have := hyl.out; omega), gd_get (by have := hyl.out; omega)] at c0
              simp only [Option.map_some] at c0
              have hs := Lib.hid (upd_set (new := mk 4 (fun j => box (gd y j))) (old := y) (k := j) (by simp [hyl.out]) (by have := hyl.out; omega) (mk_get _ (by omega)))
              have hX := gd_lt hyb.out j
              have c1 := (HT.out.keep hE5.below).byte (i := gd y j) (by simp [tbl, hX])
              rw [tbl, gd_mk _ hX] at c1
              generalize gd y j = X at *
              generalize box X = Y at *
              have hXI : (X : Int) < 256 := by omega
              go_wp2
              go_still_tail 9, (by kernel_rfl)
              change wpList _ _ _ _ _ wr.drew
              go_wp2
              go_roundw
              case rel =>
                refine ⟨j + 1, by omega, by go_num, ?_, hE5.drew.keeps ((Keeps.refl [gx] _).setCell (by simp) _) hgx.out⟩
                rw [← hs.out, ← bv_set]
                exact h5.drew.set_ j _
              case measure => simp [intOf]; omega
            · obtain rfl : j = 4 := by omega
              rw [upd_all (by simp) hyl.out, show mk 4 (fun j => box (gd y j)) = ksub box n y by rw [ksub, if_pos (by have := HC.out; omega)]] at h5
              have hzl := Lib.hid (ksub_length (t := box) (n := n) hyl.out)
              have hzb := Lib.hid (ksub_lt (t := box) (fun x h => box_lt h) (n := n) hyb.out)
              generalize hz : ksub box n y = z at *
              have hz := Lib.hid hz
              have c0 := h5.byte (i := 0) (by rw [hzl.out]; decide)
              have f0 := h5.frozen 0
              obtain ⟨q, hq⟩ : ∃ q, q = n / 8 := ⟨_, rfl⟩
              have hq1 : (1 : Int) ≤ q := by omega
              have hq7 : (q : Int) ≤ 7 := by omega
              have a1 : IntKind.i64.wrap ((n : Int) / 8) = (q : Int) := by rw [IntWalk.i64_in _ (by omega)]; omega
              have a2 : IntKind.i64.wrap ((q : Int) - 1) = (q : Int) - 1 := IntWalk.i64_in _ (by omega)
              have a3 : (0 : Int) ≤ (q : Int) - 1 := by omega
              have a4 : ((q : Int) - 1).toNat = q - 1 := by omega
              have a5 : min (q - 1) 8 = q - 1 := by omega
              have HQ := Lib.hid hq
              clear hq
              have a6 : bits .xor .u8 ((gd z 0 : Nat) : Int) (IntKind.u8.wrap (2 ^ (q - 1))) = ((gd z 0 ^^^ (2 ^ (q - 1) % 256) : Nat) : Int) := by
                have e : IntKind.u8.wrap (2 ^ (q - 1)) = ((2 ^ (q - 1) % 256 : Nat) : Int) := by rw [IntKind.wrap_u8]; simp
                rw [e, u8_xor_nat _ _ (gd_lt hzb.out 0) (Nat.mod_lt _ (by decide))]
              have h6 := h5.drew.set_ 0 (.int .u8 ((gd z 0 ^^^ (2 ^ (q - 1) % 256) : Nat) : Int))
              rw [bv_set] at h6
              have hE6 := hE5.drew.keeps ((Keeps.refl [gx] _).setCell (p := ⟨gx, 0, none⟩) (by simp) (.int .u8 ((gd z 0 ^^^ (2 ^ (q - 1) % 256) : Nat) : Int))) hgx.out
              have hu : z.set 0 (gd z 0 ^^^ (2 ^ (q - 1) % 256)) = kmid box n x := by
                unfold kmid
                rw [hy.out, hz.out, krc, if_pos HC.out, HQ.out]
              rw [hu] at h6
              generalize gd z 0 ^^^ (2 ^ (q - 1) % 256) = Z0 at *
              have h6 := Lib.hid h6
              have hE6 := Lib.hid hE6
              clear hu hE5 h5
              go_wp2
              go_still_tail 8, (by kernel_rfl)
              change wpList _ _ _ _ _ wr.drew
              clear a1 a2 a3 a4 a5 a6 hq1 hq7
              go_wp2
              have h6 := h6.out
              have hE6 := hE6.out
              obtain ⟨u, HU⟩ : ∃ u, Hid (u = kmid box n x) := ⟨_, rfl⟩
              rw [← HU.out] at h6
              have ul := Lib.hid (show u.length = 4 by rw [HU.out]; exact krc_length (ksub_length (kturn_length SL.out)))
              have ub := Lib.hid (show Byt u by rw [HU.out]; exact krc_lt (ksub_lt (fun x h => box_lt h) (kturn_lt SB.out)))
              go_loopw [70] (fun i wr => ∃ j : Nat, j ≤ 4 ∧ i = .int .i64 (j : Int) ∧ Blk wr gx 119 (bv u) ∧ Ex w k K (4 * n + j) wr) (fun i _ => 4 - (intOf i).toNat)
              case atStart => exact ⟨0, Nat.zero_le _, rfl, h6, hE6⟩
              case round =>
                clear h6 hE6
                obtain ⟨j, hj, rfl, h6, hE6⟩ := hrel
                by_cases hj4 : (j : Int) < 4
                · have hKl := HK.out.len
                  have c0 := hE6.ws.cell ((n - 8) * 4 + j)
                  rw [bv_get, upd_get_new (by simp [hKl]) (by omega) (by simp; omega), gd_get (by omega)] at c0
                  simp only [Option.map_some] at c0
                  have c1 := h6.byte (i := j) (by have := ul.out; omega)
                  have c2 := hE6.ws.cell (n * 4 + j)
                  rw [bv_get, upd_get (by simp [hKl]) (by omega) (by simp; omega), zeros_get (by omega)] at c2
                  simp only [Option.map_some] at c2
                  have f2 := hE6.ws.frozen (n * 4 + j)
                  have hk := hhi.out j (by omega)
                  rw [← HU.out, show 4 * (n - 8) + j = (n - 8) * 4 + j from by omega] at hk
                  obtain ⟨q1, q2⟩ := x8 (gd_lt HK.out.byt ((n - 8) * 4 + j)) (gd_lt ub.out j)
                  rw [← hk] at q1
                  have hE7 := Ex.set hE6.drew hKl (m := 4 * n + j) (by omega)
                  rw [show 4 * n + j = n * 4 + j from by omega] at hE7
                  rw [show 4 * n + j = n * 4 + j from by omega] at q1
                  generalize gd K (n * 4 + j) = Y at *
                  generalize gd K ((n - 8) * 4 + j) = X at *
                  generalize gd u j = V at *
                  have hE7 := Lib.hid hE7
                  clear hk q2 hKl
                  have b1 : IntKind.i64.wrap ((n : Int) - 8) = (n : Int) - 8 := IntWalk.i64_in _ (by omega)
                  have b2 : (0 : Int) ≤ (n : Int) - 8 := by omega
                  have b3 : (n : Int) - 8 < 60 := by omega
                  have b4 : ((n : Int) - 8).toNat = n - 8 := by omega
                  go_wp2
                  go_still_tail 14, (by kernel_rfl)
                  change wpList _ _ _ _ _ wr.drew
                  clear b1 b2 b3 b4
                  go_wp2
                  go_roundw
                  case rel => exact ⟨j + 1, by omega, by go_num, (h6.drew).far (by simp; have := hgx.out; omega) _, by rw [show 4 * n + (j + 1) = n * 4 + j + 1 from by omega]; exact hE7.out⟩
                  case measure => simp [intOf]; omega
                · obtain rfl : j = 4 := by omega
                  go_wp2
                  go_roundw
                  case rel => exact ⟨n + 1, by omega, by go_num, hE6⟩
                  case measure => simp [intOf]; omega
        · have t8 : (((n : Nat) : Int) % 8 == 0) = false := by simp; omega
          have t4 : (((n : Nat) : Int) % 4 == 0) = true := by simp; omega
          have HC := Lib.hid hc
          clear hc
          go_wp2_with (first
            | refine wpList_loadA rfl 119 (.tmp 29) rfl 4 arr4 _ _ rfl 120 _ h2 (by rw [hul.out]; simp; omega) (bv x) (by rw [← EL.out, Nat.sub_mul, Nat.mul_comm n 4]) ?_
            | refine wpList_allocA rfl 119 rfl (bv (zeros 4)) (by kernel_rfl) ?_)
          intro w3 h3 hK3 hz3
          have hE3 := hE.keeps0 hK3
          have hgx := Lib.hid (show w.heap.size + 1 + 1 < wr.heap.size from hE.ws.lt)
          clear hK3 hE h2 hul
          generalize wr.heap.size = gx at *
          have hgt2 : Hid (gx ≠ gt) := by
            have h1 := hgx.out
            have h2 := hgt.out
            show gx ≠ gt
            omega
          go_wp2_with (first | refine wpList_storeW rfl 119 (.tmp 7) (.tmp 30) rfl 4 arr4 gx rfl (bv x) rfl 119 _ h3 ?_ ?_ (ones_bv _) ?_)
          · simp [SL.out]
          · simp
          intro w4 h4 hK4
          have hE4 := hE3.keeps hK4 hgx.out
          clear hE3 h3 hK4
          have h5 : Blk w4 gx 119 (bv (kturn n x)) := by rw [kturn, if_neg (by have := HC.out; omega)]; exact h4
          have hE5 := hE4
          clear hE4 h4
          have hyl := Lib.hid (kturn_length (n := n) SL.out)
          have hyb := Lib.hid (kturn_lt (n := n) SB.out)
          generalize hy : kturn n x = y at *
          have hy := Lib.hid hy
          go_wp2
          go_loopw [46] (fun i wr => ∃ j : Nat, j ≤ 4 ∧ i = .int .i64 (j : Int) ∧ Blk wr gx 119 (bv (upd (mk 4 (fun j => box (gd y j))) y j)) ∧ Ex w k K (4 * n) wr) (fun i _ => 4 - (intOf i).toNat)
          case atStart => exact ⟨0, Nat.zero_le _, rfl, by rw [upd_zero]; exact h5, hE5⟩
          case round =>
            clear h5 hE5
            obtain ⟨j, hj, rfl, h5, hE5⟩ := hrel
            by_cases hj4 : (j : Int) < 4
            · have c0 := h5.cell j
              have f0 := h5.frozen j
              rw [bv_get, upd_get (by simp [hyl.out]) (Nat.le_refl _) (by have := hyl.out; omega), gd_get (by have := hyl.out; omega)] at c0
              simp only [Option.map_some] at c0
              have hs := Lib.hid (upd_set (new := mk 4 (fun j => box (gd y j))) (old := y) (k := j) (by simp [hyl.out]) (by have := hyl.out; omega) (mk_get _ (by omega)))
              have hX := gd_lt hyb.out j
              have c1 := (HT.out.keep hE5.below).byte (i := gd y j) (by simp [tbl, hX])
              rw [tbl, gd_mk _ hX] at c1
              generalize gd y j = X at *
              generalize box X = Y at *
              have hXI : (X : Int) < 256 := by omega
              go_wp2
              go_still_tail 9, (by kernel_rfl)
              change wpList _ _ _ _ _ wr.drew
              go_wp2
              go_roundw
              case rel =>
                refine ⟨j + 1, by omega, by go_num, ?_, hE5.drew.keeps ((Keeps.refl [gx] _).setCell (by simp) _) hgx.out⟩
                rw [← hs.out, ← bv_set]
                exact h5.drew.set_ j _
              case measure => simp [intOf]; omega
            · obtain rfl : j = 4 := by omega
              rw [upd_all (by simp) hyl.out, show mk 4 (fun j => box (gd y j)) = ksub box n y by rw [ksub, if_pos (by have := HC.out; omega)]] at h5
              have hzl := Lib.hid (ksub_length (t := box) (n := n) hyl.out)
              have hzb := Lib.hid (ksub_lt (t := box) (fun x h => box_lt h) (n := n) hyb.out)
              generalize hz : ksub box n y = z at *
              have hz := Lib.hid hz
              have hu : z = kmid box n x := by
                unfold kmid
                rw [hy.out, hz.out, krc, if_neg (by have := HC.out; omega)]
              have h6 := h5
              have hE6 := hE5
              clear h5 hE5
              go_wp2
              obtain ⟨u, HU⟩ : ∃ u, Hid (u = kmid box n x) := ⟨_, rfl⟩
              rw [show z = u from by rw [HU.out]; exact hu] at h6
              have ul := Lib.hid (show u.length = 4 by rw [HU.out]; exact krc_length (ksub_length (kturn_length SL.out)))
              have ub := Lib.hid (show Byt u by rw [HU.out]; exact krc_lt (ksub_lt (fun x h => box_lt h) (kturn_lt SB.out)))
              go_loopw [70] (fun i wr => ∃ j : Nat, j ≤ 4 ∧ i = .int .i64 (j : Int) ∧ Blk wr gx 119 (bv u) ∧ Ex w k K (4 * n + j) wr) (fun i _ => 4 - (intOf i).toNat)
              case atStart => exact ⟨0, Nat.zero_le _, rfl, h6, hE6⟩
              case round =>
                clear h6 hE6
                obtain ⟨j, hj, rfl, h6, hE6⟩ := hrel
                by_cases hj4 : (j : Int) < 4
                · have hKl := HK.out.len
                  have c0 := hE6.ws.cell ((n - 8) * 4 + j)
                  rw [bv_get, upd_get_new (by simp [hKl]) (by omega) (by simp; omega), gd_get (by omega)] at c0
                  simp only [Option.map_some] at c0
                  have c1 := h6.byte (i := j) (by have := ul.out; omega)
                  have c2 := hE6.ws.cell (n * 4 + j)
                  rw [bv_get, upd_get (by simp [hKl]) (by omega) (by simp; omega), zeros_get (by omega)] at c2
                  simp only [Option.map_some] at c2
                  have f2 := hE6.ws.frozen (n * 4 + j)
                  have hk := hhi.out j (by omega)
                  rw [← HU.out, show 4 * (n - 8) + j = (n - 8) * 4 + j from by omega] at hk
                  obtain ⟨q1, q2⟩ := x8 (gd_lt HK.out.byt ((n - 8) * 4 + j)) (gd_lt ub.out j)
                  rw [← hk] at q1
                  have hE7 := Ex.set hE6.drew hKl (m := 4 * n + j) (by omega)
                  rw [show 4 * n + j = n * 4 + j from by omega] at hE7
                  rw [show 4 * n + j = n * 4 + j from by omega] at q1
                  generalize gd K (n * 4 + j) = Y at *
                  generalize gd K ((n - 8) * 4 + j) = X at *
                  generalize gd u j = V at *
                  have hE7 := Lib.hid hE7
                  clear hk q2 hKl
                  have b1 : IntKind.i64.wrap ((n : Int) - 8) = (n : Int) - 8 := IntWalk.i64_in _ (by omega)
                  have b2 : (0 : Int) ≤ (n : Int) - 8 := by omega
                  have b3 : (n : Int) - 8 < 60 := by omega
                  have b4 : ((n : Int) - 8).toNat = n - 8 := by omega
                  go_wp2
                  go_still_tail 14, (by kernel_rfl)
                  change wpList _ _ _ _ _ wr.drew
                  clear b1 b2 b3 b4
                  go_wp2
                  go_roundw
                  case rel => exact ⟨j + 1, by omega, by go_num, (h6.drew).far (by simp; have := hgx.out; omega) _, by rw [show 4 * n + (j + 1) = n * 4 + j + 1 from by omega]; exact hE7.out⟩
                  case measure => simp [intOf]; omega
                · obtain rfl : j = 4 := by omega
                  go_wp2
                  go_roundw
                  case rel => exact ⟨n + 1, by omega, by go_num, hE6⟩
                  case measure => simp [intOf]; omega
        · have t8 : (((n : Nat) : Int) % 8 == 0) = false := by simp; omega
          have t4 : (((n : Nat) : Int) % 4 == 0) = false := by simp; omega
          have HC := Lib.hid hc
          clear hc
          go_wp2_with (first
            | refine wpList_loadA rfl 119 (.tmp 29) rfl 4 arr4 _ _ rfl 120 _ h2 (by rw [hul.out]; simp; omega) (bv x) (by rw [← EL.out, Nat.sub_mul, Nat.mul_comm n 4]) ?_
            | refine wpList_allocA rfl 119 rfl (bv (zeros 4)) (by kernel_rfl) ?_)
          intro w3 h3 hK3 hz3
          have hE3 := hE.keeps0 hK3
          have hgx := Lib.hid (show w.heap.size + 1 + 1 < wr.heap.size from hE.ws.lt)
          clear hK3 hE h2 hul
          generalize wr.heap.size = gx at *
          have hgt2 : Hid (gx ≠ gt) := by
            have h1 := hgx.out
            have h2 := hgt.out
            show gx ≠ gt
            omega
          go_wp2_with (first | refine wpList_storeW rfl 119 (.tmp 7) (.tmp 30) rfl 4 arr4 gx rfl (bv x) rfl 119 _ h3 ?_ ?_ (ones_bv _) ?_)
          · simp [SL.out]
          · simp
          intro w4 h4 hK4
          have hE4 := hE3.keeps hK4 hgx.out
          clear hE3 h3 hK4
          have hu : x = kmid box n x := by
            unfold kmid
            rw [kturn, if_neg (by have := HC.out; omega), ksub, if_neg HC.out, krc, if_neg (by have := HC.out; omega)]
          have h6 := h4
          have hE6 := hE4
          clear h4 hE4
          go_wp2
          obtain ⟨u, HU⟩ : ∃ u, Hid (u = kmid box n x) := ⟨_, rfl⟩
          rw [show bv x = bv u from by rw [HU.out]; exact congrArg bv hu] at h6
          clear hu
          have ul := Lib.hid (show u.length = 4 by rw [HU.out]; exact krc_length (ksub_length (kturn_length SL.out)))
          have ub := Lib.hid (show Byt u by rw [HU.out]; exact krc_lt (ksub_lt (fun x h => box_lt h) (kturn_lt SB.out)))
          go_loopw [70] (fun i wr => ∃ j : Nat, j ≤ 4 ∧ i = .int .i64 (j : Int) ∧ Blk wr gx 119 (bv u) ∧ Ex w k K (4 * n + j) wr) (fun i _ => 4 - (intOf i).toNat)
          case atStart => exact ⟨0, Nat.zero_le _, rfl, h6, hE6⟩
          case round =>
            clear h6 hE6
            obtain ⟨j, hj, rfl, h6, hE6⟩ := hrel
            by_cases hj4 : (j : Int) < 4
            · have hKl := HK.out.len
              have c0 := hE6.ws.cell ((n - 8) * 4 + j)
              rw [bv_get, upd_get_new (by simp [hKl]) (by omega) (by simp; omega), gd_get (by omega)] at c0
              simp only [Option.map_some] at c0
              have c1 := h6.byte (i := j) (by have := ul.out; omega)
              have c2 := hE6.ws.cell (n * 4 + j)
              rw [bv_get, upd_get (by simp [hKl]) (by omega) (by simp; omega), zeros_get (by omega)] at c2
              simp only [Option.map_some] at c2
              have f2 := hE6.ws.frozen (n * 4 + j)
              have hk := hhi.out j (by omega)
              rw [← HU.out, show 4 * (n - 8) + j = (n - 8) * 4 + j from by omega] at hk
              obtain ⟨q1, q2⟩ := x8 (gd_lt HK.out.byt ((n - 8) * 4 + j)) (gd_lt ub.out j)
              rw [← hk] at q1
              have hE7 := Ex.set hE6.drew hKl (m := 4 * n + j) (by omega)
              rw [show 4 * n + j = n * 4 + j from by omega] at hE7
              rw [show 4 * n + j = n * 4 + j from by omega] at q1
              generalize gd K (n * 4 + j) = Y at *
              generalize gd K ((n - 8) * 4 + j) = X at *
              generalize gd u j = V at *
              have hE7 := Lib.hid hE7
              clear hk q2 hKl
              have b1 : IntKind.i64.wrap ((n : Int) - 8) = (n : Int) - 8 := IntWalk.i64_in _ (by omega)
              have b2 : (0 : Int) ≤ (n : Int) - 8 := by omega
              have b3 : (n : Int) - 8 < 60 := by omega
              have b4 : ((n : Int) - 8).toNat = n - 8 := by omega
              go_wp2
              go_still_tail 14, (by kernel_rfl)
              change wpList _ _ _ _ _ wr.drew
              clear b1 b2 b3 b4
              go_wp2
              go_roundw
              case rel => exact ⟨j + 1, by omega, by go_num, (h6.drew).far (by simp; have := hgx.out; omega) _, by rw [show 4 * n + (j + 1) = n * 4 + j + 1 from by omega]; exact hE7.out⟩
              case measure => simp [intOf]; omega
            · obtain rfl : j = 4 := by omega
              go_wp2
              go_roundw
              case rel => exact ⟨n + 1, by omega, by go_num, hE6⟩
              case measure => simp [intOf]; omega
    · obtain rfl : n = 60 := by omega
      have hKl := HK.out.len
      have h1 := hE.o
      have h2 := hE.ws
      have hB := hE.below
      have hul : (bv K).length = 240 := by simp [hKl]
      rw [show 4 * 60 = 240 from rfl, upd_all hKl (by simp)] at h2
      clear hE
      have HKl := Lib.hid hKl
      clear hKl
      go_wp2_with (first | refine wpList_loadW rfl 120 (.tmp 5) rfl 240 arrW _ rfl 120 _ h2 hul ?_)
      clear h2 hul
      obtain ⟨wo, rfl⟩ : ∃ wo : World, wo = wr := ⟨_, rfl⟩
      go_loopw [90] (fun i wr => ∃ i' : Nat, i' ≤ 60 ∧ i = .int .i64 (i' : Int) ∧ Blk wr (w.heap.size + 1) 90 (bv (upd K (zeros 240) (4 * i'))) ∧ Below w.heap.size w wr) (fun i _ => 60 - (intOf i).toNat)
      case atStart => exact ⟨0, Nat.zero_le _, rfl, by simpa [upd_zero] using h1, hB⟩
      case round =>
        clear h1 hB
        obtain ⟨i, hi, rfl, h1, hB⟩ := hrel
        by_cases hlt : (i : Int) < 60
        · have EL : Hid (((bv K).drop (i * 4)).take 4 = bv (seg K (4 * i) 4)) := by show _ = _; rw [bv_seg, Nat.mul_comm i 4]; rfl
          have SL := Lib.hid (seg_length (l := K) (o := 4 * i) (n := 4) (by have := HKl.out; omega))
          have hgo := Lib.hid (show w.heap.size + 1 < wr.heap.size from h1.lt)
          go_wp2_with (first
            | refine wpList_indexA rfl 120 (.tmp 89) (.tmp 90) rfl 60 119 4 Try.underlying120 arr4 (bv K) rfl i rfl (by omega) _ EL.out ?_
            | refine wpList_allocA rfl 119 rfl (bv (zeros 4)) (by kernel_rfl) ?_)
          intro w3 h3 hK3 hz3
          have h1 := h1.keeps hK3 (by simp)
          have hB := hB.trans (hK3.below hB.size (by simp))
          clear hK3
          generalize wr.heap.size = gx at *
          go_wp2_with (first | refine wpList_storeW rfl 119 (.tmp 11) (.tmp 93) rfl 4 arr4 gx rfl (bv (seg K (4 * i) 4)) rfl 119 _ h3 ?_ ?_ (ones_bv _) ?_)
          · simp [SL.out]
          · simp
          intro w4 h4 hK4
          have h1 := h1.keeps hK4 (by simp; have := hgo.out; omega)
          have hB := hB.trans (hK4.below hB.size (by simp; have := hgo.out; omega))
          clear h3 hK4
          go_wp2
          obtain ⟨q, hq⟩ : ∃ q, q = i / 4 := ⟨_, rfl⟩
          obtain ⟨r, hr⟩ : ∃ r, r = i % 4 := ⟨_, rfl⟩
          have HQ : Hid (i = 4 * q + r ∧ r < 4 ∧ q < 15) := by show _ ∧ _ ∧ _; omega
          have a1 : IntKind.i64.wrap ((i : Int) / 4) = (q : Int) := by rw [IntWalk.i64_in _ (by omega)]; omega
          have a2 : (i : Int).tmod 4 = (r : Int) := by rw [Int.tmod_eq_emod_of_nonneg (by omega)]; omega
          have a3 : (q : Int) < 15 := by omega
          have a4 : (r : Int) < 4 := by omega
          have a5 : IntKind.i64.wrap (4 * (r : Int)) = 4 * (r : Int) := IntWalk.i64_in _ (by omega)
          clear hq hr
          go_still_tail 8, (by kernel_rfl)
          refine wpStill_sliceA_l rfl 72 (.tmp 96) (.tmp 99) rfl 16 5 1 Try.underlying72 (by kernel_rfl) _ _ rfl _ rfl (4 * r) (by omega) (by have := HQ.out; omega) ?_
          repeat still_step
          refine wpStill_nil ?_
          change wpList _ _ _ _ _ w4.drew
          clear a1 a2 a3 a4 a5
          have h1 := h1.drew
          have h4 := h4.drew
          have hul : Hid ((bv (upd K (zeros 240) (4 * i))).length = 240) := by show _ = _; rw [bv_length, upd_length (by simp [HKl.out]) (by simp; omega)]; simp
          go_wp2_with (refine wpList_copyA rfl (.tmp 100) (.tmp 101) 22 22 rfl 5 Try.underlying22 (by kernel_rfl) (w.heap.size + 1) _ _ _ rfl ⟨gx, 0, none⟩ _ _ rfl 90 _ h1 (bv (seg K (4 * i) 4)) ?_ ?_ ?_ (ones_bv _) ?_)
          · rw [bv_length, SL.out]; exact (Nat.min_eq_left (by have := HQ.out; omega)).symm
          · intro j v hj
            rw [h4.cellAdd, Nat.zero_add]
            exact hj
          · rw [hul.out, bv_length, SL.out]; have := HQ.out; omega
          intro w5 h5 hK5
          have h5' : Blk w5 (w.heap.size + 1) 90 (bv (upd K (zeros 240) (4 * (i + 1)))) := by
            rw [putL_bv, SL.out, show q * 16 + 4 * r = 4 * i from by have := HQ.out; omega] at h5
            have := upd_put (new := K) (old := zeros 240) (k := 4 * i) (n := 4) (by simp [HKl.out]) (by simp; omega)
            rw [show 4 * (i + 1) = 4 * i + 4 from by omega, ← this]
            exact h5
          have hB' := hB.drew.trans (hK5.below hB.drew.size (by simp))
          clear h1 h4 h5 hK5 hB hul
          go_wp2
          go_roundw
          case rel => exact ⟨i + 1, by omega, by go_num, h5', hB'⟩
          case measure => simp [intOf]; omega
        · obtain rfl : i = 60 := by omega
          rw [show 4 * 60 = 240 from rfl, upd_all HKl.out (by simp)] at h1
          have hul : (bv K).length = 240 := by simp [HKl.out]
          go_wp2_with (first | refine wpList_loadW rfl 90 (.tmp 4) rfl 240 arrR _ rfl 90 _ h1 hul ?_ | refine wpList_storeW rfl 90 (.tmp 4) (.tmp 104) rfl 240 arrR _ rfl (bv K) rfl 90 _ h1 hul hul (ones_bv _) ?_)
          intro w' h4 hK
          go_wp2
          exact bodyPost_ret (v := .agg (bv K).toArray) (res_cell Try.results43 _ _ _ 90 _ arrR hul rfl h4) rfl ⟨rfl, hB.trans (hK.below hB.size (by simp))⟩
end Go.Proofs.Ytlifpmglaoppoaa

/- Contracts of package aes: Rounds, Seal. -/
namespace Go.Proofs.Ytlifpmglaoppoaa
open Go.RowKit
open Go.Proofs.PlainAes

theorem tbl_len (f : Nat → Nat) : (bv (tbl f)).length = 256 := by simp [tbl]
theorem Byt.keys {k : List Nat} (bk : Byt k) : Byt (keys box k) := keys_lt (fun x h => box_lt h) bk

/-- What lies there while a block is sealed. -/
structure Sx (w : World) (gt gk : Nat) (K b : List Nat) (wr : World) : Prop where
  b : Blk wr (w.heap.size + 1) 72 (bv b)
  r : Blk wr (w.heap.size + 1 + 1) 72 (bv (zeros 16))
  t : Blk wr gt 38 (bv (tbl box))
  k : Blk wr gk 90 (bv K)
  below : Below w.heap.size w wr
  o1 : w.heap.size + 1 + 1 < gt
  o2 : gt < gk
section
variable {w wr wr' : World} {gt gk g : Nat} {K b b' : List Nat}
theorem Sx.call (h : Sx w gt gk K b wr) (hB : Below wr.heap.size wr wr') : Sx w gt gk K b wr' := ⟨h.b.keep hB, h.r.keep hB, h.t.keep hB, h.k.keep hB, below_call h.below h.below.size hB, h.o1, h.o2⟩
theorem Sx.keeps0 (h : Sx w gt gk K b wr) (hB : Keeps [] wr wr') : Sx w gt gk K b wr' := h.call (hB.below (Nat.le_refl _) (by simp))
theorem Sx.keeps (h : Sx w gt gk K b wr) (hk : Keeps [g] wr wr') (hg : gk < g) : Sx w gt gk K b wr' := by
  have h1 := h.o1
  have h2 := h.o2
  exact ⟨h.b.keeps hk (by simp; omega), h.r.keeps hk (by simp; omega), h.t.keeps hk (by simp; omega), h.k.keeps hk (by simp; omega), h.below.trans (hk.below h.below.size (by simp; omega)), h1, h2⟩
theorem Sx.put (h : Sx w gt gk K b wr) (hk : Keeps [w.heap.size + 1] wr wr') (hb : Blk wr' (w.heap.size + 1) 72 (bv b')) : Sx w gt gk K b' wr' := by
  have h1 := h.o1
  have h2 := h.o2
  exact ⟨hb, h.r.keeps hk (by simp), h.t.keeps hk (by simp; omega), h.k.keeps hk (by simp; omega), h.below.trans (hk.below h.below.size (by simp)), h1, h2⟩
theorem Sx.drew (h : Sx w gt gk K b wr) : Sx w gt gk K b wr.drew := ⟨h.b, h.r, h.t, h.k, h.below.drew, h.o1, h.o2⟩
end

set_option maxRecDepth 100000 in
set_option maxHeartbeats 4000000 in
theorem seal_any (k b : List Nat) (w : World) (hk : k.length = 32) (bk : Byt k) (hb : b.length = 16) (bb : Byt b) : Calls Try.prog 58 #[.agg (bv k).toArray, .agg (bv b).toArray] w (RetA (sealB box (keys box k) b) w) := by
  have htb := Lib.hid (fun w => table_box w)
  have hex := Lib.hid (fun gt w h => expand_any k gt w hk bk h)
  have hsum := Lib.hid (fun a b w ha hb ba bb => asum_any a b w ha hb ba bb)
  have hmix := Lib.hid (fun b w hb bb => amix_any b w hb bb)
  have hkl := Lib.hid (show (bv k).length = 32 by simp [hk])
  have Kl := Lib.hid (keys_length box hk)
  have Kb := Lib.hid (bk.keys)
  have Hb := Lib.hid hb
  have Bb := Lib.hid bb
  have hKl := Lib.hid (show (bv (keys box k)).length = 240 by simp [keys_length box hk])
  clear hk bk hb bb
  generalize keys box k = K at *
  generalize hR : sealB box K b = R
  have HR := Lib.hid hR
  clear hR
  go_enter Try.func58, Try.ntmps58
  go_wp2_with (refine wpList_allocA rfl 72 rfl (bv (zeros 16)) (by kernel_rfl) ?_)
  intro w1 h1 hK1 hz1
  have h0 := ((Blk.new_at (w := w) (t := 25) (cs := (bv k).toArray) rfl rfl).alloc (.cells (bv b).toArray 72)).keeps hK1 (by simp)
  have hb0 := (Blk.new_at (w := w.alloc (.cells (bv k).toArray 25)) (n := w.heap.size + 1) (t := 72) (cs := (bv b).toArray) (by simp) rfl).keeps hK1 (by simp)
  simp only [List.size_toArray] at h0 hb0
  have hB : Below w.heap.size w w1 := (((Below.refl _ _).alloc (Nat.le_refl _) _).alloc (by simp) _).trans (hK1.below (by simp; omega) (by simp))
  clear hK1
  go_wp2_with (first
    | (go_at_call 40; refine (htb.out _).mono ?_; rintro e w2 ⟨rfl, hB2⟩)
    | refine wpList_allocA rfl 38 rfl (bv (zeros 256)) (by kernel_rfl) ?_)
  intro w3 h3 hK3 hz3
  have hgt : w.heap.size + 1 + 1 < w2.heap.size := by have := hB2.size; omega
  have h1 := (h1.keep hB2).keeps hK3 (by simp)
  have h0 := (h0.keep hB2).keeps hK3 (by simp)
  have hb0 := (hb0.keep hB2).keeps hK3 (by simp)
  have hB := (below_call hB hB.size hB2).trans (hK3.below (by have := hB.size; have := hB2.size; omega) (by simp))
  clear hK3 hB2
  generalize w2.heap.size = gt at *
  go_wp2_with (refine wpList_storeW rfl 38 (.tmp 5) (.tmp 10) rfl 256 arrT gt rfl (bv (tbl box)) rfl 38 _ h3 (tbl_len _) (by simp) (ones_bv _) ?_)
  intro w4 h4 hK4
  have h1 := h1.keeps hK4 (by simp; omega)
  have h0 := h0.keeps hK4 (by simp; omega)
  have hb0 := hb0.keeps hK4 (by simp; omega)
  have hB := hB.trans (hK4.below hB.size (by simp; omega))
  clear hK4 h3
  go_wp2_with (first
    | refine wpList_loadW rfl 25 (.tmp 2) rfl 32 arrK _ rfl 25 _ h0 hkl.out ?_
    | (go_at_call 43; refine (hex.out gt _ h4).mono ?_; rintro e w5 ⟨rfl, hB5⟩)
    | refine wpList_allocA rfl 90 rfl (bv (zeros 240)) (by kernel_rfl) ?_)
  intro w6 h6 hK6 hz6
  have hgk : gt < w5.heap.size := Nat.lt_of_lt_of_le h4.lt hB5.size
  have h1 := (h1.keep hB5).keeps hK6 (by simp)
  have h4 := (h4.keep hB5).keeps hK6 (by simp)
  have hb0 := (hb0.keep hB5).keeps hK6 (by simp)
  have hB := (below_call hB hB.size hB5).trans (hK6.below (by have := hB.size; have := hB5.size; omega) (by simp))
  clear hK6 hB5 h0
  generalize w5.heap.size = gk at *
  go_wp2_with (refine wpList_storeW rfl 90 (.tmp 6) (.tmp 12) rfl 240 arrR gk rfl (bv K) rfl 90 _ h6 hKl.out (by simp) (ones_bv _) ?_)
  intro w7 h7 hK7
  have hS : Sx w gt gk K b w7 := ⟨hb0.keeps hK7 (by simp; omega), h1.keeps hK7 (by simp; omega), h4.keeps hK7 (by simp; omega), h7, hB.trans (hK7.below hB.size (by simp; omega)), hgt, hgk⟩
  clear hb0 h1 h4 h7 h6 hB hK7 hgt hgk
  have hbl := Lib.hid (show (bv b).length = 16 by simp [Hb.out])
  have sb := hS.b
  have sk := hS.k
  have EK : Hid (((bv K).drop 0).take 16 = bv (rkey K 0)) := by show _ = _; rw [bv_seg]; rfl
  go_wp2_with (first
    | refine wpList_loadW rfl 72 (.tmp 3) rfl 16 arrB _ rfl 72 _ sb hbl.out ?_
    | refine wpList_loadA rfl 72 (.tmp 14) rfl 16 arrB _ _ rfl 90 _ sk (by rw [hKl.out]; simp) (bv (rkey K 0)) (by simpa using EK.out) ?_
    | (go_at_call 44; refine (hsum.out b (rkey K 0) _ Hb.out (rkey_length Kl.out (by decide)) Bb.out (rkey_lt Kb.out 0)).mono ?_; rintro e w8 ⟨rfl, hB8⟩)
    | refine wpList_storeW rfl 72 (.tmp 3) (.tmp 16) rfl 16 arrB _ rfl (bv (xorl b (rkey K 0))) rfl 72 _ (sb.keep hB8) ?_ ?_ (ones_bv _) ?_)
  · rw [bv_length]; exact sealN_length (t := box) Kl.out Hb.out (n := 0) (by decide)
  · exact hbl.out
  intro w9 h9 hK9
  have hS9 : Sx w gt gk K (sealN box K b 0) w9 := (hS.call hB8).put hK9 h9
  clear sb sk hS h9 hK9 hB8 hz1 hz3 hz6
  go_wp2
  go_loopw [7] (fun i wr => ∃ n : Nat, n ≤ 14 ∧ i = .int .i64 ((n : Int) + 1) ∧ Sx w gt gk K (sealN box K b n) wr) (fun i _ => (15 - intOf i).toNat)
  case atStart => exact ⟨0, Nat.zero_le _, rfl, hS9⟩
  case round =>
    clear hS9
    obtain ⟨n, hn, rfl, hS⟩ := hrel
    by_cases hlt : (n : Int) + 1 ≤ 14
    · have sl := Lib.hid (sealN_length (t := box) Kl.out Hb.out (n := n) (by omega))
      have sb' := Lib.hid (sealN_lt (t := box) (fun x h => box_lt h) Kb.out Bb.out n)
      have hnext : Hid (sealN box K b (n + 1) = sround box K (n + 1) (sealN box K b n)) := rfl
      generalize sealN box K b n = c at *
      obtain ⟨d, hd⟩ : ∃ d, d = sealN box K b (n + 1) := ⟨_, rfl⟩
      rw [← hd] at hnext
      have HD := Lib.hid hd
      clear hd
      have hgx : gk < wr.heap.size := hS.k.lt
      go_wp2_with (refine wpList_allocA rfl 72 rfl (bv (zeros 16)) (by kernel_rfl) ?_)
      intro w1 h1 hK1 hz1
      have hS1 := hS.keeps0 hK1
      clear hK1 hS
      generalize wr.heap.size = gx at *
      go_wp2
      go_loopw [21] (fun i wr => ∃ j : Nat, j ≤ 16 ∧ i = .int .i64 (j : Int) ∧ Blk wr gx 72 (bv (upd (shiftB box c) (zeros 16) j)) ∧ Sx w gt gk K c wr) (fun i _ => (16 - intOf i).toNat)
      case atStart => exact ⟨0, Nat.zero_le _, rfl, by rw [upd_zero]; exact h1, hS1⟩
      case round =>
        clear h1 hS1
        obtain ⟨j, hj, rfl, h1, hS⟩ := hrel
        by_cases hj16 : (j : Int) < 16
        · have hs := Lib.hid (upd_set (new := shiftB box c) (old := zeros 16) (k := j) (by simp) (by simp; omega) (mk_get _ (by omega)))
          have c0 := hS.b.byte (i := (j + 4 * (j % 4)) % 16) (by rw [sl.out]; omega)
          have hX := gd_lt sb'.out ((j + 4 * (j % 4)) % 16)
          have c1 := hS.t.byte (i := gd c ((j + 4 * (j % 4)) % 16)) (by simp [tbl, hX])
          rw [tbl, gd_mk _ hX] at c1
          have c2 := h1.cell j
          rw [bv_get, upd_get (by simp) (Nat.le_refl _) (by simp; omega), zeros_get (by omega)] at c2
          simp only [Option.map_some] at c2
          have f2 := h1.frozen j
          generalize gd c ((j + 4 * (j % 4)) % 16) = X at *
          generalize box X = Y at *
          have hXI : (X : Int) < 256 := by omega
          go_wp2
          go_roundw
          case rel =>
            refine ⟨j + 1, by omega, by go_num, ?_, hS.keeps ((Keeps.refl [gx] _).setCell (by simp) _) hgx⟩
            rw [← hs.out, ← bv_set]
            exact h1.set_ j _
          case measure => simp [intOf]; omega
        · obtain rfl : j = 16 := by omega
          rw [upd_all (by simp) (by simp)] at h1
          have hsl := Lib.hid (show (bv (shiftB box c)).length = 16 by simp)
          have hsb := Lib.hid (shiftB_lt (t := box) (fun x h => box_lt h) sb'.out)
          have hsn := Lib.hid (shiftB_length box c)
          generalize hse : shiftB box c = s at *
          have hse := Lib.hid hse
          by_cases hn13 : (n : Int) + 1 < 14
          · have sb := hS.b
            go_wp2_with (first
              | refine wpList_loadW rfl 72 (.tmp 8) rfl 16 arrB gx rfl 72 _ h1 hsl.out ?_
              | (go_at_call 45; refine (hmix.out s _ hsn.out hsb.out).mono ?_; rintro e w8 ⟨rfl, hB8⟩)
              | refine wpList_storeW rfl 72 (.tmp 8) (.tmp 40) rfl 16 arrB gx rfl (bv (mix s)) rfl 72 _ (h1.keep hB8) ?_ ?_ (ones_bv _) ?_)
            · simp
            · exact hsl.out
            intro w9 h1 hK9
            have hS := (hS.call hB8).keeps hK9 hgx
            have hz : Hid (d = xorl (mix s) (rkey K (n + 1))) := by show _ = _; rw [hnext.out, sround, if_pos (by omega), hse.out]
            have hzl := Lib.hid (show (bv (mix s)).length = 16 by simp)
            have hzb := Lib.hid (mix_lt hsb.out)
            have hzn := Lib.hid (mix_length s)
            generalize mix s = z at *
            clear sb hK9 hB8
            go_wp2
            have a1 : IntKind.i64.wrap ((n : Int) + 1) = (n : Int) + 1 := IntWalk.i64_in _ (by omega)
            have a2 : (0 : Int) ≤ (n : Int) + 1 := by omega
            have a3 : (n : Int) + 1 < 15 := by omega
            have a4 : ((n : Int) + 1).toNat = n + 1 := by omega
            have h1d := h1.drew
            have skd := hS.drew.k
            have EK : Hid (((bv K).drop ((n + 1) * 16)).take 16 = bv (rkey K (n + 1))) := by show _ = _; rw [bv_seg, Nat.mul_comm]; rfl
            go_still_tail 4, (by kernel_rfl)
            refine wpStill_loadW rfl 72 (.tmp 8) rfl 16 arrB gx rfl 72 _ h1d hzl.out ?_
            repeat still_step
            refine wpStill_loadA rfl 72 (.tmp 43) rfl 16 arrB _ _ rfl 90 _ skd (by rw [hKl.out]; omega) (bv (rkey K (n + 1))) EK.out ?_
            refine wpStill_nil ?_
            change wpList _ _ _ _ _ (World.drew _)
            clear a1 a2 a3 a4
            have hS := hS.drew
            have sb := hS.b
            go_wp2_with (first
              | (go_at_call 44; refine (hsum.out z (rkey K (n + 1)) _ hzn.out (rkey_length Kl.out (by omega)) hzb.out (rkey_lt Kb.out _)).mono ?_; rintro e w8 ⟨rfl, hB8⟩)
              | refine wpList_storeW rfl 72 (.tmp 3) (.tmp 45) rfl 16 arrB _ rfl (bv (xorl z (rkey K (n + 1)))) rfl 72 _ (sb.keep hB8) ?_ ?_ (ones_bv _) ?_)
            · rw [bv_length, xorl_length (by rw [hzn.out, rkey_length Kl.out (by omega)]), hzn.out]
            · rw [bv_length, sl.out]
            intro w9 h9 hK9
            rw [← hz.out] at h9
            have hS9 : Sx w gt gk K d w9 := (hS.call hB8).put hK9 h9
            clear sb hS h9 hK9 hB8 h1 h1d skd
            rw [HD.out] at hS9
            go_wp2
            go_roundw
            case rel => exact ⟨n + 1, by omega, by go_num, hS9⟩
            case measure => simp [intOf]; omega
          · obtain rfl : n = 13 := by omega
            have hz : Hid (d = xorl s (rkey K (13 + 1))) := by show _ = _; rw [hnext.out, sround, if_neg (by omega), hse.out]
            have hzl := hsl
            have hzb := hsb
            have hzn := hsn
            obtain ⟨z, rfl⟩ : ∃ z, z = s := ⟨_, rfl⟩
            go_wp2
            have a1 : IntKind.i64.wrap (14) = 14 := IntWalk.i64_in _ (by omega)
            have a2 : (0 : Int) ≤ 14 := by omega
            have a3 : 14 < 15 := by omega
            have a4 : (14 : Int).toNat = 14 := by omega
            have h1d := h1.drew
            have skd := hS.drew.k
            have EK : Hid (((bv K).drop (14 * 16)).take 16 = bv (rkey K 14)) := by show _ = _; rw [bv_seg, Nat.mul_comm]; rfl
            go_still_tail 4, (by kernel_rfl)
            refine wpStill_loadW rfl 72 (.tmp 8) rfl 16 arrB gx rfl 72 _ h1d hzl.out ?_
            repeat still_step
            refine wpStill_loadA rfl 72 (.tmp 43) rfl 16 arrB _ _ rfl 90 _ skd (by rw [hKl.out]; omega) (bv (rkey K 14)) EK.out ?_
            refine wpStill_nil ?_
            change wpList _ _ _ _ _ (World.drew _)
            clear a1 a2 a3 a4
            have hS := hS.drew
            have sb := hS.b
            go_wp2_with (first
              | (go_at_call 44; refine (hsum.out z (rkey K 14) _ hzn.out (rkey_length Kl.out (by omega)) hzb.out (rkey_lt Kb.out _)).mono ?_; rintro e w8 ⟨rfl, hB8⟩)
              | refine wpList_storeW rfl 72 (.tmp 3) (.tmp 45) rfl 16 arrB _ rfl (bv (xorl z (rkey K 14))) rfl 72 _ (sb.keep hB8) ?_ ?_ (ones_bv _) ?_)
            · rw [bv_length, xorl_length (by rw [hzn.out, rkey_length Kl.out (by omega)]), hzn.out]
            · rw [bv_length, sl.out]
            intro w9 h9 hK9
            rw [← hz.out] at h9
            have hS9 : Sx w gt gk K d w9 := (hS.call hB8).put hK9 h9
            clear sb hS h9 hK9 hB8 h1 h1d skd
            rw [HD.out] at hS9
            go_wp2
            go_roundw
            case rel => exact ⟨14, by omega, by go_num, hS9⟩
            case measure => simp [intOf]
    · obtain rfl : n = 14 := by omega
      have sl := Lib.hid (show (bv (sealN box K b 14)).length = 16 by rw [bv_length]; exact sealN_length (t := box) Kl.out Hb.out (n := 14) (by omega))
      have sb := hS.b
      have sr := hS.r
      have hB := hS.below
      clear hS
      rw [show sealN box K b 14 = R from HR.out] at sb sl
      go_wp2_with (first
        | refine wpList_loadW rfl 72 (.tmp 3) rfl 16 arrB _ rfl 72 _ sb sl.out ?_
        | refine wpList_storeW rfl 72 (.tmp 4) (.tmp 46) rfl 16 arrB _ rfl (bv R) rfl 72 _ sr sl.out (by simp) (ones_bv _) ?_)
      intro w9 h9 hK9
      go_wp2
      exact bodyPost_ret (v := .agg (bv R).toArray) (res_cell Try.results58 _ _ _ 72 _ arrB sl.out rfl h9) rfl ⟨rfl, hB.trans (hK9.below hB.size (by simp; omega))⟩
end Go.Proofs.Ytlifpmglaoppoaa

/- Contract of package aes: Open. -/
namespace Go.Proofs.Ytlifpmglaoppoaa
open Go.RowKit
open Go.Proofs.PlainAes

/-- So many bytes are moved back. -/
def ups (d c : List Nat) (i : Nat) : List Nat := mk 16 (fun p => if back p < i then gd d p else gd c p)
@[simp] theorem ups_length (d c : List Nat) (i : Nat) : (ups d c i).length = 16 := by simp [ups]
theorem ups_zero {d c : List Nat} (hc : c.length = 16) : ups d c 0 = c := (mk_eq _ hc (fun i hi => by simp)).symm
theorem back_lt : ∀ p, p < 16 → back p < 16 := fun p _ => Nat.mod_lt _ (by decide)
theorem ups_all {d c : List Nat} (hd : d.length = 16) : ups d c 16 = d := (mk_eq _ hd (fun p hp => by rw [if_pos (back_lt p hp)])).symm
theorem back_to : ∀ i, i < 16 → back ((i + 4 * (i % 4)) % 16) = i := by decide
theorem back_inj : ∀ q, q < 16 → (back q + 4 * (back q % 4)) % 16 = q := by decide
theorem ups_set {d c : List Nat} {i : Nat} (hi : i < 16) : (ups d c i).set ((i + 4 * (i % 4)) % 16) (gd d ((i + 4 * (i % 4)) % 16)) = ups d c (i + 1) := by
  apply ext_gd
  · simp
  · intro q hq
    simp only [List.length_set, ups_length] at hq
    have e : gd ((ups d c i).set ((i + 4 * (i % 4)) % 16) (gd d ((i + 4 * (i % 4)) % 16))) q = if (i + 4 * (i % 4)) % 16 = q then gd d q else gd (ups d c i) q := by
      simp only [gd, List.getD_eq_getElem?_getD, List.getElem?_set, ups_length]
      by_cases h : (i + 4 * (i % 4)) % 16 = q
      · subst h; rw [if_pos rfl, if_pos hq, if_pos rfl]; rfl
      · rw [if_neg h, if_neg h]
    rw [e, ups, ups, gd_mk _ hq, gd_mk _ hq]
    by_cases h : (i + 4 * (i % 4)) % 16 = q
    · rw [if_pos h, if_pos (by rw [← h, back_to i hi]; omega)]
    · rw [if_neg h]
      have hne : back q ≠ i := fun e => h (by rw [← e]; exact back_inj q hq)
      by_cases h2 : back q < i
      · rw [if_pos h2, if_pos (by omega)]
      · rw [if_neg h2, if_neg (by omega)]

/-- What lies there while a block is opened. -/
structure Ox (w : World) (gu gk : Nat) (K b : List Nat) (wr : World) : Prop where
  b : Blk wr (w.heap.size + 1) 72 (bv b)
  r : Blk wr (w.heap.size + 1 + 1) 72 (bv (zeros 16))
  t : Blk wr gu 38 (bv (tbl unbox))
  k : Blk wr gk 90 (bv K)
  below : Below w.heap.size w wr
  o1 : w.heap.size + 1 + 1 < gu
  o2 : gu < gk
section
variable {w wr wr' : World} {gu gk g : Nat} {K b b' : List Nat}
theorem Ox.call (h : Ox w gu gk K b wr) (hB : Below wr.heap.size wr wr') : Ox w gu gk K b wr' := ⟨h.b.keep hB, h.r.keep hB, h.t.keep hB, h.k.keep hB, below_call h.below h.below.size hB, h.o1, h.o2⟩
theorem Ox.keeps0 (h : Ox w gu gk K b wr) (hB : Keeps [] wr wr') : Ox w gu gk K b wr' := h.call (hB.below (Nat.le_refl _) (by simp))
theorem Ox.keeps (h : Ox w gu gk K b wr) (hk : Keeps [g] wr wr') (hg : gk < g) : Ox w gu gk K b wr' := by
  have h1 := h.o1
  have h2 := h.o2
  exact ⟨h.b.keeps hk (by simp; omega), h.r.keeps hk (by simp; omega), h.t.keeps hk (by simp; omega), h.k.keeps hk (by simp; omega), h.below.trans (hk.below h.below.size (by simp; omega)), h1, h2⟩
theorem Ox.put (h : Ox w gu gk K b wr) (hk : Keeps [w.heap.size + 1] wr wr') (hb : Blk wr' (w.heap.size + 1) 72 (bv b')) : Ox w gu gk K b' wr' := by
  have h1 := h.o1
  have h2 := h.o2
  exact ⟨hb, h.r.keeps hk (by simp), h.t.keeps hk (by simp; omega), h.k.keeps hk (by simp; omega), h.below.trans (hk.below h.below.size (by simp)), h1, h2⟩
theorem Ox.drew (h : Ox w gu gk K b wr) : Ox w gu gk K b wr.drew := ⟨h.b, h.r, h.t, h.k, h.below.drew, h.o1, h.o2⟩
end

theorem Blk.range {w : World} {g t : Nat} {L : List Value} (h : Blk w g t L) (o n : Nat) : w.rangeAt g o ((L.drop o).take n) := by
  intro j v hv
  rw [h.cell]
  rw [List.getElem?_take] at hv
  split at hv
  · simpa using hv
  · cases hv
theorem Blk.there {w : World} {g t : Nat} {L : List Value} (h : Blk w g t L) {o n : Nat} (hn : o + n ≤ L.length) : w.there g o n := by
  intro j hj
  refine ⟨?_, h.frozen _⟩
  rw [h.cell, List.getElem?_eq_getElem (by omega)]
  rfl
/-- What is read where the sum is made. -/
theorem Ox.S {w wr : World} {gu gk n : Nat} {K c : List Nat} (h : Ox w gu gk K c wr) (hc : c.length = 16) (hn : n < 15) (hK : K.length = 240) : wr.rangeAt (w.heap.size + 1) 0 (bv c) ∧ wr.rangeAt gk (n * 16) (bv (rkey K n)) := by
  refine ⟨?_, ?_⟩
  · have := h.b.range 0 16
    rwa [bv_seg, List.drop_zero, List.take_of_length_le (by omega)] at this
  · have := h.k.range (n * 16) 16
    rw [bv_seg, Nat.mul_comm n 16] at this
    rw [Nat.mul_comm n 16]
    exact this

set_option maxRecDepth 100000 in
set_option maxHeartbeats 4000000 in
theorem open_any (k b : List Nat) (w : World) (hk : k.length = 32) (bk : Byt k) (hb : b.length = 16) (bb : Byt b) : Calls Try.prog 25 #[.agg (bv k).toArray, .agg (bv b).toArray] w (RetA (openB unbox (keys box k) b) w) := by
  have htb := Lib.hid (fun w => table_box w)
  have htu := Lib.hid (fun w => table_unbox w)
  have hex := Lib.hid (fun gt w h => expand_any k gt w hk bk h)
  have hsum := Lib.hid (fun a b w ha hb ba bb => asum_any a b w ha hb ba bb)
  have hmix := Lib.hid (fun b w hb bb => amix_any b w hb bb)
  have hkl := Lib.hid (show (bv k).length = 32 by simp [hk])
  have Kl := Lib.hid (keys_length box hk)
  have Kb := Lib.hid (bk.keys)
  have Hb := Lib.hid hb
  have Bb := Lib.hid bb
  have hKl := Lib.hid (show (bv (keys box k)).length = 240 by simp [keys_length box hk])
  clear hk bk hb bb
  generalize keys box k = K at *
  generalize hR : openB unbox K b = R
  have HR := Lib.hid hR
  clear hR
  go_enter Try.func25, Try.ntmps25
  go_wp2_with (refine wpList_allocA rfl 72 rfl (bv (zeros 16)) (by kernel_rfl) ?_)
  intro w1 h1 hK1 hz1
  have h0 := ((Blk.new_at (w := w) (t := 25) (cs := (bv k).toArray) rfl rfl).alloc (.cells (bv b).toArray 72)).keeps hK1 (by simp)
  have hb0 := (Blk.new_at (w := w.alloc (.cells (bv k).toArray 25)) (n := w.heap.size + 1) (t := 72) (cs := (bv b).toArray) (by simp) rfl).keeps hK1 (by simp)
  simp only [List.size_toArray] at h0 hb0
  have hB : Below w.heap.size w w1 := (((Below.refl _ _).alloc (Nat.le_refl _) _).alloc (by simp) _).trans (hK1.below (by simp; omega) (by simp))
  clear hK1
  go_wp2_with (first
    | (go_at_call 40; (with_reducible refine (htb.out _).mono ?_); rintro e w2 ⟨rfl, hB2⟩)
    | (go_at_call 40; (with_reducible refine (htu.out _).mono ?_); rintro e w2' ⟨rfl, hB2'⟩)
    | refine wpList_allocA rfl 38 rfl (bv (zeros 256)) (by kernel_rfl) ?_)
  intro w3 h3 hK3 hz3
  have hB22 : Below w1.heap.size w1 w2' := below_call hB2 hB2.size hB2'
  clear hB2 hB2'
  have hgt : w.heap.size + 1 + 1 < w2'.heap.size := by have := hB22.size; omega
  have h1 := (h1.keep hB22).keeps hK3 (by simp)
  have h0 := (h0.keep hB22).keeps hK3 (by simp)
  have hb0 := (hb0.keep hB22).keeps hK3 (by simp)
  have hB := (below_call hB hB.size hB22).trans (hK3.below (by have := hB.size; have := hB22.size; omega) (by simp))
  clear hK3 hB22
  generalize w2'.heap.size = gt at *
  go_wp2_with (refine wpList_allocA rfl 38 rfl (bv (zeros 256)) (by kernel_rfl) ?_)
  intro w4 h4 hK4 hz4
  have h3 := h3.keeps hK4 (by simp)
  have h1 := h1.keeps hK4 (by simp)
  have h0 := h0.keeps hK4 (by simp)
  have hb0 := hb0.keeps hK4 (by simp)
  have hB := hB.trans (hK4.below hB.size (by simp))
  clear hK4
  go_wp2_with (refine wpList_storeW rfl 38 (.tmp 5) (.tmp 11) rfl 256 arrT gt rfl (bv (tbl box)) rfl 38 _ h3 (tbl_len _) (by simp) (ones_bv _) ?_)
  intro w5 h5 hK5
  have h4 := h4.keeps hK5 (by simp)
  have h1 := h1.keeps hK5 (by simp; omega)
  have h0 := h0.keeps hK5 (by simp; omega)
  have hb0 := hb0.keeps hK5 (by simp; omega)
  have hB := hB.trans (hK5.below hB.size (by simp; omega))
  clear hK5 h3
  go_wp2_with (refine wpList_storeW rfl 38 (.tmp 6) (.tmp 12) rfl 256 arrT (gt + 1) rfl (bv (tbl unbox)) rfl 38 _ h4 (tbl_len _) (by simp) (ones_bv _) ?_)
  intro w6 h6 hK6
  have h5 := h5.keeps hK6 (by simp)
  have h1 := h1.keeps hK6 (by simp; omega)
  have h0 := h0.keeps hK6 (by simp; omega)
  have hb0 := hb0.keeps hK6 (by simp; omega)
  have hB := hB.trans (hK6.below hB.size (by simp; omega))
  clear hK6 h4
  go_wp2_with (first
    | refine wpList_loadW rfl 25 (.tmp 2) rfl 32 arrK _ rfl 25 _ h0 hkl.out ?_
    | (go_at_call 43; refine (hex.out gt _ h5).mono ?_; rintro e w7 ⟨rfl, hB7⟩)
    | refine wpList_allocA rfl 90 rfl (bv (zeros 240)) (by kernel_rfl) ?_)
  intro w8 h8 hK8 hz8
  have hgk : gt + 1 < w7.heap.size := Nat.lt_of_lt_of_le h6.lt hB7.size
  have h1 := (h1.keep hB7).keeps hK8 (by simp)
  have h6 := (h6.keep hB7).keeps hK8 (by simp)
  have hb0 := (hb0.keep hB7).keeps hK8 (by simp)
  have hB := (below_call hB hB.size hB7).trans (hK8.below (by have := hB.size; have := hB7.size; omega) (by simp))
  clear hK8 hB7 h0 h5
  generalize w7.heap.size = gk at *
  go_wp2_with (refine wpList_storeW rfl 90 (.tmp 7) (.tmp 14) rfl 240 arrR gk rfl (bv K) rfl 90 _ h8 hKl.out (by simp) (ones_bv _) ?_)
  intro w9 h9 hK9
  obtain ⟨gu, hgu'⟩ : ∃ gu, gu = gt + 1 := ⟨_, rfl⟩
  rw [← hgu'] at h6 hgk
  have hS : Ox w gu gk K b w9 := ⟨hb0.keeps hK9 (by simp; omega), h1.keeps hK9 (by simp; omega), h6.keeps hK9 (by simp; omega), h9, hB.trans (hK9.below hB.size (by simp; omega)), by omega, hgk⟩
  clear hb0 h1 h6 h9 h8 hB hK9 hgk hz1 hz3 hz4 hz8
  rw [← hgu']
  clear hgu' hgt
  go_wp2
  go_loopw [8] (fun i wr => ∃ n : Nat, n ≤ 14 ∧ i = .int .i64 (n : Int) ∧ Ox w gu gk K (openN unbox K b (14 - n)) wr) (fun i _ => (intOf i).toNat)
  case atStart => exact ⟨14, Nat.le_refl _, rfl, hS⟩
  case round =>
    clear hS
    obtain ⟨n, hn, rfl, hS⟩ := hrel
    by_cases hlt : (0 : Int) < n
    · have sl := Lib.hid (openN_length (u := unbox) (K := K) Hb.out (14 - n))
      have sb' := Lib.hid (openN_lt (u := unbox) (fun x h => unbox_lt h) Kb.out Bb.out (14 - n))
      have hnext : Hid (openN unbox K b (14 - (n - 1)) = oround unbox K n (openN unbox K b (14 - n))) := by
        show _ = _
        rw [show 14 - (n - 1) = (14 - n) + 1 from by omega, openN, show 14 - (14 - n) = n from by omega]
      generalize openN unbox K b (14 - n) = c at *
      obtain ⟨d, hd⟩ : ∃ d, d = openN unbox K b (14 - (n - 1)) := ⟨_, rfl⟩
      rw [← hd] at hnext
      have HD := Lib.hid hd
      clear hd
      have rl := Lib.hid (rkey_length Kl.out (n := n) (by omega))
      have hyl := Lib.hid (show (bv (xorl c (rkey K n))).length = 16 by rw [bv_length, xorl_length (by rw [sl.out, rl.out]), sl.out])
      have hxs := Lib.hid (fun w => hsum.out c (rkey K n) w sl.out rl.out sb'.out (rkey_lt Kb.out n))
      go_wp2
      go_upto_region 6 with fail
      go_cut [9] (fun s9 wx => ∃ gx : Nat, s9 = .pointer (some ⟨gx, 0, none⟩) ∧ gk < gx ∧ Blk wx gx 72 (bv (xorl c (rkey K n))) ∧ Ox w gu gk K c wx)
      case first =>
        have hn15 := Lib.hid (show n < 15 by omega)
        have e1 := Lib.hid (show (bv c).length = 16 by rw [bv_length]; exact sl.out)
        have e2 := Lib.hid (show (bv (rkey K n)).length = 16 by rw [bv_length]; exact rl.out)
        have hO := Lib.hid hS.drew
        refine wp_region_held_drew (S := fun w' => w'.rangeAt (w.heap.size + 1) 0 (bv c) ∧ w'.rangeAt gk (n * 16) (bv (rkey K n))) (by kernel_rfl) (Ox.S hO.out sl.out hn15.out Kl.out) (fun hH => ?_)
        refine takeH_load (i := 0) rfl (by kernel_rfl) (by kernel_rfl) (by kernel_rfl) (fun _ _ _ _ h => h) rfl 72 (.tmp 3) rfl 16 arrB _ _ rfl (bv c) e1.out (fun w h => h.1) hH ?_
        simp only [Act.put, List.setIfInBounds_toArray, List.set_cons_zero, List.set_cons_succ]
        refine takeH_move (i := 1) rfl (by kernel_rfl) (by kernel_rfl) (by kernel_rfl) (fun _ _ _ _ h => h) rfl (.tmp 8) rfl _ rfl hH ?_
        simp only [Act.put, List.setIfInBounds_toArray, List.set_cons_zero, List.set_cons_succ]
        refine takeH_index (i := 2) rfl (by kernel_rfl) (by kernel_rfl) (by kernel_rfl) (fun _ _ _ _ h => h) rfl 90 (.tmp 7) (.tmp 20) rfl 15 72 16 Try.underlying90 (by kernel_rfl) gk 0 rfl n rfl hn15.out hH ?_
        simp only [Act.put, List.setIfInBounds_toArray, List.set_cons_zero, List.set_cons_succ, Nat.zero_add]
        refine takeH_load (i := 3) rfl (by kernel_rfl) (by kernel_rfl) (by kernel_rfl) (fun _ _ _ _ h => h) rfl 72 (.tmp 21) rfl 16 arrB _ _ rfl (bv (rkey K n)) e2.out (fun w h => h.2) hH ?_
        simp only [Act.put, List.setIfInBounds_toArray, List.set_cons_zero, List.set_cons_succ]
        refine wpAnyH_ready (rs := [4, 5]) (by kernel_rfl) (by simp) ?_
        refine AllReadyH.cons rfl (fun K1 hK1 => ?_) (AllReadyH.cons rfl (fun K1 hK1 => ?_) AllReadyH.nil)
        · go_simp
          refine (hxs.out _).mono ?_
          rintro e w8 ⟨rfl, hB8⟩
          have hO1 := Lib.hid (hO.out.call hB8)
          refine hK1.out _ _ (Ox.S hO1.out sl.out hn15.out Kl.out) (fun hH => ?_)
          clear hK1 K1
          refine wpAnyH_ready (rs := [5]) (by kernel_rfl) (by simp) ?_
          refine AllReadyH.cons rfl (fun K1 hK1 => ?_) AllReadyH.nil
          go_simp
          have hgx : gk < w8.heap.size := hO1.out.k.lt
          have hx := Blk.new_at (w := w8) (t := 72) (cs := (bv (zeros 16)).toArray) rfl rfl
          have hO2 := Lib.hid (hO1.out.keeps0 ((Keeps.refl [] _).alloc (.cells (bv (zeros 16)).toArray 72)))
          refine hK1.out _ _ (Ox.S hO2.out sl.out hn15.out Kl.out) (fun hH => ?_)
          clear hK1 K1
          refine wpAnyH_ready (rs := [6]) (by kernel_rfl) (by simp) ?_
          refine AllReadyH.cons rfl (fun K1 hK1 => ?_) AllReadyH.nil
          rw [if_pos (by rfl)]
          refine wp_storeA 72 (.tmp 9) (.tmp 23) rfl 16 arrB _ _ rfl (bv (xorl c (rkey K n))) rfl 72 _ hx hyl.out (by simp) (ones_bv _) ?_
          intro w9 hx9 hK9
          rw [putL_all (by rw [hyl.out]; simp)] at hx9
          have hO9 := Lib.hid (hO2.out.keeps hK9 hgx)
          refine hK1.out _ _ (Ox.S hO9.out sl.out hn15.out Kl.out) (fun hH => ?_)
          clear hK1 K1 hK9 hx
          simp only [Act.put, List.setIfInBounds_toArray, List.set_cons_zero, List.set_cons_succ]
          refine wpAnyH_done (by kernel_rfl) ?_ _
          go_wp2_with fail
          go_meet
          exact ⟨_, rfl, hgx, hx9, hO9.out⟩
        · go_simp
          have hgx : gk < wr.heap.size := hO.out.k.lt
          have hx := (Blk.new_at (w := wr) (t := 72) (cs := (bv (zeros 16)).toArray) rfl rfl).drew
          have hO1 := Lib.hid ((hS.keeps0 ((Keeps.refl [] _).alloc (.cells (bv (zeros 16)).toArray 72))).drew)
          refine hK1.out _ _ (Ox.S hO1.out sl.out hn15.out Kl.out) (fun hH => ?_)
          clear hK1 K1
          refine wpAnyH_ready (rs := [4]) (by kernel_rfl) (by simp) ?_
          refine AllReadyH.cons rfl (fun K1 hK1 => ?_) AllReadyH.nil
          go_simp
          refine (hxs.out _).mono ?_
          rintro e w8 ⟨rfl, hB8⟩
          have hO2 := Lib.hid (hO1.out.call hB8)
          have hx := hx.keep hB8
          refine hK1.out _ _ (Ox.S hO2.out sl.out hn15.out Kl.out) (fun hH => ?_)
          clear hK1 K1
          refine wpAnyH_ready (rs := [6]) (by kernel_rfl) (by simp) ?_
          refine AllReadyH.cons rfl (fun K1 hK1 => ?_) AllReadyH.nil
          rw [if_pos (by rfl)]
          refine wp_storeA 72 (.tmp 9) (.tmp 23) rfl 16 arrB _ _ rfl (bv (xorl c (rkey K n))) rfl 72 _ hx hyl.out (by simp) (ones_bv _) ?_
          intro w9 hx9 hK9
          rw [putL_all (by rw [hyl.out]; simp)] at hx9
          have hO9 := Lib.hid (hO2.out.keeps hK9 hgx)
          refine hK1.out _ _ (Ox.S hO9.out sl.out hn15.out Kl.out) (fun hH => ?_)
          clear hK1 K1 hK9 hx
          simp only [Act.put, List.setIfInBounds_toArray, List.set_cons_zero, List.set_cons_succ]
          refine wpAnyH_done (by kernel_rfl) ?_ _
          go_wp2_with fail
          go_meet
          exact ⟨_, rfl, hgx, hx9, hO9.out⟩
      case rest =>
        obtain ⟨gx, rfl, hgx, hx, hS⟩ := hcut
        by_cases hn14 : (n : Int) < 14
        · have hyn := Lib.hid (show (xorl c (rkey K n)).length = 16 by rw [xorl_length (by rw [sl.out, rl.out]), sl.out])
          have hyb := Lib.hid (xorl_lt sb'.out (rkey_lt Kb.out n))
          have hz : Hid (omid K n c = mix (mix (mix (xorl c (rkey K n))))) := by show _ = _; rw [omid, if_pos (by omega)]
          generalize xorl c (rkey K n) = y at *
          have m1 := Lib.hid (fun w => hmix.out y w hyn.out hyb.out)
          have m2 := Lib.hid (fun w => hmix.out (mix y) w (by simp) (mix_lt hyb.out))
          have m3 := Lib.hid (fun w => hmix.out (mix (mix y)) w (by simp) (mix_lt (mix_lt hyb.out)))
          have hzb := Lib.hid (mix_lt (mix_lt (mix_lt hyb.out)))
          have hzn := Lib.hid (mix_length (mix (mix y)))
          generalize mix (mix (mix y)) = z at *
          generalize mix (mix y) = y2 at *
          generalize mix y = y1 at *
          have hzl := Lib.hid (show (bv z).length = 16 by simp [hzn.out])
          go_wp2_with (first
            | refine wpList_loadW rfl 72 (.tmp 9) rfl 16 arrB gx rfl 72 _ hx hyl.out ?_
            | (go_at_call 45; (with_reducible refine (m1.out _).mono ?_); rintro e w1 ⟨rfl, hB1⟩)
            | (go_at_call 45; (with_reducible refine (m2.out _).mono ?_); rintro e w2 ⟨rfl, hB2⟩)
            | (go_at_call 45; (with_reducible refine (m3.out _).mono ?_); rintro e w3 ⟨rfl, hB3⟩)
            | refine wpList_storeW rfl 72 (.tmp 9) (.tmp 29) rfl 16 arrB gx rfl (bv z) rfl 72 _ (((hx.keep hB1).keep hB2).keep hB3) hzl.out hyl.out (ones_bv _) ?_)
          intro w9 hx hK9
          have hS := (((hS.call hB1).call hB2).call hB3).keeps hK9 hgx
          clear hK9 hB1 hB2 hB3
          go_wp2
          have hdz : Hid (d = unshiftB unbox z) := by show _ = _; rw [hnext.out, oround, hz.out]
          clear hnext
          go_loopw [30] (fun i wr => ∃ j : Nat, j ≤ 16 ∧ i = .int .i64 (j : Int) ∧ Blk wr gx 72 (bv z) ∧ Ox w gu gk K (ups d c j) wr) (fun i _ => (16 - intOf i).toNat)
          case atStart => exact ⟨0, Nat.zero_le _, rfl, hx, by rw [ups_zero sl.out]; exact hS⟩
          case round =>
            clear hx hS
            obtain ⟨j, hj, rfl, hx, hS⟩ := hrel
            by_cases hj16 : (j : Int) < 16
            · have hs := Lib.hid (ups_set (d := d) (c := c) (i := j) (by omega))
              have hp : (j + 4 * (j % 4)) % 16 < 16 := Nat.mod_lt _ (by decide)
              have hdp : gd d ((j + 4 * (j % 4)) % 16) = unbox (gd z j) := by rw [hdz.out, unshiftB, gd_mk _ hp, back_to j (by omega)]
              have c0 := hx.byte (i := j) (by rw [hzn.out]; omega)
              have hX := gd_lt hzb.out j
              have c1 := hS.t.byte (i := gd z j) (by simp [tbl, hX])
              rw [tbl, gd_mk _ hX, ← hdp] at c1
              have c2 := hS.b.byte (i := (j + 4 * (j % 4)) % 16) (by simp; omega)
              have f2 := hS.b.frozen ((j + 4 * (j % 4)) % 16)
              have hb2 := Lib.hid (hS.b.set_ ((j + 4 * (j % 4)) % 16) (.int .u8 ((gd d ((j + 4 * (j % 4)) % 16) : Nat) : Int)))
              clear hdp
              generalize gd d ((j + 4 * (j % 4)) % 16) = Y at *
              generalize gd z j = X at *
              have hXI : (X : Int) < 256 := by omega
              clear hp
              go_wp2
              go_roundw
              case rel =>
                refine ⟨j + 1, by omega, by go_num, hx.far (by simp; have h1 := hS.o1; have h2 := hS.o2; omega) _, hS.put ((Keeps.refl [w.heap.size + 1] _).setCell (by simp) _) ?_⟩
                have := hb2.out
                rw [bv_set, hs.out] at this
                exact this
              case measure => simp [intOf]; omega
            · obtain rfl : j = 16 := by omega
              have hdl := Lib.hid (show d.length = 16 by rw [hdz.out]; simp)
              rw [ups_all hdl.out] at hS
              go_wp2
              go_roundw
              case rel => exact ⟨n - 1, by omega, by simp; omega, by rw [← HD.out]; exact hS⟩
              case measure => simp [intOf]; omega
        · obtain rfl : n = 14 := by omega
          have hyn := Lib.hid (show (xorl c (rkey K 14)).length = 16 by rw [xorl_length (by rw [sl.out, rl.out]), sl.out])
          have hyb := Lib.hid (xorl_lt sb'.out (rkey_lt Kb.out 14))
          have hz : Hid (omid K 14 c = xorl c (rkey K 14)) := by show _ = _; rw [omid, if_neg (by omega)]
          generalize xorl c (rkey K 14) = z at *
          have hzb := hyb
          have hzn := hyn
          go_wp2
          have hdz : Hid (d = unshiftB unbox z) := by show _ = _; rw [hnext.out, oround, hz.out]
          clear hnext
          go_loopw [30] (fun i wr => ∃ j : Nat, j ≤ 16 ∧ i = .int .i64 (j : Int) ∧ Blk wr gx 72 (bv z) ∧ Ox w gu gk K (ups d c j) wr) (fun i _ => (16 - intOf i).toNat)
          case atStart => exact ⟨0, Nat.zero_le _, rfl, hx, by rw [ups_zero sl.out]; exact hS⟩
          case round =>
            clear hx hS
            obtain ⟨j, hj, rfl, hx, hS⟩ := hrel
            by_cases hj16 : (j : Int) < 16
            · have hs := Lib.hid (ups_set (d := d) (c := c) (i := j) (by omega))
              have hp : (j + 4 * (j % 4)) % 16 < 16 := Nat.mod_lt _ (by decide)
              have hdp : gd d ((j + 4 * (j % 4)) % 16) = unbox (gd z j) := by rw [hdz.out, unshiftB, gd_mk _ hp, back_to j (by omega)]
              have c0 := hx.byte (i := j) (by rw [hzn.out]; omega)
              have hX := gd_lt hzb.out j
              have c1 := hS.t.byte (i := gd z j) (by simp [tbl, hX])
              rw [tbl, gd_mk _ hX, ← hdp] at c1
              have c2 := hS.b.byte (i := (j + 4 * (j % 4)) % 16) (by simp; omega)
              have f2 := hS.b.frozen ((j + 4 * (j % 4)) % 16)
              have hb2 := Lib.hid (hS.b.set_ ((j + 4 * (j % 4)) % 16) (.int .u8 ((gd d ((j + 4 * (j % 4)) % 16) : Nat) : Int)))
              clear hdp
              generalize gd d ((j + 4 * (j % 4)) % 16) = Y at *
              generalize gd z j = X at *
              have hXI : (X : Int) < 256 := by omega
              clear hp
              go_wp2
              go_roundw
              case rel =>
                refine ⟨j + 1, by omega, by go_num, hx.far (by simp; have h1 := hS.o1; have h2 := hS.o2; omega) _, hS.put ((Keeps.refl [w.heap.size + 1] _).setCell (by simp) _) ?_⟩
                have := hb2.out
                rw [bv_set, hs.out] at this
                exact this
              case measure => simp [intOf]; omega
            · obtain rfl : j = 16 := by omega
              have hdl := Lib.hid (show d.length = 16 by rw [hdz.out]; simp)
              rw [ups_all hdl.out] at hS
              go_wp2
              go_roundw
              case rel => exact ⟨13, by omega, by simp, by rw [← HD.out]; exact hS⟩
              case measure => simp [intOf]
    · obtain rfl : n = 0 := by omega
      rw [show 14 - 0 = 14 from rfl] at hS
      have hsl := Lib.hid (openN_length (u := unbox) (K := K) Hb.out 14)
      have hsb := Lib.hid (openN_lt (u := unbox) (fun x h => unbox_lt h) Kb.out Bb.out 14)
      have hRe : Hid (xorl (openN unbox K b 14) (rkey K 0) = R) := HR.out
      generalize openN unbox K b 14 = c at *
      have rl := Lib.hid (rkey_length Kl.out (n := 0) (by omega))
      have hcl := Lib.hid (show (bv c).length = 16 by rw [bv_length]; exact hsl.out)
      have hRl := Lib.hid (show (bv R).length = 16 by rw [bv_length, ← hRe.out, xorl_length (by rw [hsl.out, rl.out]), hsl.out])
      have sb := hS.b
      have sk := hS.k
      have sr := hS.r
      have hB := hS.below
      have EK : Hid (((bv K).drop 0).take 16 = bv (rkey K 0)) := by show _ = _; rw [bv_seg]; rfl
      clear hS
      go_wp2_with (first
        | refine wpList_loadW rfl 72 (.tmp 3) rfl 16 arrB _ rfl 72 _ sb hcl.out ?_
        | refine wpList_loadA rfl 72 (.tmp 47) rfl 16 arrB _ _ rfl 90 _ sk (by rw [hKl.out]; simp) (bv (rkey K 0)) (by simpa using EK.out) ?_
        | (go_at_call 44; refine (hsum.out c (rkey K 0) _ hsl.out rl.out hsb.out (rkey_lt Kb.out 0)).mono ?_; rintro e w8 ⟨rfl, hB8⟩; rw [hRe.out])
        | refine wpList_storeW rfl 72 (.tmp 4) (.tmp 49) rfl 16 arrB _ rfl (bv R) rfl 72 _ (sr.keep hB8) hRl.out (by simp) (ones_bv _) ?_)
      intro w9 h9 hK9
      go_wp2
      exact bodyPost_ret (v := .agg (bv R).toArray) (res_cell Try.results25 _ _ _ 72 _ arrB hRl.out rfl h9) rfl ⟨rfl, (below_call hB hB.size hB8).trans (hK9.below (by have := hB.size; have := hB8.size; omega) (by simp; omega))⟩
end Go.Proofs.Ytlifpmglaoppoaa

/- Plain laws of the stream: the blocks of a nonce, its bytes. -/
namespace Go.Proofs.PlainAes

/-- A number's four bytes. -/
def be4 (x : Nat) : List Nat := [x / 16777216 % 256, x / 65536 % 256, x / 256 % 256, x % 256]
@[simp] theorem be4_length (x : Nat) : (be4 x).length = 4 := rfl
theorem be4_byt (x : Nat) : ∀ b ∈ be4 x, b < 256 := by
  intro b hb
  simp only [be4, List.mem_cons, List.not_mem_nil, or_false] at hb
  omega
/-- A block of the stream. -/
def nblk (n : List Nat) (i : Nat) : List Nat := n ++ be4 i
def sblk (k n : List Nat) (i : Nat) : List Nat := sealB box (keys box k) (nblk n i)
/-- The stream's byte at a place. -/
def sby (k n : List Nat) (p : Nat) : Nat := gd (sblk k n (p / 16)) (p % 16)
/-- The stream from a place on. -/
def strm (k n : List Nat) (p m : Nat) : List Nat := mk m (fun j => sby k n (p + j))
@[simp] theorem strm_length (k n : List Nat) (p m : Nat) : (strm k n p m).length = m := by simp [strm]
end Go.Proofs.PlainAes

/- Contracts of package ctr: put32, block; of slices.Clone, banyanref01.Same. -/
namespace Go.Proofs.Ytlifpmglaoppoaa
open Go.RowKit
open Go.Proofs.PlainAes

theorem put32_row (b m : List Nat) (o : Nat) (hm : m.length = 4) (ho : o + 4 ≤ b.length) : (b.take o ++ m ++ b.drop (o + 4)).length = b.length := by simp [hm]; omega
theorem put32_get (b m : List Nat) (o j : Nat) (hm : m.length = 4) (ho : o + 4 ≤ b.length) (hj : j < 4) : (b.take o ++ m ++ b.drop (o + 4))[o + j]? = m[j]? := by
  rw [List.getElem?_append_left (by simp [hm]; omega), List.getElem?_append_right (by simp; omega)]
  congr 1
  simp
  omega
theorem put32_start (b m : List Nat) (o : Nat) (hm : m.length = 4) (ho : o + 4 ≤ b.length) : upd (b.take o ++ m ++ b.drop (o + 4)) b o = b := by
  unfold upd
  rw [List.append_assoc, List.take_append_of_le_length (by simp; omega)]
  simp [List.take_take]
theorem put32_end (b m : List Nat) (o : Nat) (hm : m.length = 4) (ho : o + 4 ≤ b.length) : upd (b.take o ++ m ++ b.drop (o + 4)) b (o + 4) = b.take o ++ m ++ b.drop (o + 4) := by
  unfold upd
  have h : (b.take o ++ m).length = o + 4 := by simp [hm]; omega
  rw [List.take_append_of_le_length (by omega), List.take_of_length_le (by omega)]

set_option maxHeartbeats 1000000 in
theorem put32_at (g t o c : Nat) (b : List Nat) (x : Nat) (w : World) (n : Nat) (hn : 4 ≤ n) (hb : Blk w g t (bv b)) (ho : o + 4 ≤ b.length) (hx : (x : Int) ≤ 4294967295) :
    Calls Try.prog 39 #[.slice (some ⟨g, o, none⟩) n c, .int .u32 (x : Int)] w fun e w' => (∃ r, e = .returned r) ∧ Blk w' g t (bv (b.take o ++ be4 x ++ b.drop (o + 4))) ∧ Keeps [g] w w' := by
  obtain ⟨m, hm⟩ : ∃ m, m = be4 x := ⟨_, rfl⟩
  have hml : m.length = 4 := by rw [hm]; rfl
  have e0 := put32_start b m o hml ho
  have e4 := put32_end b m o hml ho
  have el := put32_row b m o hml ho
  have hget := fun j hj => put32_get b m o j hml ho hj
  rw [← hm]
  generalize b.take o ++ m ++ b.drop (o + 4) = B at *
  have e0 := Lib.hid e0
  have e4 := Lib.hid e4
  have el := Lib.hid el
  have hget := Lib.hid hget
  have hmh := Lib.hid hm
  have hnI : (4 : Int) ≤ n := by omega
  have ho := Lib.hid ho
  clear hm hml
  go_enter Try.func39, Try.ntmps39
  go_wp2
  go_loopw [5] (fun i wr => ∃ k : Nat, k ≤ 4 ∧ i = .int .i64 (k : Int) ∧ Blk wr g t (bv (upd B b (o + k))) ∧ Keeps [g] w wr) (fun i _ => (4 - intOf i).toNat)
  case atStart => exact ⟨0, by omega, rfl, by rw [Nat.add_zero, e0.out]; exact hb, Keeps.refl _ _⟩
  case round =>
    clear hb
    obtain ⟨k, hk, rfl, hb, hK⟩ := hrel
    by_cases hlt : (k : Int) < 4
    · have c0 := hb.cell (o + k)
      rw [bv_get, upd_get el.out (Nat.le_refl _) (by have := ho.out; omega), gd_get (by have := ho.out; omega)] at c0
      simp only [Option.map_some] at c0
      have f0 := hb.frozen (o + k)
      have hs := upd_set (new := B) (old := b) (k := o + k) el.out (by have := ho.out; omega) ((hget.out k (by omega)).trans (by rw [hmh.out]; exact gd_get (by simp; omega)))
      have HS := Lib.hid hs
      clear hs
      rcases (by omega : k = 0 ∨ k = 1 ∨ k = 2 ∨ k = 3) with rfl | rfl | rfl | rfl
      · simp only [Nat.add_zero] at c0 f0 HS hb
        go_wp2
        go_roundw
        case rel =>
          refine ⟨1, by omega, by go_num, ?_, hK.setCell (by simp) _⟩
          have h := hb.set_ o (.int .u8 ((x / 16777216 % 256 : Nat) : Int))
          rw [bv_set] at h
          have h2 := HS.out
          simp only [be4, gd, List.getD_cons_zero, List.getD_cons_succ] at h2
          rw [h2] at h
          rw [show (x : Int) / 16777216 = ((x / 16777216 % 256 : Nat) : Int) from by omega]
          exact h
        case measure => simp [intOf]
      · skip
        go_wp2
        go_roundw
        case rel =>
          refine ⟨2, by omega, by go_num, ?_, hK.setCell (by simp) _⟩
          have h := hb.set_ (o + 1) (.int .u8 ((x / 65536 % 256 : Nat) : Int))
          rw [bv_set] at h
          have h2 := HS.out
          simp only [be4, gd, List.getD_cons_zero, List.getD_cons_succ] at h2
          rw [h2] at h
          rw [show (x : Int) / 65536 % 256 = ((x / 65536 % 256 : Nat) : Int) from by omega]
          exact h
        case measure => simp [intOf]
      · skip
        go_wp2
        go_roundw
        case rel =>
          refine ⟨3, by omega, by go_num, ?_, hK.setCell (by simp) _⟩
          have h := hb.set_ (o + 2) (.int .u8 ((x / 256 % 256 : Nat) : Int))
          rw [bv_set] at h
          have h2 := HS.out
          simp only [be4, gd, List.getD_cons_zero, List.getD_cons_succ] at h2
          rw [h2] at h
          rw [show (x : Int) / 256 % 256 = ((x / 256 % 256 : Nat) : Int) from by omega]
          exact h
        case measure => simp [intOf]
      · skip
        go_wp2
        go_roundw
        case rel =>
          refine ⟨4, by omega, by go_num, ?_, hK.setCell (by simp) _⟩
          have h := hb.set_ (o + 3) (.int .u8 ((x % 256 : Nat) : Int))
          rw [bv_set] at h
          have h2 := HS.out
          simp only [be4, gd, List.getD_cons_zero, List.getD_cons_succ] at h2
          rw [h2] at h
          rw [show (x : Int) % 256 = ((x % 256 : Nat) : Int) from by omega]
          exact h
        case measure => simp [intOf]
    · obtain rfl : k = 4 := by omega
      rw [e4.out] at hb
      go_wp2
      exact bodyPost_end (results_none Try.results39 _ _ _) rfl ⟨⟨_, rfl⟩, hb, hK⟩
/-! ### block -/
theorem put_lo (n : List Nat) (hn : n.length = 12) : putL (bv (zeros 16)) 0 (bv n) = bv (n ++ zeros 4) := by
  rw [putL_bv]
  simp [zeros, hn]
theorem put_hi (n : List Nat) (hn : n.length = 12) (i : Nat) : (n ++ zeros 4).take 12 ++ be4 i ++ (n ++ zeros 4).drop (12 + 4) = nblk n i := by
  simp [nblk, zeros, hn, List.take_append, List.drop_append]
theorem arrN : ArrTy Try.prog 65 12 := ⟨_, Try.underlying65, rfl, by kernel_rfl⟩
theorem nblk_length {n : List Nat} (hn : n.length = 12) (i : Nat) : (nblk n i).length = 16 := by simp [nblk, hn]
theorem nblk_byt {n : List Nat} (bn : Byt n) (i : Nat) : Byt (nblk n i) := by
  intro x hx
  rcases List.mem_append.1 hx with h | h
  · exact bn x h
  · exact be4_byt i x h

set_option maxRecDepth 100000 in
set_option maxHeartbeats 1000000 in
theorem block_any (k n : List Nat) (i : Nat) (w : World) (hk : k.length = 32) (bk : Byt k) (hn : n.length = 12) (bn : Byt n) (hi : (i : Int) ≤ 4294967295) :
    Calls Try.prog 37 #[.agg (bv n).toArray, .agg (bv k).toArray, .int .u32 (i : Int)] w (RetA (sblk k n i) w) := by
  have hse := Lib.hid (fun w => seal_any k (nblk n i) w hk bk (nblk_length hn i) (nblk_byt bn i))
  have hpu := Lib.hid (fun g w h => put32_at g 72 12 4 (n ++ zeros 4) i w 4 (by decide) h (by simp [hn]) hi)
  have hkl := Lib.hid (show (bv k).length = 32 by simp [hk])
  have hnl := Lib.hid (show (bv n).length = 12 by simp [hn])
  have hlo := Lib.hid (put_lo n hn)
  have hhi := put_hi n hn i
  simp only [hhi] at hpu
  have hbl := Lib.hid (show (bv (nblk n i)).length = 16 by simp [nblk_length hn])
  have hsl := Lib.hid (show (bv (sblk k n i)).length = 16 by simp [sblk, sealB_length (keys_length box hk) (nblk_length hn i)])
  change Hid (∀ w, Calls _ _ _ w (RetA (sblk k n i) w)) at hse
  clear hk bk hn bn hhi
  generalize sblk k n i = S at *
  generalize nblk n i = b at *
  go_enter Try.func37, Try.ntmps37
  go_wp2_with (refine wpList_allocA rfl 72 rfl (bv (zeros 16)) (by kernel_rfl) ?_)
  intro w1 h1 hK1 hz1
  have h3 := ((Blk.new_at (w := w) (t := 65) (cs := (bv n).toArray) rfl rfl).alloc (.cells (bv k).toArray 25)).keeps hK1 (by simp)
  have h4 := (Blk.new_at (w := w.alloc (.cells (bv n).toArray 65)) (t := 25) (cs := (bv k).toArray) rfl rfl).keeps hK1 (by simp)
  simp only [List.size_toArray, World.size_alloc] at h3 h4
  have hB : Below w.heap.size w w1 := (((Below.refl _ _).alloc (Nat.le_refl _) _).alloc (by simp) _).trans (hK1.below (by simp; omega) (by simp))
  clear hK1
  go_wp2_with (refine wpList_allocA rfl 72 rfl (bv (zeros 16)) (by kernel_rfl) ?_)
  intro w2 h2 hK2 hz2
  have h1 := h1.keeps hK2 (by simp)
  have h3 := h3.keeps hK2 (by simp)
  have h4 := h4.keeps hK2 (by simp)
  have hB := hB.trans (hK2.below hB.size (by simp))
  clear hK2
  go_wp2
  go_still_tail 2, (by kernel_rfl)
  go_wp2_with (refine wpList_copyA rfl (.tmp 8) (.tmp 9) 22 22 rfl 5 Try.underlying22 (by kernel_rfl) (w.heap.size + 1 + 1 + 1) _ _ _ rfl ⟨w.heap.size, 0, none⟩ _ _ rfl 72 _ h2 (bv n) ?_ ?_ ?_ (ones_bv _) ?_)
  · rw [hnl.out]; rfl
  · intro j v hj
    have := h3.cellAdd 0 j
    rw [Nat.zero_add] at this
    exact this.trans hj
  · simp only [hnl.out, bv_length, zeros_length]; decide
  intro w3 h2' hK3
  rw [hlo.out] at h2'
  have h1 := h1.drew.keeps hK3 (by simp)
  have h4 := h4.drew.keeps hK3 (by simp)
  have hB := hB.drew.trans (hK3.below hB.drew.size (by simp; omega))
  clear hK3 h2 h3 hlo
  go_wp2_with (first
    | (go_at_call 39; refine (hpu.out _ _ h2').mono ?_; rintro e w4 ⟨⟨r, rfl⟩, h5, hK4⟩)
    | refine wpList_loadW rfl 25 (.tmp 4) rfl 32 arrK _ rfl 25 _ (h4.keeps hK4 (by simp)) hkl.out ?_
    | refine wpList_loadW rfl 72 (.tmp 7) rfl 16 arrB _ rfl 72 _ h5 hbl.out ?_
    | (go_at_call 58; refine (hse.out _).mono ?_; rintro e w5 ⟨rfl, hB5⟩)
    | refine wpList_storeW rfl 72 (.tmp 6) (.tmp 16) rfl 16 arrB _ rfl (bv S) rfl 72 _ ((h1.keeps hK4 (by simp)).keep hB5) hsl.out (by simp) (ones_bv _) ?_)
  intro w6 h6 hK6
  go_wp2
  exact bodyPost_ret (v := .agg (bv S).toArray) (res_cell Try.results37 _ _ _ 72 _ arrB hsl.out rfl h6) rfl ⟨rfl, (below_call (hB.trans (hK4.below hB.size (by simp; omega))) (by have := hB.size; have := hK4.size; omega) hB5).trans (hK6.below (by have := hB.size; have := hK4.size; have := hB5.size; omega) (by simp; omega))⟩
end Go.Proofs.Ytlifpmglaoppoaa

/- Plain laws of the stream: its blocks in a row, its parts. -/
namespace Go.Proofs.PlainAes

theorem sblk_length {k n : List Nat} (hk : k.length = 32) (hn : n.length = 12) (i : Nat) : (sblk k n i).length = 16 := sealB_length (keys_length box hk) (by simp [nblk, hn])
theorem nblk_lt {n : List Nat} (bn : ∀ b ∈ n, b < 256) (i : Nat) : ∀ b ∈ nblk n i, b < 256 := by
  intro x hx
  rcases List.mem_append.1 hx with h | h
  · exact bn x h
  · exact be4_byt i x h
theorem sblk_lt {k n : List Nat} (bk : ∀ b ∈ k, b < 256) (bn : ∀ b ∈ n, b < 256) (i : Nat) : ∀ b ∈ sblk k n i, b < 256 := sealB_lt (fun x h => box_lt h) (keys_lt (fun x h => box_lt h) bk) (nblk_lt bn i)
theorem strm_lt {k n : List Nat} (bk : ∀ b ∈ k, b < 256) (bn : ∀ b ∈ n, b < 256) (p m : Nat) : ∀ b ∈ strm k n p m, b < 256 := mk_lt (fun i _ => gd_lt (sblk_lt bk bn _) _)
theorem mk_append (a b : Nat) (f : Nat → Nat) : mk a f ++ mk b (fun i => f (a + i)) = mk (a + b) f := by
  unfold mk
  rw [List.range_add, List.map_append, List.map_map]
  rfl
theorem sblk_mk {k n : List Nat} (hk : k.length = 32) (hn : n.length = 12) (i : Nat) : sblk k n i = strm k n (16 * i) 16 := by
  refine mk_eq _ (sblk_length hk hn i) (fun j hj => ?_)
  unfold sby
  rw [show (16 * i + j) / 16 = i from by omega, show (16 * i + j) % 16 = j from by omega]
theorem strm_append (k n : List Nat) (p a b : Nat) : strm k n p a ++ strm k n (p + a) b = strm k n p (a + b) := by
  unfold strm
  rw [← mk_append]
  simp only [Nat.add_assoc]
theorem strm_block {k n : List Nat} (hk : k.length = 32) (hn : n.length = 12) (q j : Nat) : strm k n (16 * q) (16 * j) ++ sblk k n (q + j) = strm k n (16 * q) (16 * (j + 1)) := by
  rw [sblk_mk hk hn, show 16 * (q + j) = 16 * q + 16 * j from by omega, strm_append, Nat.mul_succ]
theorem mk_drop (m a : Nat) (f : Nat → Nat) : (mk m f).drop a = mk (m - a) (fun i => f (a + i)) := by
  apply ext_gd
  · simp
  · intro i hi
    have hi' : i < m - a := by simpa using hi
    have : gd ((mk m f).drop a) i = gd (mk m f) (a + i) := by simp [gd]
    rw [this, gd_mk f (by omega), gd_mk _ hi']
theorem mk_take (m a : Nat) (f : Nat → Nat) (h : a ≤ m) : (mk m f).take a = mk a f := by
  apply ext_gd
  · simp; omega
  · intro i hi
    have hi' : i < a := by simp at hi; omega
    have : gd ((mk m f).take a) i = gd (mk m f) i := by simp [gd, hi']
    rw [this, gd_mk f (by omega), gd_mk _ hi']
theorem strm_drop (k n : List Nat) (p m a : Nat) : (strm k n p m).drop a = strm k n (p + a) (m - a) := by
  unfold strm
  rw [mk_drop]
  simp only [Nat.add_assoc]
theorem strm_take (k n : List Nat) (p m a : Nat) (h : a ≤ m) : (strm k n p m).take a = strm k n p a := mk_take _ _ _ h
/-- The part asked for, of the blocks made. -/
theorem strm_part (k n : List Nat) (p m j : Nat) (h : p % 16 + m ≤ 16 * j) : ((strm k n (16 * (p / 16)) (16 * j)).drop (p % 16)).take m = strm k n p m := by
  rw [strm_drop, strm_take _ _ _ _ _ (by omega), show 16 * (p / 16) + p % 16 = p from by omega]
/-- What is crypted. -/
def crypt (k n l : List Nat) : List Nat := xorl (strm k n 0 l.length) l
@[simp] theorem crypt_length (k n l : List Nat) : (crypt k n l).length = l.length := by rw [crypt, xorl_length (by simp)]; simp
theorem crypt_lt {k n l : List Nat} (bk : ∀ b ∈ k, b < 256) (bn : ∀ b ∈ n, b < 256) (bl : ∀ b ∈ l, b < 256) : ∀ b ∈ crypt k n l, b < 256 := xorl_lt (strm_lt bk bn _ _) bl
theorem gd_crypt (k n l : List Nat) {i : Nat} (h : i < l.length) : gd (crypt k n l) i = sby k n i ^^^ gd l i := by
  rw [crypt, gd_xorl (by simp) (by simpa using h), strm, gd_mk _ h, Nat.zero_add]
theorem crypt_twice (k n l : List Nat) : crypt k n (crypt k n l) = l := by
  apply ext_gd
  · simp
  · intro i hi
    have hi' : i < l.length := by simpa using hi
    rw [gd_crypt _ _ _ (by simpa using hi'), gd_crypt _ _ _ hi', ← Nat.xor_assoc, Nat.xor_self, Nat.zero_xor]
theorem gd_take {l : List Nat} {a i : Nat} (h : i < a) : gd (l.take a) i = gd l i := by simp [gd, h]
theorem crypt_take (k n l : List Nat) (a : Nat) (h : a ≤ l.length) : crypt k n (l.take a) = (crypt k n l).take a := by
  apply ext_gd
  · simp
  · intro i hi
    have hi' : i < a := by simp at hi; omega
    rw [gd_crypt _ _ _ (by simp; omega), gd_take hi', gd_take hi', gd_crypt _ _ _ (by omega)]
theorem crypt_zeros (k n : List Nat) (m : Nat) : crypt k n (List.replicate m 0) = strm k n 0 m := by
  apply ext_gd
  · simp
  · intro i hi
    have hi' : i < m := by simpa using hi
    rw [gd_crypt _ _ _ (by simpa using hi'), strm, gd_mk _ hi', Nat.zero_add]
    have : gd (List.replicate m 0) i = 0 := by simp [gd, hi']
    rw [this, Nat.xor_zero]
end Go.Proofs.PlainAes

/- Contracts of package ctr: Stream. -/
namespace Go.Proofs.Ytlifpmglaoppoaa
open Go.RowKit
open Go.Proofs.PlainAes

/-- A new row of the call's own, and no error. -/
def RetOK (l : List Nat) (w : World) (e : Ending) (w' : World) : Prop := ∃ v, e = .returned (.tuple #[v, .int .i64 0]) ∧ w'.ownsRow w.heap.size 5 1 v l.length (bv l) ∧ Below w.heap.size w w'
set_option maxRecDepth 100000 in
set_option maxHeartbeats 2000000 in
theorem stream_any (k n : List Nat) (p m : Nat) (w : World) (hk : k.length = 32) (bk : Byt k) (hn : n.length = 12) (bn : Byt n) (hp : (p : Int) ≤ 65536) (hm : (m : Int) ≤ 65536) :
    Calls Try.prog 23 #[.agg (bv k).toArray, .agg (bv n).toArray, .int .i64 (p : Int), .int .i64 (m : Int)] w (RetOK (strm k n p m) w) := by
  obtain ⟨i0, hi, hz0, hz1, hz2⟩ := info_parts (P := Try.prog) (e := 5) (z := .int .u8 0) (size := 1) (bytes := 1) (by kernel_rfl)
  have hbk := Lib.hid (fun i w hi => block_any k n i w hk bk hn bn hi)
  have hstep := Lib.hid (fun q j => strm_block hk hn q j)
  have hpart := Lib.hid (fun j h => strm_part k n p m j h)
  have hkl := Lib.hid (show (bv k).length = 32 by simp [hk])
  have hnl := Lib.hid (show (bv n).length = 12 by simp [hn])
  have hsl := Lib.hid (fun i => show (bv (sblk k n i)).length = 16 by simp [sblk_length hk hn])
  have hmk : ∀ w, (Instr.makeSlice 22 (.int .i64 0) (.int .i64 ((m : Int) + 32))).run Try.prog w = .ok (.slice (some ⟨w.heap.size, 0, none⟩) 0 (m + 32)) (w.alloc (.cells (madeCells #[.int .u8 0] (m + 32)) 5)) := by
    intro w
    have := run_make (P := Try.prog) w 22 5 i0 (.int .u8 0) Try.underlying22 hi hz0 .i64 .i64 0 ((m : Int) + 32) (by omega) (by omega) (by rw [hz2]; omega) (by omega)
    rw [hz1, Nat.mul_one, show ((m : Int) + 32).toNat = m + 32 from by omega] at this
    exact this
  have q1 : (p : Int) % 16 = ((p % 16 : Nat) : Int) := by omega
  have q2 : (p : Int) / 16 = ((p / 16 : Nat) : Int) := by omega
  have hsk : ((p % 16 : Nat) : Int) ≤ 15 := by omega
  have hq : ((p / 16 : Nat) : Int) ≤ 4096 := by omega
  clear hk bk hn bn
  generalize hS : p % 16 = sk at *
  generalize hQ : p / 16 = q at *
  clear hS hQ
  go_enter Try.func23, Try.ntmps23
  go_wp2
  simp only [q1]
  go_loopw [10, 12] (fun s i wr => ∃ j g c : Nat, i = .int .u32 ((q : Int) + (j : Int)) ∧ s = .slice (some ⟨g, 0, none⟩) (16 * j) c ∧ 16 ≤ c ∧ 16 * j ≤ c ∧ c ≤ maxLen ∧ (16 * j : Int) ≤ (sk : Int) + m + 15 ∧
    wr.ownsRow (w.heap.size + 2) 5 1 s (16 * j) (bv (strm k n (16 * q) (16 * j))) ∧ Blk wr w.heap.size 25 (bv k) ∧ Blk wr (w.heap.size + 1) 65 (bv n) ∧ Below w.heap.size w wr) (fun _ i _ => 100000 - (intOf i).toNat)
  case atStart =>
    refine ⟨0, w.heap.size + 1 + 1, m + 32, by simp, rfl, by omega, by omega, by simp [maxLen]; omega, by omega, ?_, ?_, ?_, ?_⟩
    · have := World.ownsRow_made (base := w.heap.size + 2) (e := 5) (size := 1) ((w.alloc (.cells (bv k).toArray 25)).alloc (.cells (bv n).toArray 65)) (madeCells #[.int .u8 0] (m + 32)) (m + 32) (by simp) (by simp [maxLen]; omega) (by simp [madeCells])
      simpa [strm, mk, bv] using this
    · exact ((Blk.new_at (w := w) (t := 25) (cs := (bv k).toArray) rfl rfl).alloc _).alloc _
    · exact (Blk.new_at (w := w.alloc (.cells (bv k).toArray 25)) (t := 65) (cs := (bv n).toArray) (by simp) rfl).alloc _
    · exact (((Below.refl _ _).alloc (Nat.le_refl _) _).alloc (by simp) _).alloc (by simp; omega) _
  case round =>
    obtain ⟨j, g, c, rfl, rfl, hc1, hc2, hc3, hj, own, h4, h5, hB⟩ := hrel
    by_cases hlt : (16 * j : Int) < (sk : Int) + m
    · have hst := Lib.hid (hstep.out q j)
      have hsl := Lib.hid (hsl.out (q + j))
      have hbk := Lib.hid (fun w => hbk.out (q + j) w (by omega))
      have hLl : (strm k n (16 * q) (16 * j)).length = 16 * j := strm_length _ _ _ _
      generalize strm k n (16 * q) (16 * j) = L at *
      generalize sblk k n (q + j) = S at *
      have e1 : ((q + j : Nat) : Int) = (q : Int) + (j : Int) := by omega
      rw [e1] at hbk
      have own := Lib.hid own
      have hLl := Lib.hid hLl
      have hc := Lib.hid (And.intro hc1 (And.intro hc2 hc3))
      clear e1 hc1 hc2 hc3
      go_wp2_with (first
        | refine wpList_loadW rfl 25 (.tmp 4) rfl 32 arrK _ rfl 25 _ h4 hkl.out ?_
        | refine wpList_loadW rfl 65 (.tmp 5) rfl 12 arrN _ rfl 65 _ h5 hnl.out ?_
        | (go_at_call 37; refine (hbk.out _).mono ?_; rintro e w2 ⟨rfl, hB2⟩)
        | refine wpList_allocA rfl 72 rfl (bv (zeros 16)) (by kernel_rfl) ?_)
      intro w3 h3 hK3 hz3
      have hg3 : w.heap.size + 1 < w2.heap.size := by have := h5.lt; have := hB2.size; omega
      have hB3 : Below wr.heap.size wr w3 := hB2.trans (hK3.below hB2.size (by simp))
      have hg4 : wr.heap.size ≤ w2.heap.size := hB2.size
      clear hK3 hB2
      generalize w2.heap.size = g3 at *
      go_wp2_with (refine wpList_storeW rfl 72 (.tmp 13) (.tmp 47) rfl 16 arrB g3 rfl (bv S) rfl 72 _ h3 hsl.out (by simp) (ones_bv _) ?_)
      intro w4 h6 hK4
      have hB4 : Below wr.heap.size wr w4 := hB3.trans (hK4.below hB3.size (by simp; omega))
      have own4 := own_keep own.out hB4
      have sl4 : Sl w4 (.slice (some ⟨g3, 0, none⟩) 16 16) (bv S) := by
        have := Sl.of_blk (n := 16) (c := 16) h6 (Nat.le_refl _) (by rw [hsl.out]; exact Nat.le_refl _) (by unfold maxLen; omega)
        rwa [List.take_of_length_le (by rw [hsl.out]; exact Nat.le_refl _)] at this
      have h4' := h4.keep hB4
      have h5' := h5.keep hB4
      have hB5 := below_call hB hB.size hB4
      have hz4 : w.heap.size + 2 ≤ w4.heap.size := by have := h5'.lt; omega
      clear hK4 hB4 hB3 h3 own h4 h5 hB
      go_wp2_with (at_builtin; refine wpList_append_sl rfl (.tmp 48) (.tmp 49) 22 rfl (w.heap.size + 2) 5 i0 (.int .u8 0) 1 Try.underlying22 hi hz0 hz1 hz2 rfl _ _ _ rfl own4 _ (bv S) rfl sl4 (bv_oneCell S) ?_ ?_ hz4 ?_)
      · rw [hsl.out]; unfold maxLen; omega
      · rw [hsl.out]; omega
      intro v' w5 own5 gr5
      have hB6 := own_below (Below.refl (w.heap.size + 2) w4) gr5 own4 hz4
      rw [show S.length = 16 from by have := hsl.out; rwa [bv_length] at this, show bv L ++ bv S = bv (strm k n (16 * q) (16 * (j + 1))) from by rw [← hst.out]; simp [bv], show 16 * j + 16 = 16 * (j + 1) from by omega] at own5
      have h4 := h4'.below hB6 (by omega)
      have h5 := h5'.below hB6 (by omega)
      have hB := hB5.trans (hB6.mono (by omega))
      obtain ⟨g', c', rfl, f1, f2⟩ := own_form own5 (by omega)
      clear gr5 own4 h4' h5' hB5 hB6
      have own5 := Lib.hid own5
      go_wp2
      go_roundw
      case rel =>
        refine ⟨j + 1, g', c', ?_, rfl, by omega, f1, f2, by omega, own5.out, h4, h5, hB⟩
        go_num
      case measure => simp [intOf]; omega
    · have hpt := hpart.out j (by omega)
      have sl := own_part own sk m (by omega) hc3 hc2
      rw [show ((bv (strm k n (16 * q) (16 * j))).drop sk).take m = bv (strm k n p m) from by rw [← hpt]; simp [bv]] at sl
      have hcl := Lib.hid (clone_any ⟨g, sk, none⟩ m (c - sk) (strm k n p m) wr sl (by rw [strm_length]; omega))
      have hll : (strm k n p m).length = m := strm_length _ _ _ _
      have hll := Lib.hid hll
      clear hpt own sl
      generalize strm k n p m = T at *
      go_wp2_with fail
      refine hcl.out.mono ?_
      rintro e w6 ⟨v, rfl, own6, hB6⟩
      have own6 := Lib.hid (ownsRow_mono own6 hB.size)
      have hB7 := below_call hB hB.size hB6
      go_wp2
      go_returns
      exact ⟨v, rfl, own6.out, hB7⟩
end Go.Proofs.Ytlifpmglaoppoaa

/- Contracts of package ctr: Crypt; of the statements' own example. -/
namespace Go.Proofs.Ytlifpmglaoppoaa
open Go.RowKit
open Go.Proofs.PlainAes

set_option maxRecDepth 100000 in
set_option maxHeartbeats 2000000 in
theorem crypt_core (k n l : List Nat) (A : Option Addr) (len cap : Nat) (w : World) (hlen : len = l.length) (hk : k.length = 32) (bk : Byt k) (hn : n.length = 12) (bn : Byt n) (bl : Byt l) (hl : (l.length : Int) ≤ 65536) (hs : Sl w (.slice A len cap) (bv l)) :
    Calls Try.prog 30 #[.agg (bv k).toArray, .agg (bv n).toArray, .slice A len cap] w (RetOK (crypt k n l) w) := by
  have hst := Lib.hid (fun w => stream_any k n 0 l.length w hk bk hn bn (by omega) hl)
  have hkl := Lib.hid (show (bv k).length = 32 by simp [hk])
  have hnl := Lib.hid (show (bv n).length = 12 by simp [hn])
  have Bs := Lib.hid (show Byt (strm k n 0 l.length) from strm_lt bk bn _ _)
  have Hs := Lib.hid (show (strm k n 0 l.length).length = l.length from strm_length _ _ _ _)
  have hC : crypt k n l = xorl (strm k n 0 l.length) l := rfl
  rw [hC]
  have hs' := hs
  clear hk bk hn bn hC
  generalize strm k n 0 l.length = S at *
  have Hx := Lib.hid (show (xorl S l).length = l.length by rw [xorl_length Hs.out, Hs.out])
  have Bl := Lib.hid bl
  clear bl
  generalize hm : l.length = m at *
  subst hlen
  replace hm := Lib.hid hm
  replace hs := Lib.hid hs
  clear hs'
  have k0 := (Blk.new_at (w := w) (t := 25) (cs := (bv k).toArray) rfl rfl).alloc (.cells (bv n).toArray 65)
  have n0 := Blk.new_at (w := w.alloc (.cells (bv k).toArray 25)) (n := w.heap.size + 1) (t := 65) (cs := (bv n).toArray) (by simp) rfl
  have hB0 : Below w.heap.size w ((w.alloc (.cells (bv k).toArray 25)).alloc (.cells (bv n).toArray 65)) := ((Below.refl _ _).alloc (Nat.le_refl _) _).alloc (by simp) _
  simp only [List.size_toArray] at k0 n0 
  go_enter Try.func30, Try.ntmps30
  go_wp2_with (first
    | refine wpList_loadW rfl 25 (.tmp 3) rfl 32 arrK _ rfl 25 _ k0 hkl.out ?_
    | refine wpList_loadW rfl 65 (.tmp 4) rfl 12 arrN _ rfl 65 _ n0 hnl.out ?_
    | (go_at_call 23; refine (hst.out _).mono ?_; rintro e w2 ⟨v, rfl, own, hB2⟩; rw [Hs.out] at own; obtain ⟨A2, c2, hv, hv2, hv3, -⟩ := Sl.of_own own; rw [show (bv S).length = len from by rw [bv_length, Hs.out]] at hv hv2; subst hv; replace own := Lib.hid (ownsRow_mono own (b' := w.heap.size) (by simp; omega)); replace hB2 := below_call hB0 hB0.size hB2))
  go_loopw [24] (fun i wr => ∃ j : Nat, j ≤ len ∧ i = .int .i64 (j : Int) ∧ wr.ownsRow w.heap.size 5 1 (.slice A2 len c2) len (bv (upd (xorl S l) S j)) ∧ Below w.heap.size w wr) (fun i _ => len - (intOf i).toNat)
  case atStart => exact ⟨0, Nat.zero_le _, rfl, by rw [upd_zero]; exact own.out, hB2⟩
  case round =>
    clear own hB2 k0 n0 hB0
    obtain ⟨j, hj, rfl, own, hB⟩ := hrel
    by_cases hlt : (j : Int) < len
    · obtain ⟨g, c', e, -, -⟩ := own_form own (by omega)
      cases e
      have c1 := own.cellAt j (by omega)
      have f1 := own.frozenAt j
      obtain ⟨x, hx⟩ := get_lt (l := S) (k := j) (by have := Hs.out; omega)
      obtain ⟨y, hy⟩ := get_lt (l := l) (k := j) (by have := hm.out; omega)
      rw [bv_get, upd_get (by have := Hs.out; have := Hx.out; omega) (Nat.le_refl _) (by have := Hs.out; omega), hx] at c1
      simp only [Option.map_some] at c1
      obtain ⟨A', cc, e', -, -, hce⟩ := hs.out.keep (hB.mono (Nat.le_refl _))
      obtain ⟨g2, o2, e2, hcell⟩ := hce (by rw [bv_length, hm.out]; omega)
      have eA : A = some ⟨g2, o2, none⟩ := by rw [← e2]; injection e'
      subst eA
      clear e' e2
      have c2 := hcell j _ (bv_some hy)
      obtain ⟨hxy, hl2⟩ := x8 (Bs.out.get hx) (Bl.out.get hy)
      have hst := (own.stored j (.int .u8 ((x ^^^ y : Nat) : Int)))
      rw [bv_set, upd_set (by have := Hs.out; have := Hx.out; omega) (by have := Hs.out; omega) (xorl_get hx hy)] at hst
      have hst := Lib.hid hst
      have own := Lib.hid own
      clear hx hy hcell hce
      go_wp2
      go_still_tail 10, (by kernel_rfl)
      change wpList _ _ _ _ _ wr.drew
      go_wp2
      go_roundw
      case rel =>
        refine ⟨j + 1, by omega, by go_num, hst.out.1, ?_⟩
        exact hB.drew.setCell (by simp; have := (own.out.lt g rfl).1; omega) _
      case measure => simp [intOf]; omega
    · obtain rfl : j = len := by omega
      rw [upd_all (by rw [Hx.out]) (by rw [Hs.out])] at own
      replace own := Lib.hid own
      go_wp2
      go_returns
      exact ⟨_, rfl, by rw [Hx.out]; exact own.out, hB⟩
theorem crypt_any (k n l : List Nat) (v : Value) (w : World) (hk : k.length = 32) (bk : Byt k) (hn : n.length = 12) (bn : Byt n) (bl : Byt l) (hl : (l.length : Int) ≤ 65536) (hs : Sl w v (bv l)) :
    Calls Try.prog 30 #[.agg (bv k).toArray, .agg (bv n).toArray, v] w (RetOK (crypt k n l) w) := by
  obtain ⟨A, c, rfl, _⟩ := id hs
  exact crypt_core k n l A _ c w (bv_length l) hk bk hn bn bl hl hs
end Go.Proofs.Ytlifpmglaoppoaa
