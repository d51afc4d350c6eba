/- Contracts of package mac: the closure of Mac. -/
import Derived.Test.YthlebobfbalknaaMacA
import Derived.Test.YthlebobfbalknaaShK

set_option linter.unusedVariables false
set_option linter.unusedSimpArgs false
namespace Go.Proofs.Ythlebobfbalknaa
open Go.RowKit
open Go.Proofs.PlainAes
open Go.Proofs.PlainSha
open Go.Proofs.PlainMac

theorem x8m {a b : Nat} (ha : a < 256) (hb : b < 256) : bits .xor .u8 (a : Int) (b : Int) = ((a ^^^ b : Nat) : Int) ∧ a ^^^ b < 256 := ⟨u8_xor_nat a b ha hb, xor_lt ha hb⟩
@[simp] theorem xk_len (K : List Nat) (b : Nat) : (xk K b).length = K.length := by simp [xk]
theorem xk_get {K : List Nat} {b k : Nat} (hk : k < K.length) : (xk K b)[k]? = some (gd K k ^^^ b) := by
  simp [xk, gd_get hk]
theorem xk_byt {K : List Nat} {b : Nat} (h : Byt K) (hb : b < 256) : Byt (xk K b) := by
  intro x hx
  simp only [xk, List.mem_map] at hx
  obtain ⟨a, ha, rfl⟩ := hx
  exact xor_lt (h a ha) hb

set_option maxRecDepth 100000 in
set_option maxHeartbeats 2000000 in
theorem under_core (by_ : Nat) (K m : List Nat) (g n c : Nat) (A : Option Addr) (w : World) (hk : Blk w g 45 (bv K)) (hKl : K.length = 64) (bK : Byt K) (hb8 : (by_ : Int) ≤ 255) (hs : Sl w (.slice A n c) (bv m)) (bm : Byt m) (hlen : (m.length : Int) ≤ 549755813888) :
    Calls Try.prog 20 #[.int .u8 (by_ : Int), .slice A n c, .pointer (some ⟨g, 0, none⟩)] w (RetH (shaL (xk K by_ ++ m)) w) := by
  have hnew := Lib.hid (fun w => new_any w)
  have hbx : Byt (xk K by_) := xk_byt bK (by omega)
  have hwr1 := Lib.hid (fun B g v w h a d => write_any [] (xk K by_) B g v none w h a (by intro x hx; simp at hx) hbx (by simp; omega) d)
  have hwr2 := Lib.hid (fun B g r v w h a d => write_any (xk K by_) m B g v r w h a hbx bm (by simp; omega) d)
  have hsm := Lib.hid (fun B g r w h => sum_any (xk K by_ ++ m) B g r w h (by intro x hx; rcases List.mem_append.1 hx with h | h; exact hbx x h; exact bm x h) (by simp; omega))
  have hsep : Hid (0 < m.length → ∀ a n' c', Value.slice A n c = .slice (some a) n' c' → a.block < w.heap.size) := fun hp a n' c' e => Sl.lt hs (by simpa using hp) e
  have Hs := Lib.hid hs
  have hgk := hk.lt
  have HKl := Lib.hid hKl
  have Hkl := Lib.hid (show (bv K).length = 64 by simp [hKl])
  have hXl := Lib.hid (show (xk K by_).length = K.length from xk_len K by_)
  have hXg := Lib.hid (fun k (hk : k < 64) => xk_get (b := by_) (show k < K.length by omega))
  have bKg := Lib.hid (fun k => gd_lt bK k)
  have hHl := Lib.hid (show (bv (shaL (xk K by_ ++ m))).length = 32 by simp [shaL_len])
  clear hs bm hKl bK hbx
  generalize hXe : xk K by_ = X at *
  clear hXe
  go_enter Try.func20, Try.ntmps20
  go_wp2_with (refine wpList_allocA rfl 25 rfl (bv (zeros 32)) (by kernel_rfl) ?_)
  intro w1 ho1 hK1 hz1
  have hB1 := hK1.below (Nat.le_refl _) (by simp)
  have hk1 := hk.keeps hK1 (by simp)
  clear hK1 hk
  go_wp2_with fail
  refine (hnew.out _).mono ?_
  rintro e w2 ⟨g6, rfl, hh, hB2⟩
  have hgl := hh.lt
  have ho2 := ho1.keep hB2
  have hk2 := hk1.keep hB2
  have hB2' := below_call hB1 hB1.size hB2
  have hol := ho2.lt
  have h16 : w1.heap.size = w.heap.size + 1 := by simpa using hz1
  clear hz1 ho1 hk1 hB1 hB2
  go_wp2_with (first
    | (refine wpList_loadW rfl 45 (.tmp 2) rfl 64 arr64b g rfl 45 _ hk2 Hkl.out ?_)
    | (refine wpList_allocA rfl 45 rfl (bv (zeros 64)) (by kernel_rfl) ?_))
  intro w3 h3 hK3 hz3
  have ho3 := ho2.keeps hK3 (by simp)
  have hh3 := hh.keeps hK3 (by simp) (by simp)
  have hB3 := hB2'.trans (hK3.below hB2'.size (by simp))
  have hg6 : g6 < w2.heap.size := hgl.2
  have hg1 := hgl.1
  clear hK3 ho2 hk2 hh hB2' hz3 hgl
  generalize w2.heap.size = g7 at *
  go_wp2_with (refine wpList_storeW rfl 45 (.tmp 7) (.tmp 12) rfl 64 arr64b g7 rfl (bv K) rfl 45 _ h3 Hkl.out (by simp) (ones_bv _) ?_)
  intro w4 h4 hK4
  have ho4 := ho3.keeps hK4 (by simp; omega)
  have hh4 := hh3.keeps hK4 (by simp; omega) (by simp)
  have hB4 := hB3.trans (hK4.below hB3.size (by simp; omega))
  have hg7 := h4.lt
  clear hK4 h3 ho3 hh3 hB3
  go_wp2
  go_loopw [13] (fun i wr => ∃ k : Nat, (k : Int) ≤ 64 ∧ i = .int .i64 (k : Int) ∧ Blk wr g7 45 (bv (upd X K k)) ∧ Keeps [g7] w4 wr) (fun i _ => 64 - (intOf i).toNat)
  case atStart => exact ⟨0, by omega, rfl, by rw [upd_zero]; exact h4, Keeps.refl _ _⟩
  case round =>
    clear h4
    obtain ⟨k, hk, rfl, hx, hK⟩ := hrel
    by_cases hlt : (k : Int) < 64
    · have c0 := hx.cell k
      rw [bv_get, upd_get (by rw [hXl.out]) (Nat.le_refl _) (by rw [HKl.out]; omega), gd_get (by rw [HKl.out]; omega)] at c0
      simp only [Option.map_some] at c0
      have f0 := hx.frozen k
      have HS := Lib.hid (upd_set (new := X) (old := K) (k := k) (by rw [hXl.out]) (by rw [HKl.out]; omega) (hXg.out k (by omega)))
      have l1 := bKg.out k
      have q1 := (x8m l1 (show by_ < 256 by omega)).1
      generalize gd K k = x at *
      clear l1
      go_wp2
      go_roundw
      case rel =>
        refine ⟨k + 1, by omega, by go_num, ?_, hK.setCell (by simp) _⟩
        rw [← HS.out, ← bv_set]
        exact hx.set_ k _
      case measure => simp [intOf]; omega
    · obtain rfl : k = 64 := by omega
      rw [upd_all (by rw [hXl.out, HKl.out]) HKl.out] at hx
      have ho5 := ho4.keeps hK (by simp; omega)
      have hh5 := hh4.keeps hK (by simp; omega) (by simp)
      have hB5 := hB4.trans (hK.below hB4.size (by simp; omega))
      have sl5 : Sl wr (.slice (some ⟨g7, 0, none⟩) 64 64) (bv X) := by
        have h := Sl.of_blk hx (show 64 ≤ 64 from Nat.le_refl _) (by rw [bv_length, hXl.out, HKl.out]; exact Nat.le_refl _) (by unfold maxLen; omega)
        rw [List.take_of_length_le (by rw [bv_length, hXl.out, HKl.out]; exact Nat.le_refl _)] at h
        exact h
      have hw1 := Lib.hid (hwr1.out _ _ _ wr hh5 sl5 (fun _ a n c e => ⟨by injection e with e; injection e with e; rw [← e]; show g7 ≠ g6; omega, by simp⟩))
      have hg7w : g7 < wr.heap.size := hx.lt
      clear ho4 hh4 hB4 hK hh5 sl5 hx
      go_wp2_with fail
      refine hw1.out.mono ?_
      rintro e w6 ⟨rfl, r6, hh6, hK6, hm6⟩
      have hr6 := hh6.row
      have ho6 := ho5.keeps hK6 (by simp; omega)
      have hB6 := hB5.trans (hK6.below hB5.size (by simp; omega))
      have hne : ∀ k, k < w.heap.size → r6 ≠ some k := fun k hk e => by have := (hr6 k e).1; omega
      have hno : r6 ≠ some w.heap.size := fun e => by have := (hr6 _ e).1; omega
      have hw2 := Lib.hid (hwr2.out _ _ _ _ w6 hh6 (Hs.out.keep hB6) (fun hp a n c e => ⟨by have := hsep.out hp a n c e; omega, hne _ (hsep.out hp a n c e)⟩))
      clear hw1 hK6 hm6 hh6 hB5 ho5
      go_wp2_with fail
      refine hw2.out.mono ?_
      rintro e w7 ⟨rfl, r7, hh7, hK7, hm7⟩
      have ho7 := ho6.keeps hK7 (by
        simp only [List.mem_cons, Option.mem_toList, not_or]
        exact ⟨by omega, hno⟩)
      have hB7 := hB6.trans (hK7.belowH hB6.size (by omega) (fun k hk => by have := (hr6 k hk).1; omega))
      have hsm7 := Lib.hid (hsm.out _ _ _ w7 hh7)
      clear hw2 hK7 hm7 hh7 hB6 ho6 hr6 hne hno
      go_wp2_with fail
      refine hsm7.out.mono ?_
      rintro e w8 ⟨rfl, hB8⟩
      have ho8 := ho7.keep hB8
      have hB8' := below_call hB7 hB7.size hB8
      clear hsm7 hB8 hB7 ho7
      generalize shaL (X ++ m) = O at *
      go_wp2_with (refine wpList_allocA rfl 25 rfl (bv (zeros 32)) (by kernel_rfl) ?_)
      intro w9 hx9 hK9 hz9
      have ho9 := ho8.keeps hK9 (by simp)
      have hB9 := hB8'.trans (hK9.below hB8'.size (by simp))
      have hg9 := ho8.lt
      clear hK9 ho8 hB8' hz9
      generalize w8.heap.size = g9 at *
      go_wp2_with (refine wpList_storeW rfl 25 (.tmp 9) (.tmp 32) rfl 32 arrH g9 rfl (bv O) rfl 25 _ hx9 hHl.out (by simp) (ones_bv _) ?_)
      intro w10 hx10 hK10
      have ho10 := ho9.keeps hK10 (by simp; omega)
      have hB10 := hB9.trans (hK10.below hB9.size (by simp; omega))
      clear hK10 hx9 ho9 hB9
      go_wp2_with (first | refine wpList_loadW rfl 25 (.tmp 9) rfl 32 arrH _ rfl 25 _ hx10 hHl.out ?_ | refine wpList_storeW rfl 25 (.tmp 5) (.tmp 34) rfl 32 arrH _ rfl (bv O) rfl 25 _ ho10 hHl.out (by simp) (ones_bv _) ?_)
      intro w11 ho11 hK11
      go_wp2
      exact bodyPost_ret (v := .agg (bv O).toArray) (res_cell Try.results20 _ _ _ 25 _ arrH hHl.out rfl ho11) rfl ⟨rfl, hB10.trans (hK11.below hB10.size (by simp))⟩
theorem under_any (by_ : Nat) (K m : List Nat) (g : Nat) (v : Value) (w : World) (hk : Blk w g 45 (bv K)) (hKl : K.length = 64) (bK : Byt K) (hb8 : (by_ : Int) ≤ 255) (hs : Sl w v (bv m)) (bm : Byt m) (hlen : (m.length : Int) ≤ 549755813888) :
    Calls Try.prog 20 #[.int .u8 (by_ : Int), v, .pointer (some ⟨g, 0, none⟩)] w (RetH (shaL (xk K by_ ++ m)) w) := by
  obtain ⟨A, c, rfl, _⟩ := id hs
  exact under_core by_ K m g _ c A w hk hKl bK hb8 hs bm hlen
end Go.Proofs.Ythlebobfbalknaa
