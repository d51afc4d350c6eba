/- Contracts of package sha: mix, spread. -/
import Derived.Test.YthlebobfbalknaaShW
import Derived.Test.YthlebobfbalknaaOwn
import Derived.Test.YthlebobfbalknaaNumC
import Derived.Test.YthlebobfbalknaaNumE
set_option linter.unusedVariables false
set_option linter.unusedSimpArgs false
namespace Go.Proofs.Ythlebobfbalknaa
open Go.RowKit
open Go.Proofs.PlainAes
open Go.Proofs.PlainSha

theorem turnR (x a : Nat) (ni : Int) (hx : x < 4294967296) (e : ni = -(a : Int)) (h1 : 1 ≤ a) (h2 : a ≤ 31) (w : World) : Calls Try.prog 57 #[.int .u32 (x : Int), .int .i64 ni] w fun e w' => e = .returned (.int .u32 (turn x (32 - a) : Nat)) ∧ w = w' := by
  subst e
  have h := turn_any x (-(a : Int)) w hx (by omega) (by omega)
  rw [show (-(a : Int) % 32).toNat = 32 - a from by omega] at h
  exact h

set_option maxHeartbeats 400000 in
theorem mix_any (x a b c : Nat) (hx : x < 4294967296) (a1 : 1 ≤ a) (a2 : a ≤ 31) (b1 : 1 ≤ b) (b2 : b ≤ 31) (c1 : 1 ≤ c) (c2 : c ≤ 31) (w : World) :
    Calls Try.prog 45 #[.int .u32 (x : Int), .int .i64 (a : Int), .int .i64 (b : Int), .int .i64 (c : Int)] w fun e w' => e = .returned (.int .u32 (mixW x (32 - a) (32 - b) (32 - c) : Nat)) ∧ w = w' := by
  have h1 := Lib.hid (fun w => turnR x a _ hx rfl a1 a2 w)
  have h2 := Lib.hid (fun w => turnR x b _ hx rfl b1 b2 w)
  have h3 := Lib.hid (fun w => turnR x c _ hx rfl c1 c2 w)
  have r1 := turn_lt (k := 32 - a) hx
  have r2 := turn_lt (k := 32 - b) hx
  have r3 := turn_lt (k := 32 - c) hx
  have E : Hid (turn x (32 - a) ^^^ turn x (32 - b) ^^^ turn x (32 - c) = mixW x (32 - a) (32 - b) (32 - c)) := rfl
  generalize mixW x (32 - a) (32 - b) (32 - c) = m at *
  generalize turn x (32 - a) = y1 at *
  generalize turn x (32 - b) = y2 at *
  generalize turn x (32 - c) = y3 at *
  obtain ⟨q1, z1⟩ := x32 r1 r2
  obtain ⟨q2, z2⟩ := x32 z1 r3
  have ba : (a : Int) ≤ 31 := by omega
  have bb : (b : Int) ≤ 31 := by omega
  have bc : (c : Int) ≤ 31 := by omega
  go_enter Try.func45, Try.ntmps45
  go_wp2_with fail
  refine (h1.out _).mono ?_
  rintro e w' ⟨rfl, rfl⟩
  go_wp2_with fail
  refine (h2.out _).mono ?_
  rintro e w' ⟨rfl, rfl⟩
  go_wp2_with fail
  refine (h3.out _).mono ?_
  rintro e w' ⟨rfl, rfl⟩
  go_wp2
  go_ret
  exact ⟨by rw [← E.out]; rfl, rfl⟩
theorem mix_at (x : Nat) (hx : x < 4294967296) (a b c : Int) (a' b' c' : Nat) (ea : a = 32 - (a' : Int)) (eb : b = 32 - (b' : Int)) (ec : c = 32 - (c' : Int)) (a1 : 1 ≤ a') (a2 : a' ≤ 31) (b1 : 1 ≤ b') (b2 : b' ≤ 31) (c1 : 1 ≤ c') (c2 : c' ≤ 31) (w : World) :
    Calls Try.prog 45 #[.int .u32 (x : Int), .int .i64 a, .int .i64 b, .int .i64 c] w fun e w' => e = .returned (.int .u32 (mixW x a' b' c' : Nat)) ∧ w' = w := by
  have h := mix_any x (32 - a') (32 - b') (32 - c') hx (by omega) (by omega) (by omega) (by omega) (by omega) (by omega) w
  rw [show 32 - (32 - a') = a' from by omega, show 32 - (32 - b') = b' from by omega, show 32 - (32 - c') = c' from by omega] at h
  rw [show a = ((32 - a' : Nat) : Int) from by omega, show b = ((32 - b' : Nat) : Int) from by omega, show c = ((32 - c' : Nat) : Int) from by omega]
  exact h.mono fun e w' h => ⟨h.1, h.2.symm⟩

theorem arr64w : ArrTy Try.prog 73 64 := ⟨_, Try.underlying73, rfl, by kernel_rfl⟩
/-- What a function that makes memory of its own answers: numbers of 32 bits. -/
def RetV (l : List Nat) (w : World) (e : Ending) (w' : World) : Prop := e = .returned (.agg (wv l).toArray) ∧ Below w.heap.size w w'
set_option maxRecDepth 100000 in
set_option maxHeartbeats 1000000 in
theorem spread_core (A : Option Addr) (c : Nat) (b : List Nat) (w : World) (hs : Sl w (.slice A 64 c) (bv b)) (hb : b.length = 64) (bb : Byt b) :
    Calls Try.prog 44 #[.slice A 64 c] w (RetV (spread b) w) := by
  have hg := Lib.hid (fun v i (w : World) (h : Sl w v (bv (seg b i 4))) => get_ok v (seg b i 4) w h (seg_lt bb _ _) (by simp [seg]; omega))
  have hn4 := Lib.hid (fun i => num4_lt bb i)
  have hlo := Lib.hid (fun i (h : i < 16) => spread_low b h)
  have hhi := Lib.hid (fun i (h16 : 16 ≤ i) (h : i < 64) => spread_high b h16 h)
  have hwd := Lib.hid (fun i => (spread_wds bb).gd i)
  have hsl := Lib.hid (spread_length b)
  have Hs := Lib.hid hs
  have Hb := Lib.hid hb
  have ht := Lib.hid (fun (x a : Nat) (ni : Int) hx e h1 h2 w => (turnR x a ni hx e h1 h2 w).mono (fun e w' h => And.intro h.1 h.2.symm))
  clear hb bb hs
  generalize spread b = S at *
  go_enter Try.func44, Try.ntmps44
  go_wp2_with (refine wpList_allocA rfl 73 rfl (wv (zeros 64)) (by kernel_rfl) ?_)
  intro w1 h1 hK1 hz1
  have hB1 := hK1.below (Nat.le_refl _) (by simp)
  clear hK1
  go_wp2
  go_loopw [9] (fun i wr => ∃ k : Nat, (k : Int) ≤ 16 ∧ i = .int .i64 (k : Int) ∧ Blk wr w.heap.size 73 (wv (upd S (zeros 64) k)) ∧ Below w.heap.size w wr) (fun i _ => 16 - (intOf i).toNat)
  case atStart => exact ⟨0, by omega, rfl, by rw [upd_zero]; exact h1, hB1⟩
  case round =>
    clear h1 hB1 hz1
    obtain ⟨k, hk, rfl, h1, hB⟩ := hrel
    by_cases hlt : (k : Int) < 16
    · obtain ⟨g, p, rfl, hp⟩ := (Hs.out.keep hB).part (4 * k) 4 (by decide) (by omega) (by simp [Hb.out])
      rw [show ((bv b).drop (4 * k)).take 4 = bv (seg b (4 * k) 4) from bv_seg b (4 * k) 4] at hp
      have hcI : (64 : Int) ≤ c := by have := Hs.out.cap; omega
      have hget := Lib.hid (hg.out _ _ wr hp)
      have hs := upd_set (new := S) (old := zeros 64) (k := k) (by simp [hsl.out]) (by simp; omega) (gd_get (by rw [hsl.out]; omega))
      rw [hlo.out k (by omega)] at hs
      have hlt4 := hn4.out (4 * k)
      have HS := Lib.hid hs
      have c0 := h1.cell k
      have f0 := h1.frozen k
      rw [wv_get, upd_get (by simp [hsl.out]) (Nat.le_refl _) (by simp; omega), zeros_get (by omega)] at c0
      simp only [Option.map_some] at c0
      clear hs hp
      generalize num (seg b (4 * k) 4) = z at *
      have hz : (z : Int) ≤ 4294967295 := by omega
      go_wp2_with fail
      refine hget.out.mono ?_
      rintro e w' ⟨rfl, rfl⟩
      go_wp2
      go_roundw
      case rel =>
        refine ⟨k + 1, by omega, by go_num, ?_, hB.setCell (by simp) _⟩
        rw [← HS.out, ← wv_set]
        exact h1.set_ k _
      case measure => simp [intOf]; omega
    · obtain rfl : k = 16 := by omega
      go_wp2
      go_loopw [6] (fun i wr => ∃ k : Nat, 16 ≤ (k : Int) ∧ (k : Int) ≤ 64 ∧ i = .int .i64 (k : Int) ∧ Blk wr w.heap.size 73 (wv (upd S (zeros 64) k)) ∧ Below w.heap.size w wr) (fun i _ => 64 - (intOf i).toNat)
      case atStart => exact ⟨16, by omega, by omega, rfl, h1, hB⟩
      case round =>
        clear h1 hB
        obtain ⟨k, hk16, hk, rfl, h1, hB⟩ := hrel
        by_cases hlt : (k : Int) < 64
        · have hs := upd_set (new := S) (old := zeros 64) (k := k) (by simp [hsl.out]) (by simp; omega) (gd_get (by rw [hsl.out]; omega))
          have HS := Lib.hid hs
          have cc : Hid (∀ j, j < k → wr.cell? ⟨w.heap.size, j, none⟩ = some (.int .u32 ((gd S j : Nat) : Int))) := fun j hj => by
            rw [h1.cell, wv_get, upd_get_new (by simp [hsl.out]) hj (by simp; omega), gd_get (by rw [hsl.out]; omega)]; rfl
          have c1 := cc.out (k - 15) (by omega)
          have c2 := cc.out (k - 2) (by omega)
          have c3 := cc.out (k - 16) (by omega)
          have c4 := cc.out (k - 7) (by omega)
          have c0 := h1.cell k
          have f0 := h1.frozen k
          rw [wv_get, upd_get (by simp [hsl.out]) (Nat.le_refl _) (by simp; omega), zeros_get (by omega)] at c0
          simp only [Option.map_some] at c0
          have hh := hhi.out k (by omega) (by omega)
          have l1 := hwd.out (k - 15)
          have l2 := hwd.out (k - 2)
          have l3 := hwd.out (k - 16)
          have l4 := hwd.out (k - 7)
          clear hs
          generalize gd S (k - 15) = x at *
          generalize gd S (k - 2) = y at *
          generalize gd S (k - 16) = p at *
          generalize gd S (k - 7) = q at *
          generalize gd S k = z at *
          have hk1 : (k : Int) - 15 < 64 := by omega
          have hk2 : (k : Int) - 2 < 64 := by omega
          have hk3 : (k : Int) - 16 < 64 := by omega
          have hk4 : (k : Int) - 7 < 64 := by omega
          have m1 : (0 : Int) ≤ (k : Int) - 15 := by omega
          have m2 : (0 : Int) ≤ (k : Int) - 2 := by omega
          have m3 : (0 : Int) ≤ (k : Int) - 16 := by omega
          have m4 : (0 : Int) ≤ (k : Int) - 7 := by omega
          have n1 : (15 : Int) ≤ (k : Int) := by omega
          have n2 : (2 : Int) ≤ (k : Int) := by omega
          have n4 : (7 : Int) ≤ (k : Int) := by omega
          have r1 := turn_lt (k := 25) l1
          have r2 := turn_lt (k := 14) l1
          have r3 := turn_lt (k := 15) l2
          have r4 := turn_lt (k := 13) l2
          have t1 := Lib.hid (fun w => ht.out x 7 (-7) l1 rfl (by decide) (by decide) w)
          have t2 := Lib.hid (fun w => ht.out x 18 (-18) l1 rfl (by decide) (by decide) w)
          have t3 := Lib.hid (fun w => ht.out y 17 (-17) l2 rfl (by decide) (by decide) w)
          have t4 := Lib.hid (fun w => ht.out y 19 (-19) l2 rfl (by decide) (by decide) w)
          have E0 : Hid (turn x 25 ^^^ turn x 14 ^^^ x / 8 = s0 x) := rfl
          have E1 : Hid (turn y 15 ^^^ turn y 13 ^^^ y / 1024 = s1 y) := rfl
          simp only [show 32 - 7 = 25 from rfl, show 32 - 18 = 14 from rfl, show 32 - 17 = 15 from rfl, show 32 - 19 = 13 from rfl] at t1 t2 t3 t4
          generalize turn x 25 = x1 at *
          generalize turn x 14 = x2 at *
          generalize turn y 15 = y1 at *
          generalize turn y 13 = y2 at *
          obtain ⟨q1, z1⟩ := x32 r1 r2
          obtain ⟨q2, z2⟩ := x32 z1 (show x / 8 < 4294967296 by omega)
          obtain ⟨q3, z3⟩ := x32 r3 r4
          obtain ⟨q4, z4⟩ := x32 z3 (show y / 1024 < 4294967296 by omega)
          rw [E0.out] at q2 z2
          rw [E1.out] at q4 z4
          generalize s0 x = sx at *
          generalize s1 y = sy at *
          obtain ⟨a1, g1, ga1, gb1⟩ := wrap32 p q
          obtain ⟨a2, g2, ga2, gb2⟩ := wrap32 a1 sx
          obtain ⟨a3, g3, ga3, gb3⟩ := wrap32 a2 sy
          have ez : Hid (z = a3) := hh.trans (sum4 gb1 gb2 gb3).symm
          clear hh gb1 gb2 gb3
          simp only [Int.natCast_ediv, Int.cast_ofNat_Int] at q2 q4
          go_wp2
          have b1 : IntKind.i64.wrap ((k : Int) - 15) = (k : Int) - 15 := IntWalk.i64_in _ (by omega)
          have b2 : IntKind.i64.wrap ((k : Int) - 2) = (k : Int) - 2 := IntWalk.i64_in _ (by omega)
          have d1 : ((k : Int) - 15).toNat = k - 15 := by omega
          have d2 : ((k : Int) - 2).toNat = k - 2 := by omega
          go_quiet (fail)
          clear b1 b2 d1 d2
          have c0 : (wr.drewN nq).cell? ⟨w.heap.size, k, none⟩ = some (.int .u32 ((0 : Nat) : Int)) := c0
          have c3 : (wr.drewN nq).cell? ⟨w.heap.size, k - 16, none⟩ = some (.int .u32 (p : Int)) := c3
          have c4 : (wr.drewN nq).cell? ⟨w.heap.size, k - 7, none⟩ = some (.int .u32 (q : Int)) := c4
          have f0 : (wr.drewN nq).frozen? ⟨w.heap.size, k, none⟩ = false := f0
          have h1 := h1.drewN nq
          have hB := below_drewN hB nq
          generalize wr.drewN nq = wr at *
          go_wp2
          have b1 : IntKind.i64.wrap ((k : Int) - 16) = (k : Int) - 16 := IntWalk.i64_in _ (by omega)
          have b2 : IntKind.i64.wrap ((k : Int) - 7) = (k : Int) - 7 := IntWalk.i64_in _ (by omega)
          have d1 : ((k : Int) - 16).toNat = k - 16 := by omega
          have d2 : ((k : Int) - 7).toNat = k - 7 := by omega
          go_still_tail 29, (by kernel_rfl)
          still_call (t1.out _)
          repeat still_step
          still_call (t2.out _)
          repeat still_step
          still_call (t3.out _)
          repeat still_step
          still_call (t4.out _)
          repeat still_step
          refine wpStill_nil ?_
          change wpList _ _ _ _ _ wr.drew
          clear b1 b2 d1 d2
          go_wp2
          go_roundw
          case rel =>
            refine ⟨k + 1, by omega, by omega, by go_num, ?_, (hB.setCell (by simp) _).drew⟩
            rw [← HS.out, ← wv_set, ez.out]
            exact (h1.set_ k _).drew
          case measure => simp [intOf]; omega
        · obtain rfl : k = 64 := by omega
          rw [upd_all hsl.out (by simp)] at h1
          have hxl := Lib.hid (show (wv S).length = 64 by simp [hsl.out])
          go_wp2_with (first | refine wpList_loadW rfl 73 (.tmp 2) rfl 64 arr64w _ rfl 73 _ h1 hxl.out ?_ | refine wpList_storeW rfl 73 (.tmp 2) (.tmp 69) rfl 64 arr64w _ rfl (wv S) rfl 73 _ h1 hxl.out hxl.out (ones_wv _) ?_)
          intro w' h4 hK
          go_wp2
          exact bodyPost_ret (v := .agg (wv S).toArray) (res_cell Try.results44 _ _ _ 73 _ arr64w hxl.out rfl h4) rfl ⟨rfl, hB.trans (hK.below hB.size (by simp))⟩
theorem spread_any (v : Value) (b : List Nat) (w : World) (hs : Sl w v (bv b)) (hb : b.length = 64) (bb : Byt b) :
    Calls Try.prog 44 #[v] w (RetV (spread b) w) := by
  obtain ⟨A, c, rfl, _⟩ := id hs
  rw [bv_length, hb] at hs ⊢
  exact spread_core A c b w hs hb bb
end Go.Proofs.Ythlebobfbalknaa
