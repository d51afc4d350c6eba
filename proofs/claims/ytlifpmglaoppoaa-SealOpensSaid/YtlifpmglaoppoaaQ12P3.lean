/- Several texts in one (written by mergetop.py): ShA ShB ShC ShD ShE ShF Rng Chk ShG ShH ShK CpS MacA MacB MacC SlS SlC DerA. -/
import Derived.Test.YtlifpmglaoppoaaShW
import Derived.Test.YtlifpmglaoppoaaOwn
import Derived.Test.YtlifpmglaoppoaaQ12P1
import Derived.Test.YtlifpmglaoppoaaReg
import Derived.Deep.LoopGhost
import Derived.Deep.Cut
import Derived.Test.YtlifpmglaoppoaaClo
import Derived.Test.YtlifpmglaoppoaaRegB
import Derived.Test.YtlifpmglaoppoaaCtrR0
import Derived.RangeFuncNested
import Derived.RangeFuncBound
import Derived.RangeFuncCalls
import Derived.RangeFuncLeaves
import Derived.OwnWalkIn
import Derived.TacticsInMore
import Derived.LoopNIn
import Derived.LoopIn
import Derived.Shelf.Abstract
import Derived.IntWalk
import Derived.Laws.ResultCell
import Derived.Test.YtlifpmglaoppoaaOwn2
import Derived.Test.YtlifpmglaoppoaaArrB
import Derived.Laws.IdiomCopy
import Derived.Test.YtlifpmglaoppoaaMacP
import Derived.Laws.IdiomStrings
import Derived.Lib.SmallJoins
set_option linter.unusedVariables false
set_option linter.unusedSimpArgs false

/- Contracts of package sha: mix, spread. -/
namespace Go.Proofs.Ytlifpmglaoppoaa
open Go.RowKit
open Go.Proofs.PlainAes
open Go.Proofs.PlainSha

theorem turnR (x a : Nat) (ni : Int) (hx : x < 4294967296) (e : ni = -(a : Int)) (h1 : 1 ≤ a) (h2 : a ≤ 31) (w : World) : Calls Try.prog 92 #[.int .u32 (x : Int), .int .i64 ni] w fun e w' => e = .returned (.int .u32 (turn x (32 - a) : Nat)) ∧ w = w' := by
  subst e
  have h := turn_any x (-(a : Int)) w hx (by omega) (by omega)
  rw [show (-(a : Int) % 32).toNat = 32 - a from by omega] at h
  exact h

set_option maxHeartbeats 400000 in
theorem mix_any (x a b c : Nat) (hx : x < 4294967296) (a1 : 1 ≤ a) (a2 : a ≤ 31) (b1 : 1 ≤ b) (b2 : b ≤ 31) (c1 : 1 ≤ c) (c2 : c ≤ 31) (w : World) :
    Calls Try.prog 74 #[.int .u32 (x : Int), .int .i64 (a : Int), .int .i64 (b : Int), .int .i64 (c : Int)] w fun e w' => e = .returned (.int .u32 (mixW x (32 - a) (32 - b) (32 - c) : Nat)) ∧ w = w' := by
  have h1 := Lib.hid (fun w => turnR x a _ hx rfl a1 a2 w)
  have h2 := Lib.hid (fun w => turnR x b _ hx rfl b1 b2 w)
  have h3 := Lib.hid (fun w => turnR x c _ hx rfl c1 c2 w)
  have r1 := turn_lt (k := 32 - a) hx
  have r2 := turn_lt (k := 32 - b) hx
  have r3 := turn_lt (k := 32 - c) hx
  have E : Hid (turn x (32 - a) ^^^ turn x (32 - b) ^^^ turn x (32 - c) = mixW x (32 - a) (32 - b) (32 - c)) := rfl
  generalize mixW x (32 - a) (32 - b) (32 - c) = m at *
  generalize turn x (32 - a) = y1 at *
  generalize turn x (32 - b) = y2 at *
  generalize turn x (32 - c) = y3 at *
  obtain ⟨q1, z1⟩ := x32 r1 r2
  obtain ⟨q2, z2⟩ := x32 z1 r3
  have ba : (a : Int) ≤ 31 := by omega
  have bb : (b : Int) ≤ 31 := by omega
  have bc : (c : Int) ≤ 31 := by omega
  go_enter Try.func74, Try.ntmps74
  go_wp2_with fail
  refine (h1.out _).mono ?_
  rintro e w' ⟨rfl, rfl⟩
  go_wp2_with fail
  refine (h2.out _).mono ?_
  rintro e w' ⟨rfl, rfl⟩
  go_wp2_with fail
  refine (h3.out _).mono ?_
  rintro e w' ⟨rfl, rfl⟩
  go_wp2
  go_ret
  exact ⟨by rw [← E.out]; rfl, rfl⟩
theorem mix_at (x : Nat) (hx : x < 4294967296) (a b c : Int) (a' b' c' : Nat) (ea : a = 32 - (a' : Int)) (eb : b = 32 - (b' : Int)) (ec : c = 32 - (c' : Int)) (a1 : 1 ≤ a') (a2 : a' ≤ 31) (b1 : 1 ≤ b') (b2 : b' ≤ 31) (c1 : 1 ≤ c') (c2 : c' ≤ 31) (w : World) :
    Calls Try.prog 74 #[.int .u32 (x : Int), .int .i64 a, .int .i64 b, .int .i64 c] w fun e w' => e = .returned (.int .u32 (mixW x a' b' c' : Nat)) ∧ w' = w := by
  have h := mix_any x (32 - a') (32 - b') (32 - c') hx (by omega) (by omega) (by omega) (by omega) (by omega) (by omega) w
  rw [show 32 - (32 - a') = a' from by omega, show 32 - (32 - b') = b' from by omega, show 32 - (32 - c') = c' from by omega] at h
  rw [show a = ((32 - a' : Nat) : Int) from by omega, show b = ((32 - b' : Nat) : Int) from by omega, show c = ((32 - c' : Nat) : Int) from by omega]
  exact h.mono fun e w' h => ⟨h.1, h.2.symm⟩

theorem arr64w : ArrTy Try.prog 107 64 := ⟨_, Try.underlying107, rfl, by kernel_rfl⟩
/-- What a function that makes memory of its own answers: numbers of 32 bits. -/
def RetV (l : List Nat) (w : World) (e : Ending) (w' : World) : Prop := e = .returned (.agg (wv l).toArray) ∧ Below w.heap.size w w'
set_option maxRecDepth 100000 in
set_option maxHeartbeats 1000000 in
theorem spread_core (A : Option Addr) (c : Nat) (b : List Nat) (w : World) (hs : Sl w (.slice A 64 c) (bv b)) (hb : b.length = 64) (bb : Byt b) :
    Calls Try.prog 73 #[.slice A 64 c] w (RetV (spread b) w) := by
  have hg := Lib.hid (fun v i (w : World) (h : Sl w v (bv (seg b i 4))) => get_ok v (seg b i 4) w h (seg_lt bb _ _) (by simp [seg]; omega))
  have hn4 := Lib.hid (fun i => num4_lt bb i)
  have hlo := Lib.hid (fun i (h : i < 16) => spread_low b h)
  have hhi := Lib.hid (fun i (h16 : 16 ≤ i) (h : i < 64) => spread_high b h16 h)
  have hwd := Lib.hid (fun i => (spread_wds bb).gd i)
  have hsl := Lib.hid (spread_length b)
  have Hs := Lib.hid hs
  have Hb := Lib.hid hb
  have ht := Lib.hid (fun (x a : Nat) (ni : Int) hx e h1 h2 w => (turnR x a ni hx e h1 h2 w).mono (fun e w' h => And.intro h.1 h.2.symm))
  clear hb bb hs
  generalize spread b = S at *
  go_enter Try.func73, Try.ntmps73
  go_wp2_with (refine wpList_allocA rfl 107 rfl (wv (zeros 64)) (by kernel_rfl) ?_)
  intro w1 h1 hK1 hz1
  have hB1 := hK1.below (Nat.le_refl _) (by simp)
  clear hK1
  go_wp2
  go_loopw [9] (fun i wr => ∃ k : Nat, (k : Int) ≤ 16 ∧ i = .int .i64 (k : Int) ∧ Blk wr w.heap.size 107 (wv (upd S (zeros 64) k)) ∧ Below w.heap.size w wr) (fun i _ => 16 - (intOf i).toNat)
  case atStart => exact ⟨0, by omega, rfl, by rw [upd_zero]; exact h1, hB1⟩
  case round =>
    clear h1 hB1 hz1
    obtain ⟨k, hk, rfl, h1, hB⟩ := hrel
    by_cases hlt : (k : Int) < 16
    · obtain ⟨g, p, rfl, hp⟩ := (Hs.out.keep hB).part (4 * k) 4 (by decide) (by omega) (by simp [Hb.out])
      rw [show ((bv b).drop (4 * k)).take 4 = bv (seg b (4 * k) 4) from bv_seg b (4 * k) 4] at hp
      have hcI : (64 : Int) ≤ c := by have := Hs.out.cap; omega
      have hget := Lib.hid (hg.out _ _ wr hp)
      have hs := upd_set (new := S) (old := zeros 64) (k := k) (by simp [hsl.out]) (by simp; omega) (gd_get (by rw [hsl.out]; omega))
      rw [hlo.out k (by omega)] at hs
      have hlt4 := hn4.out (4 * k)
      have HS := Lib.hid hs
      have c0 := h1.cell k
      have f0 := h1.frozen k
      rw [wv_get, upd_get (by simp [hsl.out]) (Nat.le_refl _) (by simp; omega), zeros_get (by omega)] at c0
      simp only [Option.map_some] at c0
      clear hs hp
      generalize num (seg b (4 * k) 4) = z at *
      have hz : (z : Int) ≤ 4294967295 := by omega
      go_wp2_with fail
      refine hget.out.mono ?_
      rintro e w' ⟨rfl, rfl⟩
      go_wp2
      go_roundw
      case rel =>
        refine ⟨k + 1, by omega, by go_num, ?_, hB.setCell (by simp) _⟩
        rw [← HS.out, ← wv_set]
        exact h1.set_ k _
      case measure => simp [intOf]; omega
    · obtain rfl : k = 16 := by omega
      go_wp2
      go_loopw [6] (fun i wr => ∃ k : Nat, 16 ≤ (k : Int) ∧ (k : Int) ≤ 64 ∧ i = .int .i64 (k : Int) ∧ Blk wr w.heap.size 107 (wv (upd S (zeros 64) k)) ∧ Below w.heap.size w wr) (fun i _ => 64 - (intOf i).toNat)
      case atStart => exact ⟨16, by omega, by omega, rfl, h1, hB⟩
      case round =>
        clear h1 hB
        obtain ⟨k, hk16, hk, rfl, h1, hB⟩ := hrel
        by_cases hlt : (k : Int) < 64
        · have hs := upd_set (new := S) (old := zeros 64) (k := k) (by simp [hsl.out]) (by simp; omega) (gd_get (by rw [hsl.out]; omega))
          have HS := Lib.hid hs
          have cc : Hid (∀ j, j < k → wr.cell? ⟨w.heap.size, j, none⟩ = some (.int .u32 ((gd S j : Nat) : Int))) := fun j hj => by
            rw [h1.cell, wv_get, upd_get_new (by simp [hsl.out]) hj (by simp; omega), gd_get (by rw [hsl.out]; omega)]; rfl
          have c1 := cc.out (k - 15) (by omega)
          have c2 := cc.out (k - 2) (by omega)
          have c3 := cc.out (k - 16) (by omega)
          have c4 := cc.out (k - 7) (by omega)
          have c0 := h1.cell k
          have f0 := h1.frozen k
          rw [wv_get, upd_get (by simp [hsl.out]) (Nat.le_refl _) (by simp; omega), zeros_get (by omega)] at c0
          simp only [Option.map_some] at c0
          have hh := hhi.out k (by omega) (by omega)
          have l1 := hwd.out (k - 15)
          have l2 := hwd.out (k - 2)
          have l3 := hwd.out (k - 16)
          have l4 := hwd.out (k - 7)
          clear hs
          generalize gd S (k - 15) = x at *
          generalize gd S (k - 2) = y at *
          generalize gd S (k - 16) = p at *
          generalize gd S (k - 7) = q at *
          generalize gd S k = z at *
          have hk1 : (k : Int) - 15 < 64 := by omega
          have hk2 : (k : Int) - 2 < 64 := by omega
          have hk3 : (k : Int) - 16 < 64 := by omega
          have hk4 : (k : Int) - 7 < 64 := by omega
          have m1 : (0 : Int) ≤ (k : Int) - 15 := by omega
          have m2 : (0 : Int) ≤ (k : Int) - 2 := by omega
          have m3 : (0 : Int) ≤ (k : Int) - 16 := by omega
          have m4 : (0 : Int) ≤ (k : Int) - 7 := by omega
          have n1 : (15 : Int) ≤ (k : Int) := by omega
          have n2 : (2 : Int) ≤ (k : Int) := by omega
          have n4 : (7 : Int) ≤ (k : Int) := by omega
          have r1 := turn_lt (k := 25) l1
          have r2 := turn_lt (k := 14) l1
          have r3 := turn_lt (k := 15) l2
          have r4 := turn_lt (k := 13) l2
          have t1 := Lib.hid (fun w => ht.out x 7 (-7) l1 rfl (by decide) (by decide) w)
          have t2 := Lib.hid (fun w => ht.out x 18 (-18) l1 rfl (by decide) (by decide) w)
          have t3 := Lib.hid (fun w => ht.out y 17 (-17) l2 rfl (by decide) (by decide) w)
          have t4 := Lib.hid (fun w => ht.out y 19 (-19) l2 rfl (by decide) (by decide) w)
          have E0 : Hid (turn x 25 ^^^ turn x 14 ^^^ x / 8 = s0 x) := rfl
          have E1 : Hid (turn y 15 ^^^ turn y 13 ^^^ y / 1024 = s1 y) := rfl
          simp only [show 32 - 7 = 25 from rfl, show 32 - 18 = 14 from rfl, show 32 - 17 = 15 from rfl, show 32 - 19 = 13 from rfl] at t1 t2 t3 t4
          generalize turn x 25 = x1 at *
          generalize turn x 14 = x2 at *
          generalize turn y 15 = y1 at *
          generalize turn y 13 = y2 at *
          obtain ⟨q1, z1⟩ := x32 r1 r2
          obtain ⟨q2, z2⟩ := x32 z1 (show x / 8 < 4294967296 by omega)
          obtain ⟨q3, z3⟩ := x32 r3 r4
          obtain ⟨q4, z4⟩ := x32 z3 (show y / 1024 < 4294967296 by omega)
          rw [E0.out] at q2 z2
          rw [E1.out] at q4 z4
          generalize s0 x = sx at *
          generalize s1 y = sy at *
          obtain ⟨a1, g1, ga1, gb1⟩ := wrap32 p q
          obtain ⟨a2, g2, ga2, gb2⟩ := wrap32 a1 sx
          obtain ⟨a3, g3, ga3, gb3⟩ := wrap32 a2 sy
          have ez : Hid (z = a3) := hh.trans (sum4 gb1 gb2 gb3).symm
          clear hh gb1 gb2 gb3
          simp only [Int.natCast_ediv, Int.cast_ofNat_Int] at q2 q4
          go_wp2
          have b1 : IntKind.i64.wrap ((k : Int) - 15) = (k : Int) - 15 := IntWalk.i64_in _ (by omega)
          have b2 : IntKind.i64.wrap ((k : Int) - 2) = (k : Int) - 2 := IntWalk.i64_in _ (by omega)
          have d1 : ((k : Int) - 15).toNat = k - 15 := by omega
          have d2 : ((k : Int) - 2).toNat = k - 2 := by omega
          go_quiet (fail)
          clear b1 b2 d1 d2
          have c0 : (wr.drewN nq).cell? ⟨w.heap.size, k, none⟩ = some (.int .u32 ((0 : Nat) : Int)) := c0
          have c3 : (wr.drewN nq).cell? ⟨w.heap.size, k - 16, none⟩ = some (.int .u32 (p : Int)) := c3
          have c4 : (wr.drewN nq).cell? ⟨w.heap.size, k - 7, none⟩ = some (.int .u32 (q : Int)) := c4
          have f0 : (wr.drewN nq).frozen? ⟨w.heap.size, k, none⟩ = false := f0
          have h1 := h1.drewN nq
          have hB := below_drewN hB nq
          generalize wr.drewN nq = wr at *
          go_wp2
          have b1 : IntKind.i64.wrap ((k : Int) - 16) = (k : Int) - 16 := IntWalk.i64_in _ (by omega)
          have b2 : IntKind.i64.wrap ((k : Int) - 7) = (k : Int) - 7 := IntWalk.i64_in _ (by omega)
          have d1 : ((k : Int) - 16).toNat = k - 16 := by omega
          have d2 : ((k : Int) - 7).toNat = k - 7 := by omega
          go_still_tail 29, (by kernel_rfl)
          still_call (t1.out _)
          repeat still_step
          still_call (t2.out _)
          repeat still_step
          still_call (t3.out _)
          repeat still_step
          still_call (t4.out _)
          repeat still_step
          refine wpStill_nil ?_
          change wpList _ _ _ _ _ wr.drew
          clear b1 b2 d1 d2
          go_wp2
          go_roundw
          case rel =>
            refine ⟨k + 1, by omega, by omega, by go_num, ?_, (hB.setCell (by simp) _).drew⟩
            rw [← HS.out, ← wv_set, ez.out]
            exact (h1.set_ k _).drew
          case measure => simp [intOf]; omega
        · obtain rfl : k = 64 := by omega
          rw [upd_all hsl.out (by simp)] at h1
          have hxl := Lib.hid (show (wv S).length = 64 by simp [hsl.out])
          go_wp2_with (first | refine wpList_loadW rfl 107 (.tmp 2) rfl 64 arr64w _ rfl 107 _ h1 hxl.out ?_ | refine wpList_storeW rfl 107 (.tmp 2) (.tmp 69) rfl 64 arr64w _ rfl (wv S) rfl 107 _ h1 hxl.out hxl.out (ones_wv _) ?_)
          intro w' h4 hK
          go_wp2
          exact bodyPost_ret (v := .agg (wv S).toArray) (res_cell Try.results73 _ _ _ 107 _ arr64w hxl.out rfl h4) rfl ⟨rfl, hB.trans (hK.below hB.size (by simp))⟩
theorem spread_any (v : Value) (b : List Nat) (w : World) (hs : Sl w v (bv b)) (hb : b.length = 64) (bb : Byt b) :
    Calls Try.prog 73 #[v] w (RetV (spread b) w) := by
  obtain ⟨A, c, rfl, _⟩ := id hs
  rw [bv_length, hb] at hs ⊢
  exact spread_core A c b w hs hb bb
end Go.Proofs.Ytlifpmglaoppoaa

/- Contracts of package sha: take. -/
namespace Go.Proofs.Ytlifpmglaoppoaa
open Go.RowKit
open Go.Proofs.PlainAes
open Go.Proofs.PlainSha

theorem eight {l : List Nat} (h : l.length = 8) : ∃ a b c d e f g k, l = [a, b, c, d, e, f, g, k] := by
  match l, h with
  | [a, b, c, d, e, f, g, k], _ => exact ⟨a, b, c, d, e, f, g, k, rfl⟩
theorem arr8s : ArrTy Try.prog 106 8 := ⟨_, Try.underlying106, rfl, by kernel_rfl⟩

set_option maxRecDepth 100000 in
set_option maxHeartbeats 2000000 in
theorem take_any (s K b : List Nat) (v : Value) (gk ok : Nat) (w : World) (hs : s.length = 8) (bs : Wds s) (hK : K.length = 64) (bK : Wds K) (hv : Sl w v (bv b)) (hb : b.length = 64) (bb : Byt b) (hk : At w gk ok (wv K)) :
    Calls Try.prog 55 #[.agg (wv s).toArray, v, .pointer (some ⟨gk, ok, none⟩)] w (RetV (takeS K s b) w) := by
  have hsp := Lib.hid (fun w h => spread_any v b w h hb bb)
  have hmx := Lib.hid (fun (x : Nat) hx a b c a' b' c' ea eb ec a1 a2 b1 b2 c1 c2 w => mix_at x hx a b c a' b' c' ea eb ec a1 a2 b1 b2 c1 c2 w)
  have hT : takeS K s b = mk 8 (fun i => (gd (roundsN K (spread b) s 64) i + gd s i) % 4294967296) := rfl
  have hWl := Lib.hid (spread_length b)
  have hWw := Lib.hid (spread_wds bb)
  have hkI : Hid (gk < w.heap.size) := cell_lt (hk 0 _ (gd_wv (by omega)))
  have hRl := Lib.hid (takeS_length K s b)
  have hRg := Lib.hid (show ∀ i, i < 8 → gd (takeS K s b) i = (gd (roundsN K (spread b) s 64) i + gd s i) % 4294967296 from fun i hi => by rw [hT, gd_mk _ hi])
  clear hT
  generalize takeS K s b = R at *
  change Hid (∀ w, _ → Calls _ _ _ w (RetV (spread b) w)) at hsp
  generalize spread b = W at *
  have Hs := Lib.hid hs
  have Bs := Lib.hid bs
  have HK := Lib.hid hK
  have BK := Lib.hid bK
  have Hk := Lib.hid hk
  have Hv := Lib.hid hv
  clear hs bs hK bK hk hv hb bb
  go_enter Try.func55, Try.ntmps55
  go_wp2_with fail
  refine (hsp.out _ (Hv.out.keep (((Below.refl _ _).alloc (Nat.le_refl _) _).alloc (by simp) _))).mono ?_
  rintro e w2 ⟨rfl, hB2⟩
  have hs0 : Blk w2 w.heap.size 106 (wv s) := ((Blk.new_at (w := w) (t := 106) (cs := (wv s).toArray) rfl rfl).alloc _).keep hB2
  have ho0 : Blk w2 (w.heap.size + 1) 106 (wv (zeros 8)) := (Blk.new_at (w := w.alloc (.cells (wv s).toArray 106)) (n := w.heap.size + 1) (t := 106) (by simp) rfl).keep hB2
  have hB : Below w.heap.size w w2 := below_call (((Below.refl _ _).alloc (Nat.le_refl _) _).alloc (by simp) _) (by simp; omega) hB2
  clear hB2
  have hgW : w.heap.size + 1 < w2.heap.size := ho0.lt
  go_wp2_with (refine wpList_allocA rfl 107 rfl (wv (zeros 64)) (by kernel_rfl) ?_)
  intro w3 hw hK3 hz3
  replace hs0 := hs0.keeps hK3 (by simp)
  replace ho0 := ho0.keeps hK3 (by simp)
  replace hB := hB.trans (hK3.below hB.size (by simp))
  clear hK3
  generalize w2.heap.size = gW at *
  have hWL := Lib.hid (show (wv W).length = 64 by simp [hWl.out])
  have hSL := Lib.hid (show (wv s).length = 8 by simp [Hs.out])
  go_wp2_with (refine wpList_storeW rfl 107 (.tmp 7) (.tmp 20) rfl 64 arr64w gW rfl (wv W) rfl 107 _ hw hWL.out (by simp) (ones_wv _) ?_)
  intro w4 hw hK4
  replace hs0 := hs0.keeps hK4 (by simp; omega)
  replace ho0 := ho0.keeps hK4 (by simp; omega)
  replace hB := hB.trans (hK4.below hB.size (by simp; omega))
  clear hK4
  go_wp2_with (first | refine wpList_loadW rfl 106 (.tmp 3) rfl 8 arr8s _ rfl 106 _ hs0 hSL.out ?_ | refine wpList_allocA rfl 106 rfl (wv (zeros 8)) (by kernel_rfl) ?_)
  intro w5 hx hK5 hz5
  replace hs0 := hs0.keeps hK5 (by simp)
  replace ho0 := ho0.keeps hK5 (by simp)
  have hgX : gW < w4.heap.size := hw.lt
  replace hw := hw.keeps hK5 (by simp)
  replace hB := hB.trans (hK5.below hB.size (by simp))
  clear hK5 hz5 hz3
  generalize w4.heap.size = gX at *
  go_wp2_with (refine wpList_storeW rfl 106 (.tmp 8) (.tmp 21) rfl 8 arr8s gX rfl (wv s) rfl 106 _ hx hSL.out (by simp) (ones_wv _) ?_)
  intro w6 hx hK6
  replace hs0 := hs0.keeps hK6 (by simp; omega)
  replace ho0 := ho0.keeps hK6 (by simp; omega)
  replace hw := hw.keeps hK6 (by simp; omega)
  replace hB := hB.trans (hK6.below hB.size (by simp; omega))
  clear hK6
  go_wp2
  go_loopw [22] (fun i wr => ∃ n : Nat, (n : Int) ≤ 64 ∧ i = .int .i64 (n : Int) ∧ Blk wr w.heap.size 106 (wv s) ∧ Blk wr (w.heap.size + 1) 106 (wv (zeros 8)) ∧ Blk wr gW 107 (wv W) ∧ Blk wr gX 106 (wv (roundsN K W s n)) ∧ Below w.heap.size w wr) (fun i _ => 64 - (intOf i).toNat)
  case atStart => exact ⟨0, by omega, rfl, hs0, ho0, hw, hx, hB⟩
  case round =>
    clear hs0 ho0 hw hx hB
    obtain ⟨n, hn, rfl, hs0, ho0, hw, hx, hB⟩ := hrel
    by_cases hlt : (n : Int) < 64
    · have hkn := Hk.out n _ (gd_wv (by have := HK.out; omega))
      rw [← (bcell hB).1 gk (ok + n) hkI.out] at hkn
      have hwn := hw.cell n
      rw [gd_wv (by have := hWl.out; omega)] at hwn
      have lk := BK.out.gd n
      have lw := hWw.out.gd n
      have hst : Hid (roundsN K W s (n + 1) = rstep (roundsN K W s n) (gd K n) (gd W n)) := rfl
      have hxw := roundsN_wds (K := K) (W := W) Bs.out n
      have hxl := roundsN_length (K := K) (W := W) Hs.out n
      generalize gd K n = kn at *
      generalize gd W n = wn at *
      generalize roundsN K W s n = X at *
      obtain ⟨x0, x1, x2, x3, x4, x5, x6, x7, rfl⟩ := eight hxl
      clear hxl
      have l0 : x0 < 4294967296 := hxw _ (by simp)
      have l1 : x1 < 4294967296 := hxw _ (by simp)
      have l2 : x2 < 4294967296 := hxw _ (by simp)
      have l3 : x3 < 4294967296 := hxw _ (by simp)
      have l4 : x4 < 4294967296 := hxw _ (by simp)
      have l5 : x5 < 4294967296 := hxw _ (by simp)
      have l6 : x6 < 4294967296 := hxw _ (by simp)
      have l7 : x7 < 4294967296 := hxw _ (by simp)
      have c0 : wr.cell? ⟨gX, 0, none⟩ = some (.int .u32 (x0 : Int)) := hx.cell 0
      have c1 : wr.cell? ⟨gX, 1, none⟩ = some (.int .u32 (x1 : Int)) := hx.cell 1
      have c2 : wr.cell? ⟨gX, 2, none⟩ = some (.int .u32 (x2 : Int)) := hx.cell 2
      have c4 : wr.cell? ⟨gX, 4, none⟩ = some (.int .u32 (x4 : Int)) := hx.cell 4
      have c5 : wr.cell? ⟨gX, 5, none⟩ = some (.int .u32 (x5 : Int)) := hx.cell 5
      have c6 : wr.cell? ⟨gX, 6, none⟩ = some (.int .u32 (x6 : Int)) := hx.cell 6
      have c7 : wr.cell? ⟨gX, 7, none⟩ = some (.int .u32 (x7 : Int)) := hx.cell 7
      clear hxw
      have M1 := mixW_lt 26 21 7 l4
      have M2 := mixW_lt 30 19 10 l0
      have hm1 := Lib.hid (fun w => hmx.out x4 l4 6 11 25 26 21 7 rfl rfl rfl (by decide) (by decide) (by decide) (by decide) (by decide) (by decide) w)
      have hm2 := Lib.hid (fun w => hmx.out x0 l0 2 13 22 30 19 10 rfl rfl rfl (by decide) (by decide) (by decide) (by decide) (by decide) (by decide) w)
      have et1 : Hid (t1 [x0, x1, x2, x3, x4, x5, x6, x7] kn wn = (x7 + mixW x4 26 21 7 + (x6 ^^^ (x4 &&& (x5 ^^^ x6))) + kn + wn) % 4294967296) := rfl
      have et2 : Hid (t2 [x0, x1, x2, x3, x4, x5, x6, x7] = (mixW x0 30 19 10 + ((x0 &&& (x1 ||| x2)) ||| (x1 &&& x2))) % 4294967296) := rfl
      have hst2 : Hid (roundsN K W s (n + 1) = [(t1 [x0, x1, x2, x3, x4, x5, x6, x7] kn wn + t2 [x0, x1, x2, x3, x4, x5, x6, x7]) % 4294967296, x0, x1, x2, (x3 + t1 [x0, x1, x2, x3, x4, x5, x6, x7] kn wn) % 4294967296, x4, x5, x6]) := hst
      clear hst
      generalize mixW x4 26 21 7 = m1 at *
      generalize mixW x0 30 19 10 = m2 at *
      obtain ⟨q1, z1⟩ := x32 l5 l6
      obtain ⟨q2, z2⟩ := a32 l4 z1
      obtain ⟨q3, z3⟩ := x32 l6 z2
      generalize x6 ^^^ (x4 &&& (x5 ^^^ x6)) = ch at *
      generalize x4 &&& (x5 ^^^ x6) = u2 at *
      generalize x5 ^^^ x6 = u1 at *
      obtain ⟨q4, z4⟩ := o32 l1 l2
      obtain ⟨q5, z5⟩ := a32 l0 z4
      obtain ⟨q6, z6⟩ := a32 l1 l2
      obtain ⟨q7, z7⟩ := o32 z5 z6
      generalize (x0 &&& (x1 ||| x2)) ||| (x1 &&& x2) = mj at *
      generalize x0 &&& (x1 ||| x2) = u3 at *
      generalize x1 ||| x2 = u4 at *
      generalize x1 &&& x2 = u5 at *
      obtain ⟨a1, g1, ga1, gb1⟩ := wrap32 x7 m1
      obtain ⟨a2, g2, ga2, gb2⟩ := wrap32 a1 ch
      obtain ⟨a3, g3, ga3, gb3⟩ := wrap32 a2 kn
      obtain ⟨T1, g4, ga4, gb4⟩ := wrap32 a3 wn
      obtain ⟨T2, g5, ga5, gb5⟩ := wrap32 m2 mj
      obtain ⟨y0, g6, ga6, gb6⟩ := wrap32 T1 T2
      obtain ⟨y4, g7, ga7, gb7⟩ := wrap32 x3 T1
      have hst3 : Hid (roundsN K W s (n + 1) = [y0, x0, x1, x2, y4, x4, x5, x6]) := by
        show _ = _
        rw [hst2.out, et1.out, et2.out, gb6, gb7, ← sum5 gb1 gb2 gb3 gb4, ← gb5]
      clear gb1 gb2 gb3 gb4 gb5 gb6 gb7 et1 et2 hst2
      go_wp2
      go_quiet (fail)
      replace c0 : (wr.drewN nq).cell? ⟨gX, 0, none⟩ = _ := c0
      replace c1 : (wr.drewN nq).cell? ⟨gX, 1, none⟩ = _ := c1
      replace c2 : (wr.drewN nq).cell? ⟨gX, 2, none⟩ = _ := c2
      replace c4 : (wr.drewN nq).cell? ⟨gX, 4, none⟩ = _ := c4
      replace c5 : (wr.drewN nq).cell? ⟨gX, 5, none⟩ = _ := c5
      replace c6 : (wr.drewN nq).cell? ⟨gX, 6, none⟩ = _ := c6
      replace c7 : (wr.drewN nq).cell? ⟨gX, 7, none⟩ = _ := c7
      replace hkn : (wr.drewN nq).cell? ⟨gk, ok + n, none⟩ = _ := hkn
      replace hwn : (wr.drewN nq).cell? ⟨gW, n, none⟩ = _ := hwn
      replace hs0 := hs0.drewN nq
      replace ho0 := ho0.drewN nq
      replace hw := hw.drewN nq
      replace hx := hx.drewN nq
      replace hB := below_drewN hB nq
      generalize wr.drewN nq = wr at *
      go_wp2
      go_quiet ((go_at_call 74; exact Calls.quiet_of_same (hm1.out _)))
      replace c0 : (wr.drewN nq).cell? ⟨gX, 0, none⟩ = _ := c0
      replace c1 : (wr.drewN nq).cell? ⟨gX, 1, none⟩ = _ := c1
      replace c2 : (wr.drewN nq).cell? ⟨gX, 2, none⟩ = _ := c2
      replace c4 : (wr.drewN nq).cell? ⟨gX, 4, none⟩ = _ := c4
      replace c5 : (wr.drewN nq).cell? ⟨gX, 5, none⟩ = _ := c5
      replace c6 : (wr.drewN nq).cell? ⟨gX, 6, none⟩ = _ := c6
      replace c7 : (wr.drewN nq).cell? ⟨gX, 7, none⟩ = _ := c7
      replace hkn : (wr.drewN nq).cell? ⟨gk, ok + n, none⟩ = _ := hkn
      replace hwn : (wr.drewN nq).cell? ⟨gW, n, none⟩ = _ := hwn
      replace hs0 := hs0.drewN nq
      replace ho0 := ho0.drewN nq
      replace hw := hw.drewN nq
      replace hx := hx.drewN nq
      replace hB := below_drewN hB nq
      generalize wr.drewN nq = wr at *
      go_wp2
      go_quiet (fail)
      replace c0 : (wr.drewN nq).cell? ⟨gX, 0, none⟩ = _ := c0
      replace c1 : (wr.drewN nq).cell? ⟨gX, 1, none⟩ = _ := c1
      replace c2 : (wr.drewN nq).cell? ⟨gX, 2, none⟩ = _ := c2
      replace c4 : (wr.drewN nq).cell? ⟨gX, 4, none⟩ = _ := c4
      replace c5 : (wr.drewN nq).cell? ⟨gX, 5, none⟩ = _ := c5
      replace c6 : (wr.drewN nq).cell? ⟨gX, 6, none⟩ = _ := c6
      replace c7 : (wr.drewN nq).cell? ⟨gX, 7, none⟩ = _ := c7
      replace hkn : (wr.drewN nq).cell? ⟨gk, ok + n, none⟩ = _ := hkn
      replace hwn : (wr.drewN nq).cell? ⟨gW, n, none⟩ = _ := hwn
      replace hs0 := hs0.drewN nq
      replace ho0 := ho0.drewN nq
      replace hw := hw.drewN nq
      replace hx := hx.drewN nq
      replace hB := below_drewN hB nq
      generalize wr.drewN nq = wr at *
      go_wp2_with (go_at_call 74; refine (hm2.out _).mono ?_; rintro e w' ⟨rfl, rfl⟩)
      go_still_tail 2, (by kernel_rfl)
      go_wp2_with (refine wpList_copyA rfl (.tmp 72) (.tmp 73) 101 101 rfl 35 Try.underlying101 (by kernel_rfl) gX _ _ _ rfl ⟨gX, 0, none⟩ _ _ rfl 106 _ hx (wv [x0, x1, x2, x3, x4, x5, x6]) ?_ ?_ ?_ (ones_wv _) ?_)
      · rfl
      · intro j v hj
        have h1 : (wv [x0, x1, x2, x3, x4, x5, x6, x7])[0 + j]? = some v := by
          rw [Nat.zero_add]
          exact (List.getElem?_append_left (l₁ := wv [x0, x1, x2, x3, x4, x5, x6]) (l₂ := wv [x7]) (List.getElem?_eq_some_iff.1 hj).1).trans hj
        exact (hx.cellAdd 0 j).trans h1
      · show (1 + 7 : Nat) ≤ 8; decide
      intro w7 hx7 hK7
      replace hx7 : Blk w7 gX 106 (wv [x0, x0, x1, x2, x3, x4, x5, x6]) := hx7
      replace hs0 := hs0.drew.keeps hK7 (by simp; omega)
      replace ho0 := ho0.drew.keeps hK7 (by simp; omega)
      replace hw := hw.drew.keeps hK7 (by simp; omega)
      replace hB := hB.drew.trans (hK7.below hB.drew.size (by simp; omega))
      clear hK7 hx c0 c1 c2 c4 c5 c6 c7 hkn hwn
      have c0 : w7.cell? ⟨gX, 0, none⟩ = some (.int .u32 (x0 : Int)) := hx7.cell 0
      have c4 : w7.cell? ⟨gX, 4, none⟩ = some (.int .u32 (x3 : Int)) := hx7.cell 4
      have f0 := hx7.frozen 0
      have f4 := hx7.frozen 4
      go_wp2
      go_roundw
      case rel =>
        refine ⟨n + 1, by omega, by go_num, (hs0.far (by simp; omega) _).far (by simp; omega) _, (ho0.far (by simp; omega) _).far (by simp; omega) _, (hw.far (by simp; omega) _).far (by simp; omega) _, ?_, (hB.setCell (by simp; omega) _).setCell (by simp; omega) _⟩
        rw [hst3.out]
        exact (hx7.set_ 0 _).set_ 4 _
      case measure => simp [intOf]; omega
    · obtain rfl : n = 64 := by omega
      have hxw := roundsN_wds (K := K) (W := W) Bs.out 64
      have hxl := roundsN_length (K := K) (W := W) Hs.out 64
      generalize roundsN K W s 64 = X at *
      have Hx := Lib.hid hxl
      have Wx := Lib.hid hxw
      clear hxl hxw
      go_wp2
      go_loopw [85] (fun i wr => ∃ k : Nat, (k : Int) ≤ 8 ∧ i = .int .i64 (k : Int) ∧ Blk wr w.heap.size 106 (wv s) ∧ Blk wr (w.heap.size + 1) 106 (wv (zeros 8)) ∧ Blk wr gX 106 (wv (upd R X k)) ∧ Below w.heap.size w wr) (fun i _ => 8 - (intOf i).toNat)
      case atStart => exact ⟨0, by omega, rfl, hs0, ho0, by rw [upd_zero]; exact hx, hB⟩
      case round =>
        clear hs0 ho0 hw hx hB
        obtain ⟨k, hk, rfl, hs0, ho0, hx, hB⟩ := hrel
        by_cases hlt : (k : Int) < 8
        · have c0 := hx.cell k
          rw [wv_get, upd_get (by rw [hRl.out, Hx.out]) (Nat.le_refl _) (by rw [Hx.out]; omega), gd_get (by rw [Hx.out]; omega)] at c0
          simp only [Option.map_some] at c0
          have f0 := hx.frozen k
          have d0 := hs0.cell k
          rw [gd_wv (by have := Hs.out; omega)] at d0
          have HS := Lib.hid (upd_set (new := R) (old := X) (k := k) (by rw [hRl.out, Hx.out]) (by rw [Hx.out]; omega) (gd_get (by rw [hRl.out]; omega)))
          have hr := hRg.out k (by omega)
          have l1 := Wx.out.gd k
          have l2 := Bs.out.gd k
          generalize gd X k = x at *
          generalize gd s k = y at *
          generalize gd R k = r at *
          obtain ⟨a1, g1, ga1, gb1⟩ := wrap32 x y
          obtain rfl : r = a1 := hr.trans gb1.symm
          clear gb1 hr
          go_wp2
          go_still_tail 8, (by kernel_rfl)
          change wpList _ _ _ _ _ wr.drew
          go_wp2
          go_roundw
          case rel =>
            refine ⟨k + 1, by omega, by go_num, (hs0.drew).far (by simp; omega) _, (ho0.drew).far (by simp; omega) _, ?_, hB.drew.setCell (by simp; omega) _⟩
            rw [← HS.out, ← wv_set]
            exact hx.drew.set_ k _
          case measure => simp [intOf]; omega
        · obtain rfl : k = 8 := by omega
          rw [upd_all hRl.out Hx.out] at hx
          have hxl := Lib.hid (show (wv R).length = 8 by simp [hRl.out])
          go_wp2_with (first | refine wpList_loadW rfl 106 (.tmp 8) rfl 8 arr8s _ rfl 106 _ hx hxl.out ?_ | refine wpList_storeW rfl 106 (.tmp 6) (.tmp 97) rfl 8 arr8s _ rfl (wv R) rfl 106 _ ho0 hxl.out (by simp) (ones_wv _) ?_)
          intro w' h4 hK
          go_wp2
          exact bodyPost_ret (v := .agg (wv R).toArray) (res_cell Try.results55 _ _ _ 106 _ arr8s hxl.out rfl h4) rfl ⟨rfl, hB.trans (hK.below hB.size (by simp))⟩
end Go.Proofs.Ytlifpmglaoppoaa

/- Contracts of package sha: the primes' test. -/
namespace Go.Proofs.Ytlifpmglaoppoaa
open Go.RowKit
open Go.Proofs.PlainAes
open Go.Proofs.PlainSha

theorem divs_any (q p gp : Nat) (w : World) (hq : (1 : Int) ≤ q) (hq' : (q : Int) ≤ 4294967295) (hp : (p : Int) ≤ 4294967295) (hc : w.cell? ⟨gp, 0, none⟩ = some (.int .u32 (p : Int))) :
    Calls Try.prog 71 #[.int .u32 (q : Int), .pointer (some ⟨gp, 0, none⟩)] w fun e w' => e = .returned (.bool (decide (p % q = 0))) ∧ w = w' := by
  have e0 : (((p : Int) % (q : Int)) == 0) = decide (p % q = 0) := by
    rw [Bool.eq_iff_iff]
    simp only [beq_iff_eq, decide_eq_true_eq]
    omega
  have E := Lib.hid e0
  clear e0
  go_enter Try.func71, Try.ntmps71
  go_wp2
  go_ret
  exact ⟨by rw [← E.out]; rfl, rfl⟩

/-- Where one is found, or nowhere. -/
def RetIdx (b : Bool) (w : World) (e : Ending) (w' : World) : Prop := ∃ k : Int, e = .returned (.int .i64 k) ∧ -1 ≤ k ∧ k ≤ 9223372036854775807 ∧ decide (0 ≤ k) = b ∧ w = w'
set_option maxHeartbeats 1000000 in
theorem idx_core (A : Option Addr) (c : Nat) (l : List Nat) (p gp : Nat) (w : World) (hs : Sl w (.slice A l.length c) (wv l)) (hl : ∀ q ∈ l, (1 : Int) ≤ q ∧ (q : Int) ≤ 4294967295) (hn : (l.length : Int) ≤ 1000) (hp : (p : Int) ≤ 4294967295) (hc : w.cell? ⟨gp, 0, none⟩ = some (.int .u32 (p : Int))) :
    Calls Try.prog 87 #[.slice A l.length c, .func (.func 71) #[] #[.pointer (some ⟨gp, 0, none⟩)]] w (RetIdx (hasDiv l p) w) := by
  have hd := Lib.hid (fun q h1 h2 => divs_any q p gp w h1 h2 hp hc)
  have Hs := Lib.hid hs
  have Hl := Lib.hid hl
  clear hc hl hs
  obtain ⟨b, hb⟩ : ∃ b, b = hasDiv l p := ⟨_, rfl⟩
  rw [← hb]
  have Hb := Lib.hid hb
  clear hb
  go_enter Try.func87, Try.ntmps87
  go_wp2
  go_loop [8] (fun i => ∃ k : Nat, k ≤ l.length ∧ i = .int .i64 (k : Int) ∧ Hid (∀ q ∈ l.take k, ¬ p % q = 0)) (fun i => l.length - (intOf i).toNat)
  case atStart => exact ⟨0, Nat.zero_le _, rfl, by show ∀ q ∈ _, _; simp⟩
  case round =>
    obtain ⟨k, hk, rfl, hno⟩ := hrel
    by_cases hlt : (k : Int) < l.length
    · have hk' : k < l.length := by omega
      obtain ⟨g, o, rfl, c0⟩ := Hs.out.at_ (wv_some (List.getElem?_eq_getElem hk'))
      have hq := Hl.out l[k] (List.getElem_mem hk')
      have hsn := take_snoc l k hk'
      have Hsn := Lib.hid hsn
      clear hsn
      generalize hq2 : l[k] = q at *
      replace hq2 := Lib.hid hq2
      obtain ⟨hq1, hq3⟩ := hq
      have hdq := Lib.hid (hd.out q hq1 hq3)
      by_cases hpq : p % q = 0
      · have hdt : decide (p % q = 0) = true := by simpa using hpq
        rw [hdt] at hdq
        have hpq := Lib.hid hpq
        clear hdt
        go_wp2_with fail
        refine hdq.out.mono ?_
        rintro e w' ⟨rfl, rfl⟩
        go_wp2
        go_ret
        refine ⟨(k : Int), rfl, by omega, by omega, ?_, rfl⟩
        rw [Hb.out]
        have : hasDiv l p = true := by
          rw [hasDiv, List.any_eq_true]
          exact ⟨q, by rw [← hq2.out]; exact List.getElem_mem hk', by simpa using hpq.out⟩
        rw [this]
        simp
      · have hdt : decide (p % q = 0) = false := by simpa using hpq
        rw [hdt] at hdq
        have hpq := Lib.hid hpq
        clear hdt
        go_wp2_with fail
        refine hdq.out.mono ?_
        rintro e w' ⟨rfl, rfl⟩
        go_wp2
        go_round
        case rel =>
          refine ⟨k + 1, by omega, by go_num, ?_⟩
          show ∀ q ∈ _, _
          rw [Hsn.out]
          intro x hx
          rcases List.mem_append.1 hx with h | h
          · exact hno.out x h
          · simp only [List.mem_cons, List.not_mem_nil, or_false] at h
            rw [h]; exact hpq.out
        case measure => simp [intOf]; omega
    · obtain rfl : k = l.length := by omega
      go_wp2
      go_ret
      refine ⟨-1, rfl, by omega, by omega, ?_, rfl⟩
      rw [Hb.out]
      have h := hno.out
      rw [List.take_length] at h
      have : hasDiv l p = false := by
        rw [hasDiv, List.any_eq_false]
        intro q hq
        simpa using h q hq
      rw [this]
      decide
theorem has_any (v : Value) (l : List Nat) (p gp : Nat) (w : World) (hs : Sl w v (wv l)) (hl : ∀ q ∈ l, (1 : Int) ≤ q ∧ (q : Int) ≤ 4294967295) (hn : (l.length : Int) ≤ 1000) (hp : (p : Int) ≤ 4294967295) (hc : w.cell? ⟨gp, 0, none⟩ = some (.int .u32 (p : Int))) :
    Calls Try.prog 70 #[v, .func (.func 71) #[] #[.pointer (some ⟨gp, 0, none⟩)]] w fun e w' => e = .returned (.bool (hasDiv l p)) ∧ w = w' := by
  obtain ⟨A, c, rfl, _⟩ := id hs
  rw [wv_length] at hs ⊢
  have hi := Lib.hid (idx_core A c l p gp w hs hl hn hp hc)
  generalize hasDiv l p = b at *
  clear hs hc hl
  go_enter Try.func70, Try.ntmps70
  go_wp2_with fail
  refine hi.out.mono ?_
  rintro e w' ⟨k, rfl, h1, h2, h3, rfl⟩
  have h3 := Lib.hid h3
  go_wp2
  go_ret
  refine ⟨?_, rfl⟩
  rw [← h3.out]
  rfl
end Go.Proofs.Ytlifpmglaoppoaa

/- Contracts of package sha: consts. -/
namespace Go.Proofs.Ytlifpmglaoppoaa
open Go.RowKit
open Go.Proofs.PlainAes
open Go.Proofs.PlainSha

/-- What a function answers whose two results lie in blocks. -/
theorem res_cell2 {P : Program} {fn : Func} {p q : Tmp} {ty ty' n n' : Nat} (h : fn.results = #[.cell p ty, .cell q ty']) (tmps : Array Value) (w : World) (g g' : Nat) (t t' : TypeId) (L L' : List Value) (hT : ArrTy P ty n) (hT' : ArrTy P ty' n') (hl : L.length = n) (hl' : L'.length = n')
    (hp : tmps.getD p undef = .pointer (some ⟨g, 0, none⟩)) (hq : tmps.getD q undef = .pointer (some ⟨g', 0, none⟩)) (hb : Blk w g t L) (hb' : Blk w g' t' L') : (results fn tmps).run P w = .ok (.tuple #[.agg L.toArray, .agg L'.toArray]) w := by
  obtain ⟨d, hu, hd, hi⟩ := hT
  obtain ⟨d', hu', hd', hi'⟩ := hT'
  have hp' : tmps[p]?.getD undef = .pointer (some ⟨g, 0, none⟩) := by simpa using hp
  have hq' : tmps[q]?.getD undef = .pointer (some ⟨g', 0, none⟩) := by simpa using hq
  have e1 := run_loadVar_row (P := P) w g t ty L.toArray (0, 0) d hb hu (by cases d <;> simp_all) (by simpa [hl] using hi)
  have e2 := run_loadVar_row (P := P) w g' t' ty' L'.toArray (0, 0) d' hb' hu' (by cases d' <;> simp_all) (by simpa [hl'] using hi')
  simp [results, h, hp', hq', asAddr, e1, e2]

def RetC (w : World) (e : Ending) (w' : World) : Prop := e = .returned (.tuple #[.agg (wv H0).toArray, .agg (wv K0).toArray]) ∧ Below w.heap.size w w'
/-- At the head of a round. -/
def ConsAt (B : Nat) (w0 : World) (p : Nat) (gp : Nat) (v : Value) (w : World) : Prop :=
  2 ≤ p ∧ p ≤ 312 ∧ w.ownsRow (B + 2) 35 1 v (pl p).length (wv (pl p)) ∧ v.ownBlock ≠ some gp ∧ B + 2 ≤ gp ∧ Blk w gp 35 [.int .u32 (p : Int)] ∧
  Blk w B 106 (wv (upd H0 (zeros 8) (min (pl p).length 8))) ∧ Blk w (B + 1) 107 (wv (upd K0 (zeros 64) (pl p).length)) ∧ Below B w0 w

set_option maxRecDepth 100000 in
set_option maxHeartbeats 2000000 in
theorem consts_any (w : World) : Calls Try.prog 54 #[] w (RetC w) := by
  obtain ⟨i0, hi, hz0, hz1, hz2⟩ := info_parts (P := Try.prog) (e := 35) (z := .int .u32 0) (size := 1) (bytes := 4) (by kernel_rfl)
  have hf := Lib.hid (fun p k w a b c d => frac_ok p k w a b c d)
  have hh := Lib.hid (fun v l p gp w a b c d e => has_any v l p gp w a b c d e)
  go_enter Try.func54, Try.ntmps54
  have e2 : Hid (pl 2 = []) := by show _ = _; decide
  go_wp2_with (refine wpList_allocA rfl 106 rfl (wv (zeros 8)) (by kernel_rfl) ?_)
  intro w1 h1 hK1 hz1
  have hB1 := hK1.below (Nat.le_refl _) (by simp)
  clear hK1
  go_wp2_with (refine wpList_allocA rfl 107 rfl (wv (zeros 64)) (by kernel_rfl) ?_)
  intro w2 k1 hK2 hz2
  replace h1 := h1.keeps hK2 (by simp)
  replace hB1 := hB1.trans (hK2.below (by omega) (by simp))
  have hz : w2.heap.size = w.heap.size + 2 := by omega
  replace k1 : Blk w2 (w.heap.size + 1) 107 (wv (zeros 64)) := k1
  clear hK2 hz1 hz2
  replace hz := Lib.hid hz
  go_wp2
  go_loopg [2, 3, 4] 310 (fun gk n v q wr => ∃ p gp, Hid (gk + p = 312) ∧ n = .int .i64 ((pl p).length : Nat) ∧ q = .pointer (some ⟨gp, 0, none⟩) ∧ ConsAt w.heap.size w p gp v wr)
  case atStart =>
    refine ⟨2, w2.heap.size, rfl, by rw [e2.out]; rfl, rfl, by decide, by decide, by rw [e2.out]; exact World.ownsRow_nil _ _ _ _, by simp [Value.ownBlock], by rw [hz.out]; exact Nat.le_refl _, Blk.new_at rfl rfl, ?_, ?_, hB1.alloc (by rw [hz.out]; omega) _⟩
    · rw [e2.out]; exact h1.alloc _
    · rw [e2.out]; exact k1.alloc _
  case round =>
    clear h1 k1 hB1 hz
    obtain ⟨p, gp, hgk, rfl, rfl, hC⟩ := hrel
    obtain ⟨h2, h312, own, hgv, hgp, hbp, hh0, hk0, hB⟩ := hC
    have hpl := pl_mem p
    have hh1 := Lib.hid (hh.out u3 (pl p) p gp wr (Sl.of_own own) (fun q hq => by have := hpl q hq; omega) (by have := pl_len (q := 312) h2 h312; have := pl312_length; omega) (by omega) (by have := hbp.cell 0; simpa using this))
    have cp : wr.cell? ⟨gp, 0, none⟩ = some (.int .u32 (p : Int)) := by have := hbp.cell 0; simpa using this
    have hgv := Lib.hid hgv
    have own := Lib.hid own
    clear hpl
    by_cases hlt : (((pl p).length : Nat) : Int) < 64
    · cases hd : hasDiv (pl p) p with
      | true =>
        rw [hd] at hh1
        have hpn := Lib.hid (pl_yes h2 hd)
        have hp312 := Lib.hid (pl_lt (q := 312) (by decide) pl312_length (show (pl p).length < 64 by omega))
        clear hd
        go_wp2_with fail
        refine hh1.out.mono ?_
        rintro e w' ⟨rfl, rfl⟩
        go_wp2
        go_roundg (gk - 1)
        case measure => have := hgk.out; have := hp312.out; omega
        case rel =>
          refine ⟨p + 1, wr.heap.size, ?_, by rw [hpn.out], rfl, by omega, by have := hp312.out; omega, by rw [hpn.out]; exact own.out.alloc _, ?_, ?_, Blk.new_at rfl (by simp), by rw [hpn.out]; exact hh0.alloc _, by rw [hpn.out]; exact hk0.alloc _, hB.alloc ?_ _⟩
          · show _ = _; have := hgk.out; have := hp312.out; omega
          · intro h; have := (own.out.lt _ h).2; omega
          · have := hbp.lt; omega
          · have := hbp.lt; omega
      | false =>
        rw [hd] at hh1
        have hpn := Lib.hid (pl_no h2 hd)
        have hp312 := Lib.hid (pl_lt (q := 312) (by decide) pl312_length (show (pl p).length < 64 by omega))
        have hK := Lib.hid (K0_at h2 (show (pl p).length < 64 by omega) hd)
        have hH := Lib.hid (fun h8 => H0_at h2 h8 hd)
        have hf2 := Lib.hid (fun w => hf.out p 2 w (by decide) (by decide) (by omega) (by have := hp312.out; omega))
        have hf3 := Lib.hid (fun w => hf.out p 3 w (by decide) (by decide) (by omega) (by have := hp312.out; omega))
        have hpl2 := pl_len (q := 312) h2 h312
        rw [pl312_length] at hpl2
        clear hd
        go_wp2_with (first
          | (go_at_call 70; refine hh1.out.mono ?_; rintro e w' ⟨rfl, rfl⟩)
          | (at_builtin; refine wpList_append_sl rfl (.tmp 12) (.tmp 14) 101 rfl (w.heap.size + 2) 35 i0 (.int .u32 0) 4 Try.underlying101 hi hz0 hz1 hz2 rfl _ (pl p).length (wv (pl p)) rfl (own.out.alloc _) _ (wv [p]) rfl ?_ (ones_wv _) ?_ ?_ ?_ ?_))
        · exact (Sl.of_blk (n := 1) (c := 1) (Blk.new_at (w := wr) (t := 35) (cs := #[.int .u32 (p : Int)]) rfl rfl) (Nat.le_refl _) (by simp) (by unfold maxLen; omega))
        · simp [maxLen]; omega
        · simp; omega
        · have := hbp.lt; simp; omega
        intro v' w2 own2 gr
        have hK2 := Keeps.grown gr
        have hrow : ∀ b ∈ u3.ownBlock.toList, w.heap.size + 2 ≤ b ∧ b ≠ gp := fun b hb => by
          cases hv : u3.ownBlock with
          | none => rw [hv] at hb; simp at hb
          | some k =>
            rw [hv] at hb
            simp only [Option.toList_some, List.mem_cons, List.not_mem_nil, or_false] at hb
            subst hb
            exact ⟨(own.out.lt _ hv).1, fun e => hgv.out (by rw [hv, e])⟩
        replace hbp := (hbp.alloc (.cells #[.int .u32 (p : Int)] 35)).keeps hK2 (fun h => (hrow _ h).2 rfl)
        replace hh0 := (hh0.alloc (.cells #[.int .u32 (p : Int)] 35)).keeps hK2 (fun h => by have := (hrow _ h).1; omega)
        replace hk0 := (hk0.alloc (.cells #[.int .u32 (p : Int)] 35)).keeps hK2 (fun h => by have := (hrow _ h).1; omega)
        replace hB := (hB.alloc hB.size (.cells #[.int .u32 (p : Int)] 35)).trans (hK2.below (by have := hB.size; simp; omega) (fun b hb => by have := (hrow b hb).1; omega))
        rw [← wv_app, show pl p ++ [p] = pl (p + 1) from hpn.out.symm] at own2
        rw [show (pl p).length + 1 = (pl (p + 1)).length from by rw [hpn.out]; simp] at own2
        replace own2 := Lib.hid own2
        clear hrow hK2 gr own hgv hh1 cp
        have hpn1 := Lib.hid (show (pl (p + 1)).length = (pl p).length + 1 from by rw [hpn.out]; simp)
        generalize (pl p).length = a at *
        by_cases h8 : (a : Int) < 8
        · skip
          have ch := hh0.cell a
          have fh := hh0.frozen a
          rw [show min a 8 = a from by omega] at hh0 ch
          rw [wv_get, upd_get (by rw [H0_length]; simp) (Nat.le_refl _) (by simp; omega), zeros_get (by omega)] at ch
          simp only [Option.map_some] at ch
          have cp : w2.cell? ⟨gp, 0, none⟩ = some (.int .u32 (p : Int)) := by have := hbp.cell 0; simpa using this
          have hs2 := Lib.hid (upd_set (new := H0) (old := zeros 8) (k := a) (by rw [H0_length]; simp) (by simp; omega) (hH.out (by omega)))
          have l2 := frac_lt p 2
          generalize PlainRoot.frac p 2 = f2 at *
          go_wp2_with fail
          refine (hf2.out _).mono ?_
          rintro e w9 ⟨rfl, hB9⟩
          have lk := hh0.lt
          have lp := hbp.lt
          replace hbp := hbp.keep hB9
          replace hh0 := hh0.keep hB9
          replace hk0 := hk0.keep hB9
          replace own2 := Lib.hid (own_keep own2.out hB9)
          replace hB := below_call hB hB.size hB9
          replace ch := (hB9.cell (p := ⟨w.heap.size, a, none⟩) lk).trans ch
          replace fh := hh0.frozen a
          replace cp : w9.cell? ⟨gp, 0, none⟩ = some (.int .u32 (p : Int)) := by have := hbp.cell 0; simpa using this
          have hh1 := hh0.set_ a (.int .u32 (f2 : Int))
          rw [wv_set, hs2.out] at hh1
          have hh1 := Lib.hid hh1
          have hk1 := Lib.hid (hk0.far (p := ⟨w.heap.size, a, none⟩) (by simp) (.int .u32 (f2 : Int)))
          have hbp1 := Lib.hid (hbp.far (p := ⟨w.heap.size, a, none⟩) (by simp; omega) (.int .u32 (f2 : Int)))
          have hB1 := Lib.hid (hB.setCell (p := ⟨w.heap.size, a, none⟩) (by simp) (.int .u32 (f2 : Int)))
          have own1 := Lib.hid (own_keeps own2.out ((Keeps.refl [w.heap.size] _).setCell (p := ⟨w.heap.size, a, none⟩) (by simp) (.int .u32 (f2 : Int))) (fun k hk _ => by simp; omega))
          go_upto_region 10 with (fail)
          clear hbp hh0 hk0 hB own2 ch fh cp hH hs2 hB9
          replace hh0 := hh1.out
          replace hk0 := hk1.out
          replace hbp := hbp1.out
          replace hB := hB1.out
          have own2 := own1
          clear hh1 hk1 hbp1 hB1
          generalize w9.setCell ⟨w.heap.size, a, none⟩ (.int .u32 (f2 : Int)) = w8 at *
          have ck := hk0.cell a
          have fk := hk0.frozen a
          rw [wv_get, upd_get (by rw [K0_length]; simp) (Nat.le_refl _) (by simp; omega), zeros_get (by omega)] at ck
          simp only [Option.map_some] at ck
          have cp : w8.cell? ⟨gp, 0, none⟩ = some (.int .u32 (p : Int)) := by have := hbp.cell 0; simpa using this
          have hs := Lib.hid (upd_set (new := K0) (old := zeros 64) (k := a) (by rw [K0_length]; simp) (by simp; omega) hK.out)
          have l1 := frac_lt p 3
          generalize PlainRoot.frac p 3 = f3 at *
          go_wp2_with (go_at_call 72; refine (hf3.out _).mono ?_; rintro e w9 ⟨rfl, hB9⟩; have lk := hk0.lt; have lp := hbp.lt; replace hbp := hbp.keep hB9; replace hh0 := hh0.keep hB9; replace hk0 := hk0.keep hB9; replace own2 := Lib.hid (own_keep own2.out hB9); replace hB := below_call hB hB.size hB9; replace ck := (hB9.cell (p := ⟨w.heap.size + 1, a, none⟩) lk).trans ck; replace fk := hk0.frozen a; replace cp : w9.cell? ⟨gp, 0, none⟩ = some (.int .u32 (p : Int)) := by have := hbp.cell 0; simpa using this)
          go_roundg (gk - 1)
          case measure => have := hgk.out; have := hp312.out; omega
          case rel =>
            have hk1 := hk0.set_ a (.int .u32 (f3 : Int))
            rw [wv_set, hs.out, ← hpn1.out] at hk1
            have lq := hbp.lt
            refine ⟨p + 1, w9.heap.size, ?_, by rw [hpn1.out]; rfl, rfl, by omega, by have := hp312.out; omega, ?_, ?_, ?_, Blk.new_at (by simp) (by simp), ?_, hk1.alloc _, (hB.setCell (by simp) _).alloc ?_ _⟩
            · show _ = _; have := hgk.out; have := hp312.out; omega
            · exact (own_keeps own2.out ((Keeps.refl [w.heap.size + 1] _).setCell (p := ⟨w.heap.size + 1, a, none⟩) (by simp) _) (fun k hk _ => by simp; omega)).alloc _
            · intro h; have := (own2.out.lt _ h).2; omega
            · omega
            · exact (by rw [hpn1.out, show min (a + 1) 8 = a + 1 from by omega]; exact (hh0.far (by simp) _).alloc _)
            · have := hB.size; simp; omega
        · replace hH := Lib.hid h8
          have ck := hk0.cell a
          have fk := hk0.frozen a
          rw [wv_get, upd_get (by rw [K0_length]; simp) (Nat.le_refl _) (by simp; omega), zeros_get (by omega)] at ck
          simp only [Option.map_some] at ck
          have cp : w2.cell? ⟨gp, 0, none⟩ = some (.int .u32 (p : Int)) := by have := hbp.cell 0; simpa using this
          have hs := Lib.hid (upd_set (new := K0) (old := zeros 64) (k := a) (by rw [K0_length]; simp) (by simp; omega) hK.out)
          have l1 := frac_lt p 3
          generalize PlainRoot.frac p 3 = f3 at *
          go_wp2_with (go_at_call 72; refine (hf3.out _).mono ?_; rintro e w9 ⟨rfl, hB9⟩; have lk := hk0.lt; have lp := hbp.lt; replace hbp := hbp.keep hB9; replace hh0 := hh0.keep hB9; replace hk0 := hk0.keep hB9; replace own2 := Lib.hid (own_keep own2.out hB9); replace hB := below_call hB hB.size hB9; replace ck := (hB9.cell (p := ⟨w.heap.size + 1, a, none⟩) lk).trans ck; replace fk := hk0.frozen a; replace cp : w9.cell? ⟨gp, 0, none⟩ = some (.int .u32 (p : Int)) := by have := hbp.cell 0; simpa using this)
          go_roundg (gk - 1)
          case measure => have := hgk.out; have := hp312.out; omega
          case rel =>
            have hk1 := hk0.set_ a (.int .u32 (f3 : Int))
            rw [wv_set, hs.out, ← hpn1.out] at hk1
            have lq := hbp.lt
            refine ⟨p + 1, w9.heap.size, ?_, by rw [hpn1.out]; rfl, rfl, by omega, by have := hp312.out; omega, ?_, ?_, ?_, Blk.new_at (by simp) (by simp), ?_, hk1.alloc _, (hB.setCell (by simp) _).alloc ?_ _⟩
            · show _ = _; have := hgk.out; have := hp312.out; omega
            · exact (own_keeps own2.out ((Keeps.refl [w.heap.size + 1] _).setCell (p := ⟨w.heap.size + 1, a, none⟩) (by simp) _) (fun k hk _ => by simp; omega)).alloc _
            · intro h; have := (own2.out.lt _ h).2; omega
            · omega
            · exact (by rw [hpn1.out, show min (a + 1) 8 = min a 8 from by omega]; exact (hh0.far (by simp) _).alloc _)
            · have := hB.size; simp; omega
    · have hpl2 := pl_len (q := 312) h2 h312
      rw [pl312_length] at hpl2
      have ha : (pl p).length = 64 := by omega
      rw [ha, show min 64 8 = 8 from rfl, upd_all H0_length (by simp)] at hh0
      rw [ha, upd_all K0_length (by simp)] at hk0
      have ha := Lib.hid ha
      have hHl := Lib.hid (show (wv H0).length = 8 by simp [H0_length])
      have hKl := Lib.hid (show (wv K0).length = 64 by simp [K0_length])
      obtain ⟨H, hHe⟩ : ∃ H, H = wv H0 := ⟨_, rfl⟩
      obtain ⟨K, hKe⟩ : ∃ K, K = wv K0 := ⟨_, rfl⟩
      have hH1 := Lib.hid (show Ones H from hHe ▸ ones_wv H0)
      have hKo := Lib.hid (show Ones K from hKe ▸ ones_wv K0)
      rw [← hHe] at hh0 hHl
      rw [← hKe] at hk0 hKl
      replace hHe := Lib.hid hHe
      replace hKe := Lib.hid hKe
      clear hpl2 hh1 hgv own cp hbp
      go_wp2
      refine wp_region_held_drew (S := fun w' => w'.rangeAt w.heap.size 0 H ∧ w'.rangeAt (w.heap.size + 1) 0 K) (by kernel_rfl) ⟨hSS hh0.drew hHl.out, hSS hk0.drew hKl.out⟩ (fun hH => ?_)
      refine takeH_load (o := ⟨some 35, _, _, _, _, _⟩) (i := 0) rfl (by kernel_rfl) (by kernel_rfl) (by kernel_rfl) (fun _ _ _ _ h => h) rfl 106 (.tmp 0) rfl 8 arr8s _ _ rfl H hHl.out (fun w h => h.1) hH ?_
      simp only [Act.put, List.setIfInBounds_toArray, List.set_cons_zero, List.set_cons_succ, Nat.zero_add, decide_true, beq_self_eq_true]
      refine takeH_load (o := ⟨some 36, _, _, _, _, _⟩) (i := 1) rfl (by kernel_rfl) (by kernel_rfl) (by kernel_rfl) (fun _ _ _ _ h => h) rfl 107 (.tmp 1) rfl 64 arr64w _ _ rfl K hKl.out (fun w h => h.2) hH ?_
      simp only [Act.put, List.setIfInBounds_toArray, List.set_cons_zero, List.set_cons_succ, Nat.zero_add, decide_true, beq_self_eq_true]
      refine wpAnyH_ready (rs := [2]) (by kernel_rfl) (by simp) ?_
      refine AllReadyH.cons rfl (fun K1 hK1 => ?_) AllReadyH.nil
      rw [if_pos (by rfl)]
      refine wp_storeA 106 (.tmp 0) (.tmp 35) rfl 8 arr8s _ _ rfl H rfl 106 _ hh0.drew hHl.out (by rw [hHl.out]; decide) hH1.out ?_
      intro w3 h3 hK3
      rw [putL_all rfl] at h3
      have k3 := hk0.drew.keeps hK3 (by simp)
      have hB3 := hB.drew.trans (hK3.below hB.drew.size (by simp))
      refine hK1.out _ _ ⟨hSS h3 hHl.out, hSS k3 hKl.out⟩ (fun hH => ?_)
      clear hK1 K1 hK3
      refine wpAnyH_ready (rs := [3]) (by kernel_rfl) (by simp) ?_
      refine AllReadyH.cons rfl (fun K1 hK1 => ?_) AllReadyH.nil
      rw [if_pos (by rfl)]
      refine wp_storeA 107 (.tmp 1) (.tmp 36) rfl 64 arr64w _ _ rfl K rfl 107 _ k3 hKl.out (by rw [hKl.out]; decide) hKo.out ?_
      intro w4 k4 hK4
      rw [putL_all rfl] at k4
      have h4 := h3.keeps hK4 (by simp)
      have hB4 := hB3.trans (hK4.below hB3.size (by simp))
      refine hK1.out _ _ ⟨hSS h4 hHl.out, hSS k4 hKl.out⟩ (fun hH => ?_)
      clear hK1 K1 hK4
      refine wpAnyH_done (by kernel_rfl) ?_ _
      go_wp2_with fail
      exact bodyPost_ret (v := .tuple #[.agg H.toArray, .agg K.toArray]) (res_cell2 Try.results54 _ _ _ _ 106 107 _ _ arr8s arr64w hHl.out hKl.out rfl rfl h4 k4) rfl ⟨by rw [hHe.out, hKe.out], hB4⟩
end Go.Proofs.Ytlifpmglaoppoaa

/- Contracts of package sha: New, Len. -/
namespace Go.Proofs.Ytlifpmglaoppoaa
open Go.RowKit
open Go.Proofs.PlainAes
open Go.Proofs.PlainSha

/-- A hasher's cells. -/
def hcells (s : List Nat) (v : Value) (n : Nat) : List Value := wv s ++ (wv K0 ++ [v, .int .i64 (n : Int)])
theorem hcells_length (s : List Nat) (v : Value) (n : Nat) (hs : s.length = 8) : (hcells s v n).length = 74 := by simp [hcells, hs, K0_length]
theorem hcells_s (s : List Nat) (v : Value) (n : Nat) (hs : s.length = 8) : ((hcells s v n).drop 0).take 8 = wv s := by
  rw [List.drop_zero, hcells, List.take_append_of_le_length (by simp [hs]), List.take_of_length_le (by simp [hs])]
theorem hcells_k (s : List Nat) (v : Value) (n : Nat) (hs : s.length = 8) : ((hcells s v n).drop 8).take 64 = wv K0 := by
  have h8 : (wv s).length = 8 := by simp [hs]
  have h64 : (wv K0).length = 64 := by simp [K0_length]
  rw [hcells, List.drop_append, List.drop_of_length_le (by omega), h8, Nat.sub_self, List.drop_zero, List.nil_append, List.take_append_of_le_length (by omega), List.take_of_length_le (by omega)]
theorem hcells_v (s : List Nat) (v : Value) (n : Nat) (hs : s.length = 8) : (hcells s v n)[72]? = some v := by
  have h8 : (wv s).length = 8 := by simp [hs]
  have h64 : (wv K0).length = 64 := by simp [K0_length]
  rw [hcells, List.getElem?_append_right (by omega), List.getElem?_append_right (by omega), h8, h64]; rfl
theorem hcells_n (s : List Nat) (v : Value) (n : Nat) (hs : s.length = 8) : (hcells s v n)[73]? = some (.int .i64 (n : Int)) := by
  have h8 : (wv s).length = 8 := by simp [hs]
  have h64 : (wv K0).length = 64 := by simp [K0_length]
  rw [hcells, List.getElem?_append_right (by omega), List.getElem?_append_right (by omega), h8, h64]; rfl
theorem hcells_set_v (s : List Nat) (v v' : Value) (n : Nat) (hs : s.length = 8) : (hcells s v n).set 72 v' = hcells s v' n := by
  have h8 : (wv s).length = 8 := by simp [hs]
  have h64 : (wv K0).length = 64 := by simp [K0_length]
  rw [hcells, List.set_append_right _ _ (by omega), List.set_append_right _ _ (by omega), h8, h64]; rfl
theorem hcells_set_n (s : List Nat) (v : Value) (n n' : Nat) (hs : s.length = 8) : (hcells s v n).set 73 (.int .i64 (n' : Int)) = hcells s v n' := by
  have h8 : (wv s).length = 8 := by simp [hs]
  have h64 : (wv K0).length = 64 := by simp [K0_length]
  rw [hcells, List.set_append_right _ _ (by omega), List.set_append_right _ _ (by omega), h8, h64]; rfl
theorem hcells_put_s (s s' : List Nat) (v : Value) (n : Nat) (hs : s.length = 8) (hs' : s'.length = 8) : putL (hcells s v n) 0 (wv s') = hcells s' v n := by
  have h8 : (wv s).length = 8 := by simp [hs]
  have h8' : (wv s').length = 8 := by simp [hs']
  rw [putL, hcells, List.take_zero, List.nil_append, Nat.zero_add, h8', List.drop_append, List.drop_of_length_le (by omega), h8, Nat.sub_self, List.drop_zero, List.nil_append]
  rfl

/-- The state behind all whole blocks, and the rest. -/
def stOf (l : List Nat) : List Nat := states K0 H0 l (l.length / 64)
def rsOf (l : List Nat) : List Nat := l.drop (64 * (l.length / 64))
/-- A hasher that has taken l: block g, its rest in row r. -/
def Hsh (w : World) (B g : Nat) (r : Option Nat) (l : List Nat) : Prop :=
  ∃ v, Blk w g 109 (hcells (stOf l) v l.length) ∧ w.ownsRow B 5 1 v (rsOf l).length (bv (rsOf l)) ∧ v.ownBlock = r ∧ r ≠ some g ∧ B ≤ g
theorem stOf_length (l : List Nat) : (stOf l).length = 8 := states_length H0_length _
theorem Hsh.keeps {w w' : World} {B g : Nat} {r : Option Nat} {l : List Nat} {G : List Nat} (h : Hsh w B g r l) (hK : Keeps G w w') (hg : g ∉ G) (hr : ∀ k, r = some k → k ∉ G) : Hsh w' B g r l := by
  obtain ⟨v, h1, h2, h3, h4, h5⟩ := h
  exact ⟨v, h1.keeps hK hg, own_keeps h2 hK (fun k _ hk => hr k (h3 ▸ hk)), h3, h4, h5⟩
theorem Hsh.keep {w w' : World} {B g : Nat} {r : Option Nat} {l : List Nat} (h : Hsh w B g r l) (hB : Below w.heap.size w w') : Hsh w' B g r l := h.keeps (Keeps.of_below hB (G := [])) (by simp) (by simp)

/-- A hasher's cells at the start. -/
def hzero : List Value := wv (zeros 8) ++ (wv (zeros 64) ++ [.slice none 0 0, .int .i64 0])
def RetNew (w : World) (e : Ending) (w' : World) : Prop := ∃ g, e = .returned (.pointer (some ⟨g, 0, none⟩)) ∧ Hsh w' w.heap.size g none [] ∧ Below w.heap.size w w'
theorem put_new0 (H : List Value) (hH : H.length = 8) : putL hzero 0 H = H ++ (wv (zeros 64) ++ [.slice none 0 0, .int .i64 0]) := by
  have h8 : (wv (zeros 8)).length = 8 := by simp
  rw [putL, hzero, List.take_zero, List.nil_append, Nat.zero_add, hH, List.drop_append, List.drop_of_length_le (by omega), h8, Nat.sub_self, List.drop_zero, List.nil_append]
theorem put_new1 (H K : List Value) (hH : H.length = 8) (hK : K.length = 64) : putL (H ++ (wv (zeros 64) ++ [.slice none 0 0, .int .i64 0])) 8 K = H ++ (K ++ [.slice none 0 0, .int .i64 0]) := by
  have h64 : (wv (zeros 64)).length = 64 := by simp
  rw [putL, List.take_append_of_le_length (by omega), List.take_of_length_le (by omega), List.drop_append, List.drop_of_length_le (by omega), hH, hK, List.nil_append,
    show 8 + 64 - 8 = 64 from rfl, List.drop_append, List.drop_of_length_le (by omega), h64, Nat.sub_self, List.drop_zero, List.nil_append, List.append_assoc]
set_option maxRecDepth 100000 in
set_option maxHeartbeats 1000000 in
theorem new_any (w : World) : Calls Try.prog 34 #[] w (RetNew w) := by
  have hc := Lib.hid (fun w => consts_any w)
  have hz : ∀ w, (zeroValue 109).run Try.prog w = .ok (.agg hzero.toArray) w := fun _ => by kernel_rfl
  have hl0 := Lib.hid (show hzero.length = 74 by simp [hzero])
  have p0 := Lib.hid (fun H hH => put_new0 H hH)
  have p1 := Lib.hid (fun H K hH hK => put_new1 H K hH hK)
  generalize hzero = Z at *
  have hHl := Lib.hid (show (wv H0).length = 8 by simp [H0_length])
  have hKl := Lib.hid (show (wv K0).length = 64 by simp [K0_length])
  have hH1 := Lib.hid (ones_wv H0)
  have hK1 := Lib.hid (ones_wv K0)
  have hend : Hid (hcells (stOf []) (.slice none 0 0) 0 = wv H0 ++ (wv K0 ++ [.slice none 0 0, .int .i64 0])) := rfl
  change Hid (∀ w, Calls _ _ _ w (fun e w' => e = .returned (.tuple #[.agg (wv H0).toArray, .agg (wv K0).toArray]) ∧ Below w.heap.size w w')) at hc
  generalize wv H0 = H at *
  generalize wv K0 = K at *
  go_enter Try.func34, Try.ntmps34
  go_wp2_with fail
  refine (hc.out _).mono ?_
  rintro e w2 ⟨rfl, hB2⟩
  have h1 : Blk w2 w.heap.size 109 Z := (Blk.new_at (w := w) (t := 109) (cs := Z.toArray) rfl rfl).keep hB2
  have hB : Below w.heap.size w w2 := below_call ((Below.refl _ _).alloc (Nat.le_refl _) _) (by simp) hB2
  clear hB2 hz
  go_wp2_with (first
    | refine wpList_storeA rfl 106 (.tmp 11) (.tmp 8) rfl 8 arr8s w.heap.size 0 rfl H rfl 109 _ h1 hHl.out (by rw [hl0.out]; decide) hH1.out ?_)
  intro w3 h2 hK3
  rw [p0.out H hHl.out] at h2
  have hB3 := hB.trans (hK3.below hB.size (by simp))
  clear hK3 h1
  go_wp2_with (first
    | refine wpList_storeA rfl 107 (.tmp 13) (.tmp 9) rfl 64 arr64w w.heap.size 8 rfl K rfl 109 _ h2 hKl.out (by simp [hHl.out]) hK1.out ?_)
  intro w4 h3 hK4
  rw [p1.out H K hHl.out hKl.out] at h3
  have hB4 := hB3.trans (hK4.below hB3.size (by simp))
  clear hK4 h2
  go_wp2
  go_ret
  exact ⟨w.heap.size, rfl, ⟨.slice none 0 0, by have := hend.out; rw [show ([] : List Nat).length = 0 from rfl, this]; exact h3, World.ownsRow_nil _ _ _ _, rfl, by simp, Nat.le_refl _⟩, hB4⟩
end Go.Proofs.Ytlifpmglaoppoaa

/- Contracts of package sha: Write. -/
namespace Go.Proofs.Ytlifpmglaoppoaa
open Go.RowKit
open Go.Proofs.PlainAes
open Go.Proofs.PlainSha

section
variable {P : Program} {ops : Array Oper} {Q : Exit → Act → World → Prop} {S : World → Prop} {md : Region.Mode}
theorem takeH_nil {i : Nat} {o : Oper} {fuel : Nat} {listed : Array Bool} {a : Act} {w : World} (hi : ops[i]? = some o) (hs : Region.noSelect ops = true) (hf : Region.free md ops listed i = true) (hr : (Region.ready md ops listed).contains i = true)
    (hQ : ∀ c a w v, Q (.panic c) (a.put o.dst v) w → Q (.panic c) a w) (hw : Region.wanted o (yielded ops a.tmps) = true) (x : Operand) (ho : o.op = .nilCheck x) (A : Addr) (hx : a.eval x = .pointer (some A))
    (hH : S w) (h : wpAnyH P md ops Q S fuel (listed.setIfInBounds i true) (a.put o.dst (.pointer (some A))) w) : wpAnyH P md ops Q S (fuel + 1) listed a w :=
  wpAnyH_take hi hs hf hr (fun c a w => hQ c a w _) (.inl ⟨hw, fun w _ => by unfold execOp; simp [ho, hx]⟩) hH h
/-- A part of a slice. -/
theorem takeH_slice {i : Nat} {o : Oper} {fuel : Nat} {listed : Array Bool} {a : Act} {w : World} (hi : ops[i]? = some o) (hs : Region.noSelect ops = true) (hf : Region.free md ops listed i = true) (hr : (Region.ready md ops listed).contains i = true)
    (hQ : ∀ c a w v, Q (.panic c) (a.put o.dst v) w → Q (.panic c) a w) (hw : Region.wanted o (yielded ops a.tmps) = true) (ty : TypeId) (x : Operand) (lo hi' : Option Operand) (ho : o.op = .slice ty x lo hi' none) (u : Value) (hx : a.eval x = u) (vl vh : Option Value) (hl : lo.map a.eval = vl) (hh : hi'.map a.eval = vh) (v : Value)
    (hrun : ∀ w, (Instr.sliceAt ty u vl vh none).run P w = .ok v w)
    (hH : S w) (h : wpAnyH P md ops Q S fuel (listed.setIfInBounds i true) (a.put o.dst v) w) : wpAnyH P md ops Q S (fuel + 1) listed a w :=
  wpAnyH_take hi hs hf hr (fun c a w => hQ c a w _) (.inl ⟨hw, fun w _ => by
    unfold execOp
    simp [ho, hx, hl, hh, Sem.run_bind, hrun w]⟩) hH h
/-- A load of an array, carried out. -/
theorem wp_loadA {o : Oper} {a : Act} {w : World} {K : Act → World → Prop} (ty : TypeId) (x : Operand) (ho : o.op = .load ty x) (n : Nat) (hT : ArrTy P ty n) (g off : Nat) (hx : a.eval x = .pointer (some ⟨g, off, none⟩)) (t : TypeId) (L : List Value) (hb : Blk w g t L)
    (hl : off + n ≤ L.length) (M : List Value) (hM : (L.drop off).take n = M) (h : K (a.put o.dst (.agg M.toArray)) w) : Oper.wp P o a w K Q := by
  subst hM
  unfold Oper.wp execOp
  simp only [ho, hx, Sem.run_bind, run_loadA hb hT hl, Result.andThen_ok, Sem.run_pure]
  exact h
end
theorem hfld0 (g : Nat) (w : World) : (Instr.fieldAt 109 (.pointer (some ⟨g, 0, none⟩)) 0).run Try.prog w = .ok (.pointer (some ⟨g, 0, none⟩)) w := by kernel_rfl
theorem hfld1 (g : Nat) (w : World) : (Instr.fieldAt 109 (.pointer (some ⟨g, 0, none⟩)) 1).run Try.prog w = .ok (.pointer (some ⟨g, 8, none⟩)) w := by kernel_rfl
theorem hfld2 (g : Nat) (w : World) : (Instr.fieldAt 109 (.pointer (some ⟨g, 0, none⟩)) 2).run Try.prog w = .ok (.pointer (some ⟨g, 72, none⟩)) w := by kernel_rfl

theorem head64 (k n c : Nat) (hc : 64 ≤ c) (w : World) : (Instr.sliceAt 22 (.slice (some ⟨k, 0, none⟩) n c) none (some (.int .i64 64)) none).run Try.prog w = .ok (.slice (some ⟨k, 0, none⟩) 64 c) w := by
  have hu : Try.prog.underlying 22 = some (.slice (Try.prog.elem 22)) := by kernel_rfl
  have hz : (sizeOf (Try.prog.elem 22)).run Try.prog w = .ok 1 w := by kernel_rfl
  have hne : ¬ c = 0 := by omega
  rw [run_sliceAt_slice (h := hu), run_slice_h (ht := hu) (h0 := by omega) (h2 := by omega), hz]
  simp [Result.andThen, sliced, hne]
  unfold Addr.add; split <;> simp_all

theorem own_shape {b : Nat} {w : World} {e : TypeId} {v : Value} {n : Nat} {xs : List Value} (h : w.ownsRow b e 1 v n xs) : ∃ A c, v = .slice A n c ∧ n ≤ c ∧ c ≤ maxLen ∧ (0 < n → ∃ k, A = some ⟨k, 0, none⟩ ∧ k < w.heap.size) := by
  rcases h.2 with ⟨rfl, rfl⟩ | ⟨g, cap, cur, rfl, hb2, hg, h3, h4, _⟩
  · exact ⟨none, 0, rfl, Nat.le_refl _, Nat.zero_le _, fun h => absurd h (by decide)⟩
  · exact ⟨_, cap, rfl, h3, h4, fun _ => ⟨g, rfl, (h.lt g rfl).2⟩⟩
/-- What Write does. -/
def RetWr (B g : Nat) (r : Option Nat) (l : List Nat) (w : World) (e : Ending) (w' : World) : Prop :=
  e = .returned (.int .i64 0) ∧ ∃ r', Hsh w' B g r' l ∧ Keeps (g :: r.toList) w w' ∧ Moved w.heap.size r r'
/-- In the loop: q blocks of l are taken. -/
def WrAt (B g : Nat) (r : Option Nat) (l : List Nat) (w0 : World) (q : Nat) (w : World) : Prop :=
  q ≤ l.length / 64 ∧ ∃ v, Blk w g 109 (hcells (states K0 H0 l q) v l.length) ∧ w.ownsRow B 5 1 v (l.length - 64 * q) (bv (l.drop (64 * q))) ∧ v.ownBlock ≠ some g ∧ Moved w0.heap.size r v.ownBlock ∧ Keeps (g :: r.toList) w0 w ∧ B ≤ g ∧ B ≤ w0.heap.size
theorem Sl.keeps2 {G : List Nat} {w w' : World} {v : Value} {xs : List Value} (h : Sl w v xs) (hk : Keeps G w w') (hg : 0 < xs.length → ∀ A n c, v = .slice (some A) n c → A.block ∉ G) : Sl w' v xs := by
  obtain ⟨A, c, rfl, h1, h2, h3⟩ := h
  refine ⟨A, c, rfl, h1, h2, fun hp => ?_⟩
  obtain ⟨g, o, rfl, hc⟩ := h3 hp
  refine ⟨g, o, rfl, fun i u hu => ?_⟩
  have hl := hc i u hu
  have hb := hk.block g (cell_lt hl) (hg hp _ _ _ rfl)
  rw [← hl]
  simp [World.cell?, hb]
theorem rest_app (l b : List Nat) : rsOf l ++ b = (l ++ b).drop (64 * (l.length / 64)) := by
  unfold rsOf
  rw [List.drop_append_of_le_length (by omega)]
theorem rest_len (l b : List Nat) : (rsOf l).length + b.length = (l ++ b).length - 64 * (l.length / 64) := by
  simp [rsOf]; omega
theorem st_app (l b : List Nat) : stOf l = states K0 H0 (l ++ b) (l.length / 64) := (states_append K0 H0 l b _ (by omega)).symm
theorem hshS {w : World} {g n : Nat} {s : List Nat} {v : Value} (hs : s.length = 8) (hb : Blk w g 109 (hcells s v n)) : w.rangeAt g 0 (wv s) ∧ w.cell? ⟨g, 72, none⟩ = some v := by
  refine ⟨?_, by rw [hb.cell, hcells_v _ _ _ hs]⟩
  have h := At.of_blk hb 0 8
  rw [hcells_s _ _ _ hs] at h
  exact h
theorem hshK {w : World} {g n : Nat} {s : List Nat} {v : Value} (hs : s.length = 8) (hb : Blk w g 109 (hcells s v n)) : At w g 8 (wv K0) := by
  have h := At.of_blk hb 8 64
  rw [hcells_k _ _ _ hs] at h
  exact h
set_option maxRecDepth 100000 in
set_option maxHeartbeats 2000000 in
theorem write_core (l b : List Nat) (B g n c : Nat) (A : Option Addr) (r : Option Nat) (w : World) (h : Hsh w B g r l) (hs : Sl w (.slice A n c) (bv b)) (bl : Byt l) (bb : Byt b) (hlen : (l.length : Int) + b.length ≤ 1099511627776)
    (hsep : 0 < b.length → ∀ a, A = some a → a.block ≠ g ∧ r ≠ some a.block) :
    Calls Try.prog 35 #[.pointer (some ⟨g, 0, none⟩), .slice A n c] w (RetWr B g r (l ++ b) w) := by
  obtain ⟨i0, hi, hz0, hz1, hz2⟩ := info_parts (P := Try.prog) (e := 5) (z := .int .u8 0) (size := 1) (bytes := 1) (by kernel_rfl)
  obtain ⟨v0, hb0, own0, hr0, hrg, hBg⟩ := h
  obtain ⟨hcap, hcm, hbn⟩ := hs.cap
  rw [bv_length] at hbn
  have hst := stOf_length l
  have hgl := hb0.lt
  have c1 := hb0.cell 73
  rw [hcells_n _ _ _ hst] at c1
  have f1 := hb0.frozen 73
  have e73 : (Value.int .i64 ((l.length : Int) + (b.length : Int))) = .int .i64 ((l.length + b.length : Nat) : Int) := by simp
  have hb1 := hb0.set_ 73 (.int .i64 ((l.length : Int) + (b.length : Int)))
  rw [e73, hcells_set_n _ _ _ _ hst, ← e73] at hb1
  clear e73
  have hK1 : Keeps [g] w (w.setCell ⟨g, 73, none⟩ (.int .i64 ((l.length : Int) + (b.length : Int)))) := (Keeps.refl _ _).setCell (by simp) _
  have own1 := own_keeps own0 hK1 (fun k hk hv => by simp; intro e; exact hrg (by rw [← hr0, hv, e]))
  have hs1 := hs.keeps2 hK1 (fun hp A' n' c' e => by injection e with e1 _ _; simp; exact (hsep (by simpa using hp) _ e1).1)
  have c2 := hb0.cell 72
  rw [hcells_v _ _ _ hst] at c2
  have f2 := hb0.frozen 72
  replace hb0 := Lib.hid hb0
  replace own0 := Lib.hid own0
  replace own1 := Lib.hid own1
  replace hs := Lib.hid hs
  replace hs1 := Lib.hid hs1
  replace hsep := Lib.hid hsep
  subst hbn
  replace hr0 := Lib.hid hr0
  replace hrg := Lib.hid hrg
  replace hK1 := Lib.hid hK1
  replace hb1 := Lib.hid hb1
  replace hst := Lib.hid hst
  go_enter Try.func35, Try.ntmps35
  go_wp2_with (at_builtin; refine wpList_append_sl2 rfl (.tmp 20) (.tmp 21) 22 rfl B 5 i0 (.int .u8 0) 1 Try.underlying22 hi hz0 hz1 hz2 rfl _ (rsOf l).length (bv (rsOf l)) rfl own1.out _ (bv b) rfl hs1.out (bv_oneCell b) ?_ ?_ ?_ ?_)
  · simp [maxLen, rsOf]; omega
  · simp [rsOf]; omega
  · simp; omega
  intro v1 w1 own2 gr hmv
  rw [hr0.out] at gr hmv
  obtain ⟨A1, cp1, hv1, -⟩ := own_shape own2
  subst hv1
  have hgr : g ∉ r.toList := by
    intro hm
    cases r with
    | none => simp at hm
    | some k => simp only [Option.toList_some, List.mem_cons, List.not_mem_nil, or_false] at hm; exact hrg.out (by rw [hm])
  have hK2 := Keeps.grown gr
  have hb2 := hb1.out.keeps hK2 hgr
  have hg1 : (Value.slice A1 ((rsOf l).length + b.length) cp1).ownBlock ≠ some g := hmv.ne hgl hrg.out
  have hW : WrAt B g r (l ++ b) w (l.length / 64) (w1.setCell ⟨g, 72, none⟩ (.slice A1 ((rsOf l).length + b.length) cp1)) := by
    have hKs : Keeps [g] w1 (w1.setCell ⟨g, 72, none⟩ (.slice A1 ((rsOf l).length + b.length) cp1)) := (Keeps.refl _ _).setCell (by simp) _
    refine ⟨by simp; omega, .slice A1 ((rsOf l).length + b.length) cp1, ?_, ?_, hg1, hmv, ?_, hBg, Nat.le_trans hBg (Nat.le_of_lt hgl)⟩
    · have h3 := hb2.set_ 72 (.slice A1 ((rsOf l).length + b.length) cp1)
      rw [hcells_set_v _ _ _ _ hst.out, st_app l b, show l.length + b.length = (l ++ b).length from by simp] at h3
      exact h3
    · rw [← rest_app, ← rest_len, bv_app]
      exact own_keeps own2 hKs (fun k hk hv => by simp; intro e; exact hg1 (by rw [hv, e]))
    · exact ((hK1.out.mono (by simp)).trans (hK2.mono (by simp; exact fun b hb => .inr hb))).trans (hKs.mono (by simp))
  have c72 : w1.cell? ⟨g, 72, none⟩ = some v0 := by rw [hb2.cell, hcells_v _ _ _ hst.out]
  have f72 := hb2.frozen 72
  replace hW := Lib.hid hW
  have hL := Lib.hid (show (l ++ b).length = l.length + b.length from by simp)
  have bB := Lib.hid (show Byt (l ++ b) from fun x hx => (List.mem_append.1 hx).elim (bl x) (bb x))
  have hq0 := Lib.hid (show l.length / 64 ≤ (l ++ b).length / 64 from by simp; omega)
  clear hb2 hK2 hgr gr hmv hg1 own2 hb0 own0 own1 hs hs1 hr0 hrg hK1 hb1 hst hsep bl bb c1 f1 c2 f2
  generalize hlb : l ++ b = M at *
  have hM : (M.length : Int) ≤ 1099511627776 := by have := hL.out; omega
  clear hlb
  go_wp2
  go_loopg [25] (M.length / 64 - l.length / 64) (fun gk x wr => ∃ q, Hid (gk + q = M.length / 64) ∧ WrAt B g r M w q wr)
  case atStart => exact ⟨l.length / 64, by show _ = _; have := hq0.out; omega, hW.out⟩
  case round =>
    clear hW
    obtain ⟨q, hgk, hq, v, hb, own, hvg, hmv, hK, hBg, hBw⟩ := hrel
    obtain ⟨A2, c2, rfl, hc1, hcm2, hsome⟩ := own_shape own
    have hsl0 : (states K0 H0 M q).length = 8 := states_length H0_length q
    have hsw := states_wds (K := K0) (l := M) H0_wds q
    have hst1 : Hid (states K0 H0 M (q + 1) = takeS K0 (states K0 H0 M q) (seg M (64 * q) 64)) := rfl
    obtain ⟨s, hs⟩ : ∃ s, s = states K0 H0 M q := ⟨_, rfl⟩
    rw [← hs] at hb hsl0 hsw hst1
    replace hs := Lib.hid hs
    have hsl := Lib.hid (show (wv s).length = 8 by simp [hsl0])
    have c72 := (hshS hsl0 hb).2
    obtain ⟨m, hm⟩ : ∃ m, m = M.length - 64 * q := ⟨_, rfl⟩
    rw [← hm] at hb own hvg hmv hc1 hsome c72
    replace hm := Lib.hid hm
    have hmI : (m : Int) ≤ 1099511627776 := by have := hm.out; omega
    by_cases hge : 64 ≤ (m : Int)
    · obtain ⟨k, rfl, hkl⟩ := hsome (by omega)
      have hc64 : 64 ≤ c2 := by omega
      have hseg : (seg M (64 * q) 64).length = 64 := seg_length (by have := hm.out; omega)
      have hpart : Sl wr.drew (.slice (some ⟨k, 0, none⟩) 64 c2) (bv (seg M (64 * q) 64)) := by
        have h := own_part (w := wr.drew) own 0 64 (by omega) hcm2 hc1
        rw [bv_seg] at h
        simp only [List.drop_zero, Nat.sub_zero] at h
        exact h
      have hT := Lib.hid (take_any s K0 (seg M (64 * q) 64) _ g 8 wr.drew hsl0 hsw K0_length K0_wds hpart hseg (seg_lt bB.out _ _) (hshK hsl0 hb.drew))
      have hT1 := Lib.hid (takeS_length K0 s (seg M (64 * q) 64))
      rw [← hst1.out] at hT hT1
      change Hid (Calls _ _ _ _ (fun e w' => e = .returned (.agg (wv (states K0 H0 M (q + 1))).toArray) ∧ Below wr.drew.heap.size wr.drew w')) at hT
      obtain ⟨s', hs'⟩ : ∃ s', s' = states K0 H0 M (q + 1) := ⟨_, rfl⟩
      rw [← hs'] at hT hT1
      replace hs' := Lib.hid hs'
      replace hsl0 := Lib.hid hsl0
      replace hvg := Lib.hid hvg
      replace own := Lib.hid own
      clear hpart hsw hseg
      go_wp2
      refine wp_region_held_drew (S := fun w' => w'.cell? ⟨g, 72, none⟩ = some (.slice (some ⟨k, 0, none⟩) m c2)) (by kernel_rfl) (hshS hsl0.out hb.drew).2 (fun hH => ?_)
      refine takeH_move (o := ⟨some 31, _, _, _, _, _⟩) (i := 0) rfl (by kernel_rfl) (by kernel_rfl) (by kernel_rfl) (fun _ _ _ _ h => h) rfl (.tmp 0) rfl (.pointer (some ⟨g, 0, none⟩)) rfl hH ?_
      simp only [Act.put, List.setIfInBounds_toArray, List.set_cons_zero, List.set_cons_succ, Nat.zero_add, decide_true, beq_self_eq_true]
      refine takeH_move (o := ⟨some 32, _, _, _, _, _⟩) (i := 1) rfl (by kernel_rfl) (by kernel_rfl) (by kernel_rfl) (fun _ _ _ _ h => h) rfl (.tmp 0) rfl (.pointer (some ⟨g, 0, none⟩)) rfl hH ?_
      simp only [Act.put, List.setIfInBounds_toArray, List.set_cons_zero, List.set_cons_succ, Nat.zero_add, decide_true, beq_self_eq_true]
      refine takeH_nil (o := ⟨some 33, _, _, _, _, _⟩) (i := 2) rfl (by kernel_rfl) (by kernel_rfl) (by kernel_rfl) (fun _ _ _ _ h => h) rfl (.tmp 32) rfl ⟨g, 0, none⟩ rfl hH ?_
      simp only [Act.put, List.setIfInBounds_toArray, List.set_cons_zero, List.set_cons_succ, Nat.zero_add, decide_true, beq_self_eq_true]
      refine takeH_field (o := ⟨some 34, _, _, _, _, _⟩) (i := 3) rfl (by kernel_rfl) (by kernel_rfl) (by kernel_rfl) (fun _ _ _ _ h => h) rfl 109 (.tmp 33) 0 rfl g 0 rfl (fun w => hfld0 _ w) hH ?_
      simp only [Act.put, List.setIfInBounds_toArray, List.set_cons_zero, List.set_cons_succ, Nat.zero_add, decide_true, beq_self_eq_true]
      refine takeH_move (o := ⟨some 36, _, _, _, _, _⟩) (i := 5) rfl (by kernel_rfl) (by kernel_rfl) (by kernel_rfl) (fun _ _ _ _ h => h) rfl (.tmp 0) rfl (.pointer (some ⟨g, 0, none⟩)) rfl hH ?_
      simp only [Act.put, List.setIfInBounds_toArray, List.set_cons_zero, List.set_cons_succ, Nat.zero_add, decide_true, beq_self_eq_true]
      refine takeH_nil (o := ⟨some 37, _, _, _, _, _⟩) (i := 6) rfl (by kernel_rfl) (by kernel_rfl) (by kernel_rfl) (fun _ _ _ _ h => h) rfl (.tmp 36) rfl ⟨g, 0, none⟩ rfl hH ?_
      simp only [Act.put, List.setIfInBounds_toArray, List.set_cons_zero, List.set_cons_succ, Nat.zero_add, decide_true, beq_self_eq_true]
      refine takeH_field (o := ⟨some 38, _, _, _, _, _⟩) (i := 7) rfl (by kernel_rfl) (by kernel_rfl) (by kernel_rfl) (fun _ _ _ _ h => h) rfl 109 (.tmp 37) 2 rfl g 72 rfl (fun w => hfld2 _ w) hH ?_
      simp only [Act.put, List.setIfInBounds_toArray, List.set_cons_zero, List.set_cons_succ, Nat.zero_add, decide_true, beq_self_eq_true]
      refine takeH_cell (o := ⟨some 39, _, _, _, _, _⟩) (i := 8) rfl (by kernel_rfl) (by kernel_rfl) (by kernel_rfl) (fun _ _ _ _ h => h) rfl 22 (.tmp 38) rfl Try.underlying22 rfl g 72 rfl (.slice (some ⟨k, 0, none⟩) m c2) (fun w h => h) hH ?_
      simp only [Act.put, List.setIfInBounds_toArray, List.set_cons_zero, List.set_cons_succ, Nat.zero_add, decide_true, beq_self_eq_true]
      refine takeH_slice (o := ⟨some 40, _, _, _, _, _⟩) (i := 9) rfl (by kernel_rfl) (by kernel_rfl) (by kernel_rfl) (fun _ _ _ _ h => h) rfl 22 (.tmp 39) none (some (.const (.int .i64 64))) rfl (.slice (some ⟨k, 0, none⟩) m c2) rfl none (some (.int .i64 64)) rfl rfl (.slice (some ⟨k, 0, none⟩) 64 c2) (fun w => head64 k m c2 hc64 w) hH ?_
      simp only [Act.put, List.setIfInBounds_toArray, List.set_cons_zero, List.set_cons_succ, Nat.zero_add, decide_true, beq_self_eq_true]
      refine takeH_move (o := ⟨some 41, _, _, _, _, _⟩) (i := 10) rfl (by kernel_rfl) (by kernel_rfl) (by kernel_rfl) (fun _ _ _ _ h => h) rfl (.tmp 0) rfl (.pointer (some ⟨g, 0, none⟩)) rfl hH ?_
      simp only [Act.put, List.setIfInBounds_toArray, List.set_cons_zero, List.set_cons_succ, Nat.zero_add, decide_true, beq_self_eq_true]
      refine takeH_nil (o := ⟨some 42, _, _, _, _, _⟩) (i := 11) rfl (by kernel_rfl) (by kernel_rfl) (by kernel_rfl) (fun _ _ _ _ h => h) rfl (.tmp 41) rfl ⟨g, 0, none⟩ rfl hH ?_
      simp only [Act.put, List.setIfInBounds_toArray, List.set_cons_zero, List.set_cons_succ, Nat.zero_add, decide_true, beq_self_eq_true]
      refine takeH_field (o := ⟨some 43, _, _, _, _, _⟩) (i := 12) rfl (by kernel_rfl) (by kernel_rfl) (by kernel_rfl) (fun _ _ _ _ h => h) rfl 109 (.tmp 42) 1 rfl g 8 rfl (fun w => hfld1 _ w) hH ?_
      simp only [Act.put, List.setIfInBounds_toArray, List.set_cons_zero, List.set_cons_succ, Nat.zero_add, decide_true, beq_self_eq_true]
      refine wpAnyH_ready (rs := [4]) (by kernel_rfl) (by simp) ?_
      refine AllReadyH.cons rfl (fun K1 hK1 => ?_) AllReadyH.nil
      rw [if_pos (by rfl)]
      refine wp_loadA 106 (.tmp 34) rfl 8 arr8s g 0 rfl 109 _ hb.drew (by rw [hcells_length _ _ _ hsl0.out]; decide) (wv s) (hcells_s _ _ _ hsl0.out) ?_
      refine hK1.out _ _ (hshS hsl0.out hb.drew).2 (fun hH => ?_)
      clear hK1 K1
      refine wpAnyH_ready (rs := [13]) (by kernel_rfl) (by simp) ?_
      refine AllReadyH.cons rfl (fun K1 hK1 => ?_) AllReadyH.nil
      rw [if_pos (by rfl)]
      go_wp2_with fail
      refine hT.out.mono ?_
      rintro e w5 ⟨rfl, hB5⟩
      have hb5 := hb.drew.keep hB5
      have own5 := own_keep (w := wr.drew) own.out hB5
      have hK5 : Keeps (g :: r.toList) w w5 := (hK.drew).trans (Keeps.of_below hB5)
      refine hK1.out _ _ (hshS hsl0.out hb5).2 (fun hH => ?_)
      clear hK1 K1 hB5
      refine takeH_nil (o := ⟨some 45, _, _, _, _, _⟩) (i := 14) rfl (by kernel_rfl) (by kernel_rfl) (by kernel_rfl) (fun _ _ _ _ h => h) rfl (.tmp 31) rfl ⟨g, 0, none⟩ rfl hH ?_
      simp only [Act.put, List.setIfInBounds_toArray, List.set_cons_zero, List.set_cons_succ, Nat.zero_add, decide_true, beq_self_eq_true]
      refine takeH_field (o := ⟨some 46, _, _, _, _, _⟩) (i := 15) rfl (by kernel_rfl) (by kernel_rfl) (by kernel_rfl) (fun _ _ _ _ h => h) rfl 109 (.tmp 45) 0 rfl g 0 rfl (fun w => hfld0 _ w) hH ?_
      simp only [Act.put, List.setIfInBounds_toArray, List.set_cons_zero, List.set_cons_succ, Nat.zero_add, decide_true, beq_self_eq_true]
      refine wpAnyH_ready (rs := [16]) (by kernel_rfl) (by simp) ?_
      refine AllReadyH.cons rfl (fun K1 hK1 => ?_) AllReadyH.nil
      rw [if_pos (by rfl)]
      have hsl1 := Lib.hid (show (wv s').length = 8 by simp [hT1.out])
      refine wp_storeA 106 (.tmp 46) (.tmp 44) rfl 8 arr8s g 0 rfl (wv s') rfl 109 _ hb5 hsl1.out (by rw [hcells_length _ _ _ hsl0.out]; decide) (ones_wv _) ?_
      intro w6 hb6 hK6
      rw [hcells_put_s _ _ _ _ hsl0.out hT1.out] at hb6
      have own6 := own_keeps own5 hK6 (fun k' hk hv => by simp; intro e; exact hvg.out (by rw [hv, e]))
      have hKa : Keeps (g :: r.toList) w w6 := hK5.trans (hK6.mono (by simp))
      refine hK1.out _ _ (hshS hT1.out hb6).2 (fun hH => ?_)
      clear hK1 K1 hb5 hb own5 hK5 hK6
      refine wpAnyH_done (by kernel_rfl) ?_ _
      have hMd := Lib.hid (show (M.drop (64 * (q + 1))).length = m - 64 by simp; have := hm.out; omega)
      have hbw := hb6.lt
      have hBw6 := Lib.hid (show B ≤ w6.heap.size by omega)
      have hw6 := Lib.hid (show w.heap.size ≤ w6.heap.size from hKa.size)
      have c72 : w6.cell? ⟨g, 72, none⟩ = some (.slice (some ⟨k, 0, none⟩) m c2) := (hshS hT1.out hb6).2
      have h7 : Hid (∀ o c', (c2 = 64 → o = 0 ∧ c' = 0) → (c2 ≠ 64 → o = 64 ∧ c' = c2 - 64) → Calls Try.prog 38 #[.slice (some ⟨k, o, none⟩) (m - 64) c'] w6 (RetO (M.drop (64 * (q + 1))) w6)) := by
        intro o c' h0 h1
        have hsl : Sl w6 (.slice (some ⟨k, o, none⟩) (m - 64) c') (bv (M.drop (64 * (q + 1)))) := by
          by_cases hc : c2 = 64
          · obtain ⟨rfl, rfl⟩ := h0 hc
            have hm64 : m = 64 := by omega
            have e : M.drop (64 * (q + 1)) = [] := List.drop_of_length_le (by have := hm.out; omega)
            rw [e, hm64]
            exact ⟨_, 0, rfl, Nat.le_refl _, Nat.zero_le _, fun h => absurd h (by simp [bv])⟩
          · obtain ⟨rfl, rfl⟩ := h1 hc
            have h := own_part own6 64 (m - 64) (by omega) hcm2 hc1
            rw [bv_seg, List.drop_drop, show 64 * q + 64 = 64 * (q + 1) from by omega, List.take_of_length_le (by rw [hMd.out]; exact Nat.le_refl _)] at h
            exact h
        exact clone_any _ _ _ _ _ hsl (by rw [hMd.out]; omega)
      replace own6 := Lib.hid own6
      by_cases hceq : c2 = 64
      · subst hceq
        have hmm : m = 64 := by omega
        subst hmm
        replace h7 := Lib.hid (h7.out 0 0 (fun _ => ⟨rfl, rfl⟩) (fun h => absurd rfl h))
        go_wp2_with fail
        refine h7.out.mono ?_
        rintro e w7 ⟨v7, rfl, own7, hB7⟩
        have hfr : ∀ k', v7.ownBlock = some k' → w6.heap.size ≤ k' := fun k' hk' => (own7.lt k' hk').1
        obtain ⟨A7, c7, hv7, -⟩ := own_shape own7
        have hne7 : v7.ownBlock ≠ some g := fun e => by have := hfr _ e; omega
        have hb7 := hb6.keep hB7
        have own8 := own_keeps (ownsRow_mono own7 hBw6.out) ((Keeps.refl [g] w7).setCell (p := ⟨g, 72, none⟩) (by simp) v7) (fun k' hk' hv => by simp; intro e; exact hne7 (by rw [hv, e]))
        have hb8 := hb7.set_ 72 v7
        rw [hcells_set_v _ _ _ _ hT1.out, hs'.out] at hb8
        have hK8 : Keeps (g :: r.toList) w (w7.setCell ⟨g, 72, none⟩ v7) := (hKa.trans (Keeps.of_below hB7)).setCell (by simp) _
        have hW8 := Lib.hid (show WrAt B g r M w (q + 1) (w7.setCell ⟨g, 72, none⟩ v7) from ⟨by have := hm.out; omega, v7, hb8, by rw [show M.length - 64 * (q + 1) = (M.drop (64 * (q + 1))).length from by simp]; exact own8, hne7, .inr (fun k' hk' => by have := hfr _ hk'; have := hw6.out; omega), hK8, hBg, hBw⟩)
        have d72 : w7.cell? ⟨g, 72, none⟩ = some (.slice (some ⟨k, 0, none⟩) 64 64) := (hshS hT1.out hb7).2
        have f72 := hb7.frozen 72
        clear hb8 hK8 own8 hne7 hfr hb7 own7 c72
        subst hv7
        go_wp2
        go_roundg (gk - 1)
        case measure => have := hgk.out; have := hm.out; omega
        case rel => exact ⟨q + 1, by show _ = _; have := hgk.out; have := hm.out; omega, by have h := hW8.out; rw [List.length_drop] at h; exact h⟩
      · replace h7 := Lib.hid (h7.out 64 (c2 - 64) (fun h => absurd h hceq) (fun _ => ⟨rfl, rfl⟩))
        have hcI : (65 : Int) ≤ c2 := by omega
        go_wp2_with fail
        refine h7.out.mono ?_
        rintro e w7 ⟨v7, rfl, own7, hB7⟩
        have hfr : ∀ k', v7.ownBlock = some k' → w6.heap.size ≤ k' := fun k' hk' => (own7.lt k' hk').1
        obtain ⟨A7, c7, hv7, -⟩ := own_shape own7
        have hne7 : v7.ownBlock ≠ some g := fun e => by have := hfr _ e; omega
        have hb7 := hb6.keep hB7
        have own8 := own_keeps (ownsRow_mono own7 hBw6.out) ((Keeps.refl [g] w7).setCell (p := ⟨g, 72, none⟩) (by simp) v7) (fun k' hk' hv => by simp; intro e; exact hne7 (by rw [hv, e]))
        have hb8 := hb7.set_ 72 v7
        rw [hcells_set_v _ _ _ _ hT1.out, hs'.out] at hb8
        have hK8 : Keeps (g :: r.toList) w (w7.setCell ⟨g, 72, none⟩ v7) := (hKa.trans (Keeps.of_below hB7)).setCell (by simp) _
        have hW8 := Lib.hid (show WrAt B g r M w (q + 1) (w7.setCell ⟨g, 72, none⟩ v7) from ⟨by have := hm.out; omega, v7, hb8, by rw [show M.length - 64 * (q + 1) = (M.drop (64 * (q + 1))).length from by simp]; exact own8, hne7, .inr (fun k' hk' => by have := hfr _ hk'; have := hw6.out; omega), hK8, hBg, hBw⟩)
        have d72 : w7.cell? ⟨g, 72, none⟩ = some (.slice (some ⟨k, 0, none⟩) m c2) := (hshS hT1.out hb7).2
        have f72 := hb7.frozen 72
        clear hb8 hK8 own8 hne7 hfr hb7 own7 c72
        subst hv7
        go_wp2
        go_roundg (gk - 1)
        case measure => have := hgk.out; have := hm.out; omega
        case rel => exact ⟨q + 1, by show _ = _; have := hgk.out; have := hm.out; omega, by have h := hW8.out; rw [List.length_drop] at h; exact h⟩
    · have hqe : q = M.length / 64 := by have := hm.out; omega
      go_wp2
      go_ret
      refine ⟨rfl, _, ⟨_, ?_, ?_, rfl, hvg, hBg⟩, hK, hmv⟩
      · rw [stOf, ← hqe, ← hs.out]; exact hb
      · rw [rsOf, ← hqe, show (M.drop (64 * q)).length = m from by rw [hm.out]; simp]; exact own
theorem write_any (l b : List Nat) (B g : Nat) (v : Value) (r : Option Nat) (w : World) (h : Hsh w B g r l) (hs : Sl w v (bv b)) (bl : Byt l) (bb : Byt b) (hlen : (l.length : Int) + b.length ≤ 1099511627776)
    (hsep : 0 < b.length → ∀ a n c, v = .slice (some a) n c → a.block ≠ g ∧ r ≠ some a.block) :
    Calls Try.prog 35 #[.pointer (some ⟨g, 0, none⟩), v] w (RetWr B g r (l ++ b) w) := by
  obtain ⟨A, c, rfl, _⟩ := id hs
  exact write_core l b B g _ c A r w h hs bl bb hlen (fun hp a e => hsep hp a _ _ (by rw [e]))
end Go.Proofs.Ytlifpmglaoppoaa

/- A round of a range over a function, walked as everywhere: what is shown of a region without a fence holds in a round, under the widest fence. -/
namespace Go.Proofs.Ytlifpmglaoppoaa
open Go.RowKit

section
variable {P : Program} {Q : Exit → Act → World → Prop}
theorem Oper.wpIn_of_wp {o : Oper} {l n : Nat} {a : Act} {w : World} {next : Act → World → Prop} (hnd : ∀ c, o.op ≠ .defer c) (h : o.wp P a w next Q) : o.wpIn (Fence.wide.inRound l) n P a w next Q := by
  refine ⟨fun _ _ => trivial, ?_⟩
  unfold Oper.wp at h
  rw [Oper.semAt_eq _ _ _ hnd]
  generalize (execOp a.eval o).run P w = r at h ⊢
  cases r with
  | ok x w1 =>
    cases x with
    | value v => exact h
    | skip => exact h
    | defer d => exact h
    | enter f args => exact ⟨fun hd => by simp [Fence.wide] at hd, CallsIn.inRound l (callsIn_wide.2 h)⟩
    | row r args => 
      refine ⟨fun hd => by simp [Fence.wide] at hd, fun c cs _ => ?_⟩
      obtain ⟨v, w', q, s⟩ := h c cs
      exact ⟨v, w', q, stepsIn_wide.2 s⟩
    | _ => exact h.elim
  | halt x w1 =>
    cases x with
    | panic v => exact h
    | _ => exact h.elim
theorem wpAnyIn_of_wpAny {l n : Nat} {md : Region.Mode} {ops : Array Oper} (hnd : ∀ (i : Nat) (o : Oper), ops[i]? = some o → ∀ c, o.op ≠ .defer c) (hlo : ¬ LetsOut Q) : ∀ (fuel : Nat) (listed : Array Bool) (a : Act) (w : World),
    wpAny P md ops Q fuel listed a w → wpAnyIn (Fence.wide.inRound l) n P md ops Q fuel listed a w
  | 0, listed, a, w, h => h
  | fuel + 1, listed, a, w, h => by
    refine ⟨h.1, fun i hi => ?_⟩
    have h2 := h.2 i hi
    unfold wpOp at h2
    unfold wpOpIn
    cases ho : ops[i]? with
    | none =>
      rw [ho] at h2
      exact wpAnyIn_of_wpAny hnd hlo fuel _ _ _ h2
    | some o =>
      rw [ho] at h2
      by_cases hw : Region.wanted o (yielded ops a.tmps) = true
      · simp only [hw, if_true] at h2 ⊢
        rcases h2 with h2 | h2
        · exact Oper.wpIn_of_wp (hnd i o ho) (Oper.wp_mono (fun a w h => wpAnyIn_of_wpAny hnd hlo fuel _ _ _ h) h2)
        · exact absurd h2.2 hlo
      · simp only [hw] at h2 ⊢
        exact ⟨fun _ _ => trivial, wpAnyIn_of_wpAny hnd hlo fuel _ _ _ h2⟩
def noDefer (ops : Array Oper) : Bool := ops.toList.all fun o => match o.op with | .defer _ => false | _ => true
theorem noDefer_spec {ops : Array Oper} (h : noDefer ops = true) : ∀ (i : Nat) (o : Oper), ops[i]? = some o → ∀ c, o.op ≠ .defer c := by
  intro i o ho c e
  have h1 := List.all_eq_true.1 h o (by rw [← Array.getElem?_toList] at ho; exact List.mem_of_getElem? ho)
  rw [e] at h1
  cases h1
/-- Nothing but a normal way out. -/
def JustN (Q : Exit → Act → World → Prop) : Exit → Act → World → Prop
  | .normal, a, w => Q .normal a w
  | _, _, _ => False
theorem JustN.imp : ∀ (e : Exit) (a : Act) (w : World), JustN Q e a w → Q e a w := fun e a w h => by
  cases e <;> first | exact h | exact (h : False).elim
theorem JustN.normal {a : Act} {w : World} (h : Q .normal a w) : JustN Q .normal a w := h
/-- A region that draws its order, in a round. -/
theorem regionIn_held {S : World → Prop} {l n : Nat} {ops : Array Oper} {id : Nat} {a : Act} {w : World} (hm : P.follows .mixedOrders = true) (hnd : noDefer ops = true) (hS : S w.drew)
    (h : S w.drew → wpAnyH P .any ops (JustN Q) S ops.size (Array.replicate ops.size false) a w.drew) : (Code.region id ops true).wpIn (Fence.wide.inRound l) n P Q a w :=
  wpIn_mono (wpIn_region_any hm (wpAnyIn_of_wpAny (noDefer_spec hnd) (fun ⟨_, _, h⟩ => h) _ _ _ _ (wpAny_of_held _ _ _ _ (h hS)))) JustN.imp
end
end Go.Proofs.Ytlifpmglaoppoaa

/- Contract of slices.Chunk over bytes, in parts of 64: the parts come one behind the other. -/
namespace Go.Proofs.Ytlifpmglaoppoaa
open Go.RowKit
attribute [local go_sem] Oper.semAt_some

/-- Which part. -/
abbrev Part (q : Nat) : Type := { j : Nat // j < q }
def partV (ge q : Nat) (x : Part q) : Value := .slice (some ⟨ge, 64 * x.1, none⟩) 64 64
/-- The first ones. -/
def ptsTo (q k : Nat) (h : k ≤ q) : List (Part q) := (List.range k).attach.map (fun i => ⟨i.1, by have := List.mem_range.1 i.2; omega⟩)
theorem ptsTo_length (q k : Nat) (h : k ≤ q) : (ptsTo q k h).length = k := by simp [ptsTo]
theorem ptsTo_vals (q k : Nat) (h : k ≤ q) : (ptsTo q k h).map (·.1) = List.range k := by
  simp [ptsTo, Function.comp_def]
theorem pts_inj {q : Nat} : ∀ a b : List (Part q), a.map (·.1) = b.map (·.1) → a = b
  | [], [], _ => rfl
  | [], y :: b, h => by simp at h
  | x :: a, [], h => by simp at h
  | x :: a, y :: b, h => by
    simp only [List.map_cons, List.cons.injEq] at h
    rw [Subtype.ext h.1, pts_inj a b h.2]
theorem ptsTo_succ (q k : Nat) (h : k + 1 ≤ q) : ptsTo q (k + 1) h = ptsTo q k (by omega) ++ [⟨k, by omega⟩] := by
  apply pts_inj
  rw [ptsTo_vals, List.map_append, ptsTo_vals, List.range_succ]
  rfl

set_option maxHeartbeats 1000000 in
theorem chunk_any (A : Option Addr) (n c : Nat) (w : World) :
    Calls Try.prog 57 #[.slice A n c, .int .i64 64] w fun e w' => e = .returned (.func (.func 75) #[] #[.pointer (some ⟨w.heap.size, 0, none⟩), .pointer (some ⟨w.heap.size + 1, 0, none⟩)]) ∧
      w' = (w.alloc (.cells #[.slice A n c] 22)).alloc (.cells #[.int .i64 64] 3) := by
  go_enter Try.func57, Try.ntmps57
  go_wp2
  go_ret
  exact ⟨rfl, rfl⟩
/-- What a round keeps: the two boxes. -/
def KpC (Bs : Nat) (W W' : World) : Prop := ∀ b, b = Bs ∨ b = Bs + 1 → W'.heap[b]? = W.heap[b]?

set_option maxRecDepth 100000 in
set_option maxHeartbeats 2000000 in
theorem chunk1_in (n : Nat) (hn : 1 ≤ n) (l Bs ge q c : Nat) (hq : (64 * q : Int) ≤ 140737488355328) (hc : 64 * q ≤ c) (hc2 : c ≤ maxLen) (J Jx : List (Part q) → World → Prop)
    (hY : ∀ pre x W, J pre W → pre.length < q → YieldAt Fence.wide (n - 1) Try.prog l #[partV ge q x] W fun e W' =>
      (e = .returned (.bool true) ∧ J (pre ++ [x]) W' ∧ KpC Bs W W') ∨ (e = .returned (.bool false) ∧ Jx (pre ++ [x]) W'))
    (hJd : ∀ pre W n, J pre W → J pre (W.drewN n))
    (W : World) (h1 : Blk W Bs 22 [.slice (some ⟨ge, 0, none⟩) (64 * q) c]) (h2 : Blk W (Bs + 1) 3 [.int .i64 64]) (h0 : J [] W) :
    CallsIn Fence.wide n Try.prog 75 #[.func (.yield l) #[] #[], .pointer (some ⟨Bs, 0, none⟩), .pointer (some ⟨Bs + 1, 0, none⟩)] W fun e W' => (∃ v, e = .returned v) ∧
      ((∃ ys, ys = ptsTo q q (Nat.le_refl _) ∧ J ys W') ∨ (∃ pre, True ∧ Jx pre W')) := by
  refine callsIn_of_wp Try.func75 rfl trivial ?_ rfl
  simp only [Try.ntmps75, List.size_toArray, List.length_cons, List.length_nil, Nat.reduceAdd, Nat.reduceSub, Array.replicate_succ, Array.replicate_zero, List.push_toArray, List.append_toArray, List.nil_append, List.cons_append]
  gi_wp2
  gi_loopw [4] (fun i wr => ∃ (k : Nat) (hk : k ≤ q), i = .int .i64 ((64 * k : Nat) : Int) ∧ J (ptsTo q k hk) wr ∧ Blk wr Bs 22 [.slice (some ⟨ge, 0, none⟩) (64 * q) c] ∧ Blk wr (Bs + 1) 3 [.int .i64 64])
    (fun i _ => 64 * q - (intOf i).toNat)
  case atStart => exact ⟨0, Nat.zero_le _, rfl, h0, h1, h2⟩
  case round =>
    clear h0 h1 h2
    obtain ⟨k, hk, rfl, hJs, h1, h2⟩ := hrel
    have hJs := Lib.hid hJs
    have c1 : wr.cell? ⟨Bs, 0, none⟩ = some (.slice (some ⟨ge, 0, none⟩) (64 * q) c) := by have := h1.cell 0; simpa using this
    have c2 : wr.cell? ⟨Bs + 1, 0, none⟩ = some (.int .i64 64) := by have := h2.cell 0; simpa using this
    by_cases hlt : k < q
    · gi_wp2
      refine wpIn_wide.2 ?_
      go_quiet (fail)
      obtain ⟨fn, tmps, assign, body, hy, hR⟩ := hY _ ⟨k, hlt⟩ (wr.drewN nq) (hJd _ _ _ hJs.out) (by rw [ptsTo_length]; exact hlt)
      simp only [partV] at hy
      have hcI : (64 * (k : Int)) + 64 ≤ (c : Int) := by omega
      gi_wp2
      refine hR.mono ?_
      rintro e W3 (⟨rfl, hJ3, hk3⟩ | ⟨rfl, hJx3⟩)
      · have g1 : Blk W3 Bs 22 [.slice (some ⟨ge, 0, none⟩) (64 * q) c] := (hk3 Bs (.inl rfl)).trans h1
        have g2 : Blk W3 (Bs + 1) 3 [.int .i64 64] := (hk3 (Bs + 1) (.inr rfl)).trans h2
        have c2 : W3.cell? ⟨Bs + 1, 0, none⟩ = some (.int .i64 64) := by have := g2.cell 0; simpa using this
        gi_wp2
        go_roundw
        case rel => exact ⟨k + 1, by omega, by go_num, by rw [ptsTo_succ]; exact hJ3, g1, g2⟩
        case measure => simp [intOf]; omega
      · gi_wp2
        refine bodyPost_ret (results_none rfl _ _ _) rfl ?_
        exact ⟨⟨_, rfl⟩, .inr ⟨_, trivial, hJx3⟩⟩
    · obtain rfl : k = q := by omega
      gi_wp2
      go_end0
      exact ⟨⟨_, rfl⟩, .inl ⟨_, rfl, hJs.out⟩⟩
theorem chunk_stops (n : Nat) (hn : 1 ≤ n) (Bs ge q c : Nat) (hq : (64 * q : Int) ≤ 140737488355328) (hc : 64 * q ≤ c) (hc2 : c ≤ maxLen) (w : World) (h1 : Blk w Bs 22 [.slice (some ⟨ge, 0, none⟩) (64 * q) c]) (h2 : Blk w (Bs + 1) 3 [.int .i64 64]) :
    SeqStopsK Fence.wide n Try.prog 75 #[.pointer (some ⟨Bs, 0, none⟩), .pointer (some ⟨Bs + 1, 0, none⟩)] (fun x : Part q => #[partV ge q x]) (KpC Bs) (fun ys => ys = ptsTo q q (Nat.le_refl _)) (fun _ => True) q w := fun l J Jx W hW hJ _ hY h0 =>
  chunk1_in n hn l Bs ge q c hq hc hc2 J Jx hY (fun pre W n h => hJ pre W _ none h ⟨rfl, rfl, rfl, Nat.le_refl _, fun _ _ _ => rfl⟩ (fun r e => by cases e)) W (h1.keep hW) (h2.keep hW) h0
end Go.Proofs.Ytlifpmglaoppoaa

/- Contracts of package sha: Sum of a hasher. -/
namespace Go.Proofs.Ytlifpmglaoppoaa
open Go.RowKit
open Go.Proofs.PlainAes
open Go.Proofs.PlainSha
attribute [local go_sem] Oper.semAt_some

theorem noughts_step (n j : Nat) (h : j < noughts n) : ¬ (n % 64 + 1 + j) % 64 = 56 := by unfold noughts at h; omega
theorem noughts_end (n : Nat) : (n % 64 + 1 + noughts n) % 64 = 56 := by unfold noughts; omega
theorem rs_len (l : List Nat) : (rsOf l).length = l.length % 64 := by simp [rsOf]; omega
/-- The last bytes: the rest, with what stands behind. -/
def endOf (l : List Nat) : List Nat := rsOf l ++ [128] ++ List.replicate (noughts l.length) 0 ++ putB (l.length * 8 % 18446744073709551616) 8
theorem pad_drop (l : List Nat) : (pad l).drop (64 * (l.length / 64)) = endOf l := by
  unfold pad endOf rsOf
  rw [List.append_assoc, List.append_assoc, List.drop_append_of_le_length (by omega)]
  simp only [List.append_assoc]
theorem hash_eq (l : List Nat) (q : Nat) (h : (endOf l).length = 64 * q) : shaL l = outL (states K0 (stOf l) (endOf l) q) := by
  have e1 : (pad l).length = 64 * (l.length / 64 + q) := by
    have h2 := congrArg List.length (pad_drop l)
    rw [List.length_drop, h] at h2
    have h3 : l.length ≤ (pad l).length := by simp [pad]
    omega
  have e2 : (pad l).length / 64 = l.length / 64 + q := by omega
  have e3 : states K0 H0 (pad l) (l.length / 64) = stOf l := by
    unfold pad stOf
    rw [List.append_assoc, List.append_assoc]
    exact states_append K0 H0 l _ _ (by omega)
  unfold shaL
  rw [e2, states_add, e3, pad_drop]
theorem fold_ok (E : List Nat) {q : Nat} : ∀ (pre : List (Part q)) (s : List Nat), s.length = 8 → Wds s → (pre.foldl (fun s x => takeS K0 s (seg E (64 * x.1) 64)) s).length = 8 ∧ Wds (pre.foldl (fun s x => takeS K0 s (seg E (64 * x.1) 64)) s)
  | [], s, h1, h2 => ⟨h1, h2⟩
  | x :: pre, s, h1, h2 => fold_ok E pre _ (takeS_length _ _ _) (takeS_wds _ _ _)
theorem fold_states (E s : List Nat) (q : Nat) : ∀ (k : Nat) (hk : k ≤ q), (ptsTo q k hk).foldl (fun s x => takeS K0 s (seg E (64 * x.1) 64)) s = states K0 s E k
  | 0, _ => rfl
  | k + 1, hk => by rw [ptsTo_succ, List.foldl_append, fold_states E s q k (by omega)]; rfl
theorem Sl.recap {w : World} {A : Option Addr} {n c c' : Nat} {xs : List Value} (h : Sl w (.slice A n c) xs) (h1 : n ≤ c') (h2 : c' ≤ maxLen) : Sl w (.slice A n c') xs := by
  obtain ⟨A', c0, e, a1, a2, a3⟩ := h
  injection e with e1 e2 e3
  subst e1 e2 e3
  exact ⟨A, c', rfl, h1, h2, a3⟩
theorem own_belowB {b B : Nat} {w w' : World} {e : TypeId} {v : Value} {n : Nat} {xs : List Value} (h : w.ownsRow b e 1 v n xs) (hB : Below B w w') (hk : ∀ k, v.ownBlock = some k → k < B) : w'.ownsRow b e 1 v n xs := by
  obtain ⟨h1, h2⟩ := h
  refine ⟨h1, ?_⟩
  rcases h2 with h | ⟨g, cap, cur, rfl, hb2, hg, r⟩
  · exact .inl h
  · exact .inr ⟨g, cap, cur, rfl, hb2, (hB.block g (hk g rfl)).trans hg, r⟩
/-- What a function answers with a block's row and a number. -/
theorem res_cell_tmp {P : Program} {fn : Func} {p u : Tmp} {ty n : Nat} (h : fn.results = #[.cell p ty, .tmp u]) (tmps : Array Value) (w : World) (g : Nat) (t : TypeId) (L : List Value) (hT : ArrTy P ty n) (hl : L.length = n)
    (hp : tmps.getD p undef = .pointer (some ⟨g, 0, none⟩)) (v : Value) (hv : tmps.getD u undef = v) (hb : Blk w g t L) : (results fn tmps).run P w = .ok (.tuple #[.agg L.toArray, v]) w := by
  obtain ⟨d, hu, hd, hi⟩ := hT
  have e1 := run_loadVar_row (P := P) w g t ty L.toArray (0, 0) d hb hu (by cases d <;> simp_all) (by simpa [hl] using hi)
  rw [results_cell_tmp h, hp, hv]
  simp [asAddr, Result.andThen, e1]
theorem index_word (L : List Nat) (k : Nat) (hL : L.length = 8) (hk : k < 8) (w : World) : (Instr.index 106 (.agg (wv L).toArray) (.int .i64 (k : Int))).run Try.prog w = .ok (.int .u32 ((gd L k : Nat) : Int)) w := by
  have hu : Try.prog.underlying 106 = some (.array 8 35) := Try.underlying106
  have hs : (sizeOf 35).run Try.prog w = .ok 1 w := by kernel_rfl
  have ha : (isAgg 35).run Try.prog w = .ok false w := by kernel_rfl
  have hg : (wv L)[k]? = some (.int .u32 ((gd L k : Nat) : Int)) := gd_wv (by omega)
  have hkI : (k : Int) < 8 := by omega
  simp [Instr.index, asIntOf, Sem.run_bind, run_underlying hu, hs, ha, part, hk, hg]
theorem outL_length (s : List Nat) : (outL s).length = 32 := by
  simp [outL, mk, Function.comp_def]
  rfl
theorem outL_seg (s : List Nat) (k : Nat) (hk : k < 8) : ((outL s).drop (4 * k)).take 4 = putB (gd s k) 4 := by
  rcases (by omega : k = 0 ∨ k = 1 ∨ k = 2 ∨ k = 3 ∨ k = 4 ∨ k = 5 ∨ k = 6 ∨ k = 7) with rfl | rfl | rfl | rfl | rfl | rfl | rfl | rfl
  all_goals simp [outL, mk, List.range_succ, putB]
theorem outL_byt (s : List Nat) : Byt (outL s) := by
  intro x hx
  simp only [outL, List.mem_flatMap] at hx
  obtain ⟨a, _, h⟩ := hx
  exact putB_lt _ _ x h
theorem arrH : ArrTy Try.prog 26 32 := ⟨_, Try.underlying26, rfl, by kernel_rfl⟩
def RetSum (l : List Nat) (w : World) (e : Ending) (w' : World) : Prop := e = .returned (.tuple #[.agg (bv (shaL l)).toArray, .int .i64 0]) ∧ Below w.heap.size w w'

set_option maxRecDepth 100000 in
set_option maxHeartbeats 4000000 in
theorem sum_any (l : List Nat) (B g : Nat) (r : Option Nat) (w : World) (h : Hsh w B g r l) (bl : Byt l) (hlen : (l.length : Int) ≤ 1099511627776) :
    Calls Try.prog 36 #[.pointer (some ⟨g, 0, none⟩)] w (RetSum l w) := by
  obtain ⟨i0, hi, hz0, hz1, hz2⟩ := info_parts (P := Try.prog) (e := 5) (z := .int .u8 0) (size := 1) (bytes := 1) (by kernel_rfl)
  obtain ⟨v0, hb0, own0, hr0, hrg, hBg⟩ := h
  have hst := stOf_length l
  have hgl := hb0.lt
  have hrl := rs_len l
  have hcl := Lib.hid (fun w h => clone_own (B := B) v0 (rsOf l) w h (by rw [hrl]; omega))
  have hrlI : ((rsOf l).length : Int) < 64 := by omega
  obtain ⟨A0, c0, rfl, -⟩ := own_shape own0
  replace hr0 := Lib.hid hr0
  replace hrg := Lib.hid hrg
  replace hst := Lib.hid hst
  replace hrl := Lib.hid hrl
  have c72 := hb0.cell 72
  rw [hcells_v _ _ _ hst.out] at c72
  refine (callsIn_wide (n := 5)).1 ?_
  refine callsIn_of_wp_marks Try.func36 rfl trivial ?_ rfl
  refine wpIn_wide.2 ?_
  simp only [Try.ntmps36, List.size_toArray, List.length_cons, List.length_nil, Nat.reduceAdd, Nat.reduceSub, Array.replicate_succ, Array.replicate_zero, List.push_toArray, List.append_toArray, List.nil_append, List.cons_append]
  go_wp2_with (refine wpList_allocA rfl 26 rfl (bv (zeros 32)) (by kernel_rfl) ?_)
  intro w1 ho1 hK1 hz1'
  have hx1 : Blk w1 w.heap.size 81 [.pointer (some ⟨g, 0, none⟩)] := (Blk.new_at (w := w) (t := 81) (cs := #[.pointer (some ⟨g, 0, none⟩)]) rfl rfl).keeps hK1 (by simp)
  have hb1 := (hb0.alloc (.cells #[.pointer (some ⟨g, 0, none⟩)] 81)).keeps hK1 (by simp)
  have own1 := own_keeps (own0.alloc (.cells #[.pointer (some ⟨g, 0, none⟩)] 81)) hK1 (by simp)
  have hB1 : Below w.heap.size w w1 := ((Below.refl _ _).alloc (Nat.le_refl _) _).trans (hK1.below (by simp) (by simp))
  have hzw : w1.heap.size = w.heap.size + 2 := by omega
  replace hzw := Lib.hid hzw
  replace own1 := Lib.hid own1
  replace own0 := Lib.hid own0
  replace ho1 : Blk w1 (w.heap.size + 1) 26 (bv (zeros 32)) := ho1
  clear hK1 hz1' c72
  have c1 : w1.cell? ⟨w.heap.size, 0, none⟩ = some (.pointer (some ⟨g, 0, none⟩)) := by have := hx1.cell 0; simpa using this
  have c72 := hb1.cell 72
  rw [hcells_v _ _ _ hst.out] at c72
  have hcl1 := Lib.hid (hcl.out w1 own1.out)
  generalize hR : rsOf l = R at *
  replace hR := Lib.hid hR
  go_wp2_with fail
  refine hcl1.out.mono ?_
  rintro e w2 ⟨v2, rfl, own2, hB2⟩
  go_wp2_with (at_builtin; refine wpList_append_sl rfl (.tmp 20) (.tmp 21) 22 rfl w1.heap.size 5 i0 (.int .u8 0) 1 Try.underlying22 hi hz0 hz1 hz2 rfl _ R.length (bv R) rfl (own2.alloc _) _ (bv [128]) rfl ?_ (bv_oneCell _) ?_ ?_ ?_ ?_)
  · exact Sl.of_blk (n := 1) (c := 1) (Blk.new_at (w := w2) (t := 5) (cs := #[.int .u8 128]) rfl rfl) (Nat.le_refl _) (by simp) (by unfold maxLen; omega)
  · simp [maxLen]; omega
  · simp; omega
  · have := hB2.size; simp; omega
  intro v3 w3 own3 gr3
  have hB3 : Below w1.heap.size w1 w3 := own_below (hB2.alloc hB2.size (.cells #[.int .u8 128] 5)) gr3 (own2.alloc _) (by have := hB2.size; simp; omega)
  rw [← bv_app] at own3
  clear gr3 own2 hB2 hcl1
  have hnl := Lib.hid (show R.length = l.length % 64 from hrl.out)
  obtain ⟨z, hz⟩ : ∃ z, z = noughts l.length := ⟨_, rfl⟩
  have hzlt : Hid (z < 64) := by show _ < _; rw [hz]; unfold noughts; omega
  have hstep := Lib.hid (fun j h => noughts_step l.length j h)
  have hlast := Lib.hid (noughts_end l.length)
  rw [← hz] at hlast hstep
  rw [← hnl.out] at hlast hstep
  replace hz := Lib.hid hz
  go_wp2
  go_loopg [4] z (fun gk v wr => ∃ j, Hid (gk + j = z) ∧ wr.ownsRow w1.heap.size 5 1 v (R.length + 1 + j) (bv (R ++ [128] ++ List.replicate j 0)) ∧ Below w1.heap.size w1 wr)
  case atStart => exact ⟨0, rfl, by simpa using own3, hB3⟩
  case round =>
    clear own3 hB3
    obtain ⟨j, hgk, own, hB⟩ := hrel
    obtain ⟨Aj, cj, rfl, -⟩ := own_shape own
    replace own := Lib.hid own
    by_cases hj : j < z
    · have ht : (((R.length + 1 + j : Nat) : Int) % 64 != 56) = true := by
        have := hstep.out j hj
        simp only [bne_iff_ne, ne_eq]
        omega
      go_wp2_with (at_builtin; refine wpList_append_sl rfl (.tmp 27) (.tmp 28) 22 rfl w1.heap.size 5 i0 (.int .u8 0) 1 Try.underlying22 hi hz0 hz1 hz2 rfl _ (R.length + 1 + j) (bv (R ++ [128] ++ List.replicate j 0)) rfl (own.out.alloc _) _ (bv [0]) rfl ?_ (bv_oneCell _) ?_ ?_ ?_ ?_)
      · exact (Sl.of_blk (n := 1) (c := 1) (Blk.new_at (w := wr) (t := 5) (cs := #[.int .u8 0]) rfl rfl) (Nat.le_refl _) (by simp) (by unfold maxLen; omega))
      · have := hzlt.out; simp [maxLen]; omega
      · have := hzlt.out; simp; omega
      · have := hB.size; simp; omega
      intro v' w4 own4 gr4
      have hB4 : Below w1.heap.size w1 w4 := own_below (hB.alloc hB.size (.cells #[.int .u8 0] 5)) gr4 (own.out.alloc _) (by have := hB.size; simp; omega)
      rw [← bv_app] at own4
      replace own4 := Lib.hid own4
      clear gr4 own hB
      go_wp2
      go_roundg (gk - 1)
      case measure => have := hgk.out; omega
      case rel =>
        refine ⟨j + 1, by show _ = _; have := hgk.out; omega, ?_, hB4⟩
        have h := own4.out
        rw [show R ++ 128 :: List.replicate j 0 ++ [0] = R ++ [128] ++ List.replicate (j + 1) 0 from by rw [List.replicate_succ']; simp] at h
        exact h
    · have hjz : j = z := by have := hgk.out; omega
      subst hjz
      have ht : (((R.length + 1 + j : Nat) : Int) % 64 != 56) = false := by
        have := hlast.out
        simp only [bne_eq_false_iff_eq]
        omega
      have d1 : wr.cell? ⟨w.heap.size, 0, none⟩ = some (.pointer (some ⟨g, 0, none⟩)) := by rw [(bcell hB).1 _ _ (by have := hx1.lt; omega)]; exact c1
      have d73 : wr.cell? ⟨g, 73, none⟩ = some (.int .i64 (l.length : Int)) := by rw [(bcell hB).1 _ _ (by have := hb1.lt; omega), hb1.cell, hcells_n _ _ _ hst.out]
      have hput := Lib.hid (put_ok (l.length * 8) 8 wr (by omega) (by decide) (by omega))
      rw [show ((l.length * 8 : Nat) : Int) = (l.length : Int) * 8 from by simp] at hput
      go_wp2_with fail
      refine hput.out.mono ?_
      rintro e w5 ⟨v5, rfl, sl5, hB5⟩
      have own5 := own_keep own.out hB5
      have hB5' := below_call hB hB.size hB5
      obtain ⟨A5, c5, hv5, -⟩ := id sl5
      subst hv5
      go_wp2_with (at_builtin; refine wpList_append_sl rfl (.tmp 40) (.tmp 41) 22 rfl w1.heap.size 5 i0 (.int .u8 0) 1 Try.underlying22 hi hz0 hz1 hz2 rfl _ (R.length + 1 + j) (bv (R ++ [128] ++ List.replicate j 0)) rfl own5 _ (bv (putB (l.length * 8) 8)) rfl sl5 (bv_oneCell _) ?_ ?_ ?_ ?_)
      · have := hzlt.out; simp [maxLen]; omega
      · have := hzlt.out; simp; omega
      · exact hB5'.size
      intro v6 w6 own6 gr6
      have hB6 : Below w1.heap.size w1 w6 := own_below hB5' gr6 own5 hB5'.size
      rw [← bv_app] at own6
      have hE : Hid (R ++ [128] ++ List.replicate j 0 ++ putB (l.length * 8) 8 = endOf l) := by
        show _ = _
        unfold endOf
        rw [hR.out, ← hz.out, Nat.mod_eq_of_lt (a := l.length * 8) (by omega)]
      have own6' : w6.ownsRow w1.heap.size 5 1 v6 (R.length + 1 + j + 8) (bv (endOf l)) := by
        rw [← hE.out]
        simpa using own6
      clear own6 gr6 own5 sl5 own hB hB5 hB5' d1 d73
      obtain ⟨A6, c6, hv6, hn6, hm6, hs6⟩ := own_shape own6'
      subst hv6
      obtain ⟨ge, hge, hgl6⟩ := hs6 (by omega)
      subst hge
      have hge1 := (own6'.lt ge rfl).1
      replace own6' := Lib.hid own6'
      have hb6 := hb1.keep hB6
      have hx6 := hx1.keep hB6
      have ho6 := ho1.keep hB6
      have hbl := Lib.hid (show 0 + 8 ≤ (hcells (stOf l) (.slice A0 R.length c0) l.length).length by rw [hcells_length _ _ _ hst.out]; decide)
      have hcs := Lib.hid (hcells_s (stOf l) (.slice A0 R.length c0) l.length hst.out)
      have hsl := Lib.hid (show (wv (stOf l)).length = 8 by simp [hst.out])
      have e1 : w6.cell? ⟨w.heap.size, 0, none⟩ = some (.pointer (some ⟨g, 0, none⟩)) := by have := hx6.cell 0; simpa using this
      go_wp2_with (first
        | refine wpList_loadA rfl 106 (.tmp 45) rfl 8 arr8s g 0 rfl 109 _ hb6 hbl.out (wv (stOf l)) hcs.out ?_
        | refine wpList_allocA rfl 106 rfl (wv (zeros 8)) (by kernel_rfl) ?_)
      intro w7 h7 hK7 hz7
      have hB7 := hB6.trans (hK7.below hB6.size (by simp))
      have hg7 : w1.heap.size ≤ w6.heap.size := hB6.size
      generalize hg7e : w6.heap.size = g7 at *
      have hgl7 : ge < g7 := by omega
      have hwg : w.heap.size + 2 ≤ g7 := by have := hzw.out; omega
      go_wp2_with (refine wpList_storeW rfl 106 (.tmp 7) (.tmp 46) rfl 8 arr8s g7 rfl (wv (stOf l)) rfl 106 _ h7 hsl.out (by simp) (ones_wv _) ?_)
      intro w8 h8 hK8
      have hB8 := hB7.trans (hK8.below hB7.size (by simp; omega))
      have own8 := Lib.hid (own_keeps (own_keeps own6'.out hK7 (by simp)) hK8 (fun k hk hv => by simp only [Value.ownBlock, Option.some.injEq] at hv; simp; omega))
      have hx8 := hx1.keep hB8
      have hb8 := hb1.keep hB8
      have ho8 := ho1.keep hB8
      have hg8 : g7 < w8.heap.size := h8.lt
      replace hbl := hbl.out
      clear hB7 hB6 hK7 hK8 hb6 hx6 ho6 e1 h7 hz7 hcs hbl
      have e1 : w8.cell? ⟨w.heap.size, 0, none⟩ = some (.pointer (some ⟨g, 0, none⟩)) := by have := hx8.cell 0; simpa using this
      go_wp2_with (go_at_call 57; refine (chunk_any _ _ _ _).mono ?_; rintro e w9 ⟨rfl, hw9⟩)
      have hq : ∃ q, R.length + 1 + j + 8 = 64 * q := ⟨(R.length + 1 + j + 8) / 64, by have := hlast.out; omega⟩
      obtain ⟨q, hq⟩ := hq
      have hE6 := Lib.hid (show (endOf l).length = R.length + 1 + j + 8 from by have h := own8.out.1; simpa using h)
      have hEb := Lib.hid (show Byt (endOf l) from by
        unfold endOf
        intro x hx
        simp only [List.mem_append, List.mem_cons, List.not_mem_nil, or_false, List.mem_replicate] at hx
        rcases hx with ((h | h) | h) | h
        · exact bl x (List.mem_of_mem_drop h)
        · omega
        · omega
        · exact putB_lt _ _ x h)
      have hqI : (64 * q : Int) ≤ 128 := by have := hzlt.out; omega
      rw [hq] at hE6 hn6 own8
      generalize hEe : endOf l = E at *
      replace hEe := Lib.hid hEe
      have k1 : Blk ((w8.alloc (.cells #[.slice (some ⟨ge, 0, none⟩) (64 * q) c6] 22)).alloc (.cells #[.int .i64 64] 3)) w8.heap.size 22 [.slice (some ⟨ge, 0, none⟩) (64 * q) c6] := (Blk.new_at (w := w8) (t := 22) (cs := #[.slice (some ⟨ge, 0, none⟩) (64 * q) c6]) rfl rfl).alloc _
      have k2 : Blk ((w8.alloc (.cells #[.slice (some ⟨ge, 0, none⟩) (64 * q) c6] 22)).alloc (.cells #[.int .i64 64] 3)) (w8.heap.size + 1) 3 [.int .i64 64] := Blk.new_at (by simp) rfl
      have h10 := (h8.alloc (.cells #[.slice (some ⟨ge, 0, none⟩) (64 * q) c6] 22)).alloc (.cells #[.int .i64 64] 3)
      have hB10 : Below g7 w8 ((w8.alloc (.cells #[.slice (some ⟨ge, 0, none⟩) (64 * q) c6] 22)).alloc (.cells #[.int .i64 64] 3)) := ((Below.refl g7 w8).alloc (by omega) _).alloc (by simp; omega) _
      have hz10 : ((w8.alloc (.cells #[.slice (some ⟨ge, 0, none⟩) (64 * q) c6] 22)).alloc (.cells #[.int .i64 64] 3)).heap.size = w8.heap.size + 2 := by simp
      have htk := Lib.hid (fun (s : List Nat) (x : Part q) (W : World) (a1 : s.length = 8) (a2 : Wds s) (a3 : Sl W (partV ge q x) (bv (seg E (64 * x.1) 64))) (a4 : At W g 8 (wv K0)) => take_any s K0 (seg E (64 * x.1) 64) (partV ge q x) g 8 W a1 a2 K0_length K0_wds a3 (seg_length (by rw [hE6.out]; have := x.2; omega)) (seg_lt hEb.out _ _) a4)
      rw [hq]
      generalize hw10 : (w8.alloc (.cells #[.slice (some ⟨ge, 0, none⟩) (64 * q) c6] 22)).alloc (.cells #[.int .i64 64] 3) = w10 at *
      clear hw10
      refine (wpIn_wide (n := 5)).1 ?_
      refine wpIn_rangeFunc_ownF (F := Fence.wide) (n := 5) rfl (by decide) (gf := 75) (lb := #[.pointer (some ⟨w8.heap.size, 0, none⟩), .pointer (some ⟨w8.heap.size + 1, 0, none⟩)]) rfl trivial (enters_of Try.func75 (by kernel_rfl) rfl)
        (chunk_stops (5 - 1) (by decide) w8.heap.size ge q c6 (by omega) hn6 hm6 w10 k1 k2)
        (fun h k b hb => (k b hb).trans (h b hb))
        (fun W l o o' hl ho _ _ b hb => World.putObj_heap_other (by rcases hb with rfl | rfl <;> omega))
        (Below.refl _ _) (fun _ => rfl)
        (fun pre W => Blk W g7 106 (wv (pre.foldl (fun s x => takeS K0 s (seg E (64 * x.1) 64)) (stOf l))) ∧ Blk W w8.heap.size 22 [.slice (some ⟨ge, 0, none⟩) (64 * q) c6] ∧ Blk W (w8.heap.size + 1) 3 [.int .i64 64] ∧ Below g7 w8 W)
        (fun _ _ _ => False) ?hI (fun _ _ _ _ _ hs _ _ => hs) ⟨h10, k1, k2, hB10⟩ ?a1 ?assign ?body ?done ?stop
      case assign =>
        intro lp x W K hK
        gi_wp2
        exact hK
      case hI =>
        rintro s W W' row ⟨a1, a2, a3, a4⟩ hg hr
        have hK := Keeps.grown hg
        have hrow : ∀ b ∈ row.toList, w10.heap.size ≤ b := fun b hb => by
          cases row with
          | none => simp at hb
          | some k => simp only [Option.toList_some, List.mem_cons, List.not_mem_nil, or_false] at hb; subst hb; exact (hr b rfl).1
        exact ⟨a1.keeps hK (fun h => by have := hrow _ h; omega), a2.keeps hK (fun h => by have := hrow _ h; omega), a3.keeps hK (fun h => by have := hrow _ h; omega), a4.trans (hK.below (by have := a4.size; omega) (fun b hb => by have := hrow b hb; omega))⟩
      case stop => rintro D c pre W _ _ h; exact h.elim
      case body =>
        rintro lp pre x W ⟨a1, a2, a3, a4⟩ _
        generalize hs' : pre.foldl (fun s x => takeS K0 s (seg E (64 * x.1) 64)) (stOf l) = s at *
        have hs8 : s.length = 8 ∧ Wds s := by rw [← hs']; exact fold_ok E pre _ (stOf_length l) (states_wds H0_wds _)
        replace hs' := Lib.hid hs'
        have hsl' := Lib.hid (show (wv s).length = 8 by simp [hs8.1])
        have hb' := hb8.below a4 (by have := hzw.out; omega)
        have hx' := hx8.below a4 (by have := hzw.out; omega)
        have hxp : W.drew.cell? ⟨w.heap.size, 0, none⟩ = some (.pointer (some ⟨g, 0, none⟩)) := by have := hx'.cell 0; simpa using this
        have hpv : Sl W.drew (partV ge q x) (bv (seg E (64 * x.1) 64)) := by
          have o1 : W.drew.ownsRow _ _ _ _ _ _ := own_belowB own8.out a4.drew (fun k hk => by have e : some ge = some k := hk; cases e; exact hgl7)
          have h := own_part o1 (64 * x.1) 64 (by have := x.2; omega) hm6 hn6
          rw [bv_seg] at h
          exact h.recap (Nat.le_refl _) (by unfold maxLen; omega)
        have htk1 := Lib.hid (htk.out s x W.drew hs8.1 hs8.2 hpv (hshK hst.out hb'.drew))
        have hT1 := Lib.hid (show (wv (takeS K0 s (seg E (64 * x.1) 64))).length = 8 by simp)
        have hI1 : Hid ((pre ++ [x]).foldl (fun s x => takeS K0 s (seg E (64 * x.1) 64)) (stOf l) = takeS K0 s (seg E (64 * x.1) 64)) := by
          show _ = _
          rw [List.foldl_append, hs'.out]; rfl
        change Hid (Calls _ _ _ _ (RetV (takeS K0 s (seg E (64 * x.1) 64)) _)) at htk1
        generalize takeS K0 s (seg E (64 * x.1) 64) = s' at *
        clear hpv
        gi_wp2
        refine regionIn_held (S := fun w' => w'.cell? ⟨w.heap.size, 0, none⟩ = some (.pointer (some ⟨g, 0, none⟩))) (by kernel_rfl) (by kernel_rfl) hxp (fun hH => ?_)
        refine takeH_move (o := ⟨some 51, _, _, _, _, _⟩) (i := 1) rfl (by kernel_rfl) (by kernel_rfl) (by kernel_rfl) (fun _ _ _ _ h => h) rfl (.tmp 8) rfl (partV ge q x) rfl hH ?_
        simp only [Act.put, List.setIfInBounds_toArray, List.set_cons_zero, List.set_cons_succ, Nat.zero_add, decide_true, beq_self_eq_true]
        refine takeH_cell (o := ⟨some 52, _, _, _, _, _⟩) (i := 2) rfl (by kernel_rfl) (by kernel_rfl) (by kernel_rfl) (fun _ _ _ _ h => h) rfl 81 (.tmp 1) rfl Try.underlying81 rfl w.heap.size 0 rfl (.pointer (some ⟨g, 0, none⟩)) (fun w h => h) hH ?_
        simp only [Act.put, List.setIfInBounds_toArray, List.set_cons_zero, List.set_cons_succ, Nat.zero_add, decide_true, beq_self_eq_true]
        refine takeH_nil (o := ⟨some 53, _, _, _, _, _⟩) (i := 3) rfl (by kernel_rfl) (by kernel_rfl) (by kernel_rfl) (fun _ _ _ _ h => h) rfl (.tmp 52) rfl ⟨g, 0, none⟩ rfl hH ?_
        simp only [Act.put, List.setIfInBounds_toArray, List.set_cons_zero, List.set_cons_succ, Nat.zero_add, decide_true, beq_self_eq_true]
        refine takeH_field (o := ⟨some 54, _, _, _, _, _⟩) (i := 4) rfl (by kernel_rfl) (by kernel_rfl) (by kernel_rfl) (fun _ _ _ _ h => h) rfl 109 (.tmp 53) 1 rfl g 8 rfl (fun w => hfld1 _ w) hH ?_
        simp only [Act.put, List.setIfInBounds_toArray, List.set_cons_zero, List.set_cons_succ, Nat.zero_add, decide_true, beq_self_eq_true]
        refine wpAnyH_ready (rs := [0]) (by kernel_rfl) (by simp) ?_
        refine AllReadyH.cons rfl (fun K1 hK1 => ?_) AllReadyH.nil
        rw [if_pos (by rfl)]
        refine wp_loadA 106 (.tmp 7) rfl 8 arr8s g7 0 rfl 106 _ a1.drew (by rw [hsl'.out]; decide) (wv s) (by rw [List.drop_zero, List.take_of_length_le (by rw [hsl'.out]; decide)]) ?_
        refine hK1.out _ _ hxp (fun hH => ?_)
        clear hK1 K1
        refine wpAnyH_ready (rs := [5]) (by kernel_rfl) (by simp) ?_
        refine AllReadyH.cons rfl (fun K1 hK1 => ?_) AllReadyH.nil
        rw [if_pos (by rfl)]
        go_wp2_with fail
        refine htk1.out.mono ?_
        rintro e W5 ⟨rfl, hB5⟩
        have hx5 : W5.cell? ⟨w.heap.size, 0, none⟩ = some (.pointer (some ⟨g, 0, none⟩)) := by rw [(bcell hB5).1 _ _ (cell_lt hxp)]; exact hxp
        have a15 := a1.drew.keep hB5
        have hK5 : Keeps [g7] W W5 := ((Keeps.refl [g7] W).drew).trans (Keeps.of_below hB5)
        refine hK1.out _ _ hx5 (fun hH => ?_)
        clear hK1 K1
        refine wpAnyH_ready (rs := [6]) (by kernel_rfl) (by simp) ?_
        refine AllReadyH.cons rfl (fun K1 hK1 => ?_) AllReadyH.nil
        rw [if_pos (by rfl)]
        refine wp_storeA 106 (.tmp 7) (.tmp 55) rfl 8 arr8s g7 0 rfl (wv s') rfl 106 _ a15 hT1.out (by rw [hsl'.out]; decide) (ones_wv _) ?_
        intro W6 a16 hK6
        rw [putL_all (by rw [hT1.out, hsl'.out])] at a16
        have hK7 := hK5.trans hK6
        have hx6 : W6.cell? ⟨w.heap.size, 0, none⟩ = some (.pointer (some ⟨g, 0, none⟩)) := by
          have h := (hx'.keeps hK7 (by simp; omega)).cell 0
          simpa using h
        refine hK1.out _ _ hx6 (fun hH => ?_)
        clear hK1 K1
        refine wpAnyH_done (by kernel_rfl) ?_ _
        refine JustN.normal ?_
        gi_wp2
        refine ⟨⟨hK7.size, fun k o h ho => ?_⟩, fun b hb => ?_, ?_, ?_, ?_, ?_⟩
        · refine (hK7.block k ?_ ?_).trans h
          · exact (Array.getElem?_eq_some_iff.1 h).1
          · intro hm
            simp only [List.mem_singleton] at hm
            subst hm
            have e := a1.symm.trans h
            injection e with e
            rw [← e] at ho
            cases ho
        · exact hK7.block b (by rcases hb with rfl | rfl; exact a2.lt; exact a3.lt) (by rcases hb with rfl | rfl <;> simp <;> omega)
        · rw [hI1.out]; exact a16
        · exact a2.keeps hK7 (by simp; omega)
        · exact a3.keeps hK7 (by simp; omega)
        · exact a4.trans (hK7.below (by have := a4.size; omega) (by simp))
      case done =>
        rintro D xs W hD rfl ⟨a1, a2, a3, a4⟩ hK
        rw [fold_states] at a1
        have hsh := Lib.hid (hash_eq l q (by rw [hEe.out]; exact hE6.out))
        rw [hEe.out] at hsh
        have hs8 : (states K0 (stOf l) E q).length = 8 := states_length (stOf_length l) q
        have hsw : Wds (states K0 (stOf l) E q) := states_wds (states_wds H0_wds _) q
        generalize states K0 (stOf l) E q = st at *
        have hsl' := Lib.hid (show (wv st).length = 8 by simp [hs8])
        have hix := Lib.hid (fun k hk w => index_word st k hs8 hk w)
        have ho' := ho8.below a4 (by omega)
        have hBW : Below w.heap.size w W := (hB1.trans (hB8.mono (by have := hzw.out; omega))).trans (a4.mono (by omega))
        have hoD : w.heap.size + 1 ≠ D := by
          intro e
          have h1 := ho'
          unfold Blk at h1
          rw [e, hK] at h1
          cases h1
        have hseg := Lib.hid (fun k hk => outL_seg st k hk)
        have hol := Lib.hid (outL_length st)
        rw [← hsh.out] at hseg hol
        have hpt := Lib.hid (fun k w => put_ok (gd st k) 4 w (by have := hsw.gd k; omega) (by decide) (by have := hsw.gd k; omega))
        replace hs8 := Lib.hid hs8
        replace hsw := Lib.hid hsw
        clear a2 a3 hsh
        generalize hO : shaL l = O at *
        replace hO := Lib.hid hO
        go_wp2_with (refine wpList_loadW rfl 106 (.tmp 7) rfl 8 arr8s g7 rfl 106 _ a1 hsl'.out ?_)
        go_loopw [57] (fun i wr => ∃ k : Nat, (k : Int) ≤ 8 ∧ i = .int .i64 (k : Int) ∧ Blk wr (w.heap.size + 1) 26 (bv (upd O (zeros 32) (4 * k))) ∧ wr.heap[D]? = some (.deferred (some [])) ∧ Below w.heap.size w wr) (fun i _ => 8 - (intOf i).toNat)
        case atStart => exact ⟨0, by omega, rfl, by rw [Nat.mul_zero, upd_zero]; exact ho', hK, hBW⟩
        case round =>
          clear ho' hK hBW a1
          obtain ⟨k, hk, rfl, hob, hK, hBW⟩ := hrel
          by_cases hlt : (k : Int) < 8
          · have hi0 := hix.out k (by omega)
            have hpk := Lib.hid (fun w => hpt.out k w)
            have hsk := Lib.hid (hseg.out k (by omega))
            have hlk := hsw.out.gd k
            generalize gd st k = x at *
            have hxI : (x : Int) ≤ 4294967295 := by omega
            go_wp2_with fail
            refine (hpk.out _).mono ?_
            rintro e w11 ⟨v11, rfl, sl11, hB11⟩
            have hob1 := hob.keep hB11
            have hK1 := (hB11.block D (Array.getElem?_eq_some_iff.1 hK).1).trans hK
            have hBW1 := below_call hBW hBW.size hB11
            clear hob hK hBW hB11
            obtain ⟨A11, c11, hv11, hl11, hm11, hs11⟩ := id sl11
            obtain ⟨g11, o11, rfl, hc11⟩ := hs11 (by simp)
            subst hv11
            have h4k : (4 * (k : Int)) < 32 := by omega
            have hsl2 : ∀ w', (Instr.sliceAt 26 (.pointer (some ⟨w.heap.size + 1, 0, none⟩)) (some (.int .i64 (4 * (k : Int)))) none none).run Try.prog w' = .ok (.slice (some ⟨w.heap.size + 1, 4 * k, none⟩) (32 - 4 * k) (32 - 4 * k)) w' := fun w' => by
              have h := run_sliceA_l (P := Try.prog) (ty := 26) (len := 32) (el := 5) (s := 1) Try.underlying26 (by kernel_rfl) (w.heap.size + 1) 0 (4 * k) (4 * (k : Int)) (by simp) (by omega) w'
              simpa using h
            go_wp2_with (refine wpList_copyA rfl (.tmp 69) (.tmp 70) 22 22 rfl 5 Try.underlying22 (by kernel_rfl) (w.heap.size + 1) (4 * k) _ _ rfl ⟨g11, o11, none⟩ _ _ rfl 26 _ hob1 (bv (putB x 4)) ?_ ?_ ?_ (ones_bv _) ?_)
            · rw [bv_length, putB_length]
              have h4 : 4 ≤ 32 - 4 * k := by omega
              exact (Nat.min_eq_left h4).symm
            · intro j' v hj
              have ha : (⟨g11, o11, none⟩ : Addr).add j' = ⟨g11, o11 + j', none⟩ := by unfold Addr.add; split <;> simp_all
              rw [ha]; exact hc11 j' v hj
            · rw [bv_length, putB_length, bv_length, upd_length (by rw [hol.out]; simp) (by simp; omega), zeros_length]; omega
            intro w12 hob2 hK12
            have hob3 : Blk w12 (w.heap.size + 1) 26 (bv (upd O (zeros 32) (4 * (k + 1)))) := by
              rw [putL_bv, putB_length, ← hsk.out, upd_put (by rw [hol.out]; simp) (by simp; omega)] at hob2
              rw [show 4 * (k + 1) = 4 * k + 4 from by omega]
              exact hob2
            have hK2 := (hK12.block D (Array.getElem?_eq_some_iff.1 hK1).1 (by simp; omega)).trans hK1
            have hBW2 := hBW1.trans (hK12.below hBW1.size (by simp))
            clear hob2 hK12 hK1 hBW1 hob1 hc11 sl11 hsl2 hi0
            go_wp2
            go_roundw
            case rel => exact ⟨k + 1, by omega, by go_num, hob3, hK2, hBW2⟩
            case measure => simp [intOf]; omega
          · obtain rfl : k = 8 := by omega
            rw [show 4 * 8 = 32 from rfl, upd_all hol.out (by simp)] at hob
            have hxl := Lib.hid (show (bv O).length = 32 by simp [hol.out])
            go_wp2_with (first | refine wpList_loadW rfl 26 (.tmp 2) rfl 32 arrH _ rfl 26 _ hob hxl.out ?_ | refine wpList_storeW rfl 26 (.tmp 2) (.tmp 73) rfl 32 arrH _ rfl (bv O) rfl 26 _ hob hxl.out hxl.out (ones_bv _) ?_)
            intro w13 hob4 hK13
            have hK3 := (hK13.block D (Array.getElem?_eq_some_iff.1 hK).1 (by simp; omega)).trans hK
            have hBW3 := hBW.trans (hK13.below hBW.size (by simp))
            clear hob hK hBW hK13
            go_wp2
            have hob5 : Blk (w13.putObj D (.deferred none)) (w.heap.size + 1) 26 (bv O) := (World.putObj_heap_other (by omega)).trans hob4
            have hBW4 : Below w.heap.size w (w13.putObj D (.deferred none)) := hBW3.grown (grownBy_putObj' _ _ _) (by have := hBW3.size; omega) (fun k e => by cases e; omega)
            refine ⟨by simp, .inl ⟨_, _, rfl, run_takeDeferred hK3, ?_⟩⟩
            exact ⟨_, res_cell_tmp Try.results36 _ _ _ 26 _ arrH hxl.out rfl (.int .i64 0) rfl hob5, by rw [hO.out], hBW4⟩
end Go.Proofs.Ytlifpmglaoppoaa

/- Contracts of package sha: Sum of bytes, Len, Sum of none. -/
namespace Go.Proofs.Ytlifpmglaoppoaa
open Go.RowKit
open Go.Proofs.PlainAes
open Go.Proofs.PlainSha

theorem Sl.lt {w : World} {v : Value} {xs : List Value} (h : Sl w v xs) (hp : 0 < xs.length) {a : Addr} {n c : Nat} (e : v = .slice (some a) n c) : a.block < w.heap.size := by
  obtain ⟨A', c', e', h1, h2, h3⟩ := h
  obtain ⟨g, o, hA, hc⟩ := h3 hp
  rw [e] at e'
  injection e' with e1 _ _
  rw [hA] at e1
  injection e1 with e1
  subst e1
  have hc0 := hc 0 _ (List.getElem?_eq_getElem hp)
  exact cell_lt hc0
/-- What a function that makes memory of its own answers: a hash. -/
def RetH (l : List Nat) (w : World) (e : Ending) (w' : World) : Prop := e = .returned (.agg (bv l).toArray) ∧ Below w.heap.size w w'
set_option maxRecDepth 100000 in
set_option maxHeartbeats 1000000 in
theorem shasum_core (b : List Nat) (A : Option Addr) (n c : Nat) (w : World) (hs : Sl w (.slice A n c) (bv b)) (bb : Byt b) (hlen : (b.length : Int) ≤ 549755813888) :
    Calls Try.prog 19 #[.slice A n c] w (RetH (shaL b) w) := by
  have hnew := Lib.hid (fun w => new_any w)
  have hwr := Lib.hid (fun B g w h a d => write_any [] b B g (.slice A n c) none w h a (by intro x hx; simp at hx) bb (by simp; omega) d)
  have hsm := Lib.hid (fun B g r w h => sum_any b B g r w h bb (by omega))
  have hsep : Hid (0 < b.length → ∀ a n' c', Value.slice A n c = .slice (some a) n' c' → a.block < w.heap.size) := fun hp a n' c' e => Sl.lt hs (by simpa using hp) e
  have Hs := Lib.hid hs
  have hHl := Lib.hid (show (bv (shaL b)).length = 32 by simp [shaL, outL_length])
  clear hs
  go_enter Try.func19, Try.ntmps19
  go_wp2_with (refine wpList_allocA rfl 26 rfl (bv (zeros 32)) (by kernel_rfl) ?_)
  intro w1 ho1 hK1 hz1
  have hB1 := hK1.below (Nat.le_refl _) (by simp)
  replace Hs := Lib.hid (Hs.out.keep hB1)
  clear hK1
  go_wp2_with fail
  refine (hnew.out _).mono ?_
  rintro e w2 ⟨g, rfl, hh, hB2⟩
  obtain ⟨v0, q1, q2, q3, q4, hBg⟩ := hh
  have hgl := q1.lt
  have hh : Hsh w2 w1.heap.size g none [] := ⟨v0, q1, q2, q3, q4, hBg⟩
  have hwr2 := Lib.hid (hwr.out w1.heap.size g w2 hh (Hs.out.keep hB2) (fun hp a n' c' e => ⟨by have := hsep.out hp a n' c' e; omega, by simp⟩))
  have ho2 := ho1.keep hB2
  have hB2' := below_call hB1 hB1.size hB2
  clear hh q1 q2 q3 q4 hB1 hB2 ho1 hsep
  go_wp2_with fail
  refine hwr2.out.mono ?_
  rintro e w3 ⟨rfl, r', hh3, hK3, hm3⟩
  have ho3 := ho2.keeps hK3 (by simp; omega)
  have hB3 := hB2'.trans (hK3.below hB2'.size (by simp; omega))
  have hsm3 := Lib.hid (hsm.out _ _ _ w3 hh3)
  clear hK3 hm3 hh3 ho2 hB2'
  go_wp2_with fail
  refine hsm3.out.mono ?_
  rintro e w4 ⟨rfl, hB4⟩
  have ho4 := ho3.keep hB4
  have hB4' := below_call hB3 hB3.size hB4
  generalize shaL b = O at *
  clear hB4
  go_wp2_with (refine wpList_allocA rfl 26 rfl (bv (zeros 32)) (by kernel_rfl) ?_)
  intro w5 hx5 hK5 hz5
  have ho5 := ho4.keeps hK5 (by simp)
  have hB5 := hB4'.trans (hK5.below hB4'.size (by simp))
  have hol := ho4.lt
  clear hK5 hB4' ho4 ho3
  generalize w4.heap.size = gx at *
  go_wp2_with (refine wpList_storeW rfl 26 (.tmp 4) (.tmp 13) rfl 32 arrH gx rfl (bv O) rfl 26 _ hx5 hHl.out (by simp) (ones_bv _) ?_)
  intro w6 hx6 hK6
  have ho6 := ho5.keeps hK6 (by simp; omega)
  have hgw : w.heap.size ≤ gx := by omega
  have hB6 := hB5.trans (hK6.below hB5.size (by simp; omega))
  clear hK6 hx5 hB5 ho5
  go_wp2_with (first | refine wpList_loadW rfl 26 (.tmp 4) rfl 32 arrH _ rfl 26 _ hx6 hHl.out ?_ | refine wpList_storeW rfl 26 (.tmp 2) (.tmp 15) rfl 32 arrH _ rfl (bv O) rfl 26 _ ho6 hHl.out (by simp) (ones_bv _) ?_)
  intro w7 ho7 hK7
  go_wp2
  exact bodyPost_ret (v := .agg (bv O).toArray) (res_cell Try.results19 _ _ _ 26 _ arrH hHl.out rfl ho7) rfl ⟨rfl, hB6.trans (hK7.below hB6.size (by simp))⟩
theorem shasum_any (b : List Nat) (v : Value) (w : World) (hs : Sl w v (bv b)) (bb : Byt b) (hlen : (b.length : Int) ≤ 549755813888) :
    Calls Try.prog 19 #[v] w (RetH (shaL b) w) := by
  obtain ⟨A, c, rfl, _⟩ := id hs
  exact shasum_core b A _ c w hs bb hlen

end Go.Proofs.Ytlifpmglaoppoaa

/- Hashers in walks; rows of constants. -/
namespace Go.Proofs.Ytlifpmglaoppoaa
open Go.RowKit
open Go.Proofs.PlainAes
open Go.Proofs.PlainSha

theorem Sl.of_new (w : World) (cs : Array Value) (t : TypeId) (fr : Nat × Nat) (h : cs.size ≤ maxLen) : Sl (w.alloc (.cells cs t fr)) (.slice (some ⟨w.heap.size, 0, none⟩) cs.size cs.size) cs.toList := by
  refine ⟨some ⟨w.heap.size, 0, none⟩, cs.size, by simp, by simp, h, fun _ => ⟨w.heap.size, 0, rfl, fun i u hu => ?_⟩⟩
  have := cell_of_row (w.alloc (.cells cs t fr)) w.heap.size i cs t fr (heap_alloc_new w _)
  rw [Nat.zero_add, this]
  simpa using hu
/-! ### For the walks -/
theorem Hsh.row {w : World} {B g : Nat} {r : Option Nat} {l : List Nat} (h : Hsh w B g r l) : ∀ k, r = some k → B ≤ k ∧ k < w.heap.size := by
  obtain ⟨v, h1, h2, h3, h4, h5⟩ := h
  intro k hk
  exact h2.lt k (h3.trans hk)
theorem Hsh.lt {w : World} {B g : Nat} {r : Option Nat} {l : List Nat} (h : Hsh w B g r l) : B ≤ g ∧ g < w.heap.size := by
  obtain ⟨v, h1, h2, h3, h4, h5⟩ := h
  exact ⟨h5, h1.lt⟩
theorem Hsh.ne {w : World} {B g : Nat} {r : Option Nat} {l : List Nat} (h : Hsh w B g r l) : r ≠ some g := by
  obtain ⟨v, h1, h2, h3, h4, h5⟩ := h
  exact h4
/-- Apart from what a hasher that is written may turn. -/
theorem Hsh.other {w w' : World} {g B' h : Nat} {r r' : Option Nat} {l : List Nat} (hh : Hsh w B' h r' l) (hK : Keeps (g :: r.toList) w w') (h1 : h ≠ g) (h2 : r ≠ some h) (h3 : r' ≠ some g) (h4 : ∀ k, r' = some k → r ≠ some k) : Hsh w' B' h r' l := by
  refine hh.keeps hK ?_ ?_
  · intro hm
    simp only [List.mem_cons, Option.mem_toList] at hm
    rcases hm with e | e
    · exact h1 e
    · exact h2 e
  · intro k hk hm
    simp only [List.mem_cons, Option.mem_toList] at hm
    rcases hm with e | e
    · exact h3 (by rw [hk, e])
    · exact h4 k hk e
theorem Blk.other {w w' : World} {g b t : Nat} {r : Option Nat} {cs : List Value} (hb : Blk w b t cs) (hK : Keeps (g :: r.toList) w w') (h1 : b ≠ g) (h2 : r ≠ some b) : Blk w' b t cs := by
  refine hb.keeps hK ?_
  intro hm
  simp only [List.mem_cons, Option.mem_toList] at hm
  rcases hm with e | e
  · exact h1 e
  · exact h2 e
theorem Keeps.belowH {w w' : World} {B g : Nat} {r : Option Nat} (hK : Keeps (g :: r.toList) w w') (hB : B ≤ w.heap.size) (h1 : B ≤ g) (h2 : ∀ k, r = some k → B ≤ k) : Below B w w' :=
  hK.below hB (by
    intro b hm
    simp only [List.mem_cons, Option.mem_toList] at hm
    rcases hm with e | e
    · omega
    · exact h2 b e)
theorem take_seg1 (l : List Nat) (k : Nat) (h : k < l.length) : l.take k ++ seg l k 1 = l.take (k + 1) := by
  rw [seg, List.take_add]
theorem bytH : ByteArr Try.prog 26 32 := ⟨⟨_, Try.underlying26, Try.underlying5, by kernel_rfl⟩, by kernel_rfl⟩
theorem bvsh (l : List Nat) : (bv (shaL l)).length = 32 := by rw [bv_length]; exact outL_length _
theorem shlen (l : List Nat) : (shaL l).length = 32 := outL_length _
end Go.Proofs.Ytlifpmglaoppoaa

/- copy into a block out of any slice: as many as there is room for. -/
namespace Go.Proofs.Ytlifpmglaoppoaa
open Go.RowKit

theorem wpList_copySl {P : Program} {w : World} {ops : Array Oper} {rest : List Oper} {o : Oper} {a : Act} {Q : Exit → Act → World → Prop} (hgd : o.guard = none) (d s : Operand) (dT sT : TypeId) (ho : o.op = .call { callee := .builtin .copy, args := #[d, s], argTypes := #[dT, sT] }) (elem : TypeId) (hu : P.underlying dT = some (.slice elem)) (hs : (P.info? elem).map (·.size) = some 1)
    (g off dLen dCap : Nat) (hd : a.eval d = .slice (some ⟨g, off, none⟩) dLen dCap) (u : Value) (ys : List Value) (hx : a.eval s = u) (hsl : Sl w u ys) (t : TypeId) (L : List Value) (hb : Blk w g t L)
    (hfit : off + Nat.min ys.length dLen ≤ L.length) (h1 : Ones ys)
    (h : ∀ w', Blk w' g t (putL L off (ys.take dLen)) → Keeps [g] w w' → wpList P ops Q rest (a.put o.dst (goInt (Nat.min ys.length dLen))) w') : wpList P ops Q (o :: rest) a w := by
  obtain ⟨A, c, rfl, hc1, hc2, hc3⟩ := hsl
  have hl : (ys.take dLen).length = Nat.min ys.length dLen := by simp [Nat.min_comm]
  by_cases h0 : Nat.min ys.length dLen = 0
  · refine wpList_plain hgd fun K hK => ?_
    have hr := run_copy_none (P := P) w dT sT o.type elem (some ⟨g, off, none⟩) A dLen dCap ys.length c hu hs h0
    unfold Oper.wp
    simp [execOp, ho, resolve, invoke, builtin, hd, hx, hr, Result.andThen]
    rw [h0] at h
    refine hK _ _ (h w ?_ (Keeps.refl _ _))
    have e : ys.take dLen = [] := List.eq_nil_of_length_eq_zero (by omega)
    rw [e]
    simpa [putL] using hb
  · have hm : Nat.min ys.length dLen ≤ ys.length := Nat.min_le_left _ _
    obtain ⟨g2, o2, rfl, hcell⟩ := hc3 (by omega)
    rw [← hl] at h
    refine wpList_copyA hgd d s dT sT ho elem hu hs g off dLen dCap hd ⟨g2, o2, none⟩ ys.length c hx t L hb (ys.take dLen) hl ?_ (by rw [hl]; exact hfit) (fun x hx => h1 x (List.mem_of_mem_take hx)) h
    intro j v hj
    have ha : (⟨g2, o2, none⟩ : Addr).add j = ⟨g2, o2 + j, none⟩ := by unfold Addr.add; split <;> simp_all
    rw [ha]
    rw [List.getElem?_take] at hj
    split at hj
    · exact hcell j v hj
    · cases hj
theorem run_copySl {P : Program} (w : World) (dT sT ty elem : TypeId) (hu : P.underlying dT = some (.slice elem)) (hs : (P.info? elem).map (·.size) = some 1)
    (g off dLen dCap : Nat) (u : Value) (ys : List Value) (hsl : Sl w u ys) (t : TypeId) (L : List Value) (hb : Blk w g t L) (hfit : off + Nat.min ys.length dLen ≤ L.length) (h1 : Ones ys) :
    ∃ w', (Builtin.copy_ #[dT, sT] ty #[.slice (some ⟨g, off, none⟩) dLen dCap, u]).run P w = .ok (goInt (Nat.min ys.length dLen)) w' ∧ Blk w' g t (putL L off (ys.take dLen)) ∧ Keeps [g] w w' := by
  obtain ⟨A, c, rfl, hc1, hc2, hc3⟩ := hsl
  have hl : (ys.take dLen).length = Nat.min ys.length dLen := by simp [Nat.min_comm]
  by_cases h0 : Nat.min ys.length dLen = 0
  · have hr := run_copy_none (P := P) w dT sT ty elem (some ⟨g, off, none⟩) A dLen dCap ys.length c hu hs h0
    rw [h0]
    refine ⟨w, hr, ?_, Keeps.refl _ _⟩
    have e : ys.take dLen = [] := List.eq_nil_of_length_eq_zero (by omega)
    rw [e]
    simpa [putL] using hb
  · have hm : Nat.min ys.length dLen ≤ ys.length := Nat.min_le_left _ _
    obtain ⟨g2, o2, rfl, hcell⟩ := hc3 (by omega)
    have hr := run_copy_row (P := P) w dT sT ty elem g off dLen dCap ⟨g2, o2, none⟩ ys.length c L.toArray t (ys.take dLen) hu hs hb hl (fun j v hj => by
      have ha : (⟨g2, o2, none⟩ : Addr).add j = ⟨g2, o2 + j, none⟩ := by unfold Addr.add; split <;> simp_all
      rw [ha]
      rw [List.getElem?_take] at hj
      split at hj
      · exact hcell j v hj
      · cases hj) (by rw [hl]; simpa using hfit) (fun x hx => h1 x (List.mem_of_mem_take hx))
    rw [hl] at hr
    refine ⟨_, hr, ?_, ?_⟩
    · have := hb.setRow (putL L off (ys.take dLen))
      simpa [putL, hl] using this
    · have := (Keeps.refl [g] w).setRow (g := g) (by simp) (putL L off (ys.take dLen)).toArray
      simpa [putL, hl] using this
/-- A copy, carried out. -/
theorem wp_copySl {P : Program} {o : Oper} {a : Act} {w : World} {K : Act → World → Prop} {Q : Exit → Act → World → Prop} (d s : Operand) (dT sT : TypeId) (ho : o.op = .call { callee := .builtin .copy, args := #[d, s], argTypes := #[dT, sT] }) (elem : TypeId) (hu : P.underlying dT = some (.slice elem)) (hs : (P.info? elem).map (·.size) = some 1)
    (g off dLen dCap : Nat) (hd : a.eval d = .slice (some ⟨g, off, none⟩) dLen dCap) (u : Value) (ys : List Value) (hx : a.eval s = u) (hsl : Sl w u ys) (t : TypeId) (L : List Value) (hb : Blk w g t L)
    (hfit : off + Nat.min ys.length dLen ≤ L.length) (h1 : Ones ys)
    (h : ∀ w', Blk w' g t (putL L off (ys.take dLen)) → Keeps [g] w w' → K (a.put o.dst (goInt (Nat.min ys.length dLen))) w') : Oper.wp P o a w K Q := by
  obtain ⟨w', hr, h2, h3⟩ := run_copySl (P := P) w dT sT o.type elem hu hs g off dLen dCap u ys hsl t L hb hfit h1
  unfold Oper.wp
  simp [execOp, ho, resolve, invoke, builtin, hd, hx, hr, Result.andThen]
  exact h _ h2 h3
theorem upd_again {new old : List Nat} {k n : Nat} (h : new.length = old.length) (hk : k + n ≤ old.length) : (upd new old (k + n)).take k ++ (new.drop k).take n ++ (upd new old (k + n)).drop (k + n) = upd new old (k + n) := by
  unfold upd
  rw [List.take_append_of_le_length (by simp; omega), List.take_take, Nat.min_eq_left (by omega), List.drop_left' (by simp; omega), ← List.take_add]
end Go.Proofs.Ytlifpmglaoppoaa

/- Contracts of package mac: pads, pad. -/
namespace Go.Proofs.Ytlifpmglaoppoaa
open Go.RowKit
open Go.Proofs.PlainAes
open Go.Proofs.PlainSha
open Go.Proofs.PlainMac

theorem arr64b : ArrTy Try.prog 121 64 := ⟨_, Try.underlying121, rfl, by kernel_rfl⟩
theorem arr2b : ArrTy Try.prog 124 2 := ⟨_, Try.underlying124, rfl, by kernel_rfl⟩
theorem shaL_len (l : List Nat) : (shaL l).length = 32 := by simp [shaL, outL_length]
theorem shaL_byt (l : List Nat) : Byt (shaL l) := outL_byt _
theorem padK_len (k : List Nat) : (padK k).length = 64 := by
  unfold padK
  split
  · simp [shaL_len]
  · simp; omega
theorem padK_byt {k : List Nat} (h : Byt k) : Byt (padK k) := by
  intro x hx
  unfold padK at hx
  split at hx
  · simp only [List.mem_append, List.mem_replicate] at hx
    rcases hx with hx | hx
    · exact shaL_byt k x hx
    · omega
  · simp only [List.mem_append, List.mem_replicate] at hx
    rcases hx with hx | hx
    · exact h x hx
    · omega
theorem macL_len (k m : List Nat) : (macL k m).length = 32 := shaL_len _
theorem macL_byt (k m : List Nat) : Byt (macL k m) := shaL_byt _
theorem zeros_eq (n : Nat) : zeros n = List.replicate n 0 := rfl
theorem put_zeros {l : List Nat} (h : l.length ≤ 64) : putL (bv (zeros 64)) 0 ((bv l).take 64) = bv (l ++ List.replicate (64 - l.length) 0) := by
  rw [show (bv l).take 64 = bv l from List.take_of_length_le (by simpa using h), putL_bv, Nat.zero_add, zeros_eq, List.drop_replicate, List.take_zero, List.nil_append]

set_option maxRecDepth 100000 in
theorem pads_any (w : World) : Calls Try.prog 64 #[] w (fun e w' => e = .returned (.agg (bv [54, 92]).toArray) ∧ Below w.heap.size w w') := by
  go_enter Try.func64, Try.ntmps64
  go_wp2_with (refine wpList_allocA rfl 124 rfl (bv (zeros 2)) (by kernel_rfl) ?_)
  intro w1 h1 hK1 hz1
  have hB1 := (Below.refl w.heap.size w).trans (hK1.below (Nat.le_refl _) (by simp))
  clear hK1 hz1
  go_wp2_with (refine wpList_storeW rfl 124 (.tmp 0) (.tmp 1) rfl 2 arr2b w.heap.size rfl (bv [54, 92]) rfl 124 _ h1 rfl rfl (ones_bv _) ?_)
  intro w2 h2 hK2
  go_wp2
  exact bodyPost_ret (v := .agg (bv [54, 92]).toArray) (res_cell Try.results64 _ _ _ 124 _ arr2b rfl rfl h2) rfl ⟨rfl, hB1.trans (hK2.below hB1.size (by simp))⟩

set_option maxRecDepth 100000 in
set_option maxHeartbeats 1000000 in
theorem pad_core (A : Option Addr) (n c : Nat) (k : List Nat) (w : World) (hs : Sl w (.slice A n c) (bv k)) (bk : Byt k) (hlen : (k.length : Int) ≤ 549755813888) :
    Calls Try.prog 62 #[.slice A n c] w (RetH (padK k) w) := by
  have hsh := Lib.hid (fun v w hs => shasum_any k v w hs bk hlen)
  have hn : n = k.length := by obtain ⟨_, _, e, _⟩ := hs; injection e with _ e _; simpa using e
  subst hn
  have hK : Hid (padK k = (if 64 < k.length then shaL k else k) ++ List.replicate (64 - (if 64 < k.length then shaL k else k).length) 0) := rfl
  have hpl := Lib.hid (show (bv (padK k)).length = 64 by simp [padK_len])
  have hhl := Lib.hid (shaL_len k)
  generalize padK k = P at *
  replace hs := Lib.hid hs
  clear bk
  go_enter Try.func62, Try.ntmps62
  go_wp2_with (refine wpList_allocA rfl 121 rfl (bv (zeros 64)) (by kernel_rfl) ?_)
  intro w1 h1 hK1 hz1
  have hB1 := (Below.refl w.heap.size w).trans (hK1.below (Nat.le_refl _) (by simp))
  clear hK1 hz1
  by_cases hlt : (64 : Int) < (k.length : Int)
  · have hsh1 := Lib.hid (hsh.out _ w1 (hs.out.keep hB1))
    have hK2 : Hid (P = shaL k ++ List.replicate (64 - (shaL k).length) 0) := by
      show _ = _
      rw [hK.out, if_pos (by omega)]
    clear hK
    generalize shaL k = O at *
    go_wp2_with fail
    refine hsh1.out.mono ?_
    rintro e w2 ⟨rfl, hB2⟩
    have h2 := h1.keep hB2
    have hB2' := below_call hB1 hB1.size hB2
    clear h1 hB1 hB2 hsh1
    go_wp2_with (refine wpList_allocA rfl 26 rfl (bv (zeros 32)) (by kernel_rfl) ?_)
    intro w3 h3 hK3 hz3
    have hp3 := h2.keeps hK3 (by simp)
    have hB3 := hB2'.trans (hK3.below hB2'.size (by simp))
    have hg := h2.lt
    clear hK3 h2 hB2'
    generalize w2.heap.size = g3 at *
    have hOl := Lib.hid (show (bv O).length = 32 by simp [hhl.out])
    go_wp2_with (refine wpList_storeW rfl 26 (.tmp 3) (.tmp 8) rfl 32 arrH g3 rfl (bv O) rfl 26 _ h3 hOl.out (by simp) (ones_bv _) ?_)
    intro w4 h4 hK4
    have hp4 := hp3.keeps hK4 (by simp; omega)
    have hB4 := hB3.trans (hK4.below hB3.size (by simp; omega))
    clear hK4 h3 hp3 hB3 hz3
    have sl4 : Sl w4 (.slice (some ⟨g3, 0, none⟩) 32 32) (bv O) := by
      have h := Sl.of_blk h4 (show 32 ≤ 32 from Nat.le_refl _) (Nat.le_of_eq hOl.out.symm) (by unfold maxLen; omega)
      rw [List.take_of_length_le (Nat.le_of_eq hOl.out)] at h
      exact h
    go_wp2_with (refine wpList_copySl rfl (.tmp 10) (.tmp 11) 22 22 rfl 5 Try.underlying22 (by kernel_rfl) w.heap.size 0 64 64 rfl _ (bv O) rfl sl4 121 _ hp4 ?_ (ones_bv _) ?_)
    · rw [hOl.out]; simp
    intro w5 h5 hK5
    rw [put_zeros (by rw [hhl.out]; decide), ← hK2.out] at h5
    have hB5 := hB4.trans (hK5.below hB4.size (by simp))
    clear hK5 hp4 hB4 h4 sl4
    go_wp2_with (first | refine wpList_loadW rfl 121 (.tmp 2) rfl 64 arr64b _ rfl 121 _ h5 hpl.out ?_ | refine wpList_storeW rfl 121 (.tmp 2) (.tmp 13) rfl 64 arr64b _ rfl (bv P) rfl 121 _ h5 hpl.out hpl.out (ones_bv _) ?_)
    intro w6 h6 hK6
    go_wp2
    exact bodyPost_ret (v := .agg (bv P).toArray) (res_cell Try.results62 _ _ _ 121 _ arr64b hpl.out rfl h6) rfl ⟨rfl, hB5.trans (hK6.below hB5.size (by simp))⟩
  · have hK2 : Hid (P = k ++ List.replicate (64 - k.length) 0) := by
      show _ = _
      rw [hK.out, if_neg (by omega)]
    clear hK hsh hhl
    have sl1 := hs.out.keep hB1
    go_wp2_with (refine wpList_copySl rfl (.tmp 10) (.tmp 11) 22 22 rfl 5 Try.underlying22 (by kernel_rfl) w.heap.size 0 64 64 rfl _ (bv k) rfl sl1 121 _ h1 ?_ (ones_bv _) ?_)
    · have := Nat.min_le_right (bv k).length 64; simpa using this
    intro w5 h5 hK5
    rw [put_zeros (by omega), ← hK2.out] at h5
    have hB5 := hB1.trans (hK5.below hB1.size (by simp))
    clear hK5 h1 hB1 sl1
    go_wp2_with (first | refine wpList_loadW rfl 121 (.tmp 2) rfl 64 arr64b _ rfl 121 _ h5 hpl.out ?_ | refine wpList_storeW rfl 121 (.tmp 2) (.tmp 13) rfl 64 arr64b _ rfl (bv P) rfl 121 _ h5 hpl.out hpl.out (ones_bv _) ?_)
    intro w6 h6 hK6
    go_wp2
    exact bodyPost_ret (v := .agg (bv P).toArray) (res_cell Try.results62 _ _ _ 121 _ arr64b hpl.out rfl h6) rfl ⟨rfl, hB5.trans (hK6.below hB5.size (by simp))⟩
theorem pad_any (v : Value) (k : List Nat) (w : World) (hs : Sl w v (bv k)) (bk : Byt k) (hlen : (k.length : Int) ≤ 549755813888) : Calls Try.prog 62 #[v] w (RetH (padK k) w) := by
  obtain ⟨A, c, rfl, _⟩ := id hs
  exact pad_core A _ c k w hs bk hlen
end Go.Proofs.Ytlifpmglaoppoaa

/- Contracts of package mac: the closure of Mac. -/

namespace Go.Proofs.Ytlifpmglaoppoaa
open Go.RowKit
open Go.Proofs.PlainAes
open Go.Proofs.PlainSha
open Go.Proofs.PlainMac

theorem x8m {a b : Nat} (ha : a < 256) (hb : b < 256) : bits .xor .u8 (a : Int) (b : Int) = ((a ^^^ b : Nat) : Int) ∧ a ^^^ b < 256 := ⟨u8_xor_nat a b ha hb, xor_lt ha hb⟩
@[simp] theorem xk_len (K : List Nat) (b : Nat) : (xk K b).length = K.length := by simp [xk]
theorem xk_get {K : List Nat} {b k : Nat} (hk : k < K.length) : (xk K b)[k]? = some (gd K k ^^^ b) := by
  simp [xk, gd_get hk]
theorem xk_byt {K : List Nat} {b : Nat} (h : Byt K) (hb : b < 256) : Byt (xk K b) := by
  intro x hx
  simp only [xk, List.mem_map] at hx
  obtain ⟨a, ha, rfl⟩ := hx
  exact xor_lt (h a ha) hb

set_option maxRecDepth 100000 in
set_option maxHeartbeats 2000000 in
theorem under_core (by_ : Nat) (K m : List Nat) (g n c : Nat) (A : Option Addr) (w : World) (hk : Blk w g 121 (bv K)) (hKl : K.length = 64) (bK : Byt K) (hb8 : (by_ : Int) ≤ 255) (hs : Sl w (.slice A n c) (bv m)) (bm : Byt m) (hlen : (m.length : Int) ≤ 549755813888) :
    Calls Try.prog 63 #[.int .u8 (by_ : Int), .slice A n c, .pointer (some ⟨g, 0, none⟩)] w (RetH (shaL (xk K by_ ++ m)) w) := by
  have hnew := Lib.hid (fun w => new_any w)
  have hbx : Byt (xk K by_) := xk_byt bK (by omega)
  have hwr1 := Lib.hid (fun B g v w h a d => write_any [] (xk K by_) B g v none w h a (by intro x hx; simp at hx) hbx (by simp; omega) d)
  have hwr2 := Lib.hid (fun B g r v w h a d => write_any (xk K by_) m B g v r w h a hbx bm (by simp; omega) d)
  have hsm := Lib.hid (fun B g r w h => sum_any (xk K by_ ++ m) B g r w h (by intro x hx; rcases List.mem_append.1 hx with h | h; exact hbx x h; exact bm x h) (by simp; omega))
  have hsep : Hid (0 < m.length → ∀ a n' c', Value.slice A n c = .slice (some a) n' c' → a.block < w.heap.size) := fun hp a n' c' e => Sl.lt hs (by simpa using hp) e
  have Hs := Lib.hid hs
  have hgk := hk.lt
  have HKl := Lib.hid hKl
  have Hkl := Lib.hid (show (bv K).length = 64 by simp [hKl])
  have hXl := Lib.hid (show (xk K by_).length = K.length from xk_len K by_)
  have hXg := Lib.hid (fun k (hk : k < 64) => xk_get (b := by_) (show k < K.length by omega))
  have bKg := Lib.hid (fun k => gd_lt bK k)
  have hHl := Lib.hid (show (bv (shaL (xk K by_ ++ m))).length = 32 by simp [shaL_len])
  clear hs bm hKl bK hbx
  generalize hXe : xk K by_ = X at *
  clear hXe
  go_enter Try.func63, Try.ntmps63
  go_wp2_with (refine wpList_allocA rfl 26 rfl (bv (zeros 32)) (by kernel_rfl) ?_)
  intro w1 ho1 hK1 hz1
  have hB1 := hK1.below (Nat.le_refl _) (by simp)
  have hk1 := hk.keeps hK1 (by simp)
  clear hK1 hk
  go_wp2_with fail
  refine (hnew.out _).mono ?_
  rintro e w2 ⟨g6, rfl, hh, hB2⟩
  have hgl := hh.lt
  have ho2 := ho1.keep hB2
  have hk2 := hk1.keep hB2
  have hB2' := below_call hB1 hB1.size hB2
  have hol := ho2.lt
  have h16 : w1.heap.size = w.heap.size + 1 := by simpa using hz1
  clear hz1 ho1 hk1 hB1 hB2
  go_wp2_with (first
    | (refine wpList_loadW rfl 121 (.tmp 2) rfl 64 arr64b g rfl 121 _ hk2 Hkl.out ?_)
    | (refine wpList_allocA rfl 121 rfl (bv (zeros 64)) (by kernel_rfl) ?_))
  intro w3 h3 hK3 hz3
  have ho3 := ho2.keeps hK3 (by simp)
  have hh3 := hh.keeps hK3 (by simp) (by simp)
  have hB3 := hB2'.trans (hK3.below hB2'.size (by simp))
  have hg6 : g6 < w2.heap.size := hgl.2
  have hg1 := hgl.1
  clear hK3 ho2 hk2 hh hB2' hz3 hgl
  generalize w2.heap.size = g7 at *
  go_wp2_with (refine wpList_storeW rfl 121 (.tmp 7) (.tmp 12) rfl 64 arr64b g7 rfl (bv K) rfl 121 _ h3 Hkl.out (by simp) (ones_bv _) ?_)
  intro w4 h4 hK4
  have ho4 := ho3.keeps hK4 (by simp; omega)
  have hh4 := hh3.keeps hK4 (by simp; omega) (by simp)
  have hB4 := hB3.trans (hK4.below hB3.size (by simp; omega))
  have hg7 := h4.lt
  clear hK4 h3 ho3 hh3 hB3
  go_wp2
  go_loopw [13] (fun i wr => ∃ k : Nat, (k : Int) ≤ 64 ∧ i = .int .i64 (k : Int) ∧ Blk wr g7 121 (bv (upd X K k)) ∧ Keeps [g7] w4 wr) (fun i _ => 64 - (intOf i).toNat)
  case atStart => exact ⟨0, by omega, rfl, by rw [upd_zero]; exact h4, Keeps.refl _ _⟩
  case round =>
    clear h4
    obtain ⟨k, hk, rfl, hx, hK⟩ := hrel
    by_cases hlt : (k : Int) < 64
    · have c0 := hx.cell k
      rw [bv_get, upd_get (by rw [hXl.out]) (Nat.le_refl _) (by rw [HKl.out]; omega), gd_get (by rw [HKl.out]; omega)] at c0
      simp only [Option.map_some] at c0
      have f0 := hx.frozen k
      have HS := Lib.hid (upd_set (new := X) (old := K) (k := k) (by rw [hXl.out]) (by rw [HKl.out]; omega) (hXg.out k (by omega)))
      have l1 := bKg.out k
      have q1 := (x8m l1 (show by_ < 256 by omega)).1
      generalize gd K k = x at *
      clear l1
      go_wp2
      go_roundw
      case rel =>
        refine ⟨k + 1, by omega, by go_num, ?_, hK.setCell (by simp) _⟩
        rw [← HS.out, ← bv_set]
        exact hx.set_ k _
      case measure => simp [intOf]; omega
    · obtain rfl : k = 64 := by omega
      rw [upd_all (by rw [hXl.out, HKl.out]) HKl.out] at hx
      have ho5 := ho4.keeps hK (by simp; omega)
      have hh5 := hh4.keeps hK (by simp; omega) (by simp)
      have hB5 := hB4.trans (hK.below hB4.size (by simp; omega))
      have sl5 : Sl wr (.slice (some ⟨g7, 0, none⟩) 64 64) (bv X) := by
        have h := Sl.of_blk hx (show 64 ≤ 64 from Nat.le_refl _) (by rw [bv_length, hXl.out, HKl.out]; exact Nat.le_refl _) (by unfold maxLen; omega)
        rw [List.take_of_length_le (by rw [bv_length, hXl.out, HKl.out]; exact Nat.le_refl _)] at h
        exact h
      have hw1 := Lib.hid (hwr1.out _ _ _ wr hh5 sl5 (fun _ a n c e => ⟨by injection e with e; injection e with e; rw [← e]; show g7 ≠ g6; omega, by simp⟩))
      have hg7w : g7 < wr.heap.size := hx.lt
      clear ho4 hh4 hB4 hK hh5 sl5 hx
      go_wp2_with fail
      refine hw1.out.mono ?_
      rintro e w6 ⟨rfl, r6, hh6, hK6, hm6⟩
      have hr6 := hh6.row
      have ho6 := ho5.keeps hK6 (by simp; omega)
      have hB6 := hB5.trans (hK6.below hB5.size (by simp; omega))
      have hne : ∀ k, k < w.heap.size → r6 ≠ some k := fun k hk e => by have := (hr6 k e).1; omega
      have hno : r6 ≠ some w.heap.size := fun e => by have := (hr6 _ e).1; omega
      have hw2 := Lib.hid (hwr2.out _ _ _ _ w6 hh6 (Hs.out.keep hB6) (fun hp a n c e => ⟨by have := hsep.out hp a n c e; omega, hne _ (hsep.out hp a n c e)⟩))
      clear hw1 hK6 hm6 hh6 hB5 ho5
      go_wp2_with fail
      refine hw2.out.mono ?_
      rintro e w7 ⟨rfl, r7, hh7, hK7, hm7⟩
      have ho7 := ho6.keeps hK7 (by
        simp only [List.mem_cons, Option.mem_toList, not_or]
        exact ⟨by omega, hno⟩)
      have hB7 := hB6.trans (hK7.belowH hB6.size (by omega) (fun k hk => by have := (hr6 k hk).1; omega))
      have hsm7 := Lib.hid (hsm.out _ _ _ w7 hh7)
      clear hw2 hK7 hm7 hh7 hB6 ho6 hr6 hne hno
      go_wp2_with fail
      refine hsm7.out.mono ?_
      rintro e w8 ⟨rfl, hB8⟩
      have ho8 := ho7.keep hB8
      have hB8' := below_call hB7 hB7.size hB8
      clear hsm7 hB8 hB7 ho7
      generalize shaL (X ++ m) = O at *
      go_wp2_with (refine wpList_allocA rfl 26 rfl (bv (zeros 32)) (by kernel_rfl) ?_)
      intro w9 hx9 hK9 hz9
      have ho9 := ho8.keeps hK9 (by simp)
      have hB9 := hB8'.trans (hK9.below hB8'.size (by simp))
      have hg9 := ho8.lt
      clear hK9 ho8 hB8' hz9
      generalize w8.heap.size = g9 at *
      go_wp2_with (refine wpList_storeW rfl 26 (.tmp 9) (.tmp 32) rfl 32 arrH g9 rfl (bv O) rfl 26 _ hx9 hHl.out (by simp) (ones_bv _) ?_)
      intro w10 hx10 hK10
      have ho10 := ho9.keeps hK10 (by simp; omega)
      have hB10 := hB9.trans (hK10.below hB9.size (by simp; omega))
      clear hK10 hx9 ho9 hB9
      go_wp2_with (first | refine wpList_loadW rfl 26 (.tmp 9) rfl 32 arrH _ rfl 26 _ hx10 hHl.out ?_ | refine wpList_storeW rfl 26 (.tmp 5) (.tmp 34) rfl 32 arrH _ rfl (bv O) rfl 26 _ ho10 hHl.out (by simp) (ones_bv _) ?_)
      intro w11 ho11 hK11
      go_wp2
      exact bodyPost_ret (v := .agg (bv O).toArray) (res_cell Try.results63 _ _ _ 26 _ arrH hHl.out rfl ho11) rfl ⟨rfl, hB10.trans (hK11.below hB10.size (by simp))⟩
theorem under_any (by_ : Nat) (K m : List Nat) (g : Nat) (v : Value) (w : World) (hk : Blk w g 121 (bv K)) (hKl : K.length = 64) (bK : Byt K) (hb8 : (by_ : Int) ≤ 255) (hs : Sl w v (bv m)) (bm : Byt m) (hlen : (m.length : Int) ≤ 549755813888) :
    Calls Try.prog 63 #[.int .u8 (by_ : Int), v, .pointer (some ⟨g, 0, none⟩)] w (RetH (shaL (xk K by_ ++ m)) w) := by
  obtain ⟨A, c, rfl, _⟩ := id hs
  exact under_core by_ K m g _ c A w hk hKl bK hb8 hs bm hlen
end Go.Proofs.Ytlifpmglaoppoaa

/- Contracts of package mac: Mac, Fits, Derive. -/
namespace Go.Proofs.Ytlifpmglaoppoaa
open Go.RowKit
open Go.Proofs.PlainAes
open Go.Proofs.PlainSha
open Go.Proofs.PlainMac

theorem pads_eq : (bv [54, 92]).toArray = #[.int .u8 54, .int .u8 92] := rfl
theorem xk_shaL_len (K m : List Nat) (b : Nat) : (shaL (xk K b ++ m)).length = 32 := shaL_len _

theorem idx2a (w : World) : (Instr.index 124 (.agg #[.int .u8 54, .int .u8 92]) (.int .i64 0)).run Try.prog w = .ok (.int .u8 54) w := by
  have hu : Try.prog.underlying 124 = some (.array 2 5) := Try.underlying124
  have hs : (sizeOf 5).run Try.prog w = .ok 1 w := by kernel_rfl
  have ha : (isAgg 5).run Try.prog w = .ok false w := by kernel_rfl
  simp [Instr.index, asIntOf, Sem.run_bind, run_underlying hu, hs, ha, part]
theorem idx2b (w : World) : (Instr.index 124 (.agg #[.int .u8 54, .int .u8 92]) (.int .i64 1)).run Try.prog w = .ok (.int .u8 92) w := by
  have hu : Try.prog.underlying 124 = some (.array 2 5) := Try.underlying124
  have hs : (sizeOf 5).run Try.prog w = .ok 1 w := by kernel_rfl
  have ha : (isAgg 5).run Try.prog w = .ok false w := by kernel_rfl
  simp [Instr.index, asIntOf, Sem.run_bind, run_underlying hu, hs, ha, part]
set_option maxRecDepth 100000 in
set_option maxHeartbeats 2000000 in
theorem mac_core (A A2 : Option Addr) (n c n2 c2 : Nat) (k m : List Nat) (w : World) (hs : Sl w (.slice A n c) (bv k)) (hm : Sl w (.slice A2 n2 c2) (bv m)) (bk : Byt k) (bm : Byt m) (hlk : (k.length : Int) ≤ 549755813888) (hlm : (m.length : Int) ≤ 549755813888) :
    Calls Try.prog 46 #[.slice A n c, .slice A2 n2 c2] w (RetH (macL k m) w) := by
  have hpad := Lib.hid (fun w (h : Sl w (.slice A n c) (bv k)) => pad_any _ k w h bk hlk)
  have hp := Lib.hid (fun w => pads_any w)
  rw [pads_eq] at hp
  have hKl := padK_len k
  have hKb := padK_byt bk
  have hOe : Hid (macL k m = shaL (xk (padK k) 92 ++ shaL (xk (padK k) 54 ++ m))) := rfl
  have hOl := Lib.hid (show (bv (macL k m)).length = 32 by rw [bv_length, macL_len])
  have hu1 := Lib.hid (fun g w (h : Blk w g 121 (bv (padK k))) (h2 : Sl w (.slice A2 n2 c2) (bv m)) => under_any 54 (padK k) m g _ w h hKl hKb (by decide) h2 bm hlm)
  have hu2 := Lib.hid (fun g v w (h : Blk w g 121 (bv (padK k))) h2 => under_any 92 (padK k) (shaL (xk (padK k) 54 ++ m)) g v w h hKl hKb (by decide) h2 (shaL_byt _) (by rw [shaL_len]; decide))
  have hHl := Lib.hid (show (bv (shaL (xk (padK k) 54 ++ m))).length = 32 by rw [bv_length, shaL_len])
  rw [← hOe.out] at hu2
  change Hid (∀ g w, _ → _ → Calls _ _ #[.int .u8 54, _, _] _ _) at hu1
  change Hid (∀ g v w, _ → _ → Calls _ _ #[.int .u8 92, _, _] _ _) at hu2
  have hKl2 := Lib.hid (show (bv (padK k)).length = 64 by rw [bv_length, hKl])
  replace hs := Lib.hid hs
  replace hm := Lib.hid hm
  clear hOe hKl hKb bk bm hlk hlm
  generalize macL k m = O at *
  generalize padK k = K at *
  generalize shaL (xk K 54 ++ m) = H1 at *
  go_enter Try.func46, Try.ntmps46
  go_wp2_with (refine wpList_allocA rfl 26 rfl (bv (zeros 32)) (by kernel_rfl) ?_)
  intro w1 h1 hK1 hz1
  have hB1 := (Below.refl w.heap.size w).trans (hK1.below (Nat.le_refl _) (by simp))
  have hpad1 := Lib.hid (hpad.out w1 (hs.out.keep hB1))
  clear hK1 hz1
  go_wp2_with fail
  refine hpad1.out.mono ?_
  rintro e w2 ⟨rfl, hB2⟩
  have h2 := h1.keep hB2
  have hB2' := below_call hB1 hB1.size hB2
  clear h1 hB1 hB2 hpad1
  go_wp2_with (refine wpList_allocA rfl 121 rfl (bv (zeros 64)) (by kernel_rfl) ?_)
  intro w3 h3 hK3 hz3
  have hp3 := h2.keeps hK3 (by simp)
  have hB3 := hB2'.trans (hK3.below hB2'.size (by simp))
  have hg := h2.lt
  clear hK3 h2 hB2' hz3
  generalize w2.heap.size = g5 at *
  go_wp2_with (refine wpList_storeW rfl 121 (.tmp 5) (.tmp 11) rfl 64 arr64b g5 rfl (bv K) rfl 121 _ h3 hKl2.out (by simp) (ones_bv _) ?_)
  intro w4 h4 hK4
  have hp4 := hp3.keeps hK4 (by simp; omega)
  have hB4 := hB3.trans (hK4.below hB3.size (by simp; omega))
  clear hK4 h3 hp3 hB3
  go_wp2_with fail
  refine (hp.out _).mono ?_
  rintro e w5 ⟨rfl, hB5⟩
  have h5 := h4.keep hB5
  have hp5 := hp4.keep hB5
  have hB5' := below_call hB4 hB4.size hB5
  clear h4 hp4 hB4 hB5
  go_wp2
  go_loopw [7, 15] (fun r i wr => Blk wr g5 121 (bv K) ∧ Below w.heap.size w wr ∧ ((i = .int .i64 0 ∧ r = .slice A2 n2 c2 ∧ Blk wr w.heap.size 26 (bv (zeros 32))) ∨ (i = .int .i64 1 ∧ r = .slice (some ⟨w.heap.size, 0, none⟩) 32 32 ∧ Blk wr w.heap.size 26 (bv H1)) ∨ (i = .int .i64 2 ∧ Blk wr w.heap.size 26 (bv O)))) (fun _ i _ => 2 - (intOf i).toNat)
  case atStart => exact ⟨h5, hB5', .inl ⟨rfl, rfl, hp5⟩⟩
  case round =>
    clear h5 hp5 hB5'
    obtain ⟨hk, hB, hrel⟩ := hrel
    rcases hrel with ⟨rfl, rfl, hr⟩ | ⟨rfl, rfl, hr⟩ | ⟨rfl, hr⟩
    · have i0 := idx2a
      have hc := Lib.hid (hu1.out g5 wr hk (hm.out.keep hB))
      go_wp2_with fail
      refine hc.out.mono ?_
      rintro e w6 ⟨rfl, hB6⟩
      have hk6 := hk.keep hB6
      have hr6 := hr.keep hB6
      have hB6' := below_call hB hB.size hB6
      clear hk hr hB hB6 hc
      go_wp2_with (refine wpList_storeW rfl 26 (.tmp 4) (.tmp 21) rfl 32 arrH w.heap.size rfl (bv H1) rfl 26 _ hr6 hHl.out (by simp) (ones_bv _) ?_)
      intro w7 hr7 hK7
      have hk7 := hk6.keeps hK7 (by simp; omega)
      have hB7 := hB6'.trans (hK7.below hB6'.size (by simp))
      clear hK7 hr6 hk6 hB6'
      go_wp2
      go_roundw
      case rel => exact ⟨hk7, hB7, .inr (.inl ⟨by go_num, rfl, hr7⟩)⟩
      case measure => simp [intOf]
    · have hsl : Sl wr (.slice (some ⟨w.heap.size, 0, none⟩) 32 32) (bv H1) := by
        have h := Sl.of_blk hr (show 32 ≤ 32 from Nat.le_refl _) (Nat.le_of_eq hHl.out.symm) (by unfold maxLen; omega)
        rw [List.take_of_length_le (Nat.le_of_eq hHl.out)] at h
        exact h
      have i0 := idx2b
      have hc := Lib.hid (hu2.out g5 _ wr hk hsl)
      go_wp2_with fail
      refine hc.out.mono ?_
      rintro e w6 ⟨rfl, hB6⟩
      have hk6 := hk.keep hB6
      have hr6 := hr.keep hB6
      have hB6' := below_call hB hB.size hB6
      clear hk hr hB hB6 hc hsl
      go_wp2_with (refine wpList_storeW rfl 26 (.tmp 4) (.tmp 21) rfl 32 arrH w.heap.size rfl (bv O) rfl 26 _ hr6 hOl.out hHl.out (ones_bv _) ?_)
      intro w7 hr7 hK7
      have hk7 := hk6.keeps hK7 (by simp; omega)
      have hB7 := hB6'.trans (hK7.below hB6'.size (by simp))
      clear hK7 hr6 hk6 hB6'
      go_wp2
      go_roundw
      case rel => exact ⟨hk7, hB7, .inr (.inr ⟨by go_num, hr7⟩)⟩
      case measure => simp [intOf]
    · go_wp2_with (first | refine wpList_loadW rfl 26 (.tmp 4) rfl 32 arrH _ rfl 26 _ hr hOl.out ?_ | refine wpList_storeW rfl 26 (.tmp 4) (.tmp 24) rfl 32 arrH _ rfl (bv O) rfl 26 _ hr hOl.out hOl.out (ones_bv _) ?_)
      intro w6 h6 hK6
      go_wp2
      exact bodyPost_ret (v := .agg (bv O).toArray) (res_cell Try.results46 _ _ _ 26 _ arrH hOl.out rfl h6) rfl ⟨rfl, hB.trans (hK6.below hB.size (by simp))⟩
theorem mac_any (v v2 : Value) (k m : List Nat) (w : World) (hs : Sl w v (bv k)) (hm : Sl w v2 (bv m)) (bk : Byt k) (bm : Byt m) (hlk : (k.length : Int) ≤ 549755813888) (hlm : (m.length : Int) ≤ 549755813888) :
    Calls Try.prog 46 #[v, v2] w (RetH (macL k m) w) := by
  obtain ⟨A, c, rfl, _⟩ := id hs
  obtain ⟨A2, c2, rfl, _⟩ := id hm
  exact mac_core A A2 _ c _ c2 k m w hs hm bk bm hlk hlm
end Go.Proofs.Ytlifpmglaoppoaa

/- The bytes of a string in new memory. -/
namespace Go.Proofs.Ytlifpmglaoppoaa
open Go.RowKit
open Go.Proofs.PlainAes
open Go.Proofs.PlainSha

theorem bytes_cell (w : World) (e c : Nat) (fr : Nat × Nat) {l : List Nat} (hl : Byt l) {k d : Nat} (hk : l[k]? = some d) :
    (w.drew.alloc (.cells (bytesRow (bstr l) c) e fr)).cell? ⟨w.heap.size, k, none⟩ = some (.int .u8 (d : Int)) := by
  rw [Go.Joins.cell_alloc_mark_at w.drew _ _ _ w.heap.size _ rfl]
  have hlt : k < l.length := (List.getElem?_eq_some_iff.1 hk).1
  have hd : d < 256 := hl d (List.mem_of_getElem? hk)
  have he : l[k] = d := (List.getElem?_eq_some_iff.1 hk).2
  unfold bytesRow bstr
  rw [Array.getElem?_append_left (by simp; omega)]
  simp [List.getElem?_map, hk]
  omega
theorem bstr_size (l : List Nat) : (bstr l).size = l.length := by simp [bstr, ByteArray.size]
/-- The bytes of a string, in new memory. -/
theorem sl_string (w : World) (fr : Nat × Nat) {l : List Nat} (hl : Byt l) (hn : (l.length : Int) ≤ 140737488355328) :
    Sl (w.drew.alloc (.cells (bytesRow (bstr l) (grownCap w l.length 0 5)) 5 fr)) (.slice (some ⟨w.heap.size, 0, none⟩) l.length (grownCap w l.length 0 5)) (bv l) := by
  refine ⟨some ⟨w.heap.size, 0, none⟩, grownCap w l.length 0 5, by simp, ?_, ?_, fun _ => ⟨w.heap.size, 0, rfl, fun i u hu => ?_⟩⟩
  · rw [bv_length]; exact grownCap_ge _ _ _ _
  · exact grownCap_le_maxLen _ _ _ _ (by unfold maxLen; omega)
  · rw [bv_get, Option.map_eq_some_iff] at hu
    obtain ⟨d, hd, rfl⟩ := hu
    rw [Nat.zero_add]
    exact bytes_cell w 5 _ fr hl hd
end Go.Proofs.Ytlifpmglaoppoaa

/- Cuts of slices; a store into a row of the call's own. -/
namespace Go.Proofs.Ytlifpmglaoppoaa
open Go.RowKit
theorem Sl.head {w : World} {A : Option Addr} {m c i : Nat} {xs : List Value} (h : Sl w (.slice A m c) xs) (hl : xs.length = m) (hi : i ≤ m) : Sl w (.slice A i c) (xs.take i) := by
  obtain ⟨A', c', e, h1, h2, h3⟩ := h
  injection e with e1 e2 e3
  subst e1 e3
  have hd : (xs.take i).length = i := by simp; omega
  refine ⟨A, c, by rw [hd], by omega, h2, fun hp => ?_⟩
  obtain ⟨g, o, rfl, hc⟩ := h3 (by omega)
  refine ⟨g, o, rfl, fun t u hu => hc t u ?_⟩
  rw [List.getElem?_take] at hu
  by_cases ht : t < i
  · rwa [if_pos ht] at hu
  · rw [if_neg ht] at hu; cases hu
theorem bv_take (l : List Nat) (i : Nat) : (bv l).take i = bv (l.take i) := by simp [bv]
theorem Sl.tail {w : World} {A : Option Addr} {i j c : Nat} {xs : List Value} (h : Sl w (.slice A (i + j) c) xs) (hl : xs.length = i + j) : Sl w (.slice (A.map fun x => x.add i) j (c - i)) (xs.drop i) := by
  obtain ⟨A', c', e, h1, h2, h3⟩ := h
  injection e with e1 e2 e3
  subst e1 e3
  have hd : (xs.drop i).length = j := by simp; omega
  refine ⟨_, _, by rw [hd], by omega, by omega, fun hp => ?_⟩
  obtain ⟨g, o, rfl, hc⟩ := h3 (by omega)
  refine ⟨g, o + i, ?_, fun t u hu => ?_⟩
  · have : (⟨g, o, none⟩ : Addr).add i = ⟨g, o + i, none⟩ := by unfold Addr.add; split <;> simp_all
    simp [this]
  · rw [List.getElem?_drop] at hu
    rw [Nat.add_assoc]
    exact hc (i + t) u hu
theorem Sl.tail0 {w : World} {A : Option Addr} {i j c : Nat} {xs : List Value} (h : Sl w (.slice A (i + j) c) xs) (hl : xs.length = i + j) (hc : c = i) : Sl w (.slice A j 0) (xs.drop i) := by
  obtain ⟨A', c', e, h1, h2, h3⟩ := h
  injection e with e1 e2 e3
  subst e1 e3
  have hj : j = 0 := by omega
  subst hj
  have hx : xs.drop i = [] := List.drop_eq_nil_of_le (by omega)
  rw [hx]
  exact ⟨_, _, rfl, Nat.zero_le _, by omega, fun h => absurd h (by simp)⟩
theorem bv_drop (l : List Nat) (i : Nat) : (bv l).drop i = bv (l.drop i) := by simp [bv]
theorem own_set {b : Nat} {w : World} {e : TypeId} {A : Option Addr} {n c : Nat} {xs : List Value} (h : w.ownsRow b e 1 (.slice A n c) n xs) {i : Nat} (hi : i < n) :
    ∃ g, A = some ⟨g, 0, none⟩ ∧ b ≤ g ∧ g < w.heap.size ∧ w.frozen? ⟨g, i, none⟩ = false ∧ w.cell? ⟨g, i, none⟩ = xs[i]? ∧ ∀ u, (w.setCell ⟨g, i, none⟩ u).ownsRow b e 1 (.slice A n c) n (xs.set i u) ∧ Keeps [g] w (w.setCell ⟨g, i, none⟩ u) := by
  obtain ⟨h1, h2⟩ := h
  rcases h2 with ⟨-, h0⟩ | ⟨g, cap, cur, e1, hb, hg, hn, hm, hs, ht⟩
  · omega
  injection e1 with e1 e2 e3
  subst e1 e3
  have hB : Blk w g e cur.toList := hg
  refine ⟨g, rfl, hb, hB.lt, hB.frozen i, ?_, fun u => ⟨⟨by simpa using h1, .inr ⟨g, c, (cur.toList.set i u).toArray, rfl, hb, hB.set_ i u, hn, hm, by simpa using hs, ?_⟩⟩, (Keeps.refl [g] w).setCell (by simp) u⟩⟩
  · rw [hB.cell, ← ht, List.getElem?_take_of_lt (by omega)]
  · rw [← ht, List.take_set]
theorem own_nil {b : Nat} {w : World} {e : TypeId} {A : Option Addr} {n c : Nat} {xs : List Value} (h : w.ownsRow b e 1 (.slice A n c) n xs) : n ≤ c ∧ c ≤ maxLen ∧ ∀ a, A = some a → b ≤ a.block ∧ a.block < w.heap.size := by
  obtain ⟨h1, h2⟩ := h
  rcases h2 with ⟨e1, h0⟩ | ⟨g, cap, cur, e1, hb, hg, hn, hm, hs, ht⟩
  · injection e1 with e1 e2 e3
    subst e1 e2 e3
    exact ⟨Nat.le_refl _, Nat.zero_le _, by simp⟩
  · injection e1 with e1 e2 e3
    subst e1 e3
    have hB : Blk w g e cur.toList := hg
    exact ⟨hn, hm, fun a e => by injection e with e; subst e; exact ⟨hb, hB.lt⟩⟩
end Go.Proofs.Ytlifpmglaoppoaa

/- Contract of package mac: Derive. -/
namespace Go.Proofs.Ytlifpmglaoppoaa
open Go.RowKit
open Go.Proofs.PlainAes
open Go.Proofs.PlainSha
open Go.Proofs.PlainMac

set_option maxRecDepth 100000 in
set_option maxHeartbeats 1000000 in
theorem derive_core (A : Option Addr) (n c : Nat) (k l : List Nat) (w : World) (hs : Sl w (.slice A n c) (bv k)) (bk : Byt k) (bl : Byt l) (hlk : (k.length : Int) ≤ 549755813888) (hll : (l.length : Int) ≤ 274877906944) :
    Calls Try.prog 26 #[.slice A n c, .string (bstr l)] w (RetH (macL k l) w) := by
  have hmac := Lib.hid (fun v2 w (h : Sl w (.slice A n c) (bv k)) (d : Sl w v2 (bv l)) => mac_any _ v2 k l w h d bk bl hlk (by omega))
  have hol := Lib.hid (show (bv (macL k l)).length = 32 by rw [bv_length, macL_len])
  have kc := fun (w : World) (s : ByteArray) => run_bytes_of_string (P := Try.prog) w 9 22 5 s Try.underlying9 Try.underlying22 Try.underlying5
  have hsz := bstr_size l
  have hsl2 := Lib.hid (fun w fr => sl_string w fr bl (by omega))
  replace hs := Lib.hid hs
  clear hlk bk bl
  generalize macL k l = O at *
  go_enter Try.func26, Try.ntmps26
  go_wp2_with (refine wpList_allocA rfl 26 rfl (bv (zeros 32)) (by kernel_rfl) ?_)
  intro w1 h1 hK1 hz1
  have hB1 := (Below.refl w.heap.size w).trans (hK1.below (Nat.le_refl _) (by simp))
  clear hK1 hz1
  go_wp2_with fail
  have q3 : Below w1.heap.size w1 (w1.alloc (.cells (bytesRow (bstr l) (grownCap w1 l.length 0 5)) 5 ((bytesRow (bstr l) (grownCap w1 l.length 0 5)).size, (bytesRow (bstr l) (grownCap w1 l.length 0 5)).size + 1))).drew := ((Below.refl _ _).alloc (Nat.le_refl _) _).drew
  refine (hmac.out _ _ (hs.out.keep (below_call hB1 hB1.size q3)) (hsl2.out w1 ((bytesRow (bstr l) (grownCap w1 l.length 0 5)).size, (bytesRow (bstr l) (grownCap w1 l.length 0 5)).size + 1))).mono ?_
  rintro e w3 ⟨rfl, hB3⟩
  have hB2 := below_call q3 q3.size hB3
  have h3 := h1.keep hB2
  have hB3' := below_call hB1 hB1.size hB2
  clear h1 hB1 hB2 hB3 q3
  go_wp2_with (refine wpList_storeW rfl 26 (.tmp 4) (.tmp 8) rfl 32 arrH _ rfl (bv O) rfl 26 _ h3 hol.out (by simp) (ones_bv _) ?_)
  intro w4 h4 hK4
  go_wp2
  exact bodyPost_ret (v := .agg (bv O).toArray) (res_cell Try.results26 _ _ _ 26 _ arrH hol.out rfl h4) rfl ⟨rfl, hB3'.trans (hK4.below hB3'.size (by simp))⟩
theorem derive_any (v : Value) (k l : List Nat) (w : World) (hs : Sl w v (bv k)) (bk : Byt k) (bl : Byt l) (hlk : (k.length : Int) ≤ 549755813888) (hll : (l.length : Int) ≤ 274877906944) :
    Calls Try.prog 26 #[v, .string (bstr l)] w (RetH (macL k l) w) := by
  obtain ⟨A, c, rfl, _⟩ := id hs
  exact derive_core A _ c k l w hs bk bl hlk hll
end Go.Proofs.Ytlifpmglaoppoaa
