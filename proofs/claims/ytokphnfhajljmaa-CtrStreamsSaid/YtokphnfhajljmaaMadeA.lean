/- Contracts of layer 12: the nonce's maker. -/
import Derived.Test.YtokphnfhajljmaaNonP
import Derived.Test.YtokphnfhajljmaaCtrC
set_option linter.unusedVariables false
set_option linter.unusedSimpArgs false
namespace Go.Proofs.Ytokphnfhajljmaa
open Go.RowKit
open Go.Proofs.PlainAes
open Go.Proofs.PlainSeal

theorem shr32 (b : Nat) : (b : Int) / 4294967296 = ((b / 4294967296 : Nat) : Int) := by omega
theorem put_n0 (x : Nat) : (zeros 12).take 0 ++ be4 x ++ (zeros 12).drop (0 + 4) = be4 x ++ zeros 8 := rfl
theorem put_n1 (x y : Nat) : (be4 x ++ zeros 8).take 4 ++ be4 y ++ (be4 x ++ zeros 8).drop (4 + 4) = be4 x ++ be4 y ++ zeros 4 := rfl
theorem put_n2 (x y z : Nat) : (be4 x ++ be4 y ++ zeros 4).take 8 ++ be4 z ++ (be4 x ++ be4 y ++ zeros 4).drop (8 + 4) = be4 x ++ (be4 y ++ be4 z) := rfl
set_option maxRecDepth 100000 in
set_option maxHeartbeats 1000000 in
theorem made_ctr (b a : Nat) (w : World) (hb : (b : Int) ≤ 18446744073709551615) (ha : (a : Int) ≤ 4294967295) :
    Calls Try.prog 10 #[.int .u64 (b : Int), .int .u32 (a : Int)] w (RetA (nonceL b a) w) := by
  have q1 : (b : Int) / 4294967296 = ((b / 4294967296 : Nat) : Int) := by omega
  have q2 : IntKind.u32.wrap ((b / 4294967296 : Nat) : Int) = ((b / 4294967296 : Nat) : Int) := by rw [IntKind.wrap_u32]; omega
  have q3 : IntKind.u32.wrap (b : Int) = ((b % 4294967296 : Nat) : Int) := by rw [IntKind.wrap_u32]; omega
  obtain ⟨O, hO⟩ : ∃ O, O = nonceL b a := ⟨_, rfl⟩
  rw [← hO]
  have hnl := Lib.hid (show (bv O).length = 12 by rw [hO]; simp)
  have hH : ((b / 4294967296 : Nat) : Int) ≤ 4294967295 := by omega
  have hL : ((b % 4294967296 : Nat) : Int) ≤ 4294967295 := by omega
  unfold nonceL at hO
  generalize b / 4294967296 = H at *
  generalize b % 4294967296 = L at *
  have hp0 := Lib.hid (fun g w h => put32_at g 30 0 12 (zeros 12) H w 12 (by decide) h (by decide) hH)
  have hp1 := Lib.hid (fun g w h => put32_at g 30 4 8 (be4 H ++ zeros 8) L w 8 (by decide) h (by simp) hL)
  have hp2 := Lib.hid (fun g w h => put32_at g 30 8 4 (be4 H ++ be4 L ++ zeros 4) a w 4 (by decide) h (by simp) ha)
  simp only [put_n0] at hp0
  simp only [put_n1] at hp1
  simp only [put_n2, ← hO] at hp2
  clear hO hH hL
  generalize be4 H ++ zeros 8 = B1 at *
  generalize be4 H ++ be4 L ++ zeros 4 = B2 at *
  go_enter Try.func10, Try.ntmps10
  go_wp2_with (refine wpList_allocA rfl 30 rfl (bv (zeros 12)) (by kernel_rfl) ?_)
  intro w1 h1 hK1 hz1
  have hB := (Below.refl w.heap.size w).trans (hK1.below (Nat.le_refl _) (by simp))
  clear hK1 hz1
  go_wp2_with fail
  refine (hp0.out _ _ h1).mono ?_
  rintro e w2 ⟨⟨r, rfl⟩, h2, hK2⟩
  have hB2 := hB.trans (hK2.below hB.size (by simp))
  clear h1 hB hK2
  go_wp2_with fail
  refine (hp1.out _ _ h2).mono ?_
  rintro e w3 ⟨⟨r3, rfl⟩, h3, hK3⟩
  have hB3 := hB2.trans (hK3.below hB2.size (by simp))
  clear h2 hB2 hK3
  go_wp2_with fail
  refine (hp2.out _ _ h3).mono ?_
  rintro e w4 ⟨⟨r4, rfl⟩, h4, hK4⟩
  have hB4 := hB3.trans (hK4.below hB3.size (by simp))
  clear h3 hB3 hK4
  go_wp2_with (first
    | refine wpList_loadW rfl 30 (.tmp 4) rfl 12 arrN _ rfl 30 _ h4 hnl.out ?_
    | refine wpList_storeW rfl 30 (.tmp 4) (.tmp 17) rfl 12 arrN _ rfl (bv O) rfl 30 _ h4 hnl.out hnl.out (ones_bv _) ?_)
  intro w5 h5 hK5
  go_wp2
  exact bodyPost_ret (v := .agg (bv O).toArray) (res_cell Try.results10 _ _ _ 30 _ arrN hnl.out rfl h5) rfl ⟨rfl, hB4.trans (hK5.below hB4.size (by simp))⟩
end Go.Proofs.Ytokphnfhajljmaa
