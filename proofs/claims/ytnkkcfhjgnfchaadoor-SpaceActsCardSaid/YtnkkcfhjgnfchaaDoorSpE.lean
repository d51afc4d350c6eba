/- The document's example for spaces (alive). -/
import Derived.Test.YtnkkcfhjgnfchaaDoorSpD
set_option linter.unusedVariables false
set_option linter.unusedSimpArgs false
namespace Go.Proofs.YtnkkcfhjgnfchaaDoor
open Go.RowKit
open Go.Proofs.PlainSpace

/-- The contracts over a space in the form that the laws' walks use. -/
theorem take_at {g h : Nat} {S : List Bool} {w : World} (hs : Spc w g h S) (hT : Tab w) {a : Nat} {f : Int} {S' : List Bool} (hP : TakeP S a f S') :
    Calls Tryd.prog 12 #[pt g] w fun e w' => e = .returned (.tuple #[.int .u32 (a : Int), .int .i64 f]) ∧ Spc w' g h S' ∧ Keeps [g, h] w w' := by
  refine (take_any g h S w hs hT).mono ?_
  rintro e w' ⟨b, f', T, rfl, hP', hS, hK⟩
  obtain ⟨rfl, rfl, rfl⟩ := hP.unique hP'
  exact ⟨rfl, hS, hK⟩
theorem Tab.keepsS {w w' : World} (t : Tab w) {g h : Nat} {S : List Bool} (s : Spc w g h S) (hk : Keeps [g, h] w w') : Tab w' := t.keeps hk (t.ne s)

/-- The example's spaces. -/
def x0 : List Bool := List.replicate 16 false
def x1 : List Bool := x0.set 2 true
def x2 : List Bool := x1.set 3 true
def x3 : List Bool := x2.set 2 false
def x4 : List Bool := x3.set 2 true
theorem px0 : TakeP x0 2 0 x1 := TakeP.some 2 (by decide) (by decide) (fun b h1 h2 => by omega)
theorem px1 : TakeP x1 3 0 x2 := by
  refine TakeP.some 3 (by decide) (by decide) (fun b h1 h2 => ?_)
  obtain rfl : b = 2 := by omega
  decide
theorem px3 : TakeP x3 2 0 x4 := TakeP.some 2 (by decide) (by decide) (fun b h1 h2 => by omega)
theorem fx2 : freeE x2 2 = 0 ∧ freeS x2 2 = x3 := by decide
theorem cx4 : cnt x4 = 2 ∧ x4.length = 16 := by decide

set_option maxHeartbeats 1000000 in
theorem alive_any (w : World) (hT : Tab w) : Calls Tryd.prog 10 #[] w fun e w' => e = .returned (.bool true) ∧ Below w.heap.size w w' := by
  have hnew := Lib.hid (new_ok 16 w (by omega) (by omega))
  have htake := Lib.hid (fun g h W (hs : Spc W g h x0) (hT : Tab W) => take_at hs hT px0)
  have htake1 := Lib.hid (fun g h W (hs : Spc W g h x1) (hT : Tab W) => take_at hs hT px1)
  have htake3 := Lib.hid (fun g h W (hs : Spc W g h x3) (hT : Tab W) => take_at hs hT px3)
  have hfree := Lib.hid (fun g h W (hs : Spc W g h x2) => free_any g h x2 2 W hs (by omega))
  rw [fx2.1, fx2.2] at hfree
  have hnil := Lib.hid (fun W => take_nil W)
  have hleft := Lib.hid (fun g h W (hs : Spc W g h x4) => left_any g h x4 W hs)
  rw [cx4.1, cx4.2] at hleft
  have HT := Lib.hid hT
  clear hT
  go_enter Tryd.func10, Tryd.ntmps10
  go_wp2_with fail
  refine hnew.out.mono ?_
  rintro e w1 ⟨g, h, rfl, hg, hh, hS0, hB⟩
  have hT1 := HT.out.keep hB
  have hG : ∀ b ∈ [g, h], w.heap.size ≤ b := by simp [hg, hh]
  have hsz := hB.size
  go_wp2_with fail
  refine (htake.out g h w1 hS0 hT1).mono ?_
  rintro e w2 ⟨rfl, hS1, hK1⟩
  have hT2 := hT1.keepsS hS0 hK1
  go_wp2_with fail
  refine (htake1.out g h w2 hS1 hT2).mono ?_
  rintro e w3 ⟨rfl, hS2, hK2⟩
  have hT3 := hT2.keepsS hS1 hK2
  go_wp2_with fail
  refine (hfree.out g h w3 hS2).mono ?_
  rintro e w4 ⟨rfl, hS3, hK3⟩
  have hT4 := hT3.keepsS hS2 hK3
  go_wp2_with fail
  refine (htake3.out g h w4 hS3 hT4).mono ?_
  rintro e w5 ⟨rfl, hS4, hK4⟩
  go_wp2_with fail
  refine (hnil.out _).mono ?_
  rintro e w6 ⟨rfl, rfl⟩
  go_wp2_with fail
  refine (hleft.out g h _ hS4).mono ?_
  rintro e w7 ⟨rfl, hB7⟩
  go_wp2
  go_ret
  have hKK := ((hK1.trans hK2).trans hK3).trans (hK4.trans (Keeps.of_below hB7))
  exact ⟨rfl, hB.trans (hKK.below hsz hG)⟩
end Go.Proofs.YtnkkcfhjgnfchaaDoor
