/-
  NARROWER THAN 'FOR EVERY INPUT', by the rows' own cells (each row's printed sentence says how): SpaceFills: laid · SpaceBack: laid · SpaceLowest: laid · SpaceMany: laid · SpaceSets: laid · SpaceActs: laid · SpaceOwn: laid.
  DERIVED. THE GIVEN ROWS OF THIS SEAT. 7 by the template 'for every input the law returns true; each argument reads behind the call as it read before'; 0 by the template 'total and deterministic' (their statements: YtnkkcfhjgnfchaaDoorTotals.lean).
  GIVEN WITH THE SEED: the statements are not yours to turn. If you find one false, say at which input.
  Laid BY PROGRAM, IN A SANDBOX (cutbox-rows.mjs): the forced cells as the released guide's own fill.sh prints them over the translation db8b969d278bf9b7… (all of the seat's roots in one cut). By AI agents, Wed Nov 11 2026. No macro, syntax, notation, axiom, sorry.
-/
import Derived.Test.YtnkkcfhjgnfchaaDoorChecked
import GoSem.Claim
import GoSem.ClaimJoined
import GoSem.ClaimMapViews
import Derived.JoinedTies
import Derived.KernelRfl
namespace Go.Proofs.YtnkkcfhjgnfchaaDoor
/- THE CELL 'sum', in the pinned program and in every row, IS THE sha256 OF THE DUMP (.gsa) THAT YtnkkcfhjgnfchaaDoorProg.lean LOADS. Nothing in Lean hashes anything: it is a label: what it is worth is what the hold of that sum in a sandbox is worth. -/
noncomputable def Tryd.pinned : Pinned := { name := "ytnkkcfhjgnfchaadoor", sum := "db8b969d278bf9b77af107e357d169bb140f9d0cf11c90543f0e5814591efc7a", checked := Tryd.checked }
namespace Rows
def none {H : Type} : Left H := { results := [], args := [] }

/- WHAT THE LISTED PACKAGE-LEVEL VARIABLES READ AS WHEN THE CALL BEGINS. Each datum BY PROGRAM (the guide's laid-datum.mjs) off the statement by which the dump's own 'gosem.cut.vars' lays the variable. In a bare row this is a premise. The card (YtnkkcfhjgnfchaaDoorCards.lean) ties it to the program's text. -/
def laid_math_bits_deBruijn64tab {H : Type} : DataW H := .agg [.lit (.int .u8 0), .lit (.int .u8 1), .lit (.int .u8 56), .lit (.int .u8 2), .lit (.int .u8 57), .lit (.int .u8 49), .lit (.int .u8 28), .lit (.int .u8 3), .lit (.int .u8 61), .lit (.int .u8 58), .lit (.int .u8 42), .lit (.int .u8 50), .lit (.int .u8 38), .lit (.int .u8 29), .lit (.int .u8 17), .lit (.int .u8 4), .lit (.int .u8 62), .lit (.int .u8 47), .lit (.int .u8 59), .lit (.int .u8 36), .lit (.int .u8 45), .lit (.int .u8 43), .lit (.int .u8 51), .lit (.int .u8 22), .lit (.int .u8 53), .lit (.int .u8 39), .lit (.int .u8 33), .lit (.int .u8 30), .lit (.int .u8 24), .lit (.int .u8 18), .lit (.int .u8 12), .lit (.int .u8 5), .lit (.int .u8 63), .lit (.int .u8 55), .lit (.int .u8 48), .lit (.int .u8 27), .lit (.int .u8 60), .lit (.int .u8 41), .lit (.int .u8 37), .lit (.int .u8 16), .lit (.int .u8 46), .lit (.int .u8 35), .lit (.int .u8 44), .lit (.int .u8 21), .lit (.int .u8 52), .lit (.int .u8 32), .lit (.int .u8 23), .lit (.int .u8 11), .lit (.int .u8 54), .lit (.int .u8 26), .lit (.int .u8 40), .lit (.int .u8 15), .lit (.int .u8 34), .lit (.int .u8 20), .lit (.int .u8 31), .lit (.int .u8 10), .lit (.int .u8 25), .lit (.int .u8 14), .lit (.int .u8 19), .lit (.int .u8 9), .lit (.int .u8 13), .lit (.int .u8 8), .lit (.int .u8 7), .lit (.int .u8 6)]

/-- 'banyanlaw11.SpaceFills': WHATEVER THE INPUT: true; the input reads as it did. -/
def spaceFillsSpec : ChangeSpec := { name := "spaceFills", fn := fun _ => fun
  | [d1, d2] => { results := [.lit (.bool true)], args := [d1, d2] }
  | _ => none }
def spaceFillsRow : OpenClaim := { program := "ytnkkcfhjgnfchaadoor", sum := "db8b969d278bf9b77af107e357d169bb140f9d0cf11c90543f0e5814591efc7a", func := "banyan/banyanlaw11.SpaceFills", spec := "spaceFills", named := ["math/bits.deBruijn64tab"], apart := false, laid := [("math/bits.deBruijn64tab", laid_math_bits_deBruijn64tab)] }
def SpaceFillsSaid : Prop := spaceFillsRow.holds Tryd.pinned (OpenSpec.ofChange spaceFillsSpec)

/-- ITS FALSE NEIGHBOUR: 'it returns false'. Refute it at one input. -/
def spaceFillsWrong : ChangeSpec := { name := "spaceFills", fn := fun _ => fun
  | [d1, d2] => { results := [.lit (.bool false)], args := [d1, d2] }
  | _ => none }
def SpaceFillsWrongFalsely : Prop := spaceFillsRow.holds Tryd.pinned (OpenSpec.ofChange spaceFillsWrong)

/-- 'banyanlaw11.SpaceBack': WHATEVER THE INPUT: true; the input reads as it did. -/
def spaceBackSpec : ChangeSpec := { name := "spaceBack", fn := fun _ => fun
  | [d1, d2] => { results := [.lit (.bool true)], args := [d1, d2] }
  | _ => none }
def spaceBackRow : OpenClaim := { program := "ytnkkcfhjgnfchaadoor", sum := "db8b969d278bf9b77af107e357d169bb140f9d0cf11c90543f0e5814591efc7a", func := "banyan/banyanlaw11.SpaceBack", spec := "spaceBack", named := ["math/bits.deBruijn64tab"], apart := false, laid := [("math/bits.deBruijn64tab", laid_math_bits_deBruijn64tab)] }
def SpaceBackSaid : Prop := spaceBackRow.holds Tryd.pinned (OpenSpec.ofChange spaceBackSpec)

/-- ITS FALSE NEIGHBOUR: 'it returns false'. Refute it at one input. -/
def spaceBackWrong : ChangeSpec := { name := "spaceBack", fn := fun _ => fun
  | [d1, d2] => { results := [.lit (.bool false)], args := [d1, d2] }
  | _ => none }
def SpaceBackWrongFalsely : Prop := spaceBackRow.holds Tryd.pinned (OpenSpec.ofChange spaceBackWrong)

/-- 'banyanlaw11.SpaceLowest': WHATEVER THE INPUT: true; the input reads as it did. -/
def spaceLowestSpec : ChangeSpec := { name := "spaceLowest", fn := fun _ => fun
  | [d] => { results := [.lit (.bool true)], args := [d] }
  | _ => none }
def spaceLowestRow : OpenClaim := { program := "ytnkkcfhjgnfchaadoor", sum := "db8b969d278bf9b77af107e357d169bb140f9d0cf11c90543f0e5814591efc7a", func := "banyan/banyanlaw11.SpaceLowest", spec := "spaceLowest", named := ["math/bits.deBruijn64tab"], apart := false, laid := [("math/bits.deBruijn64tab", laid_math_bits_deBruijn64tab)] }
def SpaceLowestSaid : Prop := spaceLowestRow.holds Tryd.pinned (OpenSpec.ofChange spaceLowestSpec)

/-- ITS FALSE NEIGHBOUR: 'it returns false'. Refute it at one input. -/
def spaceLowestWrong : ChangeSpec := { name := "spaceLowest", fn := fun _ => fun
  | [d] => { results := [.lit (.bool false)], args := [d] }
  | _ => none }
def SpaceLowestWrongFalsely : Prop := spaceLowestRow.holds Tryd.pinned (OpenSpec.ofChange spaceLowestWrong)

/-- 'banyanlaw11.SpaceMany': WHATEVER THE INPUT: true; the input reads as it did. -/
def spaceManySpec : ChangeSpec := { name := "spaceMany", fn := fun _ => fun
  | [d1, d2] => { results := [.lit (.bool true)], args := [d1, d2] }
  | _ => none }
def spaceManyRow : OpenClaim := { program := "ytnkkcfhjgnfchaadoor", sum := "db8b969d278bf9b77af107e357d169bb140f9d0cf11c90543f0e5814591efc7a", func := "banyan/banyanlaw11.SpaceMany", spec := "spaceMany", named := ["math/bits.deBruijn64tab"], apart := false, laid := [("math/bits.deBruijn64tab", laid_math_bits_deBruijn64tab)] }
def SpaceManySaid : Prop := spaceManyRow.holds Tryd.pinned (OpenSpec.ofChange spaceManySpec)

/-- ITS FALSE NEIGHBOUR: 'it returns false'. Refute it at one input. -/
def spaceManyWrong : ChangeSpec := { name := "spaceMany", fn := fun _ => fun
  | [d1, d2] => { results := [.lit (.bool false)], args := [d1, d2] }
  | _ => none }
def SpaceManyWrongFalsely : Prop := spaceManyRow.holds Tryd.pinned (OpenSpec.ofChange spaceManyWrong)

/-- 'banyanlaw11.SpaceSets': WHATEVER THE INPUT: true; the input reads as it did. -/
def spaceSetsSpec : ChangeSpec := { name := "spaceSets", fn := fun _ => fun
  | [d1, d2] => { results := [.lit (.bool true)], args := [d1, d2] }
  | _ => none }
def spaceSetsRow : OpenClaim := { program := "ytnkkcfhjgnfchaadoor", sum := "db8b969d278bf9b77af107e357d169bb140f9d0cf11c90543f0e5814591efc7a", func := "banyan/banyanlaw11.SpaceSets", spec := "spaceSets", named := ["math/bits.deBruijn64tab"], apart := false, laid := [("math/bits.deBruijn64tab", laid_math_bits_deBruijn64tab)] }
def SpaceSetsSaid : Prop := spaceSetsRow.holds Tryd.pinned (OpenSpec.ofChange spaceSetsSpec)

/-- ITS FALSE NEIGHBOUR: 'it returns false'. Refute it at one input. -/
def spaceSetsWrong : ChangeSpec := { name := "spaceSets", fn := fun _ => fun
  | [d1, d2] => { results := [.lit (.bool false)], args := [d1, d2] }
  | _ => none }
def SpaceSetsWrongFalsely : Prop := spaceSetsRow.holds Tryd.pinned (OpenSpec.ofChange spaceSetsWrong)

/-- 'banyanlaw11.SpaceActs': WHATEVER THE INPUT: true; the input reads as it did. -/
def spaceActsSpec : ChangeSpec := { name := "spaceActs", fn := fun _ => fun
  | [d1, d2] => { results := [.lit (.bool true)], args := [d1, d2] }
  | _ => none }
def spaceActsRow : OpenClaim := { program := "ytnkkcfhjgnfchaadoor", sum := "db8b969d278bf9b77af107e357d169bb140f9d0cf11c90543f0e5814591efc7a", func := "banyan/banyanlaw11.SpaceActs", spec := "spaceActs", named := ["math/bits.deBruijn64tab"], apart := false, laid := [("math/bits.deBruijn64tab", laid_math_bits_deBruijn64tab)] }
def SpaceActsSaid : Prop := spaceActsRow.holds Tryd.pinned (OpenSpec.ofChange spaceActsSpec)

/-- ITS FALSE NEIGHBOUR: 'it returns false'. Refute it at one input. -/
def spaceActsWrong : ChangeSpec := { name := "spaceActs", fn := fun _ => fun
  | [d1, d2] => { results := [.lit (.bool false)], args := [d1, d2] }
  | _ => none }
def SpaceActsWrongFalsely : Prop := spaceActsRow.holds Tryd.pinned (OpenSpec.ofChange spaceActsWrong)

/-- 'banyanlaw11.SpaceOwn': WHATEVER THE INPUT: true; the input reads as it did. -/
def spaceOwnSpec : ChangeSpec := { name := "spaceOwn", fn := fun _ => fun
  | [d] => { results := [.lit (.bool true)], args := [d] }
  | _ => none }
def spaceOwnRow : OpenClaim := { program := "ytnkkcfhjgnfchaadoor", sum := "db8b969d278bf9b77af107e357d169bb140f9d0cf11c90543f0e5814591efc7a", func := "banyan/banyanlaw11.SpaceOwn", spec := "spaceOwn", named := ["math/bits.deBruijn64tab"], apart := false, laid := [("math/bits.deBruijn64tab", laid_math_bits_deBruijn64tab)] }
def SpaceOwnSaid : Prop := spaceOwnRow.holds Tryd.pinned (OpenSpec.ofChange spaceOwnSpec)

/-- ITS FALSE NEIGHBOUR: 'it returns false'. Refute it at one input. -/
def spaceOwnWrong : ChangeSpec := { name := "spaceOwn", fn := fun _ => fun
  | [d] => { results := [.lit (.bool false)], args := [d] }
  | _ => none }
def SpaceOwnWrongFalsely : Prop := spaceOwnRow.holds Tryd.pinned (OpenSpec.ofChange spaceOwnWrong)

/- THE SECOND FORM. 'bulk': how many values and letters a reading holds, each counted each time it is reached (what is shared counts as often as it is met; a slice's spare places count too). A statement '..UptoSaid' is the law's where the arguments, and the package variables that the reading takes, are together of bulk at most 1048576: NARROWER than '..Said'. Prove '..Said' where nothing that the law and all that it calls make is longer than what came in: it says more and counts as full. Else prove '..UptoSaid'. A law counts once. -/
mutual
def uptoBulk {H : Type} : DataW H → Nat
  | .lit (.string bytes) => bytes.length + 1
  | .lit _ => 1
  | .nil => 1
  | .ptr d => uptoBulk d + 1
  | .slice elems spare => uptoBulkAll elems + uptoBulkAll spare + 1
  | .agg parts => uptoBulkAll parts + 1
  | .iface _ d => uptoBulk d + 1
  | .map entries => uptoBulkEntries entries + 1
  | .held _ => 1
def uptoBulkAll {H : Type} : List (DataW H) → Nat
  | [] => 0
  | d :: r => uptoBulk d + uptoBulkAll r
def uptoBulkEntries {H : Type} : List (Lit × DataW H) → Nat
  | [] => 0
  | x :: r => uptoBulkEntry x + uptoBulkEntries r
def uptoBulkEntry {H : Type} : Lit × DataW H → Nat
  | (.string bytes, d) => bytes.length + uptoBulk d + 1
  | (_, d) => uptoBulk d + 1
 end
def uptoSmall : (H : Type) → List (DataW H) → Bool := fun _ ds => decide (uptoBulkAll ds ≤ 1048576)
def OpenSpec.upto (s : _root_.Go.ChangeSpec) : _root_.Go.OpenSpec := { _root_.Go.OpenSpec.ofChange s with cond := some uptoSmall }

/-- 'banyanlaw11.SpaceFills', WHERE WHAT IT READS IS OF BULK AT MOST 1048576: true; the input reads as it did. -/
def spaceFillsUptoRow : OpenClaim := { program := "ytnkkcfhjgnfchaadoor", sum := "db8b969d278bf9b77af107e357d169bb140f9d0cf11c90543f0e5814591efc7a", func := "banyan/banyanlaw11.SpaceFills", spec := "spaceFills", named := ["math/bits.deBruijn64tab"], apart := false, laid := [("math/bits.deBruijn64tab", laid_math_bits_deBruijn64tab)], narrowed := true }
def SpaceFillsUptoSaid : Prop := spaceFillsUptoRow.holds Tryd.pinned (OpenSpec.upto spaceFillsSpec)

/-- 'banyanlaw11.SpaceBack', WHERE WHAT IT READS IS OF BULK AT MOST 1048576: true; the input reads as it did. -/
def spaceBackUptoRow : OpenClaim := { program := "ytnkkcfhjgnfchaadoor", sum := "db8b969d278bf9b77af107e357d169bb140f9d0cf11c90543f0e5814591efc7a", func := "banyan/banyanlaw11.SpaceBack", spec := "spaceBack", named := ["math/bits.deBruijn64tab"], apart := false, laid := [("math/bits.deBruijn64tab", laid_math_bits_deBruijn64tab)], narrowed := true }
def SpaceBackUptoSaid : Prop := spaceBackUptoRow.holds Tryd.pinned (OpenSpec.upto spaceBackSpec)

/-- 'banyanlaw11.SpaceLowest', WHERE WHAT IT READS IS OF BULK AT MOST 1048576: true; the input reads as it did. -/
def spaceLowestUptoRow : OpenClaim := { program := "ytnkkcfhjgnfchaadoor", sum := "db8b969d278bf9b77af107e357d169bb140f9d0cf11c90543f0e5814591efc7a", func := "banyan/banyanlaw11.SpaceLowest", spec := "spaceLowest", named := ["math/bits.deBruijn64tab"], apart := false, laid := [("math/bits.deBruijn64tab", laid_math_bits_deBruijn64tab)], narrowed := true }
def SpaceLowestUptoSaid : Prop := spaceLowestUptoRow.holds Tryd.pinned (OpenSpec.upto spaceLowestSpec)

/-- 'banyanlaw11.SpaceMany', WHERE WHAT IT READS IS OF BULK AT MOST 1048576: true; the input reads as it did. -/
def spaceManyUptoRow : OpenClaim := { program := "ytnkkcfhjgnfchaadoor", sum := "db8b969d278bf9b77af107e357d169bb140f9d0cf11c90543f0e5814591efc7a", func := "banyan/banyanlaw11.SpaceMany", spec := "spaceMany", named := ["math/bits.deBruijn64tab"], apart := false, laid := [("math/bits.deBruijn64tab", laid_math_bits_deBruijn64tab)], narrowed := true }
def SpaceManyUptoSaid : Prop := spaceManyUptoRow.holds Tryd.pinned (OpenSpec.upto spaceManySpec)

/-- 'banyanlaw11.SpaceSets', WHERE WHAT IT READS IS OF BULK AT MOST 1048576: true; the input reads as it did. -/
def spaceSetsUptoRow : OpenClaim := { program := "ytnkkcfhjgnfchaadoor", sum := "db8b969d278bf9b77af107e357d169bb140f9d0cf11c90543f0e5814591efc7a", func := "banyan/banyanlaw11.SpaceSets", spec := "spaceSets", named := ["math/bits.deBruijn64tab"], apart := false, laid := [("math/bits.deBruijn64tab", laid_math_bits_deBruijn64tab)], narrowed := true }
def SpaceSetsUptoSaid : Prop := spaceSetsUptoRow.holds Tryd.pinned (OpenSpec.upto spaceSetsSpec)

/-- 'banyanlaw11.SpaceActs', WHERE WHAT IT READS IS OF BULK AT MOST 1048576: true; the input reads as it did. -/
def spaceActsUptoRow : OpenClaim := { program := "ytnkkcfhjgnfchaadoor", sum := "db8b969d278bf9b77af107e357d169bb140f9d0cf11c90543f0e5814591efc7a", func := "banyan/banyanlaw11.SpaceActs", spec := "spaceActs", named := ["math/bits.deBruijn64tab"], apart := false, laid := [("math/bits.deBruijn64tab", laid_math_bits_deBruijn64tab)], narrowed := true }
def SpaceActsUptoSaid : Prop := spaceActsUptoRow.holds Tryd.pinned (OpenSpec.upto spaceActsSpec)

/-- 'banyanlaw11.SpaceOwn', WHERE WHAT IT READS IS OF BULK AT MOST 1048576: true; the input reads as it did. -/
def spaceOwnUptoRow : OpenClaim := { program := "ytnkkcfhjgnfchaadoor", sum := "db8b969d278bf9b77af107e357d169bb140f9d0cf11c90543f0e5814591efc7a", func := "banyan/banyanlaw11.SpaceOwn", spec := "spaceOwn", named := ["math/bits.deBruijn64tab"], apart := false, laid := [("math/bits.deBruijn64tab", laid_math_bits_deBruijn64tab)], narrowed := true }
def SpaceOwnUptoSaid : Prop := spaceOwnUptoRow.holds Tryd.pinned (OpenSpec.upto spaceOwnSpec)

end Rows
end Go.Proofs.YtnkkcfhjgnfchaaDoor
