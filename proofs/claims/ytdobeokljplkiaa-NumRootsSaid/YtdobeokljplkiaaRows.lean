/-
  No cell of these rows narrows 'for every input' (looked for: loops, veiled, ifaces, maps, wideKeys, modest, calm, conditions, laid).
  DERIVED. THE GIVEN ROWS OF THIS SEAT. 7 by the template 'for every input the law returns true; each argument reads behind the call as it read before'; 0 by the template 'total and deterministic' (their statements: YtdobeokljplkiaaTotals.lean).
  GIVEN WITH THE SEED: the statements are not yours to turn. If you find one false, say at which input.
  Laid BY PROGRAM, IN A SANDBOX (cutbox-rows.mjs): the forced cells as the released guide's own fill.sh prints them over the translation 9eb2cbb6a62bbb53… (all of the seat's roots in one cut). By AI agents, Wed Nov 11 2026. No macro, syntax, notation, axiom, sorry.
-/
import Derived.Test.YtdobeokljplkiaaChecked
import GoSem.Claim
import GoSem.ClaimJoined
import GoSem.ClaimMapViews
import Derived.JoinedTies
import Derived.KernelRfl
namespace Go.Proofs.Ytdobeokljplkiaa
/- THE CELL 'sum', in the pinned program and in every row, IS THE sha256 OF THE DUMP (.gsa) THAT YtdobeokljplkiaaProg.lean LOADS. Nothing in Lean hashes anything: it is a label: what it is worth is what the hold of that sum in a sandbox is worth. -/
noncomputable def Try.pinned : Pinned := { name := "ytdobeokljplkiaa", sum := "9eb2cbb6a62bbb53da27901e3b0452df3ea00e5ff7fb6519acb11f17e17c6b41", checked := Try.checked }
namespace Rows
def none {H : Type} : Left H := { results := [], args := [] }

/-- 'banyanlaw01.NumRoots': WHATEVER THE INPUT: true; the input reads as it did. -/
def numRootsSpec : ChangeSpec := { name := "numRoots", fn := fun _ => fun
  | [d1, d2] => { results := [.lit (.bool true)], args := [d1, d2] }
  | _ => none }
def numRootsRow : OpenClaim := { program := "ytdobeokljplkiaa", sum := "9eb2cbb6a62bbb53da27901e3b0452df3ea00e5ff7fb6519acb11f17e17c6b41", func := "banyan/banyanlaw01.NumRoots", spec := "numRoots", inPlace := ["math/bits.Add64"], apart := false }
def NumRootsSaid : Prop := numRootsRow.holds Try.pinned (OpenSpec.ofChange numRootsSpec)

/-- ITS FALSE NEIGHBOUR: 'it returns false'. Refute it at one input. -/
def numRootsWrong : ChangeSpec := { name := "numRoots", fn := fun _ => fun
  | [d1, d2] => { results := [.lit (.bool false)], args := [d1, d2] }
  | _ => none }
def NumRootsWrongFalsely : Prop := numRootsRow.holds Try.pinned (OpenSpec.ofChange numRootsWrong)

/-- 'banyanlaw01.NumTurns': WHATEVER THE INPUT: true; the input reads as it did. -/
def numTurnsSpec : ChangeSpec := { name := "numTurns", fn := fun _ => fun
  | [d1, d2, d3] => { results := [.lit (.bool true)], args := [d1, d2, d3] }
  | _ => none }
def numTurnsRow : OpenClaim := { program := "ytdobeokljplkiaa", sum := "9eb2cbb6a62bbb53da27901e3b0452df3ea00e5ff7fb6519acb11f17e17c6b41", func := "banyan/banyanlaw01.NumTurns", spec := "numTurns", inPlace := ["math/bits.Add64"], apart := false }
def NumTurnsSaid : Prop := numTurnsRow.holds Try.pinned (OpenSpec.ofChange numTurnsSpec)

/-- ITS FALSE NEIGHBOUR: 'it returns false'. Refute it at one input. -/
def numTurnsWrong : ChangeSpec := { name := "numTurns", fn := fun _ => fun
  | [d1, d2, d3] => { results := [.lit (.bool false)], args := [d1, d2, d3] }
  | _ => none }
def NumTurnsWrongFalsely : Prop := numTurnsRow.holds Try.pinned (OpenSpec.ofChange numTurnsWrong)

/-- 'banyanlaw01.NumSquares': WHATEVER THE INPUT: true; the input reads as it did. -/
def numSquaresSpec : ChangeSpec := { name := "numSquares", fn := fun _ => fun
  | [d1, d2] => { results := [.lit (.bool true)], args := [d1, d2] }
  | _ => none }
def numSquaresRow : OpenClaim := { program := "ytdobeokljplkiaa", sum := "9eb2cbb6a62bbb53da27901e3b0452df3ea00e5ff7fb6519acb11f17e17c6b41", func := "banyan/banyanlaw01.NumSquares", spec := "numSquares", inPlace := ["math/bits.Add64"], apart := false }
def NumSquaresSaid : Prop := numSquaresRow.holds Try.pinned (OpenSpec.ofChange numSquaresSpec)

/-- ITS FALSE NEIGHBOUR: 'it returns false'. Refute it at one input. -/
def numSquaresWrong : ChangeSpec := { name := "numSquares", fn := fun _ => fun
  | [d1, d2] => { results := [.lit (.bool false)], args := [d1, d2] }
  | _ => none }
def NumSquaresWrongFalsely : Prop := numSquaresRow.holds Try.pinned (OpenSpec.ofChange numSquaresWrong)

/-- 'banyanlaw01.NumBack': WHATEVER THE INPUT: true; the input reads as it did. -/
def numBackSpec : ChangeSpec := { name := "numBack", fn := fun _ => fun
  | [d1, d2] => { results := [.lit (.bool true)], args := [d1, d2] }
  | _ => none }
def numBackRow : OpenClaim := { program := "ytdobeokljplkiaa", sum := "9eb2cbb6a62bbb53da27901e3b0452df3ea00e5ff7fb6519acb11f17e17c6b41", func := "banyan/banyanlaw01.NumBack", spec := "numBack", inPlace := ["math/bits.Add64"], apart := false }
def NumBackSaid : Prop := numBackRow.holds Try.pinned (OpenSpec.ofChange numBackSpec)

/-- ITS FALSE NEIGHBOUR: 'it returns false'. Refute it at one input. -/
def numBackWrong : ChangeSpec := { name := "numBack", fn := fun _ => fun
  | [d1, d2] => { results := [.lit (.bool false)], args := [d1, d2] }
  | _ => none }
def NumBackWrongFalsely : Prop := numBackRow.holds Try.pinned (OpenSpec.ofChange numBackWrong)

/-- 'banyanlaw01.NumNarrow': WHATEVER THE INPUT: true; the input reads as it did. -/
def numNarrowSpec : ChangeSpec := { name := "numNarrow", fn := fun _ => fun
  | [d1, d2] => { results := [.lit (.bool true)], args := [d1, d2] }
  | _ => none }
def numNarrowRow : OpenClaim := { program := "ytdobeokljplkiaa", sum := "9eb2cbb6a62bbb53da27901e3b0452df3ea00e5ff7fb6519acb11f17e17c6b41", func := "banyan/banyanlaw01.NumNarrow", spec := "numNarrow", inPlace := ["math/bits.Add64"], apart := false }
def NumNarrowSaid : Prop := numNarrowRow.holds Try.pinned (OpenSpec.ofChange numNarrowSpec)

/-- ITS FALSE NEIGHBOUR: 'it returns false'. Refute it at one input. -/
def numNarrowWrong : ChangeSpec := { name := "numNarrow", fn := fun _ => fun
  | [d1, d2] => { results := [.lit (.bool false)], args := [d1, d2] }
  | _ => none }
def NumNarrowWrongFalsely : Prop := numNarrowRow.holds Try.pinned (OpenSpec.ofChange numNarrowWrong)

/-- 'banyanlaw01.NumParts': WHATEVER THE INPUT: true; the input reads as it did. -/
def numPartsSpec : ChangeSpec := { name := "numParts", fn := fun _ => fun
  | [d1, d2] => { results := [.lit (.bool true)], args := [d1, d2] }
  | _ => none }
def numPartsRow : OpenClaim := { program := "ytdobeokljplkiaa", sum := "9eb2cbb6a62bbb53da27901e3b0452df3ea00e5ff7fb6519acb11f17e17c6b41", func := "banyan/banyanlaw01.NumParts", spec := "numParts", inPlace := ["math/bits.Add64"], apart := false }
def NumPartsSaid : Prop := numPartsRow.holds Try.pinned (OpenSpec.ofChange numPartsSpec)

/-- ITS FALSE NEIGHBOUR: 'it returns false'. Refute it at one input. -/
def numPartsWrong : ChangeSpec := { name := "numParts", fn := fun _ => fun
  | [d1, d2] => { results := [.lit (.bool false)], args := [d1, d2] }
  | _ => none }
def NumPartsWrongFalsely : Prop := numPartsRow.holds Try.pinned (OpenSpec.ofChange numPartsWrong)

/-- 'banyanlaw01.NumBits': WHATEVER THE INPUT: true; the input reads as it did. -/
def numBitsSpec : ChangeSpec := { name := "numBits", fn := fun _ => fun
  | [d1, d2, d3] => { results := [.lit (.bool true)], args := [d1, d2, d3] }
  | _ => none }
def numBitsRow : OpenClaim := { program := "ytdobeokljplkiaa", sum := "9eb2cbb6a62bbb53da27901e3b0452df3ea00e5ff7fb6519acb11f17e17c6b41", func := "banyan/banyanlaw01.NumBits", spec := "numBits", inPlace := ["math/bits.Add64"], apart := false }
def NumBitsSaid : Prop := numBitsRow.holds Try.pinned (OpenSpec.ofChange numBitsSpec)

/-- ITS FALSE NEIGHBOUR: 'it returns false'. Refute it at one input. -/
def numBitsWrong : ChangeSpec := { name := "numBits", fn := fun _ => fun
  | [d1, d2, d3] => { results := [.lit (.bool false)], args := [d1, d2, d3] }
  | _ => none }
def NumBitsWrongFalsely : Prop := numBitsRow.holds Try.pinned (OpenSpec.ofChange numBitsWrong)

/- THE SECOND FORM. 'bulk': how many values and letters a reading holds, each counted each time it is reached (what is shared counts as often as it is met; a slice's spare places count too). A statement '..UptoSaid' is the law's where the arguments, and the package variables that the reading takes, are together of bulk at most 1048576: NARROWER than '..Said'. Prove '..Said' where nothing that the law and all that it calls make is longer than what came in: it says more and counts as full. Else prove '..UptoSaid'. A law counts once. -/
mutual
def uptoBulk {H : Type} : DataW H → Nat
  | .lit (.string bytes) => bytes.length + 1
  | .lit _ => 1
  | .nil => 1
  | .ptr d => uptoBulk d + 1
  | .slice elems spare => uptoBulkAll elems + uptoBulkAll spare + 1
  | .agg parts => uptoBulkAll parts + 1
  | .iface _ d => uptoBulk d + 1
  | .map entries => uptoBulkEntries entries + 1
  | .held _ => 1
def uptoBulkAll {H : Type} : List (DataW H) → Nat
  | [] => 0
  | d :: r => uptoBulk d + uptoBulkAll r
def uptoBulkEntries {H : Type} : List (Lit × DataW H) → Nat
  | [] => 0
  | x :: r => uptoBulkEntry x + uptoBulkEntries r
def uptoBulkEntry {H : Type} : Lit × DataW H → Nat
  | (.string bytes, d) => bytes.length + uptoBulk d + 1
  | (_, d) => uptoBulk d + 1
 end
def uptoSmall : (H : Type) → List (DataW H) → Bool := fun _ ds => decide (uptoBulkAll ds ≤ 1048576)
def OpenSpec.upto (s : _root_.Go.ChangeSpec) : _root_.Go.OpenSpec := { _root_.Go.OpenSpec.ofChange s with cond := some uptoSmall }

/-- 'banyanlaw01.NumRoots', WHERE WHAT IT READS IS OF BULK AT MOST 1048576: true; the input reads as it did. -/
def numRootsUptoRow : OpenClaim := { program := "ytdobeokljplkiaa", sum := "9eb2cbb6a62bbb53da27901e3b0452df3ea00e5ff7fb6519acb11f17e17c6b41", func := "banyan/banyanlaw01.NumRoots", spec := "numRoots", inPlace := ["math/bits.Add64"], apart := false, narrowed := true }
def NumRootsUptoSaid : Prop := numRootsUptoRow.holds Try.pinned (OpenSpec.upto numRootsSpec)

/-- 'banyanlaw01.NumTurns', WHERE WHAT IT READS IS OF BULK AT MOST 1048576: true; the input reads as it did. -/
def numTurnsUptoRow : OpenClaim := { program := "ytdobeokljplkiaa", sum := "9eb2cbb6a62bbb53da27901e3b0452df3ea00e5ff7fb6519acb11f17e17c6b41", func := "banyan/banyanlaw01.NumTurns", spec := "numTurns", inPlace := ["math/bits.Add64"], apart := false, narrowed := true }
def NumTurnsUptoSaid : Prop := numTurnsUptoRow.holds Try.pinned (OpenSpec.upto numTurnsSpec)

/-- 'banyanlaw01.NumSquares', WHERE WHAT IT READS IS OF BULK AT MOST 1048576: true; the input reads as it did. -/
def numSquaresUptoRow : OpenClaim := { program := "ytdobeokljplkiaa", sum := "9eb2cbb6a62bbb53da27901e3b0452df3ea00e5ff7fb6519acb11f17e17c6b41", func := "banyan/banyanlaw01.NumSquares", spec := "numSquares", inPlace := ["math/bits.Add64"], apart := false, narrowed := true }
def NumSquaresUptoSaid : Prop := numSquaresUptoRow.holds Try.pinned (OpenSpec.upto numSquaresSpec)

/-- 'banyanlaw01.NumBack', WHERE WHAT IT READS IS OF BULK AT MOST 1048576: true; the input reads as it did. -/
def numBackUptoRow : OpenClaim := { program := "ytdobeokljplkiaa", sum := "9eb2cbb6a62bbb53da27901e3b0452df3ea00e5ff7fb6519acb11f17e17c6b41", func := "banyan/banyanlaw01.NumBack", spec := "numBack", inPlace := ["math/bits.Add64"], apart := false, narrowed := true }
def NumBackUptoSaid : Prop := numBackUptoRow.holds Try.pinned (OpenSpec.upto numBackSpec)

/-- 'banyanlaw01.NumNarrow', WHERE WHAT IT READS IS OF BULK AT MOST 1048576: true; the input reads as it did. -/
def numNarrowUptoRow : OpenClaim := { program := "ytdobeokljplkiaa", sum := "9eb2cbb6a62bbb53da27901e3b0452df3ea00e5ff7fb6519acb11f17e17c6b41", func := "banyan/banyanlaw01.NumNarrow", spec := "numNarrow", inPlace := ["math/bits.Add64"], apart := false, narrowed := true }
def NumNarrowUptoSaid : Prop := numNarrowUptoRow.holds Try.pinned (OpenSpec.upto numNarrowSpec)

/-- 'banyanlaw01.NumParts', WHERE WHAT IT READS IS OF BULK AT MOST 1048576: true; the input reads as it did. -/
def numPartsUptoRow : OpenClaim := { program := "ytdobeokljplkiaa", sum := "9eb2cbb6a62bbb53da27901e3b0452df3ea00e5ff7fb6519acb11f17e17c6b41", func := "banyan/banyanlaw01.NumParts", spec := "numParts", inPlace := ["math/bits.Add64"], apart := false, narrowed := true }
def NumPartsUptoSaid : Prop := numPartsUptoRow.holds Try.pinned (OpenSpec.upto numPartsSpec)

/-- 'banyanlaw01.NumBits', WHERE WHAT IT READS IS OF BULK AT MOST 1048576: true; the input reads as it did. -/
def numBitsUptoRow : OpenClaim := { program := "ytdobeokljplkiaa", sum := "9eb2cbb6a62bbb53da27901e3b0452df3ea00e5ff7fb6519acb11f17e17c6b41", func := "banyan/banyanlaw01.NumBits", spec := "numBits", inPlace := ["math/bits.Add64"], apart := false, narrowed := true }
def NumBitsUptoSaid : Prop := numBitsUptoRow.holds Try.pinned (OpenSpec.upto numBitsSpec)

end Rows
end Go.Proofs.Ytdobeokljplkiaa
