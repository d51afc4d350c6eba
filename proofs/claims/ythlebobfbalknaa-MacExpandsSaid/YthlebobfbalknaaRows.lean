/-
  No cell of these rows narrows 'for every input' (looked for: loops, veiled, ifaces, maps, wideKeys, modest, calm, conditions, laid).
  DERIVED. THE GIVEN ROWS OF THIS SEAT. 5 by the template 'for every input the law returns true; each argument reads behind the call as it read before'; 0 by the template 'total and deterministic' (their statements: YthlebobfbalknaaTotals.lean).
  GIVEN WITH THE SEED: the statements are not yours to turn. If you find one false, say at which input.
  Laid BY PROGRAM, IN A SANDBOX (cutbox-rows.mjs): the forced cells as the released guide's own fill.sh prints them over the translation 4325491e4c5ae8b1… (all of the seat's roots in one cut). By AI agents, Wed Nov 11 2026. No macro, syntax, notation, axiom, sorry.
-/
import Derived.Test.YthlebobfbalknaaChecked
import GoSem.Claim
import GoSem.ClaimJoined
import GoSem.ClaimMapViews
import Derived.JoinedTies
import Derived.KernelRfl
namespace Go.Proofs.Ythlebobfbalknaa
/- THE CELL 'sum', in the pinned program and in every row, IS THE sha256 OF THE DUMP (.gsa) THAT YthlebobfbalknaaProg.lean LOADS. Nothing in Lean hashes anything: it is a label: what it is worth is what the hold of that sum in a sandbox is worth. -/
noncomputable def Try.pinned : Pinned := { name := "ythlebobfbalknaa", sum := "4325491e4c5ae8b1b20fb556d0d8b0a7bb270aa039624f3cbda0d0926a3c41a6", checked := Try.checked }
namespace Rows
def none {H : Type} : Left H := { results := [], args := [] }

/-- 'banyanlaw03.MacPads': WHATEVER THE INPUT: true; the input reads as it did. -/
def macPadsSpec : ChangeSpec := { name := "macPads", fn := fun _ => fun
  | [d1, d2, d3] => { results := [.lit (.bool true)], args := [d1, d2, d3] }
  | _ => none }
def macPadsRow : OpenClaim := { program := "ythlebobfbalknaa", sum := "4325491e4c5ae8b1b20fb556d0d8b0a7bb270aa039624f3cbda0d0926a3c41a6", func := "banyan/banyanlaw03.MacPads", spec := "macPads", inPlace := ["math/bits.Add64", "internal/abi.NoEscape"], unfollowed := true, recurses := true, apart := false }
def MacPadsSaid : Prop := macPadsRow.holds Try.pinned (OpenSpec.ofChange macPadsSpec)

/-- ITS FALSE NEIGHBOUR: 'it returns false'. Refute it at one input. -/
def macPadsWrong : ChangeSpec := { name := "macPads", fn := fun _ => fun
  | [d1, d2, d3] => { results := [.lit (.bool false)], args := [d1, d2, d3] }
  | _ => none }
def MacPadsWrongFalsely : Prop := macPadsRow.holds Try.pinned (OpenSpec.ofChange macPadsWrong)

/-- 'banyanlaw03.MacCodes': WHATEVER THE INPUT: true; the input reads as it did. -/
def macCodesSpec : ChangeSpec := { name := "macCodes", fn := fun _ => fun
  | [d] => { results := [.lit (.bool true)], args := [d] }
  | _ => none }
def macCodesRow : OpenClaim := { program := "ythlebobfbalknaa", sum := "4325491e4c5ae8b1b20fb556d0d8b0a7bb270aa039624f3cbda0d0926a3c41a6", func := "banyan/banyanlaw03.MacCodes", spec := "macCodes", inPlace := ["math/bits.Add64", "internal/abi.NoEscape"], unfollowed := true, recurses := true, apart := false }
def MacCodesSaid : Prop := macCodesRow.holds Try.pinned (OpenSpec.ofChange macCodesSpec)

/-- ITS FALSE NEIGHBOUR: 'it returns false'. Refute it at one input. -/
def macCodesWrong : ChangeSpec := { name := "macCodes", fn := fun _ => fun
  | [d] => { results := [.lit (.bool false)], args := [d] }
  | _ => none }
def MacCodesWrongFalsely : Prop := macCodesRow.holds Try.pinned (OpenSpec.ofChange macCodesWrong)

/-- 'banyanlaw03.MacExpands': WHATEVER THE INPUT: true; the input reads as it did. -/
def macExpandsSpec : ChangeSpec := { name := "macExpands", fn := fun _ => fun
  | [d1, d2, d3] => { results := [.lit (.bool true)], args := [d1, d2, d3] }
  | _ => none }
def macExpandsRow : OpenClaim := { program := "ythlebobfbalknaa", sum := "4325491e4c5ae8b1b20fb556d0d8b0a7bb270aa039624f3cbda0d0926a3c41a6", func := "banyan/banyanlaw03.MacExpands", spec := "macExpands", inPlace := ["math/bits.Add64", "internal/abi.NoEscape"], unfollowed := true, recurses := true, apart := false }
def MacExpandsSaid : Prop := macExpandsRow.holds Try.pinned (OpenSpec.ofChange macExpandsSpec)

/-- ITS FALSE NEIGHBOUR: 'it returns false'. Refute it at one input. -/
def macExpandsWrong : ChangeSpec := { name := "macExpands", fn := fun _ => fun
  | [d1, d2, d3] => { results := [.lit (.bool false)], args := [d1, d2, d3] }
  | _ => none }
def MacExpandsWrongFalsely : Prop := macExpandsRow.holds Try.pinned (OpenSpec.ofChange macExpandsWrong)

/-- 'banyanlaw03.MacBegins': WHATEVER THE INPUT: true; the input reads as it did. -/
def macBeginsSpec : ChangeSpec := { name := "macBegins", fn := fun _ => fun
  | [d] => { results := [.lit (.bool true)], args := [d] }
  | _ => none }
def macBeginsRow : OpenClaim := { program := "ythlebobfbalknaa", sum := "4325491e4c5ae8b1b20fb556d0d8b0a7bb270aa039624f3cbda0d0926a3c41a6", func := "banyan/banyanlaw03.MacBegins", spec := "macBegins", inPlace := ["math/bits.Add64", "internal/abi.NoEscape"], unfollowed := true, recurses := true, apart := false }
def MacBeginsSaid : Prop := macBeginsRow.holds Try.pinned (OpenSpec.ofChange macBeginsSpec)

/-- ITS FALSE NEIGHBOUR: 'it returns false'. Refute it at one input. -/
def macBeginsWrong : ChangeSpec := { name := "macBegins", fn := fun _ => fun
  | [d] => { results := [.lit (.bool false)], args := [d] }
  | _ => none }
def MacBeginsWrongFalsely : Prop := macBeginsRow.holds Try.pinned (OpenSpec.ofChange macBeginsWrong)

/-- 'banyanlaw03.MacChains': WHATEVER THE INPUT: true; the input reads as it did. -/
def macChainsSpec : ChangeSpec := { name := "macChains", fn := fun _ => fun
  | [d1, d2, d3] => { results := [.lit (.bool true)], args := [d1, d2, d3] }
  | _ => none }
def macChainsRow : OpenClaim := { program := "ythlebobfbalknaa", sum := "4325491e4c5ae8b1b20fb556d0d8b0a7bb270aa039624f3cbda0d0926a3c41a6", func := "banyan/banyanlaw03.MacChains", spec := "macChains", inPlace := ["math/bits.Add64", "internal/abi.NoEscape"], unfollowed := true, recurses := true, apart := false }
def MacChainsSaid : Prop := macChainsRow.holds Try.pinned (OpenSpec.ofChange macChainsSpec)

/-- ITS FALSE NEIGHBOUR: 'it returns false'. Refute it at one input. -/
def macChainsWrong : ChangeSpec := { name := "macChains", fn := fun _ => fun
  | [d1, d2, d3] => { results := [.lit (.bool false)], args := [d1, d2, d3] }
  | _ => none }
def MacChainsWrongFalsely : Prop := macChainsRow.holds Try.pinned (OpenSpec.ofChange macChainsWrong)

/- THE SECOND FORM. 'bulk': how many values and letters a reading holds, each counted each time it is reached (what is shared counts as often as it is met; a slice's spare places count too). A statement '..UptoSaid' is the law's where the arguments, and the package variables that the reading takes, are together of bulk at most 1048576: NARROWER than '..Said'. Prove '..Said' where nothing that the law and all that it calls make is longer than what came in: it says more and counts as full. Else prove '..UptoSaid'. A law counts once. -/
mutual
def uptoBulk {H : Type} : DataW H → Nat
  | .lit (.string bytes) => bytes.length + 1
  | .lit _ => 1
  | .nil => 1
  | .ptr d => uptoBulk d + 1
  | .slice elems spare => uptoBulkAll elems + uptoBulkAll spare + 1
  | .agg parts => uptoBulkAll parts + 1
  | .iface _ d => uptoBulk d + 1
  | .map entries => uptoBulkEntries entries + 1
  | .held _ => 1
def uptoBulkAll {H : Type} : List (DataW H) → Nat
  | [] => 0
  | d :: r => uptoBulk d + uptoBulkAll r
def uptoBulkEntries {H : Type} : List (Lit × DataW H) → Nat
  | [] => 0
  | x :: r => uptoBulkEntry x + uptoBulkEntries r
def uptoBulkEntry {H : Type} : Lit × DataW H → Nat
  | (.string bytes, d) => bytes.length + uptoBulk d + 1
  | (_, d) => uptoBulk d + 1
 end
def uptoSmall : (H : Type) → List (DataW H) → Bool := fun _ ds => decide (uptoBulkAll ds ≤ 1048576)
def OpenSpec.upto (s : _root_.Go.ChangeSpec) : _root_.Go.OpenSpec := { _root_.Go.OpenSpec.ofChange s with cond := some uptoSmall }

/-- 'banyanlaw03.MacPads', WHERE WHAT IT READS IS OF BULK AT MOST 1048576: true; the input reads as it did. -/
def macPadsUptoRow : OpenClaim := { program := "ythlebobfbalknaa", sum := "4325491e4c5ae8b1b20fb556d0d8b0a7bb270aa039624f3cbda0d0926a3c41a6", func := "banyan/banyanlaw03.MacPads", spec := "macPads", inPlace := ["math/bits.Add64", "internal/abi.NoEscape"], unfollowed := true, recurses := true, apart := false, narrowed := true }
def MacPadsUptoSaid : Prop := macPadsUptoRow.holds Try.pinned (OpenSpec.upto macPadsSpec)

/-- 'banyanlaw03.MacCodes', WHERE WHAT IT READS IS OF BULK AT MOST 1048576: true; the input reads as it did. -/
def macCodesUptoRow : OpenClaim := { program := "ythlebobfbalknaa", sum := "4325491e4c5ae8b1b20fb556d0d8b0a7bb270aa039624f3cbda0d0926a3c41a6", func := "banyan/banyanlaw03.MacCodes", spec := "macCodes", inPlace := ["math/bits.Add64", "internal/abi.NoEscape"], unfollowed := true, recurses := true, apart := false, narrowed := true }
def MacCodesUptoSaid : Prop := macCodesUptoRow.holds Try.pinned (OpenSpec.upto macCodesSpec)

/-- 'banyanlaw03.MacExpands', WHERE WHAT IT READS IS OF BULK AT MOST 1048576: true; the input reads as it did. -/
def macExpandsUptoRow : OpenClaim := { program := "ythlebobfbalknaa", sum := "4325491e4c5ae8b1b20fb556d0d8b0a7bb270aa039624f3cbda0d0926a3c41a6", func := "banyan/banyanlaw03.MacExpands", spec := "macExpands", inPlace := ["math/bits.Add64", "internal/abi.NoEscape"], unfollowed := true, recurses := true, apart := false, narrowed := true }
def MacExpandsUptoSaid : Prop := macExpandsUptoRow.holds Try.pinned (OpenSpec.upto macExpandsSpec)

/-- 'banyanlaw03.MacBegins', WHERE WHAT IT READS IS OF BULK AT MOST 1048576: true; the input reads as it did. -/
def macBeginsUptoRow : OpenClaim := { program := "ythlebobfbalknaa", sum := "4325491e4c5ae8b1b20fb556d0d8b0a7bb270aa039624f3cbda0d0926a3c41a6", func := "banyan/banyanlaw03.MacBegins", spec := "macBegins", inPlace := ["math/bits.Add64", "internal/abi.NoEscape"], unfollowed := true, recurses := true, apart := false, narrowed := true }
def MacBeginsUptoSaid : Prop := macBeginsUptoRow.holds Try.pinned (OpenSpec.upto macBeginsSpec)

/-- 'banyanlaw03.MacChains', WHERE WHAT IT READS IS OF BULK AT MOST 1048576: true; the input reads as it did. -/
def macChainsUptoRow : OpenClaim := { program := "ythlebobfbalknaa", sum := "4325491e4c5ae8b1b20fb556d0d8b0a7bb270aa039624f3cbda0d0926a3c41a6", func := "banyan/banyanlaw03.MacChains", spec := "macChains", inPlace := ["math/bits.Add64", "internal/abi.NoEscape"], unfollowed := true, recurses := true, apart := false, narrowed := true }
def MacChainsUptoSaid : Prop := macChainsUptoRow.holds Try.pinned (OpenSpec.upto macChainsSpec)

end Rows
end Go.Proofs.Ythlebobfbalknaa
