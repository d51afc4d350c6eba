/-
  No cell of these rows narrows 'for every input' (looked for: loops, veiled, ifaces, maps, wideKeys, modest, calm, conditions, laid).
  DERIVED. THE GIVEN ROWS OF THIS SEAT. 6 by the template 'for every input the law returns true; each argument reads behind the call as it read before'; 0 by the template 'total and deterministic' (their statements: YtokphnfhajljmaaTotals.lean).
  GIVEN WITH THE SEED: the statements are not yours to turn. If you find one false, say at which input.
  Laid BY PROGRAM, IN A SANDBOX (cutbox-rows.mjs): the forced cells as the released guide's own fill.sh prints them over the translation 1c6734315244916b… (all of the seat's roots in one cut). By AI agents, Wed Nov 11 2026. No macro, syntax, notation, axiom, sorry.
-/
import Derived.Test.YtokphnfhajljmaaChecked
import GoSem.Claim
import GoSem.ClaimJoined
import GoSem.ClaimMapViews
import Derived.JoinedTies
import Derived.KernelRfl
namespace Go.Proofs.Ytokphnfhajljmaa
/- THE CELL 'sum', in the pinned program and in every row, IS THE sha256 OF THE DUMP (.gsa) THAT YtokphnfhajljmaaProg.lean LOADS. Nothing in Lean hashes anything: it is a label: what it is worth is what the hold of that sum in a sandbox is worth. -/
noncomputable def Try.pinned : Pinned := { name := "ytokphnfhajljmaa", sum := "1c6734315244916bee3da57da09fa052a9c26d5a9052e0ca337dfda843589003", checked := Try.checked }
namespace Rows
def none {H : Type} : Left H := { results := [], args := [] }

/-- 'banyanlaw05.CtrStreams': WHATEVER THE INPUT: true; the input reads as it did. -/
def ctrStreamsSpec : ChangeSpec := { name := "ctrStreams", fn := fun _ => fun
  | [d] => { results := [.lit (.bool true)], args := [d] }
  | _ => none }
def ctrStreamsRow : OpenClaim := { program := "ytokphnfhajljmaa", sum := "1c6734315244916bee3da57da09fa052a9c26d5a9052e0ca337dfda843589003", func := "banyan/banyanlaw05.CtrStreams", spec := "ctrStreams", unfollowed := true, recurses := true, apart := false }
def CtrStreamsSaid : Prop := ctrStreamsRow.holds Try.pinned (OpenSpec.ofChange ctrStreamsSpec)

/-- ITS FALSE NEIGHBOUR: 'it returns false'. Refute it at one input. -/
def ctrStreamsWrong : ChangeSpec := { name := "ctrStreams", fn := fun _ => fun
  | [d] => { results := [.lit (.bool false)], args := [d] }
  | _ => none }
def CtrStreamsWrongFalsely : Prop := ctrStreamsRow.holds Try.pinned (OpenSpec.ofChange ctrStreamsWrong)

/-- 'banyanlaw05.CtrCrypts': WHATEVER THE INPUT: true; the input reads as it did. -/
def ctrCryptsSpec : ChangeSpec := { name := "ctrCrypts", fn := fun _ => fun
  | [d1, d2, d3] => { results := [.lit (.bool true)], args := [d1, d2, d3] }
  | _ => none }
def ctrCryptsRow : OpenClaim := { program := "ytokphnfhajljmaa", sum := "1c6734315244916bee3da57da09fa052a9c26d5a9052e0ca337dfda843589003", func := "banyan/banyanlaw05.CtrCrypts", spec := "ctrCrypts", unfollowed := true, recurses := true, apart := false }
def CtrCryptsSaid : Prop := ctrCryptsRow.holds Try.pinned (OpenSpec.ofChange ctrCryptsSpec)

/-- ITS FALSE NEIGHBOUR: 'it returns false'. Refute it at one input. -/
def ctrCryptsWrong : ChangeSpec := { name := "ctrCrypts", fn := fun _ => fun
  | [d1, d2, d3] => { results := [.lit (.bool false)], args := [d1, d2, d3] }
  | _ => none }
def CtrCryptsWrongFalsely : Prop := ctrCryptsRow.holds Try.pinned (OpenSpec.ofChange ctrCryptsWrong)

/-- 'banyanlaw05.CtrBack': WHATEVER THE INPUT: true; the input reads as it did. -/
def ctrBackSpec : ChangeSpec := { name := "ctrBack", fn := fun _ => fun
  | [d] => { results := [.lit (.bool true)], args := [d] }
  | _ => none }
def ctrBackRow : OpenClaim := { program := "ytokphnfhajljmaa", sum := "1c6734315244916bee3da57da09fa052a9c26d5a9052e0ca337dfda843589003", func := "banyan/banyanlaw05.CtrBack", spec := "ctrBack", unfollowed := true, recurses := true, apart := false }
def CtrBackSaid : Prop := ctrBackRow.holds Try.pinned (OpenSpec.ofChange ctrBackSpec)

/-- ITS FALSE NEIGHBOUR: 'it returns false'. Refute it at one input. -/
def ctrBackWrong : ChangeSpec := { name := "ctrBack", fn := fun _ => fun
  | [d] => { results := [.lit (.bool false)], args := [d] }
  | _ => none }
def CtrBackWrongFalsely : Prop := ctrBackRow.holds Try.pinned (OpenSpec.ofChange ctrBackWrong)

/-- 'banyanlaw05.CtrPlaces': WHATEVER THE INPUT: true; the input reads as it did. -/
def ctrPlacesSpec : ChangeSpec := { name := "ctrPlaces", fn := fun _ => fun
  | [d] => { results := [.lit (.bool true)], args := [d] }
  | _ => none }
def ctrPlacesRow : OpenClaim := { program := "ytokphnfhajljmaa", sum := "1c6734315244916bee3da57da09fa052a9c26d5a9052e0ca337dfda843589003", func := "banyan/banyanlaw05.CtrPlaces", spec := "ctrPlaces", unfollowed := true, recurses := true, apart := false }
def CtrPlacesSaid : Prop := ctrPlacesRow.holds Try.pinned (OpenSpec.ofChange ctrPlacesSpec)

/-- ITS FALSE NEIGHBOUR: 'it returns false'. Refute it at one input. -/
def ctrPlacesWrong : ChangeSpec := { name := "ctrPlaces", fn := fun _ => fun
  | [d] => { results := [.lit (.bool false)], args := [d] }
  | _ => none }
def CtrPlacesWrongFalsely : Prop := ctrPlacesRow.holds Try.pinned (OpenSpec.ofChange ctrPlacesWrong)

/-- 'banyanlaw05.CtrBlocks': WHATEVER THE INPUT: true; the input reads as it did. -/
def ctrBlocksSpec : ChangeSpec := { name := "ctrBlocks", fn := fun _ => fun
  | [d] => { results := [.lit (.bool true)], args := [d] }
  | _ => none }
def ctrBlocksRow : OpenClaim := { program := "ytokphnfhajljmaa", sum := "1c6734315244916bee3da57da09fa052a9c26d5a9052e0ca337dfda843589003", func := "banyan/banyanlaw05.CtrBlocks", spec := "ctrBlocks", unfollowed := true, recurses := true, apart := false }
def CtrBlocksSaid : Prop := ctrBlocksRow.holds Try.pinned (OpenSpec.ofChange ctrBlocksSpec)

/-- ITS FALSE NEIGHBOUR: 'it returns false'. Refute it at one input. -/
def ctrBlocksWrong : ChangeSpec := { name := "ctrBlocks", fn := fun _ => fun
  | [d] => { results := [.lit (.bool false)], args := [d] }
  | _ => none }
def CtrBlocksWrongFalsely : Prop := ctrBlocksRow.holds Try.pinned (OpenSpec.ofChange ctrBlocksWrong)

/-- 'banyanlaw05.CtrSums': WHATEVER THE INPUT: true; the input reads as it did. -/
def ctrSumsSpec : ChangeSpec := { name := "ctrSums", fn := fun _ => fun
  | [d] => { results := [.lit (.bool true)], args := [d] }
  | _ => none }
def ctrSumsRow : OpenClaim := { program := "ytokphnfhajljmaa", sum := "1c6734315244916bee3da57da09fa052a9c26d5a9052e0ca337dfda843589003", func := "banyan/banyanlaw05.CtrSums", spec := "ctrSums", unfollowed := true, recurses := true, apart := false }
def CtrSumsSaid : Prop := ctrSumsRow.holds Try.pinned (OpenSpec.ofChange ctrSumsSpec)

/-- ITS FALSE NEIGHBOUR: 'it returns false'. Refute it at one input. -/
def ctrSumsWrong : ChangeSpec := { name := "ctrSums", fn := fun _ => fun
  | [d] => { results := [.lit (.bool false)], args := [d] }
  | _ => none }
def CtrSumsWrongFalsely : Prop := ctrSumsRow.holds Try.pinned (OpenSpec.ofChange ctrSumsWrong)

/- THE SECOND FORM. 'bulk': how many values and letters a reading holds, each counted each time it is reached (what is shared counts as often as it is met; a slice's spare places count too). A statement '..UptoSaid' is the law's where the arguments, and the package variables that the reading takes, are together of bulk at most 1048576: NARROWER than '..Said'. Prove '..Said' where nothing that the law and all that it calls make is longer than what came in: it says more and counts as full. Else prove '..UptoSaid'. A law counts once. -/
mutual
def uptoBulk {H : Type} : DataW H → Nat
  | .lit (.string bytes) => bytes.length + 1
  | .lit _ => 1
  | .nil => 1
  | .ptr d => uptoBulk d + 1
  | .slice elems spare => uptoBulkAll elems + uptoBulkAll spare + 1
  | .agg parts => uptoBulkAll parts + 1
  | .iface _ d => uptoBulk d + 1
  | .map entries => uptoBulkEntries entries + 1
  | .held _ => 1
def uptoBulkAll {H : Type} : List (DataW H) → Nat
  | [] => 0
  | d :: r => uptoBulk d + uptoBulkAll r
def uptoBulkEntries {H : Type} : List (Lit × DataW H) → Nat
  | [] => 0
  | x :: r => uptoBulkEntry x + uptoBulkEntries r
def uptoBulkEntry {H : Type} : Lit × DataW H → Nat
  | (.string bytes, d) => bytes.length + uptoBulk d + 1
  | (_, d) => uptoBulk d + 1
 end
def uptoSmall : (H : Type) → List (DataW H) → Bool := fun _ ds => decide (uptoBulkAll ds ≤ 1048576)
def OpenSpec.upto (s : _root_.Go.ChangeSpec) : _root_.Go.OpenSpec := { _root_.Go.OpenSpec.ofChange s with cond := some uptoSmall }

/-- 'banyanlaw05.CtrStreams', WHERE WHAT IT READS IS OF BULK AT MOST 1048576: true; the input reads as it did. -/
def ctrStreamsUptoRow : OpenClaim := { program := "ytokphnfhajljmaa", sum := "1c6734315244916bee3da57da09fa052a9c26d5a9052e0ca337dfda843589003", func := "banyan/banyanlaw05.CtrStreams", spec := "ctrStreams", unfollowed := true, recurses := true, apart := false, narrowed := true }
def CtrStreamsUptoSaid : Prop := ctrStreamsUptoRow.holds Try.pinned (OpenSpec.upto ctrStreamsSpec)

/-- 'banyanlaw05.CtrCrypts', WHERE WHAT IT READS IS OF BULK AT MOST 1048576: true; the input reads as it did. -/
def ctrCryptsUptoRow : OpenClaim := { program := "ytokphnfhajljmaa", sum := "1c6734315244916bee3da57da09fa052a9c26d5a9052e0ca337dfda843589003", func := "banyan/banyanlaw05.CtrCrypts", spec := "ctrCrypts", unfollowed := true, recurses := true, apart := false, narrowed := true }
def CtrCryptsUptoSaid : Prop := ctrCryptsUptoRow.holds Try.pinned (OpenSpec.upto ctrCryptsSpec)

/-- 'banyanlaw05.CtrBack', WHERE WHAT IT READS IS OF BULK AT MOST 1048576: true; the input reads as it did. -/
def ctrBackUptoRow : OpenClaim := { program := "ytokphnfhajljmaa", sum := "1c6734315244916bee3da57da09fa052a9c26d5a9052e0ca337dfda843589003", func := "banyan/banyanlaw05.CtrBack", spec := "ctrBack", unfollowed := true, recurses := true, apart := false, narrowed := true }
def CtrBackUptoSaid : Prop := ctrBackUptoRow.holds Try.pinned (OpenSpec.upto ctrBackSpec)

/-- 'banyanlaw05.CtrPlaces', WHERE WHAT IT READS IS OF BULK AT MOST 1048576: true; the input reads as it did. -/
def ctrPlacesUptoRow : OpenClaim := { program := "ytokphnfhajljmaa", sum := "1c6734315244916bee3da57da09fa052a9c26d5a9052e0ca337dfda843589003", func := "banyan/banyanlaw05.CtrPlaces", spec := "ctrPlaces", unfollowed := true, recurses := true, apart := false, narrowed := true }
def CtrPlacesUptoSaid : Prop := ctrPlacesUptoRow.holds Try.pinned (OpenSpec.upto ctrPlacesSpec)

/-- 'banyanlaw05.CtrBlocks', WHERE WHAT IT READS IS OF BULK AT MOST 1048576: true; the input reads as it did. -/
def ctrBlocksUptoRow : OpenClaim := { program := "ytokphnfhajljmaa", sum := "1c6734315244916bee3da57da09fa052a9c26d5a9052e0ca337dfda843589003", func := "banyan/banyanlaw05.CtrBlocks", spec := "ctrBlocks", unfollowed := true, recurses := true, apart := false, narrowed := true }
def CtrBlocksUptoSaid : Prop := ctrBlocksUptoRow.holds Try.pinned (OpenSpec.upto ctrBlocksSpec)

/-- 'banyanlaw05.CtrSums', WHERE WHAT IT READS IS OF BULK AT MOST 1048576: true; the input reads as it did. -/
def ctrSumsUptoRow : OpenClaim := { program := "ytokphnfhajljmaa", sum := "1c6734315244916bee3da57da09fa052a9c26d5a9052e0ca337dfda843589003", func := "banyan/banyanlaw05.CtrSums", spec := "ctrSums", unfollowed := true, recurses := true, apart := false, narrowed := true }
def CtrSumsUptoSaid : Prop := ctrSumsUptoRow.holds Try.pinned (OpenSpec.upto ctrSumsSpec)

end Rows
end Go.Proofs.Ytokphnfhajljmaa
