/-
  No cell of these rows narrows 'for every input' (looked for: loops, veiled, ifaces, maps, wideKeys, modest, calm, conditions, laid).
  DERIVED. THE GIVEN ROWS OF THIS SEAT. 7 by the template 'for every input the law returns true; each argument reads behind the call as it read before'; 0 by the template 'total and deterministic' (their statements: YtlifpmglaoppoaaTotals.lean).
  GIVEN WITH THE SEED: the statements are not yours to turn. If you find one false, say at which input.
  Laid BY PROGRAM, IN A SANDBOX (cutbox-rows.mjs): the forced cells as the released guide's own fill.sh prints them over the translation cee2ebce5e1ce04d… (all of the seat's roots in one cut). By AI agents, Wed Nov 11 2026. No macro, syntax, notation, axiom, sorry.
-/
import Derived.Test.YtlifpmglaoppoaaChecked
import GoSem.Claim
import GoSem.ClaimJoined
import GoSem.ClaimMapViews
import Derived.JoinedTies
import Derived.KernelRfl
namespace Go.Proofs.Ytlifpmglaoppoaa
/- THE CELL 'sum', in the pinned program and in every row, IS THE sha256 OF THE DUMP (.gsa) THAT YtlifpmglaoppoaaProg.lean LOADS. Nothing in Lean hashes anything: it is a label: what it is worth is what the hold of that sum in a sandbox is worth. -/
noncomputable def Try.pinned : Pinned := { name := "ytlifpmglaoppoaa", sum := "cee2ebce5e1ce04da8c5754ac6c3e7c8a11309c0ffb4381e8905ae100c16c6f7", checked := Try.checked }
namespace Rows
def none {H : Type} : Left H := { results := [], args := [] }

/-- 'banyanlaw12.SealKeys': WHATEVER THE INPUT: true; the input reads as it did. -/
def sealKeysSpec : ChangeSpec := { name := "sealKeys", fn := fun _ => fun
  | [d] => { results := [.lit (.bool true)], args := [d] }
  | _ => none }
def sealKeysRow : OpenClaim := { program := "ytlifpmglaoppoaa", sum := "cee2ebce5e1ce04da8c5754ac6c3e7c8a11309c0ffb4381e8905ae100c16c6f7", func := "banyan/banyanlaw12.SealKeys", spec := "sealKeys", inPlace := ["math/bits.Add64"], unfollowed := true, recurses := true, apart := false }
def SealKeysSaid : Prop := sealKeysRow.holds Try.pinned (OpenSpec.ofChange sealKeysSpec)

/-- ITS FALSE NEIGHBOUR: 'it returns false'. Refute it at one input. -/
def sealKeysWrong : ChangeSpec := { name := "sealKeys", fn := fun _ => fun
  | [d] => { results := [.lit (.bool false)], args := [d] }
  | _ => none }
def SealKeysWrongFalsely : Prop := sealKeysRow.holds Try.pinned (OpenSpec.ofChange sealKeysWrong)

/-- 'banyanlaw12.SealBlocks': WHATEVER THE INPUT: true; the input reads as it did. -/
def sealBlocksSpec : ChangeSpec := { name := "sealBlocks", fn := fun _ => fun
  | [d] => { results := [.lit (.bool true)], args := [d] }
  | _ => none }
def sealBlocksRow : OpenClaim := { program := "ytlifpmglaoppoaa", sum := "cee2ebce5e1ce04da8c5754ac6c3e7c8a11309c0ffb4381e8905ae100c16c6f7", func := "banyan/banyanlaw12.SealBlocks", spec := "sealBlocks", inPlace := ["math/bits.Add64"], unfollowed := true, recurses := true, apart := false }
def SealBlocksSaid : Prop := sealBlocksRow.holds Try.pinned (OpenSpec.ofChange sealBlocksSpec)

/-- ITS FALSE NEIGHBOUR: 'it returns false'. Refute it at one input. -/
def sealBlocksWrong : ChangeSpec := { name := "sealBlocks", fn := fun _ => fun
  | [d] => { results := [.lit (.bool false)], args := [d] }
  | _ => none }
def SealBlocksWrongFalsely : Prop := sealBlocksRow.holds Try.pinned (OpenSpec.ofChange sealBlocksWrong)

/-- 'banyanlaw12.SealOpens': WHATEVER THE INPUT: true; the input reads as it did. -/
def sealOpensSpec : ChangeSpec := { name := "sealOpens", fn := fun _ => fun
  | [d] => { results := [.lit (.bool true)], args := [d] }
  | _ => none }
def sealOpensRow : OpenClaim := { program := "ytlifpmglaoppoaa", sum := "cee2ebce5e1ce04da8c5754ac6c3e7c8a11309c0ffb4381e8905ae100c16c6f7", func := "banyan/banyanlaw12.SealOpens", spec := "sealOpens", inPlace := ["math/bits.Add64"], unfollowed := true, recurses := true, apart := false }
def SealOpensSaid : Prop := sealOpensRow.holds Try.pinned (OpenSpec.ofChange sealOpensSpec)

/-- ITS FALSE NEIGHBOUR: 'it returns false'. Refute it at one input. -/
def sealOpensWrong : ChangeSpec := { name := "sealOpens", fn := fun _ => fun
  | [d] => { results := [.lit (.bool false)], args := [d] }
  | _ => none }
def SealOpensWrongFalsely : Prop := sealOpensRow.holds Try.pinned (OpenSpec.ofChange sealOpensWrong)

/-- 'banyanlaw12.SealBack': WHATEVER THE INPUT: true; the input reads as it did. -/
def sealBackSpec : ChangeSpec := { name := "sealBack", fn := fun _ => fun
  | [d] => { results := [.lit (.bool true)], args := [d] }
  | _ => none }
def sealBackRow : OpenClaim := { program := "ytlifpmglaoppoaa", sum := "cee2ebce5e1ce04da8c5754ac6c3e7c8a11309c0ffb4381e8905ae100c16c6f7", func := "banyan/banyanlaw12.SealBack", spec := "sealBack", inPlace := ["math/bits.Add64"], unfollowed := true, recurses := true, apart := false }
def SealBackSaid : Prop := sealBackRow.holds Try.pinned (OpenSpec.ofChange sealBackSpec)

/-- ITS FALSE NEIGHBOUR: 'it returns false'. Refute it at one input. -/
def sealBackWrong : ChangeSpec := { name := "sealBack", fn := fun _ => fun
  | [d] => { results := [.lit (.bool false)], args := [d] }
  | _ => none }
def SealBackWrongFalsely : Prop := sealBackRow.holds Try.pinned (OpenSpec.ofChange sealBackWrong)

/-- 'banyanlaw12.SealStreams': WHATEVER THE INPUT: true; the input reads as it did. -/
def sealStreamsSpec : ChangeSpec := { name := "sealStreams", fn := fun _ => fun
  | [d] => { results := [.lit (.bool true)], args := [d] }
  | _ => none }
def sealStreamsRow : OpenClaim := { program := "ytlifpmglaoppoaa", sum := "cee2ebce5e1ce04da8c5754ac6c3e7c8a11309c0ffb4381e8905ae100c16c6f7", func := "banyan/banyanlaw12.SealStreams", spec := "sealStreams", inPlace := ["math/bits.Add64"], unfollowed := true, recurses := true, apart := false }
def SealStreamsSaid : Prop := sealStreamsRow.holds Try.pinned (OpenSpec.ofChange sealStreamsSpec)

/-- ITS FALSE NEIGHBOUR: 'it returns false'. Refute it at one input. -/
def sealStreamsWrong : ChangeSpec := { name := "sealStreams", fn := fun _ => fun
  | [d] => { results := [.lit (.bool false)], args := [d] }
  | _ => none }
def SealStreamsWrongFalsely : Prop := sealStreamsRow.holds Try.pinned (OpenSpec.ofChange sealStreamsWrong)

/-- 'banyanlaw12.SealOthers': WHATEVER THE INPUT: true; the input reads as it did. -/
def sealOthersSpec : ChangeSpec := { name := "sealOthers", fn := fun _ => fun
  | [d1, d2, d3] => { results := [.lit (.bool true)], args := [d1, d2, d3] }
  | _ => none }
def sealOthersRow : OpenClaim := { program := "ytlifpmglaoppoaa", sum := "cee2ebce5e1ce04da8c5754ac6c3e7c8a11309c0ffb4381e8905ae100c16c6f7", func := "banyan/banyanlaw12.SealOthers", spec := "sealOthers", inPlace := ["math/bits.Add64"], unfollowed := true, recurses := true, apart := false }
def SealOthersSaid : Prop := sealOthersRow.holds Try.pinned (OpenSpec.ofChange sealOthersSpec)

/-- ITS FALSE NEIGHBOUR: 'it returns false'. Refute it at one input. -/
def sealOthersWrong : ChangeSpec := { name := "sealOthers", fn := fun _ => fun
  | [d1, d2, d3] => { results := [.lit (.bool false)], args := [d1, d2, d3] }
  | _ => none }
def SealOthersWrongFalsely : Prop := sealOthersRow.holds Try.pinned (OpenSpec.ofChange sealOthersWrong)

/-- 'banyanlaw12.SealApart': WHATEVER THE INPUT: true; the input reads as it did. -/
def sealApartSpec : ChangeSpec := { name := "sealApart", fn := fun _ => fun
  | [d] => { results := [.lit (.bool true)], args := [d] }
  | _ => none }
def sealApartRow : OpenClaim := { program := "ytlifpmglaoppoaa", sum := "cee2ebce5e1ce04da8c5754ac6c3e7c8a11309c0ffb4381e8905ae100c16c6f7", func := "banyan/banyanlaw12.SealApart", spec := "sealApart", inPlace := ["math/bits.Add64"], unfollowed := true, recurses := true, apart := false }
def SealApartSaid : Prop := sealApartRow.holds Try.pinned (OpenSpec.ofChange sealApartSpec)

/-- ITS FALSE NEIGHBOUR: 'it returns false'. Refute it at one input. -/
def sealApartWrong : ChangeSpec := { name := "sealApart", fn := fun _ => fun
  | [d] => { results := [.lit (.bool false)], args := [d] }
  | _ => none }
def SealApartWrongFalsely : Prop := sealApartRow.holds Try.pinned (OpenSpec.ofChange sealApartWrong)

/- THE SECOND FORM. 'bulk': how many values and letters a reading holds, each counted each time it is reached (what is shared counts as often as it is met; a slice's spare places count too). A statement '..UptoSaid' is the law's where the arguments, and the package variables that the reading takes, are together of bulk at most 1048576: NARROWER than '..Said'. Prove '..Said' where nothing that the law and all that it calls make is longer than what came in: it says more and counts as full. Else prove '..UptoSaid'. A law counts once. -/
mutual
def uptoBulk {H : Type} : DataW H → Nat
  | .lit (.string bytes) => bytes.length + 1
  | .lit _ => 1
  | .nil => 1
  | .ptr d => uptoBulk d + 1
  | .slice elems spare => uptoBulkAll elems + uptoBulkAll spare + 1
  | .agg parts => uptoBulkAll parts + 1
  | .iface _ d => uptoBulk d + 1
  | .map entries => uptoBulkEntries entries + 1
  | .held _ => 1
def uptoBulkAll {H : Type} : List (DataW H) → Nat
  | [] => 0
  | d :: r => uptoBulk d + uptoBulkAll r
def uptoBulkEntries {H : Type} : List (Lit × DataW H) → Nat
  | [] => 0
  | x :: r => uptoBulkEntry x + uptoBulkEntries r
def uptoBulkEntry {H : Type} : Lit × DataW H → Nat
  | (.string bytes, d) => bytes.length + uptoBulk d + 1
  | (_, d) => uptoBulk d + 1
 end
def uptoSmall : (H : Type) → List (DataW H) → Bool := fun _ ds => decide (uptoBulkAll ds ≤ 1048576)
def OpenSpec.upto (s : _root_.Go.ChangeSpec) : _root_.Go.OpenSpec := { _root_.Go.OpenSpec.ofChange s with cond := some uptoSmall }

/-- 'banyanlaw12.SealKeys', WHERE WHAT IT READS IS OF BULK AT MOST 1048576: true; the input reads as it did. -/
def sealKeysUptoRow : OpenClaim := { program := "ytlifpmglaoppoaa", sum := "cee2ebce5e1ce04da8c5754ac6c3e7c8a11309c0ffb4381e8905ae100c16c6f7", func := "banyan/banyanlaw12.SealKeys", spec := "sealKeys", inPlace := ["math/bits.Add64"], unfollowed := true, recurses := true, apart := false, narrowed := true }
def SealKeysUptoSaid : Prop := sealKeysUptoRow.holds Try.pinned (OpenSpec.upto sealKeysSpec)

/-- 'banyanlaw12.SealBlocks', WHERE WHAT IT READS IS OF BULK AT MOST 1048576: true; the input reads as it did. -/
def sealBlocksUptoRow : OpenClaim := { program := "ytlifpmglaoppoaa", sum := "cee2ebce5e1ce04da8c5754ac6c3e7c8a11309c0ffb4381e8905ae100c16c6f7", func := "banyan/banyanlaw12.SealBlocks", spec := "sealBlocks", inPlace := ["math/bits.Add64"], unfollowed := true, recurses := true, apart := false, narrowed := true }
def SealBlocksUptoSaid : Prop := sealBlocksUptoRow.holds Try.pinned (OpenSpec.upto sealBlocksSpec)

/-- 'banyanlaw12.SealOpens', WHERE WHAT IT READS IS OF BULK AT MOST 1048576: true; the input reads as it did. -/
def sealOpensUptoRow : OpenClaim := { program := "ytlifpmglaoppoaa", sum := "cee2ebce5e1ce04da8c5754ac6c3e7c8a11309c0ffb4381e8905ae100c16c6f7", func := "banyan/banyanlaw12.SealOpens", spec := "sealOpens", inPlace := ["math/bits.Add64"], unfollowed := true, recurses := true, apart := false, narrowed := true }
def SealOpensUptoSaid : Prop := sealOpensUptoRow.holds Try.pinned (OpenSpec.upto sealOpensSpec)

/-- 'banyanlaw12.SealBack', WHERE WHAT IT READS IS OF BULK AT MOST 1048576: true; the input reads as it did. -/
def sealBackUptoRow : OpenClaim := { program := "ytlifpmglaoppoaa", sum := "cee2ebce5e1ce04da8c5754ac6c3e7c8a11309c0ffb4381e8905ae100c16c6f7", func := "banyan/banyanlaw12.SealBack", spec := "sealBack", inPlace := ["math/bits.Add64"], unfollowed := true, recurses := true, apart := false, narrowed := true }
def SealBackUptoSaid : Prop := sealBackUptoRow.holds Try.pinned (OpenSpec.upto sealBackSpec)

/-- 'banyanlaw12.SealStreams', WHERE WHAT IT READS IS OF BULK AT MOST 1048576: true; the input reads as it did. -/
def sealStreamsUptoRow : OpenClaim := { program := "ytlifpmglaoppoaa", sum := "cee2ebce5e1ce04da8c5754ac6c3e7c8a11309c0ffb4381e8905ae100c16c6f7", func := "banyan/banyanlaw12.SealStreams", spec := "sealStreams", inPlace := ["math/bits.Add64"], unfollowed := true, recurses := true, apart := false, narrowed := true }
def SealStreamsUptoSaid : Prop := sealStreamsUptoRow.holds Try.pinned (OpenSpec.upto sealStreamsSpec)

/-- 'banyanlaw12.SealOthers', WHERE WHAT IT READS IS OF BULK AT MOST 1048576: true; the input reads as it did. -/
def sealOthersUptoRow : OpenClaim := { program := "ytlifpmglaoppoaa", sum := "cee2ebce5e1ce04da8c5754ac6c3e7c8a11309c0ffb4381e8905ae100c16c6f7", func := "banyan/banyanlaw12.SealOthers", spec := "sealOthers", inPlace := ["math/bits.Add64"], unfollowed := true, recurses := true, apart := false, narrowed := true }
def SealOthersUptoSaid : Prop := sealOthersUptoRow.holds Try.pinned (OpenSpec.upto sealOthersSpec)

/-- 'banyanlaw12.SealApart', WHERE WHAT IT READS IS OF BULK AT MOST 1048576: true; the input reads as it did. -/
def sealApartUptoRow : OpenClaim := { program := "ytlifpmglaoppoaa", sum := "cee2ebce5e1ce04da8c5754ac6c3e7c8a11309c0ffb4381e8905ae100c16c6f7", func := "banyan/banyanlaw12.SealApart", spec := "sealApart", inPlace := ["math/bits.Add64"], unfollowed := true, recurses := true, apart := false, narrowed := true }
def SealApartUptoSaid : Prop := sealApartUptoRow.holds Try.pinned (OpenSpec.upto sealApartSpec)

end Rows
end Go.Proofs.Ytlifpmglaoppoaa
