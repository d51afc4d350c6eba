/-
  No cell of these rows narrows 'for every input' (looked for: loops, veiled, ifaces, maps, wideKeys, modest, calm, conditions, laid).
  DERIVED. THE GIVEN ROWS OF THIS SEAT. 7 by the template 'for every input the law returns true; each argument reads behind the call as it read before'; 0 by the template 'total and deterministic' (their statements: YtmlaopohlmnegaaTotals.lean).
  GIVEN WITH THE SEED: the statements are not yours to turn. If you find one false, say at which input.
  Laid BY PROGRAM, IN A SANDBOX (cutbox-rows.mjs): the forced cells as the released guide's own fill.sh prints them over the translation f5e0bbcd98eadb09… (all of the seat's roots in one cut). By AI agents, Wed Nov 11 2026. No macro, syntax, notation, axiom, sorry.
-/
import Derived.Test.YtmlaopohlmnegaaChecked
import GoSem.Claim
import GoSem.ClaimJoined
import GoSem.ClaimMapViews
import Derived.JoinedTies
import Derived.KernelRfl
namespace Go.Proofs.Ytmlaopohlmnegaa
/- THE CELL 'sum', in the pinned program and in every row, IS THE sha256 OF THE DUMP (.gsa) THAT YtmlaopohlmnegaaProg.lean LOADS. Nothing in Lean hashes anything: it is a label: what it is worth is what the hold of that sum in a sandbox is worth. -/
noncomputable def Try.pinned : Pinned := { name := "ytmlaopohlmnegaa", sum := "f5e0bbcd98eadb094e47b915affa2c9b9dc011b724cdc1e6e2041bddc2a4b1d1", checked := Try.checked }
namespace Rows
def none {H : Type} : Left H := { results := [], args := [] }

/-- 'banyanlaw04.AesBytes': WHATEVER THE INPUT: true; the input reads as it did. -/
def aesBytesSpec : ChangeSpec := { name := "aesBytes", fn := fun _ => fun
  | [d1, d2] => { results := [.lit (.bool true)], args := [d1, d2] }
  | _ => none }
def aesBytesRow : OpenClaim := { program := "ytmlaopohlmnegaa", sum := "f5e0bbcd98eadb094e47b915affa2c9b9dc011b724cdc1e6e2041bddc2a4b1d1", func := "banyan/banyanlaw04.AesBytes", spec := "aesBytes", unfollowed := true, recurses := true, apart := false }
def AesBytesSaid : Prop := aesBytesRow.holds Try.pinned (OpenSpec.ofChange aesBytesSpec)

/-- ITS FALSE NEIGHBOUR: 'it returns false'. Refute it at one input. -/
def aesBytesWrong : ChangeSpec := { name := "aesBytes", fn := fun _ => fun
  | [d1, d2] => { results := [.lit (.bool false)], args := [d1, d2] }
  | _ => none }
def AesBytesWrongFalsely : Prop := aesBytesRow.holds Try.pinned (OpenSpec.ofChange aesBytesWrong)

/-- 'banyanlaw04.AesBack': WHATEVER THE INPUT: true; the input reads as it did. -/
def aesBackSpec : ChangeSpec := { name := "aesBack", fn := fun _ => fun
  | [d1, d2, d3] => { results := [.lit (.bool true)], args := [d1, d2, d3] }
  | _ => none }
def aesBackRow : OpenClaim := { program := "ytmlaopohlmnegaa", sum := "f5e0bbcd98eadb094e47b915affa2c9b9dc011b724cdc1e6e2041bddc2a4b1d1", func := "banyan/banyanlaw04.AesBack", spec := "aesBack", unfollowed := true, recurses := true, apart := false }
def AesBackSaid : Prop := aesBackRow.holds Try.pinned (OpenSpec.ofChange aesBackSpec)

/-- ITS FALSE NEIGHBOUR: 'it returns false'. Refute it at one input. -/
def aesBackWrong : ChangeSpec := { name := "aesBack", fn := fun _ => fun
  | [d1, d2, d3] => { results := [.lit (.bool false)], args := [d1, d2, d3] }
  | _ => none }
def AesBackWrongFalsely : Prop := aesBackRow.holds Try.pinned (OpenSpec.ofChange aesBackWrong)

/-- 'banyanlaw04.AesField': WHATEVER THE INPUT: true; the input reads as it did. -/
def aesFieldSpec : ChangeSpec := { name := "aesField", fn := fun _ => fun
  | [d1, d2, d3] => { results := [.lit (.bool true)], args := [d1, d2, d3] }
  | _ => none }
def aesFieldRow : OpenClaim := { program := "ytmlaopohlmnegaa", sum := "f5e0bbcd98eadb094e47b915affa2c9b9dc011b724cdc1e6e2041bddc2a4b1d1", func := "banyan/banyanlaw04.AesField", spec := "aesField", unfollowed := true, recurses := true, apart := false }
def AesFieldSaid : Prop := aesFieldRow.holds Try.pinned (OpenSpec.ofChange aesFieldSpec)

/-- ITS FALSE NEIGHBOUR: 'it returns false'. Refute it at one input. -/
def aesFieldWrong : ChangeSpec := { name := "aesField", fn := fun _ => fun
  | [d1, d2, d3] => { results := [.lit (.bool false)], args := [d1, d2, d3] }
  | _ => none }
def AesFieldWrongFalsely : Prop := aesFieldRow.holds Try.pinned (OpenSpec.ofChange aesFieldWrong)

/-- 'banyanlaw04.AesBox': WHATEVER THE INPUT: true; the input reads as it did. -/
def aesBoxSpec : ChangeSpec := { name := "aesBox", fn := fun _ => fun
  | [d1, d2] => { results := [.lit (.bool true)], args := [d1, d2] }
  | _ => none }
def aesBoxRow : OpenClaim := { program := "ytmlaopohlmnegaa", sum := "f5e0bbcd98eadb094e47b915affa2c9b9dc011b724cdc1e6e2041bddc2a4b1d1", func := "banyan/banyanlaw04.AesBox", spec := "aesBox", unfollowed := true, recurses := true, apart := false }
def AesBoxSaid : Prop := aesBoxRow.holds Try.pinned (OpenSpec.ofChange aesBoxSpec)

/-- ITS FALSE NEIGHBOUR: 'it returns false'. Refute it at one input. -/
def aesBoxWrong : ChangeSpec := { name := "aesBox", fn := fun _ => fun
  | [d1, d2] => { results := [.lit (.bool false)], args := [d1, d2] }
  | _ => none }
def AesBoxWrongFalsely : Prop := aesBoxRow.holds Try.pinned (OpenSpec.ofChange aesBoxWrong)

/-- 'banyanlaw04.AesPowers': WHATEVER THE INPUT: true; the input reads as it did. -/
def aesPowersSpec : ChangeSpec := { name := "aesPowers", fn := fun _ => fun
  | [d] => { results := [.lit (.bool true)], args := [d] }
  | _ => none }
def aesPowersRow : OpenClaim := { program := "ytmlaopohlmnegaa", sum := "f5e0bbcd98eadb094e47b915affa2c9b9dc011b724cdc1e6e2041bddc2a4b1d1", func := "banyan/banyanlaw04.AesPowers", spec := "aesPowers", unfollowed := true, recurses := true, apart := false }
def AesPowersSaid : Prop := aesPowersRow.holds Try.pinned (OpenSpec.ofChange aesPowersSpec)

/-- ITS FALSE NEIGHBOUR: 'it returns false'. Refute it at one input. -/
def aesPowersWrong : ChangeSpec := { name := "aesPowers", fn := fun _ => fun
  | [d] => { results := [.lit (.bool false)], args := [d] }
  | _ => none }
def AesPowersWrongFalsely : Prop := aesPowersRow.holds Try.pinned (OpenSpec.ofChange aesPowersWrong)

/-- 'banyanlaw04.AesBlocks': WHATEVER THE INPUT: true; the input reads as it did. -/
def aesBlocksSpec : ChangeSpec := { name := "aesBlocks", fn := fun _ => fun
  | [d1, d2] => { results := [.lit (.bool true)], args := [d1, d2] }
  | _ => none }
def aesBlocksRow : OpenClaim := { program := "ytmlaopohlmnegaa", sum := "f5e0bbcd98eadb094e47b915affa2c9b9dc011b724cdc1e6e2041bddc2a4b1d1", func := "banyan/banyanlaw04.AesBlocks", spec := "aesBlocks", unfollowed := true, recurses := true, apart := false }
def AesBlocksSaid : Prop := aesBlocksRow.holds Try.pinned (OpenSpec.ofChange aesBlocksSpec)

/-- ITS FALSE NEIGHBOUR: 'it returns false'. Refute it at one input. -/
def aesBlocksWrong : ChangeSpec := { name := "aesBlocks", fn := fun _ => fun
  | [d1, d2] => { results := [.lit (.bool false)], args := [d1, d2] }
  | _ => none }
def AesBlocksWrongFalsely : Prop := aesBlocksRow.holds Try.pinned (OpenSpec.ofChange aesBlocksWrong)

/-- 'banyanlaw04.AesKeys': WHATEVER THE INPUT: true; the input reads as it did. -/
def aesKeysSpec : ChangeSpec := { name := "aesKeys", fn := fun _ => fun
  | [d] => { results := [.lit (.bool true)], args := [d] }
  | _ => none }
def aesKeysRow : OpenClaim := { program := "ytmlaopohlmnegaa", sum := "f5e0bbcd98eadb094e47b915affa2c9b9dc011b724cdc1e6e2041bddc2a4b1d1", func := "banyan/banyanlaw04.AesKeys", spec := "aesKeys", unfollowed := true, recurses := true, apart := false }
def AesKeysSaid : Prop := aesKeysRow.holds Try.pinned (OpenSpec.ofChange aesKeysSpec)

/-- ITS FALSE NEIGHBOUR: 'it returns false'. Refute it at one input. -/
def aesKeysWrong : ChangeSpec := { name := "aesKeys", fn := fun _ => fun
  | [d] => { results := [.lit (.bool false)], args := [d] }
  | _ => none }
def AesKeysWrongFalsely : Prop := aesKeysRow.holds Try.pinned (OpenSpec.ofChange aesKeysWrong)

/- THE SECOND FORM. 'bulk': how many values and letters a reading holds, each counted each time it is reached (what is shared counts as often as it is met; a slice's spare places count too). A statement '..UptoSaid' is the law's where the arguments, and the package variables that the reading takes, are together of bulk at most 1048576: NARROWER than '..Said'. Prove '..Said' where nothing that the law and all that it calls make is longer than what came in: it says more and counts as full. Else prove '..UptoSaid'. A law counts once. -/
mutual
def uptoBulk {H : Type} : DataW H → Nat
  | .lit (.string bytes) => bytes.length + 1
  | .lit _ => 1
  | .nil => 1
  | .ptr d => uptoBulk d + 1
  | .slice elems spare => uptoBulkAll elems + uptoBulkAll spare + 1
  | .agg parts => uptoBulkAll parts + 1
  | .iface _ d => uptoBulk d + 1
  | .map entries => uptoBulkEntries entries + 1
  | .held _ => 1
def uptoBulkAll {H : Type} : List (DataW H) → Nat
  | [] => 0
  | d :: r => uptoBulk d + uptoBulkAll r
def uptoBulkEntries {H : Type} : List (Lit × DataW H) → Nat
  | [] => 0
  | x :: r => uptoBulkEntry x + uptoBulkEntries r
def uptoBulkEntry {H : Type} : Lit × DataW H → Nat
  | (.string bytes, d) => bytes.length + uptoBulk d + 1
  | (_, d) => uptoBulk d + 1
 end
def uptoSmall : (H : Type) → List (DataW H) → Bool := fun _ ds => decide (uptoBulkAll ds ≤ 1048576)
def OpenSpec.upto (s : _root_.Go.ChangeSpec) : _root_.Go.OpenSpec := { _root_.Go.OpenSpec.ofChange s with cond := some uptoSmall }

/-- 'banyanlaw04.AesBytes', WHERE WHAT IT READS IS OF BULK AT MOST 1048576: true; the input reads as it did. -/
def aesBytesUptoRow : OpenClaim := { program := "ytmlaopohlmnegaa", sum := "f5e0bbcd98eadb094e47b915affa2c9b9dc011b724cdc1e6e2041bddc2a4b1d1", func := "banyan/banyanlaw04.AesBytes", spec := "aesBytes", unfollowed := true, recurses := true, apart := false, narrowed := true }
def AesBytesUptoSaid : Prop := aesBytesUptoRow.holds Try.pinned (OpenSpec.upto aesBytesSpec)

/-- 'banyanlaw04.AesBack', WHERE WHAT IT READS IS OF BULK AT MOST 1048576: true; the input reads as it did. -/
def aesBackUptoRow : OpenClaim := { program := "ytmlaopohlmnegaa", sum := "f5e0bbcd98eadb094e47b915affa2c9b9dc011b724cdc1e6e2041bddc2a4b1d1", func := "banyan/banyanlaw04.AesBack", spec := "aesBack", unfollowed := true, recurses := true, apart := false, narrowed := true }
def AesBackUptoSaid : Prop := aesBackUptoRow.holds Try.pinned (OpenSpec.upto aesBackSpec)

/-- 'banyanlaw04.AesField', WHERE WHAT IT READS IS OF BULK AT MOST 1048576: true; the input reads as it did. -/
def aesFieldUptoRow : OpenClaim := { program := "ytmlaopohlmnegaa", sum := "f5e0bbcd98eadb094e47b915affa2c9b9dc011b724cdc1e6e2041bddc2a4b1d1", func := "banyan/banyanlaw04.AesField", spec := "aesField", unfollowed := true, recurses := true, apart := false, narrowed := true }
def AesFieldUptoSaid : Prop := aesFieldUptoRow.holds Try.pinned (OpenSpec.upto aesFieldSpec)

/-- 'banyanlaw04.AesBox', WHERE WHAT IT READS IS OF BULK AT MOST 1048576: true; the input reads as it did. -/
def aesBoxUptoRow : OpenClaim := { program := "ytmlaopohlmnegaa", sum := "f5e0bbcd98eadb094e47b915affa2c9b9dc011b724cdc1e6e2041bddc2a4b1d1", func := "banyan/banyanlaw04.AesBox", spec := "aesBox", unfollowed := true, recurses := true, apart := false, narrowed := true }
def AesBoxUptoSaid : Prop := aesBoxUptoRow.holds Try.pinned (OpenSpec.upto aesBoxSpec)

/-- 'banyanlaw04.AesPowers', WHERE WHAT IT READS IS OF BULK AT MOST 1048576: true; the input reads as it did. -/
def aesPowersUptoRow : OpenClaim := { program := "ytmlaopohlmnegaa", sum := "f5e0bbcd98eadb094e47b915affa2c9b9dc011b724cdc1e6e2041bddc2a4b1d1", func := "banyan/banyanlaw04.AesPowers", spec := "aesPowers", unfollowed := true, recurses := true, apart := false, narrowed := true }
def AesPowersUptoSaid : Prop := aesPowersUptoRow.holds Try.pinned (OpenSpec.upto aesPowersSpec)

/-- 'banyanlaw04.AesBlocks', WHERE WHAT IT READS IS OF BULK AT MOST 1048576: true; the input reads as it did. -/
def aesBlocksUptoRow : OpenClaim := { program := "ytmlaopohlmnegaa", sum := "f5e0bbcd98eadb094e47b915affa2c9b9dc011b724cdc1e6e2041bddc2a4b1d1", func := "banyan/banyanlaw04.AesBlocks", spec := "aesBlocks", unfollowed := true, recurses := true, apart := false, narrowed := true }
def AesBlocksUptoSaid : Prop := aesBlocksUptoRow.holds Try.pinned (OpenSpec.upto aesBlocksSpec)

/-- 'banyanlaw04.AesKeys', WHERE WHAT IT READS IS OF BULK AT MOST 1048576: true; the input reads as it did. -/
def aesKeysUptoRow : OpenClaim := { program := "ytmlaopohlmnegaa", sum := "f5e0bbcd98eadb094e47b915affa2c9b9dc011b724cdc1e6e2041bddc2a4b1d1", func := "banyan/banyanlaw04.AesKeys", spec := "aesKeys", unfollowed := true, recurses := true, apart := false, narrowed := true }
def AesKeysUptoSaid : Prop := aesKeysUptoRow.holds Try.pinned (OpenSpec.upto aesKeysSpec)

end Rows
end Go.Proofs.Ytmlaopohlmnegaa
