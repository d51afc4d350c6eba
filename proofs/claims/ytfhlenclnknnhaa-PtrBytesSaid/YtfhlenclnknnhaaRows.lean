/-
  No cell of these rows narrows 'for every input' (looked for: loops, veiled, ifaces, maps, wideKeys, modest, calm, conditions, laid).
  DERIVED. THE GIVEN ROWS OF THIS SEAT. 7 by the template 'for every input the law returns true; each argument reads behind the call as it read before'; 0 by the template 'total and deterministic' (their statements: YtfhlenclnknnhaaTotals.lean).
  GIVEN WITH THE SEED: the statements are not yours to turn. If you find one false, say at which input.
  Laid BY PROGRAM, IN A SANDBOX (cutbox-rows.mjs): the forced cells as the released guide's own fill.sh prints them over the translation b1606734556b4113… (all of the seat's roots in one cut). By AI agents, Wed Nov 11 2026. No macro, syntax, notation, axiom, sorry.
-/
import Derived.Test.YtfhlenclnknnhaaChecked
import GoSem.Claim
import GoSem.ClaimJoined
import GoSem.ClaimMapViews
import Derived.JoinedTies
import Derived.KernelRfl
namespace Go.Proofs.Ytfhlenclnknnhaa
/- THE CELL 'sum', in the pinned program and in every row, IS THE sha256 OF THE DUMP (.gsa) THAT YtfhlenclnknnhaaProg.lean LOADS. Nothing in Lean hashes anything: it is a label: what it is worth is what the hold of that sum in a sandbox is worth. -/
noncomputable def Try.pinned : Pinned := { name := "ytfhlenclnknnhaa", sum := "b1606734556b41132691cd64b7352746d239dcb6639d28ee99eb87abceced43e", checked := Try.checked }
namespace Rows
def none {H : Type} : Left H := { results := [], args := [] }

/-- 'banyanlaw08.PtrChecks': WHATEVER THE INPUT: true; the input reads as it did. -/
def ptrChecksSpec : ChangeSpec := { name := "ptrChecks", fn := fun _ => fun
  | [d1, d2, d3] => { results := [.lit (.bool true)], args := [d1, d2, d3] }
  | _ => none }
def ptrChecksRow : OpenClaim := { program := "ytfhlenclnknnhaa", sum := "b1606734556b41132691cd64b7352746d239dcb6639d28ee99eb87abceced43e", func := "banyan/banyanlaw08.PtrChecks", spec := "ptrChecks", plainKeys := false, apart := false }
def PtrChecksSaid : Prop := ptrChecksRow.holds Try.pinned (OpenSpec.ofChange ptrChecksSpec)

/-- ITS FALSE NEIGHBOUR: 'it returns false'. Refute it at one input. -/
def ptrChecksWrong : ChangeSpec := { name := "ptrChecks", fn := fun _ => fun
  | [d1, d2, d3] => { results := [.lit (.bool false)], args := [d1, d2, d3] }
  | _ => none }
def PtrChecksWrongFalsely : Prop := ptrChecksRow.holds Try.pinned (OpenSpec.ofChange ptrChecksWrong)

/-- 'banyanlaw08.PtrBack': WHATEVER THE INPUT: true; the input reads as it did. -/
def ptrBackSpec : ChangeSpec := { name := "ptrBack", fn := fun _ => fun
  | [d1, d2] => { results := [.lit (.bool true)], args := [d1, d2] }
  | _ => none }
def ptrBackRow : OpenClaim := { program := "ytfhlenclnknnhaa", sum := "b1606734556b41132691cd64b7352746d239dcb6639d28ee99eb87abceced43e", func := "banyan/banyanlaw08.PtrBack", spec := "ptrBack", plainKeys := false, apart := false }
def PtrBackSaid : Prop := ptrBackRow.holds Try.pinned (OpenSpec.ofChange ptrBackSpec)

/-- ITS FALSE NEIGHBOUR: 'it returns false'. Refute it at one input. -/
def ptrBackWrong : ChangeSpec := { name := "ptrBack", fn := fun _ => fun
  | [d1, d2] => { results := [.lit (.bool false)], args := [d1, d2] }
  | _ => none }
def PtrBackWrongFalsely : Prop := ptrBackRow.holds Try.pinned (OpenSpec.ofChange ptrBackWrong)

/-- 'banyanlaw08.PtrBytes': WHATEVER THE INPUT: true; the input reads as it did. -/
def ptrBytesSpec : ChangeSpec := { name := "ptrBytes", fn := fun _ => fun
  | [d1, d2, d3] => { results := [.lit (.bool true)], args := [d1, d2, d3] }
  | _ => none }
def ptrBytesRow : OpenClaim := { program := "ytfhlenclnknnhaa", sum := "b1606734556b41132691cd64b7352746d239dcb6639d28ee99eb87abceced43e", func := "banyan/banyanlaw08.PtrBytes", spec := "ptrBytes", plainKeys := false, apart := false }
def PtrBytesSaid : Prop := ptrBytesRow.holds Try.pinned (OpenSpec.ofChange ptrBytesSpec)

/-- ITS FALSE NEIGHBOUR: 'it returns false'. Refute it at one input. -/
def ptrBytesWrong : ChangeSpec := { name := "ptrBytes", fn := fun _ => fun
  | [d1, d2, d3] => { results := [.lit (.bool false)], args := [d1, d2, d3] }
  | _ => none }
def PtrBytesWrongFalsely : Prop := ptrBytesRow.holds Try.pinned (OpenSpec.ofChange ptrBytesWrong)

/-- 'banyanlaw08.PtrOrders': WHATEVER THE INPUT: true; the input reads as it did. -/
def ptrOrdersSpec : ChangeSpec := { name := "ptrOrders", fn := fun _ => fun
  | [d] => { results := [.lit (.bool true)], args := [d] }
  | _ => none }
def ptrOrdersRow : OpenClaim := { program := "ytfhlenclnknnhaa", sum := "b1606734556b41132691cd64b7352746d239dcb6639d28ee99eb87abceced43e", func := "banyan/banyanlaw08.PtrOrders", spec := "ptrOrders", inPlace := ["internal/bytealg.Compare"], unfollowed := true, recurses := true, plainKeys := false, apart := false }
def PtrOrdersSaid : Prop := ptrOrdersRow.holds Try.pinned (OpenSpec.ofChange ptrOrdersSpec)

/-- ITS FALSE NEIGHBOUR: 'it returns false'. Refute it at one input. -/
def ptrOrdersWrong : ChangeSpec := { name := "ptrOrders", fn := fun _ => fun
  | [d] => { results := [.lit (.bool false)], args := [d] }
  | _ => none }
def PtrOrdersWrongFalsely : Prop := ptrOrdersRow.holds Try.pinned (OpenSpec.ofChange ptrOrdersWrong)

/-- 'banyanlaw08.PtrCounts': WHATEVER THE INPUT: true; the input reads as it did. -/
def ptrCountsSpec : ChangeSpec := { name := "ptrCounts", fn := fun _ => fun
  | [d] => { results := [.lit (.bool true)], args := [d] }
  | _ => none }
def ptrCountsRow : OpenClaim := { program := "ytfhlenclnknnhaa", sum := "b1606734556b41132691cd64b7352746d239dcb6639d28ee99eb87abceced43e", func := "banyan/banyanlaw08.PtrCounts", spec := "ptrCounts", inPlace := ["internal/bytealg.Compare"], unfollowed := true, recurses := true, plainKeys := false, apart := false }
def PtrCountsSaid : Prop := ptrCountsRow.holds Try.pinned (OpenSpec.ofChange ptrCountsSpec)

/-- ITS FALSE NEIGHBOUR: 'it returns false'. Refute it at one input. -/
def ptrCountsWrong : ChangeSpec := { name := "ptrCounts", fn := fun _ => fun
  | [d] => { results := [.lit (.bool false)], args := [d] }
  | _ => none }
def PtrCountsWrongFalsely : Prop := ptrCountsRow.holds Try.pinned (OpenSpec.ofChange ptrCountsWrong)

/-- 'banyanlaw08.PtrAdds': WHATEVER THE INPUT: true; the input reads as it did. -/
def ptrAddsSpec : ChangeSpec := { name := "ptrAdds", fn := fun _ => fun
  | [d1, d2] => { results := [.lit (.bool true)], args := [d1, d2] }
  | _ => none }
def ptrAddsRow : OpenClaim := { program := "ytfhlenclnknnhaa", sum := "b1606734556b41132691cd64b7352746d239dcb6639d28ee99eb87abceced43e", func := "banyan/banyanlaw08.PtrAdds", spec := "ptrAdds", inPlace := ["internal/bytealg.Compare"], unfollowed := true, recurses := true, plainKeys := false, apart := false }
def PtrAddsSaid : Prop := ptrAddsRow.holds Try.pinned (OpenSpec.ofChange ptrAddsSpec)

/-- ITS FALSE NEIGHBOUR: 'it returns false'. Refute it at one input. -/
def ptrAddsWrong : ChangeSpec := { name := "ptrAdds", fn := fun _ => fun
  | [d1, d2] => { results := [.lit (.bool false)], args := [d1, d2] }
  | _ => none }
def PtrAddsWrongFalsely : Prop := ptrAddsRow.holds Try.pinned (OpenSpec.ofChange ptrAddsWrong)

/-- 'banyanlaw08.PtrAlike': WHATEVER THE INPUT: true; the input reads as it did. -/
def ptrAlikeSpec : ChangeSpec := { name := "ptrAlike", fn := fun _ => fun
  | [d1, d2] => { results := [.lit (.bool true)], args := [d1, d2] }
  | _ => none }
def ptrAlikeRow : OpenClaim := { program := "ytfhlenclnknnhaa", sum := "b1606734556b41132691cd64b7352746d239dcb6639d28ee99eb87abceced43e", func := "banyan/banyanlaw08.PtrAlike", spec := "ptrAlike", inPlace := ["internal/bytealg.Compare"], unfollowed := true, recurses := true, plainKeys := false, apart := false }
def PtrAlikeSaid : Prop := ptrAlikeRow.holds Try.pinned (OpenSpec.ofChange ptrAlikeSpec)

/-- ITS FALSE NEIGHBOUR: 'it returns false'. Refute it at one input. -/
def ptrAlikeWrong : ChangeSpec := { name := "ptrAlike", fn := fun _ => fun
  | [d1, d2] => { results := [.lit (.bool false)], args := [d1, d2] }
  | _ => none }
def PtrAlikeWrongFalsely : Prop := ptrAlikeRow.holds Try.pinned (OpenSpec.ofChange ptrAlikeWrong)

/- THE SECOND FORM. 'bulk': how many values and letters a reading holds, each counted each time it is reached (what is shared counts as often as it is met; a slice's spare places count too). A statement '..UptoSaid' is the law's where the arguments, and the package variables that the reading takes, are together of bulk at most 1048576: NARROWER than '..Said'. Prove '..Said' where nothing that the law and all that it calls make is longer than what came in: it says more and counts as full. Else prove '..UptoSaid'. A law counts once. -/
mutual
def uptoBulk {H : Type} : DataW H → Nat
  | .lit (.string bytes) => bytes.length + 1
  | .lit _ => 1
  | .nil => 1
  | .ptr d => uptoBulk d + 1
  | .slice elems spare => uptoBulkAll elems + uptoBulkAll spare + 1
  | .agg parts => uptoBulkAll parts + 1
  | .iface _ d => uptoBulk d + 1
  | .map entries => uptoBulkEntries entries + 1
  | .held _ => 1
def uptoBulkAll {H : Type} : List (DataW H) → Nat
  | [] => 0
  | d :: r => uptoBulk d + uptoBulkAll r
def uptoBulkEntries {H : Type} : List (Lit × DataW H) → Nat
  | [] => 0
  | x :: r => uptoBulkEntry x + uptoBulkEntries r
def uptoBulkEntry {H : Type} : Lit × DataW H → Nat
  | (.string bytes, d) => bytes.length + uptoBulk d + 1
  | (_, d) => uptoBulk d + 1
 end
def uptoSmall : (H : Type) → List (DataW H) → Bool := fun _ ds => decide (uptoBulkAll ds ≤ 1048576)
def OpenSpec.upto (s : _root_.Go.ChangeSpec) : _root_.Go.OpenSpec := { _root_.Go.OpenSpec.ofChange s with cond := some uptoSmall }

/-- 'banyanlaw08.PtrChecks', WHERE WHAT IT READS IS OF BULK AT MOST 1048576: true; the input reads as it did. -/
def ptrChecksUptoRow : OpenClaim := { program := "ytfhlenclnknnhaa", sum := "b1606734556b41132691cd64b7352746d239dcb6639d28ee99eb87abceced43e", func := "banyan/banyanlaw08.PtrChecks", spec := "ptrChecks", plainKeys := false, apart := false, narrowed := true }
def PtrChecksUptoSaid : Prop := ptrChecksUptoRow.holds Try.pinned (OpenSpec.upto ptrChecksSpec)

/-- 'banyanlaw08.PtrBack', WHERE WHAT IT READS IS OF BULK AT MOST 1048576: true; the input reads as it did. -/
def ptrBackUptoRow : OpenClaim := { program := "ytfhlenclnknnhaa", sum := "b1606734556b41132691cd64b7352746d239dcb6639d28ee99eb87abceced43e", func := "banyan/banyanlaw08.PtrBack", spec := "ptrBack", plainKeys := false, apart := false, narrowed := true }
def PtrBackUptoSaid : Prop := ptrBackUptoRow.holds Try.pinned (OpenSpec.upto ptrBackSpec)

/-- 'banyanlaw08.PtrBytes', WHERE WHAT IT READS IS OF BULK AT MOST 1048576: true; the input reads as it did. -/
def ptrBytesUptoRow : OpenClaim := { program := "ytfhlenclnknnhaa", sum := "b1606734556b41132691cd64b7352746d239dcb6639d28ee99eb87abceced43e", func := "banyan/banyanlaw08.PtrBytes", spec := "ptrBytes", plainKeys := false, apart := false, narrowed := true }
def PtrBytesUptoSaid : Prop := ptrBytesUptoRow.holds Try.pinned (OpenSpec.upto ptrBytesSpec)

/-- 'banyanlaw08.PtrOrders', WHERE WHAT IT READS IS OF BULK AT MOST 1048576: true; the input reads as it did. -/
def ptrOrdersUptoRow : OpenClaim := { program := "ytfhlenclnknnhaa", sum := "b1606734556b41132691cd64b7352746d239dcb6639d28ee99eb87abceced43e", func := "banyan/banyanlaw08.PtrOrders", spec := "ptrOrders", inPlace := ["internal/bytealg.Compare"], unfollowed := true, recurses := true, plainKeys := false, apart := false, narrowed := true }
def PtrOrdersUptoSaid : Prop := ptrOrdersUptoRow.holds Try.pinned (OpenSpec.upto ptrOrdersSpec)

/-- 'banyanlaw08.PtrCounts', WHERE WHAT IT READS IS OF BULK AT MOST 1048576: true; the input reads as it did. -/
def ptrCountsUptoRow : OpenClaim := { program := "ytfhlenclnknnhaa", sum := "b1606734556b41132691cd64b7352746d239dcb6639d28ee99eb87abceced43e", func := "banyan/banyanlaw08.PtrCounts", spec := "ptrCounts", inPlace := ["internal/bytealg.Compare"], unfollowed := true, recurses := true, plainKeys := false, apart := false, narrowed := true }
def PtrCountsUptoSaid : Prop := ptrCountsUptoRow.holds Try.pinned (OpenSpec.upto ptrCountsSpec)

/-- 'banyanlaw08.PtrAdds', WHERE WHAT IT READS IS OF BULK AT MOST 1048576: true; the input reads as it did. -/
def ptrAddsUptoRow : OpenClaim := { program := "ytfhlenclnknnhaa", sum := "b1606734556b41132691cd64b7352746d239dcb6639d28ee99eb87abceced43e", func := "banyan/banyanlaw08.PtrAdds", spec := "ptrAdds", inPlace := ["internal/bytealg.Compare"], unfollowed := true, recurses := true, plainKeys := false, apart := false, narrowed := true }
def PtrAddsUptoSaid : Prop := ptrAddsUptoRow.holds Try.pinned (OpenSpec.upto ptrAddsSpec)

/-- 'banyanlaw08.PtrAlike', WHERE WHAT IT READS IS OF BULK AT MOST 1048576: true; the input reads as it did. -/
def ptrAlikeUptoRow : OpenClaim := { program := "ytfhlenclnknnhaa", sum := "b1606734556b41132691cd64b7352746d239dcb6639d28ee99eb87abceced43e", func := "banyan/banyanlaw08.PtrAlike", spec := "ptrAlike", inPlace := ["internal/bytealg.Compare"], unfollowed := true, recurses := true, plainKeys := false, apart := false, narrowed := true }
def PtrAlikeUptoSaid : Prop := ptrAlikeUptoRow.holds Try.pinned (OpenSpec.upto ptrAlikeSpec)

end Rows
end Go.Proofs.Ytfhlenclnknnhaa
