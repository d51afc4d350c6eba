/-
  No cell of these rows narrows 'for every input' (looked for: loops, veiled, ifaces, maps, wideKeys, modest, calm, conditions, laid).
  DERIVED. THE GIVEN ROWS OF THIS SEAT. 7 by the template 'for every input the law returns true; each argument reads behind the call as it read before'; 0 by the template 'total and deterministic' (their statements: YtkpefffephbhnaaTotals.lean).
  GIVEN WITH THE SEED: the statements are not yours to turn. If you find one false, say at which input.
  Laid BY PROGRAM, IN A SANDBOX (cutbox-rows.mjs): the forced cells as the released guide's own fill.sh prints them over the translation 7a1dc6664284dc6b… (all of the seat's roots in one cut). By AI agents, Wed Nov 11 2026. No macro, syntax, notation, axiom, sorry.
-/
import Derived.Test.YtkpefffephbhnaaChecked
import GoSem.Claim
import GoSem.ClaimJoined
import GoSem.ClaimMapViews
import Derived.JoinedTies
import Derived.KernelRfl
namespace Go.Proofs.Ytkpefffephbhnaa
/- THE CELL 'sum', in the pinned program and in every row, IS THE sha256 OF THE DUMP (.gsa) THAT YtkpefffephbhnaaProg.lean LOADS. Nothing in Lean hashes anything: it is a label: what it is worth is what the hold of that sum in a sandbox is worth. -/
noncomputable def Try.pinned : Pinned := { name := "ytkpefffephbhnaa", sum := "7a1dc6664284dc6b5898e77149735d084c6e56d840a5d448e97cf723258dcd39", checked := Try.checked }
namespace Rows
def none {H : Type} : Left H := { results := [], args := [] }

/-- 'banyanlaw06.DevKept': WHATEVER THE INPUT: true; the input reads as it did. -/
def devKeptSpec : ChangeSpec := { name := "devKept", fn := fun _ => fun
  | [d1, d2] => { results := [.lit (.bool true)], args := [d1, d2] }
  | _ => none }
def devKeptRow : OpenClaim := { program := "ytkpefffephbhnaa", sum := "7a1dc6664284dc6b5898e77149735d084c6e56d840a5d448e97cf723258dcd39", func := "banyan/banyanlaw06.DevKept", spec := "devKept", apart := false }
def DevKeptSaid : Prop := devKeptRow.holds Try.pinned (OpenSpec.ofChange devKeptSpec)

/-- ITS FALSE NEIGHBOUR: 'it returns false'. Refute it at one input. -/
def devKeptWrong : ChangeSpec := { name := "devKept", fn := fun _ => fun
  | [d1, d2] => { results := [.lit (.bool false)], args := [d1, d2] }
  | _ => none }
def DevKeptWrongFalsely : Prop := devKeptRow.holds Try.pinned (OpenSpec.ofChange devKeptWrong)

/-- 'banyanlaw06.DevReads': WHATEVER THE INPUT: true; the input reads as it did. -/
def devReadsSpec : ChangeSpec := { name := "devReads", fn := fun _ => fun
  | [d1, d2, d3] => { results := [.lit (.bool true)], args := [d1, d2, d3] }
  | _ => none }
def devReadsRow : OpenClaim := { program := "ytkpefffephbhnaa", sum := "7a1dc6664284dc6b5898e77149735d084c6e56d840a5d448e97cf723258dcd39", func := "banyan/banyanlaw06.DevReads", spec := "devReads", apart := false }
def DevReadsSaid : Prop := devReadsRow.holds Try.pinned (OpenSpec.ofChange devReadsSpec)

/-- ITS FALSE NEIGHBOUR: 'it returns false'. Refute it at one input. -/
def devReadsWrong : ChangeSpec := { name := "devReads", fn := fun _ => fun
  | [d1, d2, d3] => { results := [.lit (.bool false)], args := [d1, d2, d3] }
  | _ => none }
def DevReadsWrongFalsely : Prop := devReadsRow.holds Try.pinned (OpenSpec.ofChange devReadsWrong)

/-- 'banyanlaw06.DevOwn': WHATEVER THE INPUT: true; the input reads as it did. -/
def devOwnSpec : ChangeSpec := { name := "devOwn", fn := fun _ => fun
  | [d1, d2] => { results := [.lit (.bool true)], args := [d1, d2] }
  | _ => none }
def devOwnRow : OpenClaim := { program := "ytkpefffephbhnaa", sum := "7a1dc6664284dc6b5898e77149735d084c6e56d840a5d448e97cf723258dcd39", func := "banyan/banyanlaw06.DevOwn", spec := "devOwn", apart := false }
def DevOwnSaid : Prop := devOwnRow.holds Try.pinned (OpenSpec.ofChange devOwnSpec)

/-- ITS FALSE NEIGHBOUR: 'it returns false'. Refute it at one input. -/
def devOwnWrong : ChangeSpec := { name := "devOwn", fn := fun _ => fun
  | [d1, d2] => { results := [.lit (.bool false)], args := [d1, d2] }
  | _ => none }
def DevOwnWrongFalsely : Prop := devOwnRow.holds Try.pinned (OpenSpec.ofChange devOwnWrong)

/-- 'banyanlaw06.DevLimits': WHATEVER THE INPUT: true; the input reads as it did. -/
def devLimitsSpec : ChangeSpec := { name := "devLimits", fn := fun _ => fun
  | [d1, d2] => { results := [.lit (.bool true)], args := [d1, d2] }
  | _ => none }
def devLimitsRow : OpenClaim := { program := "ytkpefffephbhnaa", sum := "7a1dc6664284dc6b5898e77149735d084c6e56d840a5d448e97cf723258dcd39", func := "banyan/banyanlaw06.DevLimits", spec := "devLimits", apart := false }
def DevLimitsSaid : Prop := devLimitsRow.holds Try.pinned (OpenSpec.ofChange devLimitsSpec)

/-- ITS FALSE NEIGHBOUR: 'it returns false'. Refute it at one input. -/
def devLimitsWrong : ChangeSpec := { name := "devLimits", fn := fun _ => fun
  | [d1, d2] => { results := [.lit (.bool false)], args := [d1, d2] }
  | _ => none }
def DevLimitsWrongFalsely : Prop := devLimitsRow.holds Try.pinned (OpenSpec.ofChange devLimitsWrong)

/-- 'banyanlaw06.DevLasts': WHATEVER THE INPUT: true; the input reads as it did. -/
def devLastsSpec : ChangeSpec := { name := "devLasts", fn := fun _ => fun
  | [d] => { results := [.lit (.bool true)], args := [d] }
  | _ => none }
def devLastsRow : OpenClaim := { program := "ytkpefffephbhnaa", sum := "7a1dc6664284dc6b5898e77149735d084c6e56d840a5d448e97cf723258dcd39", func := "banyan/banyanlaw06.DevLasts", spec := "devLasts", apart := false }
def DevLastsSaid : Prop := devLastsRow.holds Try.pinned (OpenSpec.ofChange devLastsSpec)

/-- ITS FALSE NEIGHBOUR: 'it returns false'. Refute it at one input. -/
def devLastsWrong : ChangeSpec := { name := "devLasts", fn := fun _ => fun
  | [d] => { results := [.lit (.bool false)], args := [d] }
  | _ => none }
def DevLastsWrongFalsely : Prop := devLastsRow.holds Try.pinned (OpenSpec.ofChange devLastsWrong)

/-- 'banyanlaw06.DevTwice': WHATEVER THE INPUT: true; the input reads as it did. -/
def devTwiceSpec : ChangeSpec := { name := "devTwice", fn := fun _ => fun
  | [d1, d2] => { results := [.lit (.bool true)], args := [d1, d2] }
  | _ => none }
def devTwiceRow : OpenClaim := { program := "ytkpefffephbhnaa", sum := "7a1dc6664284dc6b5898e77149735d084c6e56d840a5d448e97cf723258dcd39", func := "banyan/banyanlaw06.DevTwice", spec := "devTwice", apart := false }
def DevTwiceSaid : Prop := devTwiceRow.holds Try.pinned (OpenSpec.ofChange devTwiceSpec)

/-- ITS FALSE NEIGHBOUR: 'it returns false'. Refute it at one input. -/
def devTwiceWrong : ChangeSpec := { name := "devTwice", fn := fun _ => fun
  | [d1, d2] => { results := [.lit (.bool false)], args := [d1, d2] }
  | _ => none }
def DevTwiceWrongFalsely : Prop := devTwiceRow.holds Try.pinned (OpenSpec.ofChange devTwiceWrong)

/-- 'banyanlaw06.DevActs': WHATEVER THE INPUT: true; the input reads as it did. -/
def devActsSpec : ChangeSpec := { name := "devActs", fn := fun _ => fun
  | [d1, d2] => { results := [.lit (.bool true)], args := [d1, d2] }
  | _ => none }
def devActsRow : OpenClaim := { program := "ytkpefffephbhnaa", sum := "7a1dc6664284dc6b5898e77149735d084c6e56d840a5d448e97cf723258dcd39", func := "banyan/banyanlaw06.DevActs", spec := "devActs", apart := false }
def DevActsSaid : Prop := devActsRow.holds Try.pinned (OpenSpec.ofChange devActsSpec)

/-- ITS FALSE NEIGHBOUR: 'it returns false'. Refute it at one input. -/
def devActsWrong : ChangeSpec := { name := "devActs", fn := fun _ => fun
  | [d1, d2] => { results := [.lit (.bool false)], args := [d1, d2] }
  | _ => none }
def DevActsWrongFalsely : Prop := devActsRow.holds Try.pinned (OpenSpec.ofChange devActsWrong)

/- THE SECOND FORM. 'bulk': how many values and letters a reading holds, each counted each time it is reached (what is shared counts as often as it is met; a slice's spare places count too). A statement '..UptoSaid' is the law's where the arguments, and the package variables that the reading takes, are together of bulk at most 1048576: NARROWER than '..Said'. Prove '..Said' where nothing that the law and all that it calls make is longer than what came in: it says more and counts as full. Else prove '..UptoSaid'. A law counts once. -/
mutual
def uptoBulk {H : Type} : DataW H → Nat
  | .lit (.string bytes) => bytes.length + 1
  | .lit _ => 1
  | .nil => 1
  | .ptr d => uptoBulk d + 1
  | .slice elems spare => uptoBulkAll elems + uptoBulkAll spare + 1
  | .agg parts => uptoBulkAll parts + 1
  | .iface _ d => uptoBulk d + 1
  | .map entries => uptoBulkEntries entries + 1
  | .held _ => 1
def uptoBulkAll {H : Type} : List (DataW H) → Nat
  | [] => 0
  | d :: r => uptoBulk d + uptoBulkAll r
def uptoBulkEntries {H : Type} : List (Lit × DataW H) → Nat
  | [] => 0
  | x :: r => uptoBulkEntry x + uptoBulkEntries r
def uptoBulkEntry {H : Type} : Lit × DataW H → Nat
  | (.string bytes, d) => bytes.length + uptoBulk d + 1
  | (_, d) => uptoBulk d + 1
 end
def uptoSmall : (H : Type) → List (DataW H) → Bool := fun _ ds => decide (uptoBulkAll ds ≤ 1048576)
def OpenSpec.upto (s : _root_.Go.ChangeSpec) : _root_.Go.OpenSpec := { _root_.Go.OpenSpec.ofChange s with cond := some uptoSmall }

/-- 'banyanlaw06.DevKept', WHERE WHAT IT READS IS OF BULK AT MOST 1048576: true; the input reads as it did. -/
def devKeptUptoRow : OpenClaim := { program := "ytkpefffephbhnaa", sum := "7a1dc6664284dc6b5898e77149735d084c6e56d840a5d448e97cf723258dcd39", func := "banyan/banyanlaw06.DevKept", spec := "devKept", apart := false, narrowed := true }
def DevKeptUptoSaid : Prop := devKeptUptoRow.holds Try.pinned (OpenSpec.upto devKeptSpec)

/-- 'banyanlaw06.DevReads', WHERE WHAT IT READS IS OF BULK AT MOST 1048576: true; the input reads as it did. -/
def devReadsUptoRow : OpenClaim := { program := "ytkpefffephbhnaa", sum := "7a1dc6664284dc6b5898e77149735d084c6e56d840a5d448e97cf723258dcd39", func := "banyan/banyanlaw06.DevReads", spec := "devReads", apart := false, narrowed := true }
def DevReadsUptoSaid : Prop := devReadsUptoRow.holds Try.pinned (OpenSpec.upto devReadsSpec)

/-- 'banyanlaw06.DevOwn', WHERE WHAT IT READS IS OF BULK AT MOST 1048576: true; the input reads as it did. -/
def devOwnUptoRow : OpenClaim := { program := "ytkpefffephbhnaa", sum := "7a1dc6664284dc6b5898e77149735d084c6e56d840a5d448e97cf723258dcd39", func := "banyan/banyanlaw06.DevOwn", spec := "devOwn", apart := false, narrowed := true }
def DevOwnUptoSaid : Prop := devOwnUptoRow.holds Try.pinned (OpenSpec.upto devOwnSpec)

/-- 'banyanlaw06.DevLimits', WHERE WHAT IT READS IS OF BULK AT MOST 1048576: true; the input reads as it did. -/
def devLimitsUptoRow : OpenClaim := { program := "ytkpefffephbhnaa", sum := "7a1dc6664284dc6b5898e77149735d084c6e56d840a5d448e97cf723258dcd39", func := "banyan/banyanlaw06.DevLimits", spec := "devLimits", apart := false, narrowed := true }
def DevLimitsUptoSaid : Prop := devLimitsUptoRow.holds Try.pinned (OpenSpec.upto devLimitsSpec)

/-- 'banyanlaw06.DevLasts', WHERE WHAT IT READS IS OF BULK AT MOST 1048576: true; the input reads as it did. -/
def devLastsUptoRow : OpenClaim := { program := "ytkpefffephbhnaa", sum := "7a1dc6664284dc6b5898e77149735d084c6e56d840a5d448e97cf723258dcd39", func := "banyan/banyanlaw06.DevLasts", spec := "devLasts", apart := false, narrowed := true }
def DevLastsUptoSaid : Prop := devLastsUptoRow.holds Try.pinned (OpenSpec.upto devLastsSpec)

/-- 'banyanlaw06.DevTwice', WHERE WHAT IT READS IS OF BULK AT MOST 1048576: true; the input reads as it did. -/
def devTwiceUptoRow : OpenClaim := { program := "ytkpefffephbhnaa", sum := "7a1dc6664284dc6b5898e77149735d084c6e56d840a5d448e97cf723258dcd39", func := "banyan/banyanlaw06.DevTwice", spec := "devTwice", apart := false, narrowed := true }
def DevTwiceUptoSaid : Prop := devTwiceUptoRow.holds Try.pinned (OpenSpec.upto devTwiceSpec)

/-- 'banyanlaw06.DevActs', WHERE WHAT IT READS IS OF BULK AT MOST 1048576: true; the input reads as it did. -/
def devActsUptoRow : OpenClaim := { program := "ytkpefffephbhnaa", sum := "7a1dc6664284dc6b5898e77149735d084c6e56d840a5d448e97cf723258dcd39", func := "banyan/banyanlaw06.DevActs", spec := "devActs", apart := false, narrowed := true }
def DevActsUptoSaid : Prop := devActsUptoRow.holds Try.pinned (OpenSpec.upto devActsSpec)

end Rows
end Go.Proofs.Ytkpefffephbhnaa
