/- What a maker of bytes answers. -/
import Derived.Test.YtfhlenclnknnhaaBase
import Derived.Test.YtfhlenclnknnhaaShaP
import Derived.Deep.OwnRows
set_option linter.unusedVariables false
set_option linter.unusedSimpArgs false
namespace Go.Proofs.Ytfhlenclnknnhaa
open Go.RowKit
open Go.Proofs.PlainSha

theorem infoU8 : (Try.prog.info? 5).map (fun i => (i.zero, i.size, i.bytes)) = some (some (.int .u8 0), 1, 1) := by kernel_rfl

theorem putB_get (x n k : Nat) (hk : k < n) : (bv (putB x n))[k]? = some (.int .u8 ((x : Int) / 2 ^ (8 * (n - 1 - k)) % 256)) := by
  rw [bv_get]
  simp [putB, hk]

/-- What a function that makes a slice of bytes answers, with an error's number. -/
def RetB (l : List Nat) (c : Int) (w : World) (e : Ending) (w' : World) : Prop := ∃ v, e = .returned (.tuple #[v, .int .i64 c]) ∧ Sl w' v (bv l) ∧ Below w.heap.size w w'

end Go.Proofs.Ytfhlenclnknnhaa
