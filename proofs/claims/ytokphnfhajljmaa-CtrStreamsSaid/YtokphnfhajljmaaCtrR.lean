/- The region that all statements of layer 5 begin with: a struct's four fields, two of them arrays, into variables of their own. -/
import Derived.Test.YtokphnfhajljmaaCtrL
import Derived.Test.YtokphnfhajljmaaRegB
import Derived.Test.YtokphnfhajljmaaCtrR0
set_option linter.unusedVariables false
set_option linter.unusedSimpArgs false
namespace Go.Proofs.Ytokphnfhajljmaa
open Go.RowKit
open Go.Proofs.PlainAes

end Go.Proofs.Ytokphnfhajljmaa
