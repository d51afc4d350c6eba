/- Plain laws of the nonce. -/
import Derived.Test.YtlifpmglaoppoaaQ12P2
set_option linter.unusedVariables false
set_option linter.unusedSimpArgs false
namespace Go.Proofs.PlainSeal
open Go.Proofs.PlainAes

/-- The nonce of a birth and an address. -/
def nonceL (b a : Nat) : List Nat := be4 (b / 4294967296) ++ (be4 (b % 4294967296) ++ be4 a)
@[simp] theorem nonceL_length (b a : Nat) : (nonceL b a).length = 12 := rfl
theorem app_byt {a b : List Nat} (ha : ∀ x ∈ a, x < 256) (hb : ∀ x ∈ b, x < 256) : ∀ x ∈ a ++ b, x < 256 := fun x h => (List.mem_append.1 h).elim (ha x) (hb x)
theorem nonceL_byt (b a : Nat) : ∀ x ∈ nonceL b a, x < 256 := app_byt (be4_byt _) (app_byt (be4_byt _) (be4_byt _))
end Go.Proofs.PlainSeal
