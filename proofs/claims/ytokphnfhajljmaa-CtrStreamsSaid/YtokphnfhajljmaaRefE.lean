/- The document's table: plain laws. -/
import Derived.Test.YtokphnfhajljmaaRefC
set_option linter.unusedVariables false
set_option linter.unusedSimpArgs false
namespace Go.Proofs.PlainAes
set_option maxRecDepth 100000
/-- The powers of 3. -/
def p3 : Nat → Nat
  | 0 => 1
  | i + 1 => mul (p3 i) 3
def powT : List Nat := [1, 3, 5, 15, 17, 51, 85, 255, 26, 46, 114, 150, 161, 248, 19, 53, 95, 225, 56, 72, 216, 115, 149, 164, 247, 2, 6, 10, 30, 34, 102, 170, 229, 52, 92, 228, 55, 89, 235, 38, 106, 190, 217, 112, 144, 171, 230, 49, 83, 245, 4, 12, 20, 60, 68, 204, 79, 209, 104, 184, 211, 110, 178, 205, 76, 212, 103, 169, 224, 59, 77, 215, 98, 166, 241, 8, 24, 40, 120, 136, 131, 158, 185, 208, 107, 189, 220, 127, 129, 152, 179, 206, 73, 219, 118, 154, 181, 196, 87, 249, 16, 48, 80, 240, 11, 29, 39, 105, 187, 214, 97, 163, 254, 25, 43, 125, 135, 146, 173, 236, 47, 113, 147, 174, 233, 32, 96, 160, 251, 22, 58, 78, 210, 109, 183, 194, 93, 231, 50, 86, 250, 21, 63, 65, 195, 94, 226, 61, 71, 201, 64, 192, 91, 237, 44, 116, 156, 191, 218, 117, 159, 186, 213, 100, 172, 239, 42, 126, 130, 157, 188, 223, 122, 142, 137, 128, 155, 182, 193, 88, 232, 35, 101, 175, 234, 37, 111, 177, 200, 67, 197, 84, 252, 31, 33, 99, 165, 244, 7, 9, 27, 45, 119, 153, 176, 203, 70, 202, 69, 207, 74, 222, 121, 139, 134, 145, 168, 227, 62, 66, 198, 81, 243, 14, 18, 54, 90, 238, 41, 123, 141, 140, 143, 138, 133, 148, 167, 242, 13, 23, 57, 75, 221, 124, 132, 151, 162, 253, 28, 36, 108, 180, 199, 82, 246, 1]
theorem p3_lt : ∀ i, p3 i < 256
  | 0 => by decide
  | i + 1 => mul_lt 3 (p3_lt i)
theorem powT_step : (List.range 255).all (fun i => mul (gd powT i) 3 == gd powT (i + 1)) = true := by decide +kernel
theorem gd_powT : ∀ i, i < 256 → gd powT i = p3 i
  | 0, _ => by decide +kernel
  | i + 1, h => by
    have h1 := gd_powT i (by omega)
    have h2 := List.all_eq_true.1 powT_step i (List.mem_range.2 (by omega))
    rw [beq_iff_eq, h1] at h2
    rw [← h2, p3]
theorem powT_len : powT.length = 256 := by decide +kernel
theorem powT_byt : ∀ x ∈ powT, x < 256 := by decide +kernel
/-- The table, so many of its places laid. -/
def tabN : Nat → List Nat
  | 0 => (List.replicate 256 0).set 0 (boxed 0)
  | j + 1 => (tabN j).set (gd powT j) (boxed (gd powT (255 - j)))
theorem tabN_len : ∀ j, (tabN j).length = 256
  | 0 => by simp [tabN]
  | j + 1 => by rw [tabN, List.length_set]; exact tabN_len j
theorem tab_all : tabN 255 = mk 256 box := by decide +kernel
end Go.Proofs.PlainAes
