/- Contracts of banyanref02: three, small; banyanref01: Bytes. -/
import Derived.Test.YtlifpmglaoppoaaQ12P3
import Derived.Test.YtlifpmglaoppoaaRbT
set_option linter.unusedVariables false
set_option linter.unusedSimpArgs false
namespace Go.Proofs.Ytlifpmglaoppoaa
open Go.RowKit
open Go.Proofs.PlainAes
open Go.Proofs.PlainSha

theorem rturnR (x a : Nat) (ni : Int) (hx : x < 4294967296) (e : ni = -(a : Int)) (h1 : 1 ≤ a) (h2 : a ≤ 31) (w : World) : Calls Try.prog 93 #[.int .u32 (x : Int), .int .i64 ni] w fun e w' => e = .returned (.int .u32 (turn x (32 - a) : Nat)) ∧ Below w.heap.size w w' := by
  subst e
  have h := rturn_any x (-(a : Int)) w hx (by omega) (by omega)
  rw [show (-(a : Int) % 32).toNat = 32 - a from by omega] at h
  exact h
set_option maxRecDepth 100000 in
theorem three_any (x a b c : Nat) (hx : x < 4294967296) (a1 : 1 ≤ a) (a2 : a ≤ 31) (b1 : 1 ≤ b) (b2 : b ≤ 31) (c1 : 1 ≤ c) (c2 : c ≤ 31) (w : World) :
    Calls Try.prog 84 #[.int .u32 (x : Int), .int .i64 (a : Int), .int .i64 (b : Int), .int .i64 (c : Int)] w fun e w' => e = .returned (.int .u32 (mixW x (32 - a) (32 - b) (32 - c) : Nat)) ∧ Below w.heap.size w w' := by
  have ha := Lib.hid (fun w => rturnR x a (IntKind.i64.wrap (-(a : Int))) hx (IntWalk.i64_in _ (by omega)) a1 a2 w)
  have hb := Lib.hid (fun w => rturnR x b (IntKind.i64.wrap (-(b : Int))) hx (IntWalk.i64_in _ (by omega)) b1 b2 w)
  have hc := Lib.hid (fun w => rturnR x c (IntKind.i64.wrap (-(c : Int))) hx (IntWalk.i64_in _ (by omega)) c1 c2 w)
  have hm : Hid (mixW x (32 - a) (32 - b) (32 - c) = turn x (32 - a) ^^^ turn x (32 - b) ^^^ turn x (32 - c)) := rfl
  have ta := turn_lt (k := 32 - a) hx
  have tb := turn_lt (k := 32 - b) hx
  have tc := turn_lt (k := 32 - c) hx
  generalize mixW x (32 - a) (32 - b) (32 - c) = R at *
  generalize turn x (32 - a) = X at *
  generalize turn x (32 - b) = Y at *
  generalize turn x (32 - c) = Z at *
  have e1 := x32 ta tb
  have e2 := x32 (xor32 ta tb) tc
  have w1 : IntKind.i64.wrap (-(a : Int)) = -(a : Int) := IntWalk.i64_in _ (by omega)
  have w2 : IntKind.i64.wrap (-(b : Int)) = -(b : Int) := IntWalk.i64_in _ (by omega)
  have w3 : IntKind.i64.wrap (-(c : Int)) = -(c : Int) := IntWalk.i64_in _ (by omega)
  rw [w1] at ha
  rw [w2] at hb
  rw [w3] at hc
  clear a1 a2 b1 b2 c1 c2 hx
  go_enter Try.func84, Try.ntmps84
  go_wp2_with fail
  refine (ha.out _).mono ?_
  rintro e w1 ⟨rfl, hB1⟩
  go_wp2_with fail
  refine (hb.out _).mono ?_
  rintro e w2 ⟨rfl, hB2⟩
  have hB2' := below_call hB1 hB1.size hB2
  clear hB1 hB2
  go_wp2_with fail
  refine (hc.out _).mono ?_
  rintro e w3 ⟨rfl, hB3⟩
  have hB3' := below_call hB2' hB2'.size hB3
  clear hB2' hB3
  go_wp2
  go_ret
  exact ⟨by rw [hm.out]; rfl, hB3'⟩
set_option maxRecDepth 100000 in
theorem small_any (x a b c : Nat) (hx : x < 4294967296) (a1 : 1 ≤ a) (a2 : a ≤ 31) (b1 : 1 ≤ b) (b2 : b ≤ 31) (c2 : c ≤ 31) (w : World) :
    Calls Try.prog 83 #[.int .u32 (x : Int), .int .i64 (a : Int), .int .i64 (b : Int), .int .u64 (c : Int)] w fun e w' => e = .returned (.int .u32 ((turn x (32 - a) ^^^ turn x (32 - b) ^^^ x / 2 ^ c : Nat) : Int)) ∧ Below w.heap.size w w' := by
  have ha := Lib.hid (fun w => rturnR x a (IntKind.i64.wrap (-(a : Int))) hx (IntWalk.i64_in _ (by omega)) a1 a2 w)
  have hb := Lib.hid (fun w => rturnR x b (IntKind.i64.wrap (-(b : Int))) hx (IntWalk.i64_in _ (by omega)) b1 b2 w)
  have ta := turn_lt (k := 32 - a) hx
  have tb := turn_lt (k := 32 - b) hx
  generalize turn x (32 - a) = X at *
  generalize turn x (32 - b) = Y at *
  have tz : x / 2 ^ c < 4294967296 := Nat.lt_of_le_of_lt (Nat.div_le_self _ _) hx
  have e1 := x32 ta tb
  have hcast : ((x / 2 ^ c : Nat) : Int) = (x : Int) / 2 ^ c := by simp
  have e2 := (x32 (xor32 ta tb) tz).1
  rw [hcast] at e2
  have hcI : (c : Int) ≤ 31 := by omega
  clear hcast tz c2
  have w1 : IntKind.i64.wrap (-(a : Int)) = -(a : Int) := IntWalk.i64_in _ (by omega)
  have w2 : IntKind.i64.wrap (-(b : Int)) = -(b : Int) := IntWalk.i64_in _ (by omega)
  rw [w1] at ha
  rw [w2] at hb
  clear a1 a2 b1 b2 hx
  go_enter Try.func83, Try.ntmps83
  go_wp2_with fail
  refine (ha.out _).mono ?_
  rintro e w1 ⟨rfl, hB1⟩
  go_wp2_with fail
  refine (hb.out _).mono ?_
  rintro e w2 ⟨rfl, hB2⟩
  have hB2' := below_call hB1 hB1.size hB2
  clear hB1 hB2
  go_wp2
  go_ret
  exact ⟨rfl, hB2'⟩
end Go.Proofs.Ytlifpmglaoppoaa
