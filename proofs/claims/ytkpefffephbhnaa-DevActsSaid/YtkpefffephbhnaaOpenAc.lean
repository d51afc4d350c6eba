/- The argument of DevActs: a row of acts, opened. -/
import Derived.Test.YtkpefffephbhnaaSlM
set_option linter.unusedVariables false
set_option linter.unusedSimpArgs false
namespace Go.Proofs.PlainDev
/-- An act. -/
structure ActD where
  k : Int
  addr : Nat
  a : Nat
  b : Nat
  sh : Bool
  n : Int
  keep : Nat
structure ActOk (x : ActD) : Prop where
  k0 : -9223372036854775808 ≤ x.k
  k1 : x.k ≤ 9223372036854775807
  ad : (x.addr : Int) ≤ 4294967295
  a : (x.a : Int) ≤ 255
  b : (x.b : Int) ≤ 255
  n0 : -9223372036854775808 ≤ x.n
  n1 : x.n ≤ 9223372036854775807
  kp : (x.keep : Int) ≤ 18446744073709551615
end Go.Proofs.PlainDev
namespace Go.Proofs.Ytkpefffephbhnaa
open Go.ChangeShapes Go.WideShapes Go.ChangeAt Go.RowKit
open Go.Proofs.PlainDev
def actC (x : ActD) : List Value := [.int .i64 x.k, .int .u32 (x.addr : Int), .int .u8 (x.a : Int), .int .u8 (x.b : Int), .bool x.sh, .int .i64 x.n, .int .u64 (x.keep : Int)]
theorem seven_of {α : Type} {l : List α} (h : l.length = 7) : ∃ a b c d e f g, l = [a, b, c, d, e, f, g] := by
  match l, h with
  | [a, b, c, d, e, f, g], _ => exact ⟨a, b, c, d, e, f, g, rfl⟩
theorem open_natZ {H : Type} {enc : TypeId × Value → H} {P : Program} {W : World} {m t : Nat} {k : IntKind} {v : Value} {x : DataW H × List MemPlace} (hu : P.underlying t = some (.int k)) (h0 : ∀ n : Int, (Lit.int k n).wf = true → 0 ≤ n) (hf : DataW.trod enc P W 0 (fun _ => true) true m t [v] = some x) :
    ∃ a : Nat, v = .int k (a : Int) ∧ (Lit.int k (a : Int)).wf = true := by
  obtain ⟨i, ei, -, wi⟩ := DataW.trod_int hu hf
  obtain ⟨a, rfl⟩ := Int.eq_ofNat_of_zero_le (h0 i wi)
  injection ei with ei
  exact ⟨a, ei, wi⟩
theorem one_field {H : Type} {enc : TypeId × Value → H} {P : Program} {W : World} {q t o : Nat} {L r : List Value} {v : Value} {X : Option (DataW H × List MemPlace)} {x : DataW H × List MemPlace} (hc : P.cellsOf t = 1) (h : DataW.trod enc P W 0 (fun _ => true) true q t ((L.drop o).take (P.cellsOf t)) = X) (hv : L.drop o = v :: r) (hx : X = some x) : DataW.trod enc P W 0 (fun _ => true) true q t [v] = some x := by
  rw [hc, hv] at h
  exact h.trans hx
set_option maxRecDepth 100000 in
theorem open_act1 {H : Type} {enc : TypeId × Value → H} {W : World} {m : Nat} {r : List Value} {x : DataW H × List MemPlace} (hf : DataW.trod enc Try.prog W 0 (fun _ => true) true m 59 r = some x) : ∃ y : ActD, r = actC y ∧ ActOk y := by
  obtain ⟨xs, q, -, -, hl, hxl, hi⟩ := DataW.trod_struct Try.underlying59 hf
  rw [show Try.prog.cellsOf 59 = 7 by kernel_rfl] at hl
  obtain ⟨a, b, c, d, e, f, g, rfl⟩ := seven_of hl
  obtain ⟨x0, x1, x2, x3, x4, x5, x6, rfl⟩ := seven_of (l := xs) (by simpa using hxl)
  clear hf
  have c3 : Try.prog.cellsOf 3 = 1 := by kernel_rfl
  have c29 : Try.prog.cellsOf 29 = 1 := by kernel_rfl
  have c5 : Try.prog.cellsOf 5 = 1 := by kernel_rfl
  have c4 : Try.prog.cellsOf 4 = 1 := by kernel_rfl
  have c31 : Try.prog.cellsOf 31 = 1 := by kernel_rfl
  have e0 : DataW.trod enc Try.prog W 0 (fun _ => true) true q 3 [a] = some x0 := one_field c3 (hi 0 _ rfl) rfl rfl
  have e1 : DataW.trod enc Try.prog W 0 (fun _ => true) true q 29 [b] = some x1 := one_field c29 (hi 1 _ rfl) rfl rfl
  have e2 : DataW.trod enc Try.prog W 0 (fun _ => true) true q 5 [c] = some x2 := one_field c5 (hi 2 _ rfl) rfl rfl
  have e3 : DataW.trod enc Try.prog W 0 (fun _ => true) true q 5 [d] = some x3 := one_field c5 (hi 3 _ rfl) rfl rfl
  have e4 : DataW.trod enc Try.prog W 0 (fun _ => true) true q 4 [e] = some x4 := one_field c4 (hi 4 _ rfl) rfl rfl
  have e5 : DataW.trod enc Try.prog W 0 (fun _ => true) true q 3 [f] = some x5 := one_field c3 (hi 5 _ rfl) rfl rfl
  have e6 : DataW.trod enc Try.prog W 0 (fun _ => true) true q 31 [g] = some x6 := one_field c31 (hi 6 _ rfl) rfl rfl
  obtain ⟨k, ek, -, wk⟩ := DataW.trod_int Try.underlying3 e0
  obtain ⟨ad, rfl, wad⟩ := open_natZ Try.underlying29 (fun n h => (bounds_u32 h).1) e1
  obtain ⟨A, rfl, wA⟩ := open_natZ Try.underlying5 (fun n h => (bounds_u8 h).1) e2
  obtain ⟨B, rfl, wB⟩ := open_natZ Try.underlying5 (fun n h => (bounds_u8 h).1) e3
  obtain ⟨s, es, -⟩ := DataW.trod_bool Try.underlying4 e4
  obtain ⟨n, en, -, wn⟩ := DataW.trod_int Try.underlying3 e5
  obtain ⟨kp, rfl, wkp⟩ := open_natZ Try.underlying31 (fun n h => (bounds_u64 h).1) e6
  injection ek with ek
  injection es with es
  injection en with en
  subst ek es en
  exact ⟨⟨k, ad, A, B, s, n, kp⟩, rfl, (bounds_i64 wk).1, (bounds_i64 wk).2, (bounds_u32 wad).2, (bounds_u8 wA).2, (bounds_u8 wB).2, (bounds_i64 wn).1, (bounds_i64 wn).2, (bounds_u64 wkp).2⟩
theorem lift_rows {α : Type} (f : α → List Value) (ok : α → Prop) : ∀ rows : List (List Value), (∀ r ∈ rows, ∃ y, r = f y ∧ ok y) → ∃ l : List α, rows = l.map f ∧ ∀ y ∈ l, ok y
  | [], _ => ⟨[], rfl, by simp⟩
  | r :: rows, h => by
    obtain ⟨y, e, hy⟩ := h r List.mem_cons_self
    obtain ⟨l, e2, hl⟩ := lift_rows f ok rows (fun r hr => h r (List.mem_cons_of_mem _ hr))
    exact ⟨y :: l, by rw [e, e2]; rfl, fun z hz => by
      rcases List.mem_cons.1 hz with rfl | hz
      · exact hy
      · exact hl z hz⟩
theorem open_acts6 {H : Type} {enc : TypeId × Value → H} {W : World} {base : Nat} {v : Value} {d : DataW H} {p : List MemPlace} (hv : Value.okWide Try.prog W .any base 54 v) (h : DataW.Trod enc Try.prog W 0 (fun _ => true) true 54 v d p) :
    ∃ l : List ActD, Slm W v 7 (l.map actC) ∧ ∀ y ∈ l, ActOk y := by
  obtain ⟨rows, hs, hr⟩ := open_slm (sz := 7) Try.underlying54 (by kernel_rfl) (by decide) hv h
  obtain ⟨l, rfl, hl⟩ := lift_rows actC ActOk rows (fun r hr2 => by obtain ⟨n, x, e⟩ := hr r hr2; exact open_act1 e)
  exact ⟨l, hs, hl⟩
end Go.Proofs.Ytkpefffephbhnaa
