/- The argument of DevLasts, opened. -/
import Derived.Test.YtkpefffephbhnaaArrB
import Derived.ProofKit
import Derived.OpenShut
set_option linter.unusedVariables false
set_option linter.unusedSimpArgs false
namespace Go.Proofs.Ytkpefffephbhnaa
open Go.ChangeShapes Go.WideShapes Go.ChangeAt Go.RowKit

section
variable {H : Type} {enc : TypeId × Value → H} {P : Program} {W : World} {base : Nat}
theorem four_of {α : Type} {l : List α} (h : l.length = 4) : ∃ a b c d, l = [a, b, c, d] := by
  match l, h with
  | [a, b, c, d], _ => exact ⟨a, b, c, d, rfl⟩
theorem open_cells4 {t t0 t1 t2 t3 : TypeId} {fs : Array Field} {v : Value} {d : DataW H} {p : List MemPlace} (hu : P.underlying t = some (.struct fs)) (hc : P.cellsOf t = 4)
    (h0 : (fs[0]?).map (fun f => (f.type, f.offset)) = some (t0, 0)) (h1 : (fs[1]?).map (fun f => (f.type, f.offset)) = some (t1, 1)) (h2 : (fs[2]?).map (fun f => (f.type, f.offset)) = some (t2, 2)) (h3 : (fs[3]?).map (fun f => (f.type, f.offset)) = some (t3, 3))
    (hs : fs.size = 4) (k0 : P.cellsOf t0 = 1) (k1 : P.cellsOf t1 = 1) (k2 : P.cellsOf t2 = 1) (k3 : P.cellsOf t3 = 1)
    (hv : Value.okWide P W .any base t v) (h : DataW.Trod enc P W 0 (fun _ => true) true t v d p) :
    ∃ (a b c e : Value) (m : Nat) (x0 x1 x2 x3 : DataW H × List MemPlace), v = .agg #[a, b, c, e] ∧ d = .agg [x0.1, x1.1, x2.1, x3.1] ∧
      DataW.trod enc P W 0 (fun _ => true) true m t0 [a] = some x0 ∧ DataW.trod enc P W 0 (fun _ => true) true m t1 [b] = some x1 ∧ DataW.trod enc P W 0 (fun _ => true) true m t2 [c] = some x2 ∧ DataW.trod enc P W 0 (fun _ => true) true m t3 [e] = some x3 := by
  simp only [Value.okWide, hu] at hv
  obtain ⟨cs, rfl, -⟩ := hv
  obtain ⟨L, rfl⟩ : ∃ L : List Value, cs = L.toArray := ⟨cs.toList, by simp⟩
  obtain ⟨fuel, hf⟩ := h
  obtain ⟨xs, m, -, hx, hl, hxl, hi⟩ := DataW.trod_struct hu hf
  try simp only [Value.cells] at hl hi
  rw [hc] at hl
  obtain ⟨a, b, c, e, rfl⟩ := four_of (l := L) (by simpa using hl)
  obtain ⟨x0, x1, x2, x3, rfl⟩ := four_of (l := xs) (by omega)
  injection hx with hx1 hx2
  have get : ∀ (i : Nat) (ty off : Nat), (fs[i]?).map (fun f => (f.type, f.offset)) = some (ty, off) → DataW.trod enc P W 0 (fun _ => true) true m ty (([a, b, c, e].drop off).take (P.cellsOf ty)) = [x0, x1, x2, x3][i]? := by
    intro i ty off he
    cases hq : fs[i]? with
    | none => simp [hq] at he
    | some f =>
      simp only [hq, Option.map_some, Option.some.injEq, Prod.mk.injEq] at he
      obtain ⟨rfl, rfl⟩ := he
      exact hi i f hq
  have e0 := get 0 _ _ h0
  have e1 := get 1 _ _ h1
  have e2 := get 2 _ _ h2
  have e3 := get 3 _ _ h3
  rw [k0] at e0
  rw [k1] at e1
  rw [k2] at e2
  rw [k3] at e3
  exact ⟨a, b, c, e, m, x0, x1, x2, x3, rfl, hx1, e0, e1, e2, e3⟩
end
theorem open_bytes1 {H : Type} {enc : TypeId × Value → H} {W : World} {m : Nat} {v : Value} {x : DataW H × List MemPlace} (hf : DataW.trod enc Try.prog W 0 (fun _ => true) true m 22 [v] = some x) :
    ∃ l : List Nat, Sl W v (bv l) ∧ Byt l := by
  rcases open_ints Try.underlying22 Try.underlying5 (by kernel_rfl) hf with ⟨hcs, _⟩ | ⟨x, len, cap, zs, hcs, _, hl, hm, hz, hx, hcell, hwz⟩
  · simp at hcs
    subst hcs
    exact ⟨[], Sl.nil_ W, by intro b hb; cases hb⟩
  · simp at hcs
    subst hcs
    simp only [if_true] at hz
    have hb : ∀ n ∈ zs, 0 ≤ n ∧ n ≤ 255 := fun n hn => bounds_u8 (hwz n hn)
    refine ⟨(zs.take len).map Int.toNat, ⟨some x, cap, ?_, ?_, hm, ?_⟩, ?_⟩
    · simp; omega
    · simp; omega
    · intro hp
      have hlen : 0 < len := by simp at hp; omega
      obtain ⟨b, o, s⟩ := x
      have hc0 := hcell 0 (by omega)
      have hs : s = none := by simpa [Addr.add] using World.cell?_spot hc0
      subst hs
      refine ⟨b, o, rfl, fun i u hu => ?_⟩
      rw [bv_get, List.getElem?_map, List.getElem?_take] at hu
      by_cases hi : i < len
      · rw [if_pos hi] at hu
        have hil : i < zs.length := by omega
        have hc := hcell i hil
        have ha : (⟨b, o, none⟩ : Addr).add i = ⟨b, o + i, none⟩ := by unfold Addr.add; split <;> simp_all
        rw [ha] at hc
        rw [hc, ← hu, List.getElem?_eq_getElem hil]
        simp only [List.getD, List.getElem?_eq_getElem hil, Option.getD_some, Option.map_some]
        have := hb zs[i] (List.getElem_mem hil)
        rw [Int.toNat_of_nonneg this.1]
      · rw [if_neg hi] at hu
        cases hu
    · intro b hb'
      obtain ⟨n, hn, rfl⟩ := List.mem_map.1 hb'
      have := hb n (List.mem_of_mem_take hn)
      omega

set_option maxRecDepth 100000 in
theorem open_lost {H : Type} {enc : TypeId × Value → H} {W : World} {base : Nat} {v : Value} {d : DataW H} {p : List MemPlace} (hv : Value.okWide Try.prog W .any base 45 v) (h : DataW.Trod enc Try.prog W 0 (fun _ => true) true 45 v d p) :
    ∃ (a b : Value) (l m : List Nat) (k : Nat) (t : Int), v = .agg #[a, b, .int .u64 (k : Int), .int .i8 t] ∧ Sl W a (bv l) ∧ Byt l ∧ Sl W b (bv m) ∧ Byt m ∧ (k : Int) ≤ 18446744073709551615 ∧ -128 ≤ t ∧ t ≤ 127 := by
  obtain ⟨va, vb, vc, ve, m, x0, x1, x2, x3, rfl, rfl, e0, e1, e2, e3⟩ := open_cells4 (t0 := 22) (t1 := 22) (t2 := 31) (t3 := 43) Try.underlying45 (by kernel_rfl) rfl rfl rfl rfl rfl (by kernel_rfl) (by kernel_rfl) (by kernel_rfl) (by kernel_rfl) hv h
  obtain ⟨i, ei, -, wi⟩ := DataW.trod_int Try.underlying31 e2
  obtain ⟨j, ej, -, wj⟩ := DataW.trod_int Try.underlying43 e3
  have hi := bounds_u64 wi
  have hj := bounds_i8 wj
  obtain ⟨i, rfl⟩ := Int.eq_ofNat_of_zero_le hi.1
  injection ei with ei
  injection ej with ej
  subst ei ej
  obtain ⟨l, sl, bl⟩ := open_bytes1 e0
  obtain ⟨l2, sl2, bl2⟩ := open_bytes1 e1
  exact ⟨va, vb, l, l2, i, j, rfl, sl, bl, sl2, bl2, hi.2, hj.1, hj.2⟩
end Go.Proofs.Ytkpefffephbhnaa
