/- An argument that is a struct of a slice of bytes, a string, and two numbers, opened. -/
import Derived.Test.YthlebobfbalknaaOpenG
set_option linter.unusedVariables false
set_option linter.unusedSimpArgs false
namespace Go.Proofs.Ythlebobfbalknaa
open Go.ChangeShapes Go.WideShapes Go.ChangeAt Go.RowKit

section
variable {H : Type} {enc : TypeId × Value → H} {P : Program} {W : World} {base : Nat}
theorem four_of {α : Type} {l : List α} (h : l.length = 4) : ∃ a b c d, l = [a, b, c, d] := by
  match l, h with
  | [a, b, c, d], _ => exact ⟨a, b, c, d, rfl⟩
theorem open_cells4 {t t0 t1 t2 t3 : TypeId} {fs : Array Field} {v : Value} {d : DataW H} {p : List MemPlace} (hu : P.underlying t = some (.struct fs)) (hc : P.cellsOf t = 4)
    (h0 : (fs[0]?).map (fun f => (f.type, f.offset)) = some (t0, 0)) (h1 : (fs[1]?).map (fun f => (f.type, f.offset)) = some (t1, 1)) (h2 : (fs[2]?).map (fun f => (f.type, f.offset)) = some (t2, 2)) (h3 : (fs[3]?).map (fun f => (f.type, f.offset)) = some (t3, 3))
    (hs : fs.size = 4) (k0 : P.cellsOf t0 = 1) (k1 : P.cellsOf t1 = 1) (k2 : P.cellsOf t2 = 1) (k3 : P.cellsOf t3 = 1)
    (hv : Value.okWide P W .any base t v) (h : DataW.Trod enc P W 0 (fun _ => true) true t v d p) :
    ∃ (a b c e : Value) (m : Nat) (x0 x1 x2 x3 : DataW H × List MemPlace), v = .agg #[a, b, c, e] ∧ d = .agg [x0.1, x1.1, x2.1, x3.1] ∧
      DataW.trod enc P W 0 (fun _ => true) true m t0 [a] = some x0 ∧ DataW.trod enc P W 0 (fun _ => true) true m t1 [b] = some x1 ∧ DataW.trod enc P W 0 (fun _ => true) true m t2 [c] = some x2 ∧ DataW.trod enc P W 0 (fun _ => true) true m t3 [e] = some x3 := by
  simp only [Value.okWide, hu] at hv
  obtain ⟨cs, rfl, -⟩ := hv
  obtain ⟨L, rfl⟩ : ∃ L : List Value, cs = L.toArray := ⟨cs.toList, by simp⟩
  obtain ⟨fuel, hf⟩ := h
  obtain ⟨xs, m, -, hx, hl, hxl, hi⟩ := DataW.trod_struct hu hf
  try simp only [Value.cells] at hl hi
  rw [hc] at hl
  obtain ⟨a, b, c, e, rfl⟩ := four_of (l := L) (by simpa using hl)
  obtain ⟨x0, x1, x2, x3, rfl⟩ := four_of (l := xs) (by omega)
  injection hx with hx1 hx2
  have get : ∀ (i : Nat) (ty off : Nat), (fs[i]?).map (fun f => (f.type, f.offset)) = some (ty, off) → DataW.trod enc P W 0 (fun _ => true) true m ty (([a, b, c, e].drop off).take (P.cellsOf ty)) = [x0, x1, x2, x3][i]? := by
    intro i ty off he
    cases hq : fs[i]? with
    | none => simp [hq] at he
    | some f =>
      simp only [hq, Option.map_some, Option.some.injEq, Prod.mk.injEq] at he
      obtain ⟨rfl, rfl⟩ := he
      exact hi i f hq
  have e0 := get 0 _ _ h0
  have e1 := get 1 _ _ h1
  have e2 := get 2 _ _ h2
  have e3 := get 3 _ _ h3
  rw [k0] at e0
  rw [k1] at e1
  rw [k2] at e2
  rw [k3] at e3
  exact ⟨a, b, c, e, m, x0, x1, x2, x3, rfl, hx1, e0, e1, e2, e3⟩
end
set_option maxRecDepth 100000 in
theorem open_begun {H : Type} {enc : TypeId × Value → H} {W : World} {base : Nat} {v : Value} {d : DataW H} {p : List MemPlace} (hv : Value.okWide Try.prog W .any base 41 v) (h : DataW.Trod enc Try.prog W 0 (fun _ => true) true 41 v d p)
    (hs : ∀ n, n ∈ d.weights Try.prog 41 → n ≤ reachBytes) :
    ∃ (A : Option Addr) (n c a b : Nat) (k l : List Nat), v = .agg #[.slice A n c, .string (bstr l), .int .u16 (a : Int), .int .u16 (b : Int)] ∧ Sl W (.slice A n c) (bv k) ∧ (∀ x ∈ k, x < 256) ∧ (∀ x ∈ l, x < 256) ∧ n = k.length ∧ (n : Int) ≤ 140737488351232 ∧ (l.length : Int) ≤ 140737488351232 ∧ (a : Int) ≤ 65535 ∧ (b : Int) ≤ 65535 := by
  obtain ⟨va, vb, vc, ve, m, x0, x1, x2, x3, rfl, rfl, e0, e1, e2, e3⟩ := open_cells4 (t0 := 22) (t1 := 9) (t2 := 39) (t3 := 39) Try.underlying41 (by kernel_rfl) rfl rfl rfl rfl rfl (by kernel_rfl) (by kernel_rfl) (by kernel_rfl) (by kernel_rfl) hv h
  obtain ⟨i, ei, -, wi⟩ := DataW.trod_int Try.underlying39 e2
  obtain ⟨j, ej, -, wj⟩ := DataW.trod_int Try.underlying39 e3
  have hi := bounds_u16 wi
  have hj := bounds_u16 wj
  obtain ⟨i, rfl⟩ := Int.eq_ofNat_of_zero_le hi.1
  obtain ⟨j, rfl⟩ := Int.eq_ofNat_of_zero_le hj.1
  injection ei with ei
  injection ej with ej
  subst ei ej
  obtain ⟨s, hsv, hx1, -⟩ := DataW.trod_string Try.underlying9 e1
  injection hsv with hsv
  subst hsv hx1
  have hwe : ∀ (parts : List (DataW H)), (DataW.agg parts).weights Try.prog 41 = DataW.weightsEach Try.prog [22, 9, 39, 39] parts := fun parts => by
    simp [DataW.weights, Try.underlying41]
  have hw1 : s.data.toList.length ≤ reachBytes := hs _ (by
    rw [hwe]
    exact DataW.weights_mem_each (j := 1) (t := 9) (d := .lit (.string s.data.toList)) rfl rfl _ (by rw [DataW.weights]; exact List.mem_singleton.2 rfl))
  simp only [reachBytes] at hw1
  have hstr := bstr_of s
  rcases open_ints Try.underlying22 Try.underlying5 (by kernel_rfl) e0 with ⟨hcs, hx⟩ | ⟨x, len, cap, zs, hcs, _, hl, hm, hz, hx, hcell, hwz⟩
  · injection hcs with hcs
    subst hcs
    exact ⟨none, 0, 0, i, j, [], s.data.toList.map UInt8.toNat, by rw [hstr], Sl.nil_ W, by simp, fun b hb => by obtain ⟨x, -, rfl⟩ := List.mem_map.1 hb; exact x.toNat_lt, rfl, by simp, by rw [List.length_map]; omega, hi.2, hj.2⟩
  · injection hcs with hcs
    subst hcs hx
    simp only [if_true] at hz
    have hw0 : (zs.take len).length + (zs.drop len).length ≤ reachBytes := by
      have h := hs (((lits (H := H) .u8 (zs.take len)).length + (lits (H := H) .u8 (zs.drop len)).length) * Try.prog.bytesOf 5) (by
        rw [hwe]
        exact DataW.weights_mem_each (j := 0) (t := 22) rfl rfl _ (by simp [DataW.weights, Try.underlying22]))
      have e : Try.prog.bytesOf 5 = 1 := by kernel_rfl
      rw [e] at h
      simpa [lits] using h
    simp only [List.length_take, List.length_drop, reachBytes] at hw0
    have hb : ∀ n ∈ zs, 0 ≤ n ∧ n ≤ 255 := fun n hn => bounds_u8 (hwz n hn)
    refine ⟨some x, len, cap, i, j, (zs.take len).map Int.toNat, s.data.toList.map UInt8.toNat, by rw [hstr], ⟨some x, cap, ?_, ?_, hm, ?_⟩, ?_, fun b hb => by obtain ⟨x, -, rfl⟩ := List.mem_map.1 hb; exact x.toNat_lt, ?_, ?_, by rw [List.length_map]; omega, hi.2, hj.2⟩
    · simp; omega
    · simp; omega
    · intro hp
      have hlen : 0 < len := by simp at hp; omega
      obtain ⟨b, o, s⟩ := x
      have hc0 := hcell 0 (by omega)
      have hs : s = none := by simpa [Addr.add] using World.cell?_spot hc0
      subst hs
      refine ⟨b, o, rfl, fun i u hu => ?_⟩
      rw [bv_get, List.getElem?_map, List.getElem?_take] at hu
      by_cases hi : i < len
      · rw [if_pos hi] at hu
        have hil : i < zs.length := by omega
        have hc := hcell i hil
        have ha : (⟨b, o, none⟩ : Addr).add i = ⟨b, o + i, none⟩ := by unfold Addr.add; split <;> simp_all
        rw [ha] at hc
        rw [hc, ← hu, List.getElem?_eq_getElem hil]
        simp only [List.getD, List.getElem?_eq_getElem hil, Option.getD_some, Option.map_some]
        have := hb zs[i] (List.getElem_mem hil)
        rw [Int.toNat_of_nonneg this.1]
      · rw [if_neg hi] at hu
        cases hu
    · intro b hb'
      obtain ⟨n, hn, rfl⟩ := List.mem_map.1 hb'
      have := hb n (List.mem_of_mem_take hn)
      omega
    · simp; omega
    · omega
end Go.Proofs.Ythlebobfbalknaa
