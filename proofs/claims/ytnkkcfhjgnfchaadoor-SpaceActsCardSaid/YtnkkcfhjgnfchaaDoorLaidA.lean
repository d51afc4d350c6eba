/- A row of acts (Kind, Addr, L), opened. -/
import Derived.Test.YtnkkcfhjgnfchaaDoorLaid
import Derived.Deep.Slices
import Derived.Deep.Fields
import Derived.ChangeSame
set_option linter.unusedVariables false
set_option linter.unusedSimpArgs false
namespace Go.Proofs.YtnkkcfhjgnfchaaDoor
open Go.ChangeShapes Go.WideShapes Go.ChangeAt Go.WideMaps Go.WideElems Go.RowKit Go.Deep

/-- Act i of a row that begins at A: its kind k, address a, list v that reads as L. -/
def ActAt (W : World) (A : Option Addr) (i : Nat) : Prop :=
  ∃ (b o : Nat) (k : Int) (a : Nat) (v : Value) (L : List Nat), A = some ⟨b, o, none⟩ ∧ W.cell? ⟨b, o + (i * 3 + 0), none⟩ = some (.int .i64 k) ∧ -9223372036854775808 ≤ k ∧ k ≤ 9223372036854775807 ∧
    W.cell? ⟨b, o + (i * 3 + 1), none⟩ = some (.int .u32 (a : Int)) ∧ a < 4294967296 ∧ W.cell? ⟨b, o + (i * 3 + 2), none⟩ = some v ∧ Sl W v (uv L) ∧ (∀ x ∈ L, x < 4294967296)

theorem Tryd.cellsOf50 : Tryd.prog.cellsOf 50 = 3 := by kernel_rfl

/-- A slice of addresses among cells, opened. -/
theorem open_u32cell {H : Type} {enc : TypeId × Value → H} {W : World} {n : Nat} {v : Value} {x : DataW H × List MemPlace}
    (hf : DataW.trod enc Tryd.prog W 0 (fun _ => true) true n 36 [v] = some x) : ∃ L : List Nat, Sl W v (uv L) ∧ (∀ b ∈ L, b < 4294967296) := by
  rcases open_ints Tryd.underlying36 Tryd.underlying29 (by kernel_rfl) hf with ⟨hcs, _⟩ | ⟨a, len, cap, zs, hcs, _, hl, hm, hz, hx, hcell, hwz⟩
  · have hv : v = .slice none 0 0 := by simpa using hcs
    subst hv
    exact ⟨[], Sl.nil_ W, by simp⟩
  · have hv : v = .slice (some a) len cap := by simpa using hcs
    subst hv
    simp only [if_true] at hz
    have hb : ∀ n ∈ zs, 0 ≤ n ∧ n ≤ 4294967295 := fun n hn => bounds_u32 (hwz n hn)
    refine ⟨(zs.take len).map Int.toNat, ⟨some a, cap, ?_, ?_, hm, ?_⟩, ?_⟩
    · simp; omega
    · simp; omega
    · intro hp
      have hlen : 0 < len := by simp at hp; omega
      obtain ⟨b, o, s⟩ := a
      have hc0 := hcell 0 (by omega)
      have hs : s = none := by simpa [Addr.add] using World.cell?_spot hc0
      subst hs
      refine ⟨b, o, rfl, fun i u hu => ?_⟩
      rw [uv_get, List.getElem?_map, List.getElem?_take] at hu
      by_cases hi : i < len
      · rw [if_pos hi] at hu
        have hil : i < zs.length := by omega
        have hc := hcell i hil
        have ha : (⟨b, o, none⟩ : Addr).add i = ⟨b, o + i, none⟩ := by unfold Addr.add; split <;> simp_all
        rw [ha] at hc
        rw [hc, ← hu, List.getElem?_eq_getElem hil]
        simp only [List.getD, List.getElem?_eq_getElem hil, Option.getD_some, Option.map_some]
        have := hb zs[i] (List.getElem_mem hil)
        rw [Int.toNat_of_nonneg this.1]
      · rw [if_neg hi] at hu
        cases hu
    · intro b hb'
      obtain ⟨n, hn, rfl⟩ := List.mem_map.1 hb'
      have := hb n (List.mem_of_mem_take hn)
      omega

theorem open_acts {H : Type} {enc : TypeId × Value → H} {W : World} {base : Nat} {v : Value} {d : DataW H} {p : List MemPlace}
    (hv : Value.okWide Tryd.prog W .any base 45 v) (h : DataW.Trod enc Tryd.prog W 0 (fun _ => true) true 45 v d p) :
    ∃ (A : Option Addr) (n c : Nat), v = .slice A n c ∧ n ≤ 9223372036854775807 ∧ ∀ i, i < n → ActAt W A i := by
  obtain ⟨a, len, cap, rfl⟩ := okWide_slice Tryd.underlying45 hv
  obtain ⟨fuel, hf⟩ := h
  rcases open_slice Tryd.underlying45 hf with ⟨hcs, _⟩ | ⟨a', len', cap', m, n, D, Pl, hcs, hb, hl, hm, hmm, hx, hi⟩
  · simp [Value.cells] at hcs
    obtain ⟨rfl, rfl, rfl⟩ := hcs
    exact ⟨none, 0, 0, rfl, by omega, fun i h => by omega⟩
  · simp [Value.cells] at hcs
    obtain ⟨rfl, rfl, rfl⟩ := hcs
    refine ⟨some a', len, cap, rfl, by unfold maxLen at hm; omega, fun i hil => ?_⟩
    have hmlen : len ≤ m := by rw [hmm]; split <;> omega
    have hspot : a'.spot = none := by
      obtain ⟨cs0, hc0, _⟩ := hi 0 (by omega)
      rw [Tryd.cellsOf50] at hc0
      obtain ⟨_, hcl0, hat0⟩ := World.cells?_some hc0
      have h0 := hat0 0 (by omega)
      rw [List.getElem?_eq_getElem (by omega)] at h0
      have := World.cell?_spot h0
      simpa [Addr.add] using this
    obtain ⟨cs', hc, ht'⟩ := hi i (by omega)
    rw [Tryd.cellsOf50] at hc
    obtain ⟨ys, n', hn', hy, hlen, hyl, hfl⟩ := DataW.trod_struct Tryd.underlying50 ht'
    obtain ⟨_, hcl, hat⟩ := World.cells?_some hc
    obtain ⟨x0, x1, x2, rfl⟩ : ∃ x0 x1 x2, cs' = [x0, x1, x2] := by
      match cs', hcl with
      | [x0, x1, x2], _ => exact ⟨x0, x1, x2, rfl⟩
    have c3 : Tryd.prog.cellsOf 3 = 1 := by kernel_rfl
    have c29 : Tryd.prog.cellsOf 29 = 1 := by kernel_rfl
    have c36 : Tryd.prog.cellsOf 36 = 1 := by kernel_rfl
    obtain ⟨y0, e0⟩ : ∃ y, ys[0]? = some y := ⟨_, List.getElem?_eq_getElem (by rw [hyl]; decide)⟩
    obtain ⟨y1, e1⟩ : ∃ y, ys[1]? = some y := ⟨_, List.getElem?_eq_getElem (by rw [hyl]; decide)⟩
    obtain ⟨y2, e2⟩ : ∃ y, ys[2]? = some y := ⟨_, List.getElem?_eq_getElem (by rw [hyl]; decide)⟩
    have h0 := hfl 0 _ rfl
    have h1 := hfl 1 _ rfl
    have h2 := hfl 2 _ rfl
    rw [e0] at h0
    rw [e1] at h1
    rw [e2] at h2
    have g0 : DataW.trod enc Tryd.prog W 0 (fun _ => true) true n' 3 (([x0, x1, x2].drop 0).take (Tryd.prog.cellsOf 3)) = some y0 := h0
    have g1 : DataW.trod enc Tryd.prog W 0 (fun _ => true) true n' 29 (([x0, x1, x2].drop 1).take (Tryd.prog.cellsOf 29)) = some y1 := h1
    have g2 : DataW.trod enc Tryd.prog W 0 (fun _ => true) true n' 36 (([x0, x1, x2].drop 2).take (Tryd.prog.cellsOf 36)) = some y2 := h2
    rw [c3] at g0
    rw [c29] at g1
    rw [c36] at g2
    simp only [List.drop_zero, List.drop_succ_cons, List.take_succ_cons, List.take_zero] at g0 g1 g2
    obtain ⟨k, q0, _, w0⟩ := DataW.trod_int Tryd.underlying3 g0
    obtain ⟨a, q1, _, w1⟩ := DataW.trod_int Tryd.underlying29 g1
    obtain ⟨L, hL, hLb⟩ := open_u32cell g2
    simp only [List.cons.injEq, and_true] at q0 q1
    subst q0; subst q1
    obtain ⟨b0, b1⟩ := bounds_i64 w0
    obtain ⟨b2, b3⟩ := bounds_u32 w1
    obtain ⟨m', rfl⟩ := Int.eq_ofNat_of_zero_le b2
    have t0 := hat 0 (by omega)
    have t1 := hat 1 (by omega)
    have t2 := hat 2 (by omega)
    simp only [List.getElem?_cons_zero, List.getElem?_cons_succ] at t0 t1 t2
    rw [Go.Deep.add_add] at t0 t1 t2
    obtain ⟨bb, o, s⟩ := a'
    obtain rfl : s = none := hspot
    have had : ∀ j, (⟨bb, o, none⟩ : Addr).add j = ⟨bb, o + j, none⟩ := fun j => by unfold Addr.add; split <;> simp_all
    rw [had] at t0 t1 t2
    exact ⟨bb, o, k, m', x2, L, rfl, t0, b0, b1, t1, by omega, t2, hL, hLb⟩
end Go.Proofs.YtnkkcfhjgnfchaaDoor
