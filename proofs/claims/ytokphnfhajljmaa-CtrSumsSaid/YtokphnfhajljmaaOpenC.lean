/- A cell that is a slice of bytes, opened; the argument of CtrBack. -/
import Derived.Test.YtokphnfhajljmaaOpenS
import Derived.Test.YtokphnfhajljmaaCtrS
set_option linter.unusedVariables false
set_option linter.unusedSimpArgs false
namespace Go.Proofs.Ytokphnfhajljmaa
open Go.ChangeShapes Go.WideShapes Go.ChangeAt Go.RowKit
theorem open_bytes1 {H : Type} {enc : TypeId × Value → H} {W : World} {m : Nat} {v : Value} {x : DataW H × List MemPlace} (hf : DataW.trod enc Try.prog W 0 (fun _ => true) true m 32 [v] = some x) :
    ∃ l : List Nat, Sl W v (bv l) ∧ Byt l := by
  rcases open_ints Try.underlying32 Try.underlying5 (by kernel_rfl) hf with ⟨hcs, _⟩ | ⟨x, len, cap, zs, hcs, _, hl, hm, hz, hx, hcell, hwz⟩
  · simp at hcs
    subst hcs
    exact ⟨[], Sl.nil_ W, by intro b hb; cases hb⟩
  · simp at hcs
    subst hcs
    simp only [if_true] at hz
    have hb : ∀ n ∈ zs, 0 ≤ n ∧ n ≤ 255 := fun n hn => bounds_u8 (hwz n hn)
    refine ⟨(zs.take len).map Int.toNat, ⟨some x, cap, ?_, ?_, hm, ?_⟩, ?_⟩
    · simp; omega
    · simp; omega
    · intro hp
      have hlen : 0 < len := by simp at hp; omega
      obtain ⟨b, o, s⟩ := x
      have hc0 := hcell 0 (by omega)
      have hs : s = none := by simpa [Addr.add] using World.cell?_spot hc0
      subst hs
      refine ⟨b, o, rfl, fun i u hu => ?_⟩
      rw [bv_get, List.getElem?_map, List.getElem?_take] at hu
      by_cases hi : i < len
      · rw [if_pos hi] at hu
        have hil : i < zs.length := by omega
        have hc := hcell i hil
        have ha : (⟨b, o, none⟩ : Addr).add i = ⟨b, o + i, none⟩ := by unfold Addr.add; split <;> simp_all
        rw [ha] at hc
        rw [hc, ← hu, List.getElem?_eq_getElem hil]
        simp only [List.getD, List.getElem?_eq_getElem hil, Option.getD_some, Option.map_some]
        have := hb zs[i] (List.getElem_mem hil)
        rw [Int.toNat_of_nonneg this.1]
      · rw [if_neg hi] at hu
        cases hu
    · intro b hb'
      obtain ⟨n, hn, rfl⟩ := List.mem_map.1 hb'
      have := hb n (List.mem_of_mem_take hn)
      omega
theorem open_cut {H : Type} {enc : TypeId × Value → H} {W : World} {base : Nat} {v : Value} {d : DataW H} {p : List MemPlace} (hv : Value.okWide Try.prog W .any base 47 v) (h : DataW.Trod enc Try.prog W 0 (fun _ => true) true 47 v d p) :
    ∃ (k n : List Nat) (a : Value) (l : List Nat) (b : Nat), v = .agg (bv k ++ (bv n ++ [a, Value.int .u16 (b : Int)])).toArray ∧ k.length = 32 ∧ Byt k ∧ n.length = 12 ∧ Byt n ∧ Sl W a (bv l) ∧ Byt l ∧ b < 65536 := by
  obtain ⟨k, n, a, b, m, x, y, rfl, lk, bk, ln, bn, e2, e3⟩ := open_four (t0 := 22) (t1 := 29) (t2 := 32) (t3 := 45) Try.underlying47 (by kernel_rfl) rfl rfl rfl rfl rfl Try.underlying22 Try.underlying29 Try.underlying5 (by kernel_rfl) (by kernel_rfl) (by kernel_rfl) (by kernel_rfl) (by kernel_rfl) hv h
  obtain ⟨l, sl, bl⟩ := open_bytes1 e2
  obtain ⟨j, ej, -, wj⟩ := DataW.trod_int Try.underlying45 e3
  have hj := bounds_u16 wj
  obtain ⟨j', rfl⟩ := Int.eq_ofNat_of_zero_le hj.1
  injection ej with ej
  subst ej
  exact ⟨k, n, a, l, j', rfl, lk, bk, ln, bn, sl, bl, by omega⟩
theorem Sl.head {w : World} {A : Option Addr} {m c i : Nat} {xs : List Value} (h : Sl w (.slice A m c) xs) (hl : xs.length = m) (hi : i ≤ m) : Sl w (.slice A i c) (xs.take i) := by
  obtain ⟨A', c', e, h1, h2, h3⟩ := h
  injection e with e1 e2 e3
  subst e1 e3
  have hd : (xs.take i).length = i := by simp; omega
  refine ⟨A, c, by rw [hd], by omega, h2, fun hp => ?_⟩
  obtain ⟨g, o, rfl, hc⟩ := h3 (by omega)
  refine ⟨g, o, rfl, fun t u hu => hc t u ?_⟩
  rw [List.getElem?_take] at hu
  by_cases ht : t < i
  · rwa [if_pos ht] at hu
  · rw [if_neg ht] at hu; cases hu
theorem bv_take (l : List Nat) (i : Nat) : (bv l).take i = bv (l.take i) := by simp [bv]
end Go.Proofs.Ytokphnfhajljmaa
