/- An argument that is a slice of slices of bytes, opened: it reads as a list of lists of bytes. -/
import Derived.Test.YtenpehhmomhooaaOpenA
import Derived.Deep.Matrix
set_option linter.unusedVariables false
set_option linter.unusedSimpArgs false
namespace Go.Proofs.Ytenpehhmomhooaa
open Go.ChangeShapes Go.WideShapes Go.ChangeAt Go.RowKit Go.Deep

theorem weights_mem {H : Type} {P : Program} {e : TypeId} : ∀ {l : List (DataW H)} {d : DataW H}, d ∈ l → ∀ n ∈ d.weights P e, n ∈ DataW.weightsAll P e l
  | x :: r, d, hd, n, hn => by
    rcases List.mem_cons.1 hd with rfl | hd
    · exact List.mem_append_left _ hn
    · exact List.mem_append_right _ (weights_mem hd n hn)
theorem sized_row {H : Type} {P : Program} {ts : List TypeId} {ds : List (DataW H)} (h : (DataW.weightsEach P ts ds).all (· ≤ reachBytes) = true) {j : Nat} {t e q : TypeId} {elems spare e' sp' : List (DataW H)}
    (ht : ts[j]? = some t) (hd : ds[j]? = some (.slice elems spare)) (hu : P.underlying t = some (.slice e)) (hu2 : P.underlying e = some (.slice q)) (hx : DataW.slice e' sp' ∈ elems) : (e'.length + sp'.length) * P.bytesOf q ≤ reachBytes := by
  refine of_decide_eq_true (List.all_eq_true.1 h _ (DataW.weights_mem_each ht hd _ ?_))
  simp only [DataW.weights, hu, List.mem_cons, List.mem_append]
  exact Or.inr (Or.inl (weights_mem hx _ (by simp [DataW.weights, hu2])))

set_option maxRecDepth 100000 in
theorem open_rows {H : Type} {enc : TypeId × Value → H} {W : World} {base : Nat} {v : Value} {d : DataW H} {p : List MemPlace}
    (hv : Value.okWide Try.prog W .any base 40 v) (h : DataW.Trod enc Try.prog W 0 (fun _ => true) true 40 v d p)
    (hs : ∀ el sp e' sp' : List (DataW H), d = .slice el sp → DataW.slice e' sp' ∈ el → (e'.length + sp'.length) * Try.checked.prog.bytesOf 5 ≤ reachBytes) :
    ∃ (vs : List Value) (ls : List (List Nat)), Sl W v vs ∧ vs.length = ls.length ∧ ∀ (i : Nat) (l : List Nat), ls[i]? = some l → ∃ u, vs[i]? = some u ∧ Sl W u (bv l) ∧ (∀ b ∈ l, b < 256) ∧ l.length ≤ 140737488351232 := by
  obtain ⟨a, len, cap, rfl⟩ := okWide_slice Try.underlying40 hv
  obtain ⟨fuel, hf⟩ := h
  rcases open_int_rows Try.underlying40 Try.underlying22 Try.underlying5 (by kernel_rfl) (by kernel_rfl) hf with ⟨hcs, _⟩ | ⟨x, len', cap', A, L, C, Z, hcs, _, hl, hm, hx, hr⟩
  · simp [Value.cells] at hcs
    obtain ⟨rfl, rfl, rfl⟩ := hcs
    exact ⟨[], [], Sl.nil_ W, rfl, fun i l h => by simp at h⟩
  · simp [Value.cells] at hcs
    obtain ⟨rfl, rfl, rfl⟩ := hcs
    simp only [Prod.mk.injEq] at hx
    refine ⟨(List.range len).map fun r => .slice (A r) (L r) (C r), (List.range len).map fun r => ((Z r).take (L r)).map Int.toNat, ⟨some x, cap, ?_, ?_, hm, ?_⟩, by simp, ?_⟩
    · simp
    · simpa using hl
    · intro hp
      have hlen : 0 < len := by simpa using hp
      obtain ⟨b, o, s⟩ := x
      have hc0 := (hr 0 (by omega)).1
      have hs : s = none := by simpa [Addr.add] using World.cell?_spot hc0
      subst hs
      refine ⟨b, o, rfl, fun i u hu => ?_⟩
      rw [List.getElem?_map, Option.map_eq_some_iff] at hu
      obtain ⟨r, hr2, rfl⟩ := hu
      have hi : i < len := by
        have := (List.getElem?_eq_some_iff.1 hr2).1
        simpa using this
      obtain rfl : r = i := by
        rw [List.getElem?_range hi] at hr2
        injection hr2 with h
        exact h.symm
      have ha : (⟨b, o, none⟩ : Addr).add r = ⟨b, o + r, none⟩ := by unfold Addr.add; split <;> simp_all
      rw [← ha]
      exact (hr r (by omega)).1
    · intro i l hi
      rw [List.getElem?_map, Option.map_eq_some_iff] at hi
      obtain ⟨r, hr2, rfl⟩ := hi
      have hi : i < len := by
        have := (List.getElem?_eq_some_iff.1 hr2).1
        simpa using this
      obtain rfl : r = i := by
        rw [List.getElem?_range hi] at hr2
        injection hr2 with h
        exact h.symm
      obtain ⟨-, hLC, hCm, hZ, hwf, hnone, hcell⟩ := hr r (by omega)
      have hb : ∀ n ∈ Z r, 0 ≤ n ∧ n ≤ 255 := fun n hn => bounds_u8 (hwf n hn)
      have hlen : (((Z r).take (L r)).map Int.toNat).length = L r := by simp; omega
      refine ⟨.slice (A r) (L r) (C r), by rw [List.getElem?_map, List.getElem?_range hi]; rfl, ⟨A r, C r, ?_, ?_, hCm, ?_⟩, ?_, ?_⟩
      · rw [bv_length, hlen]
      · rw [bv_length, hlen]; exact hLC
      · intro hp
        rw [bv_length, hlen] at hp
        cases hA : A r with
        | none => have := hnone hA; omega
        | some y =>
          obtain ⟨-, hc⟩ := hcell y hA
          obtain ⟨b, o, s⟩ := y
          have hc0 := hc 0 (by omega)
          have hs : s = none := by simpa [Addr.add] using World.cell?_spot hc0
          subst hs
          refine ⟨b, o, rfl, fun i u hu => ?_⟩
          rw [bv_get, List.getElem?_map, List.getElem?_take] at hu
          by_cases hi2 : i < L r
          · rw [if_pos hi2] at hu
            have hil : i < (Z r).length := by omega
            have hc' := hc i (by omega)
            have ha : (⟨b, o, none⟩ : Addr).add i = ⟨b, o + i, none⟩ := by unfold Addr.add; split <;> simp_all
            rw [ha] at hc'
            rw [hc', ← hu, List.getElem?_eq_getElem hil]
            simp only [List.getD, List.getElem?_eq_getElem hil, Option.getD_some, Option.map_some]
            have := hb (Z r)[i] (List.getElem_mem hil)
            rw [Int.toNat_of_nonneg this.1]
          · rw [if_neg hi2] at hu
            cases hu
      · intro b hb'
        obtain ⟨n, hn, rfl⟩ := List.mem_map.1 hb'
        have := hb n (List.mem_of_mem_take hn)
        omega
      · rw [hlen]
        cases hA : A r with
        | none => have := hnone hA; omega
        | some y =>
          have hmem : DataW.slice (lits .u8 ((Z r).take (L r))) (lits .u8 ((Z r).drop (L r))) ∈ ((List.range len).map fun r => intRow (H := H) .u8 (A r) (L r) (Z r)) := by
            refine List.mem_map.2 ⟨r, List.mem_range.2 hi, ?_⟩
            simp only [intRow, hA]
          have hr := hs _ _ _ _ hx.1 hmem
          rw [Try.bytesOf_u8] at hr
          simp only [lits, List.length_map, List.length_take, List.length_drop, reachBytes] at hr
          omega
end Go.Proofs.Ytenpehhmomhooaa
