/- An argument that is a slice of bytes, opened: it reads as a list of bytes. -/
import Derived.Test.YtfhlenclnknnhaaArrB
import Derived.ProofKit
import Derived.OpenShut
import Derived.SizedLaws
set_option linter.unusedVariables false
set_option linter.unusedSimpArgs false
namespace Go.Proofs.Ytfhlenclnknnhaa
open Go.ChangeShapes Go.WideShapes Go.ChangeAt Go.RowKit

theorem Try.bytesOf_u8 : Try.checked.prog.bytesOf 5 = 1 := by kernel_rfl

set_option maxRecDepth 100000 in
theorem open_bytes {H : Type} {enc : TypeId × Value → H} {W : World} {base : Nat} {v : Value} {d : DataW H} {p : List MemPlace}
    (hv : Value.okWide Try.prog W .any base 35 v) (h : DataW.Trod enc Try.prog W 0 (fun _ => true) true 35 v d p)
    (hs : ∀ el sp : List (DataW H), d = .slice el sp → (el.length + sp.length) * Try.checked.prog.bytesOf 5 ≤ reachBytes) :
    ∃ l : List Nat, Sl W v (bv l) ∧ (∀ b ∈ l, b < 256) ∧ l.length ≤ 140737488351232 := by
  obtain ⟨a, len, cap, rfl⟩ := okWide_slice Try.underlying35 hv
  obtain ⟨fuel, hf⟩ := h
  rcases open_ints Try.underlying35 Try.underlying5 (by kernel_rfl) hf with ⟨hcs, _⟩ | ⟨x, l, c, zs, hcs, _, hl, hm, hz, hx, hcell, hwz⟩
  · simp [Value.cells] at hcs
    obtain ⟨rfl, rfl, rfl⟩ := hcs
    exact ⟨[], Sl.nil_ W, by simp, by simp⟩
  · simp [Value.cells] at hcs
    obtain ⟨rfl, rfl, rfl⟩ := hcs
    simp only [Prod.mk.injEq] at hx
    have hr := hs _ _ hx.1
    rw [Try.bytesOf_u8] at hr
    simp only [lits, List.length_map, List.length_take, List.length_drop, reachBytes] at hr
    simp only [if_true] at hz
    have hb : ∀ n ∈ zs, 0 ≤ n ∧ n ≤ 255 := fun n hn => bounds_u8 (hwz n hn)
    refine ⟨(zs.take len).map Int.toNat, ⟨some x, cap, ?_, ?_, hm, ?_⟩, ?_, ?_⟩
    · simp; omega
    · simp; omega
    · intro hp
      have hlen : 0 < len := by simp at hp; omega
      obtain ⟨b, o, s⟩ := x
      have hc0 := hcell 0 (by omega)
      have hs : s = none := by simpa [Addr.add] using World.cell?_spot hc0
      subst hs
      refine ⟨b, o, rfl, fun i u hu => ?_⟩
      rw [bv_get, List.getElem?_map, List.getElem?_take] at hu
      by_cases hi : i < len
      · rw [if_pos hi] at hu
        have hil : i < zs.length := by omega
        have hc := hcell i hil
        have ha : (⟨b, o, none⟩ : Addr).add i = ⟨b, o + i, none⟩ := by unfold Addr.add; split <;> simp_all
        rw [ha] at hc
        rw [hc, ← hu, List.getElem?_eq_getElem hil]
        simp only [List.getD, List.getElem?_eq_getElem hil, Option.getD_some, Option.map_some]
        have := hb zs[i] (List.getElem_mem hil)
        rw [Int.toNat_of_nonneg this.1]
      · rw [if_neg hi] at hu
        cases hu
    · intro b hb'
      obtain ⟨n, hn, rfl⟩ := List.mem_map.1 hb'
      have := hb n (List.mem_of_mem_take hn)
      omega
    · simp; omega
end Go.Proofs.Ytfhlenclnknnhaa
