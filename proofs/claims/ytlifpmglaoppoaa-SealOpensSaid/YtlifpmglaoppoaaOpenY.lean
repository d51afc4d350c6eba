/- A cell that is a slice of bytes, opened. -/
import Derived.Test.YtlifpmglaoppoaaOpenA
set_option linter.unusedVariables false
set_option linter.unusedSimpArgs false
namespace Go.Proofs.Ytlifpmglaoppoaa
open Go.ChangeShapes Go.WideShapes Go.ChangeAt Go.RowKit

set_option maxRecDepth 100000 in
/-- A cell that is a slice of bytes, within the reach. -/
theorem open_bytesS {H : Type} {enc : TypeId × Value → H} {W : World} {m : Nat} {v : Value} {x : DataW H × List MemPlace} (hf : DataW.trod enc Try.prog W 0 (fun _ => true) true m 22 [v] = some x)
    (hs : ∀ el sp : List (DataW H), x.1 = .slice el sp → el.length + sp.length ≤ reachBytes) :
    ∃ (A : Option Addr) (n c : Nat) (l : List Nat), v = .slice A n c ∧ Sl W (.slice A n c) (bv l) ∧ (∀ b ∈ l, b < 256) ∧ n = l.length ∧ (n : Int) ≤ 140737488351232 := by
  rcases open_ints Try.underlying22 Try.underlying5 (by kernel_rfl) hf with ⟨hcs, _⟩ | ⟨y, len, cap, zs, hcs, _, hl, hm, hz, hx, hcell, hwz⟩
  · injection hcs with hcs
    subst hcs
    exact ⟨none, 0, 0, [], rfl, Sl.nil_ W, by simp, rfl, by simp⟩
  · injection hcs with hcs
    subst hcs hx
    simp only [if_true] at hz
    have hw0 := hs _ _ rfl
    simp only [lits, List.length_map, List.length_take, List.length_drop, reachBytes] at hw0
    have hb : ∀ n ∈ zs, 0 ≤ n ∧ n ≤ 255 := fun n hn => bounds_u8 (hwz n hn)
    refine ⟨some y, len, cap, (zs.take len).map Int.toNat, rfl, ⟨some y, cap, ?_, ?_, hm, ?_⟩, ?_, ?_, ?_⟩
    · simp; omega
    · simp; omega
    · intro hp
      have hlen : 0 < len := by simp at hp; omega
      obtain ⟨b, o, s⟩ := y
      have hc0 := hcell 0 (by omega)
      have hs : s = none := by simpa [Addr.add] using World.cell?_spot hc0
      subst hs
      refine ⟨b, o, rfl, fun i u hu => ?_⟩
      rw [bv_get, List.getElem?_map, List.getElem?_take] at hu
      by_cases hi : i < len
      · rw [if_pos hi] at hu
        have hil : i < zs.length := by omega
        have hc := hcell i hil
        have ha : (⟨b, o, none⟩ : Addr).add i = ⟨b, o + i, none⟩ := by unfold Addr.add; split <;> simp_all
        rw [ha] at hc
        rw [hc, ← hu, List.getElem?_eq_getElem hil]
        simp only [List.getD, List.getElem?_eq_getElem hil, Option.getD_some, Option.map_some]
        have := hb zs[i] (List.getElem_mem hil)
        rw [Int.toNat_of_nonneg this.1]
      · rw [if_neg hi] at hu
        cases hu
    · intro b hb'
      obtain ⟨n, hn, rfl⟩ := List.mem_map.1 hb'
      have := hb n (List.mem_of_mem_take hn)
      omega
    · simp; omega
    · omega
end Go.Proofs.Ytlifpmglaoppoaa
