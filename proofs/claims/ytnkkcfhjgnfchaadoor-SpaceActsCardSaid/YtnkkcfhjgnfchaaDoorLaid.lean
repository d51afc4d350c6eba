/- What the listed table gives the walks; a row of addresses, opened; the arrangement in which a witness lies. -/
import Derived.Test.YtnkkcfhjgnfchaaDoorSpE
import Derived.Test.YtnkkcfhjgnfchaaDoorRows
import Derived.ProofKit
import Derived.LaidMore
import Derived.OpenShut
import Derived.SizedLaws
import Derived.MakeChecks
import Derived.Stop.Joined
set_option linter.unusedVariables false
set_option linter.unusedSimpArgs false
namespace Go.Proofs.YtnkkcfhjgnfchaaDoor
open Go.ChangeShapes Go.WideShapes Go.ChangeAt Go.WideMaps Go.WideElems Go.RowKit

theorem gTab : Tryd.prog.globalNamed "math/bits.deBruijn64tab" = some 0 := by kernel_rfl
theorem tTab : (Tryd.prog.globals[0]?).map (·.type) = some 63 := by kernel_rfl
theorem Tryd.cellsOf5 : Tryd.prog.cellsOf 5 = 1 := by kernel_rfl
abbrev laid : List (String × DataW Unit) := [("math/bits.deBruijn64tab", Rows.laid_math_bits_deBruijn64tab)]
theorem laid_parts : (Rows.laid_math_bits_deBruijn64tab : DataW Unit) = .agg (Lib.deBruijn64tab.map fun (n : Nat) => .lit (.int .u8 (n : Int))) := rfl

theorem door_met (os : Os) (args : Array Value) : laidMetH Tryd.prog laid ((World.doorLaid Tryd.prog 400 os).forCall (fun _ _ => 0) ⟨#[], args, []⟩).memory :=
  laidMetH_of_parts3 (fuel := 8) (laidMet_of_run' 8 (by kernel_rfl) (by kernel_rfl)) (by kernel_rfl) (by kernel_rfl)

theorem of_laid {W : World} (h : laidMetH Tryd.prog laid W) : Tab W := by
  rw [MakeChecks.laidMetH_plain _ _ _ (by kernel_rfl)] at h
  obtain ⟨ps, ⟨g0, t0, cs0, f0, p0, q0, hg0, ht0, hv0, hd0, _, _⟩, _, _⟩ := h
  obtain rfl := Option.some.inj (gTab.symm.trans hg0)
  obtain rfl := Option.some.inj (tTab.symm.trans ht0)
  obtain ⟨xs, m, rfl, hx, hlen, hn, hel⟩ := DataW.trod_array Tryd.underlying63 hd0
  rw [laid_parts] at hx
  simp only [Prod.mk.injEq, DataW.agg.injEq] at hx
  intro j hj
  have hj64 : j < 64 := hj
  rw [World.var?_cell gTab hv0 j]
  have h1 := hel j hj64
  rw [Tryd.cellsOf5, Nat.mul_one] at h1
  have hxj : j < xs.length := by rw [hn]; exact hj64
  rw [List.getElem?_eq_getElem hxj] at h1
  obtain ⟨k, e1, e2, _⟩ := DataW.trod_int Tryd.underlying5 h1
  have h2 : (xs.map (·.1))[j]? = some (.lit (.int .u8 k)) := by rw [List.getElem?_map, List.getElem?_eq_getElem hxj, e2]; rfl
  rw [← hx.1, List.getElem?_map, List.getElem?_eq_getElem hj] at h2
  simp at h2
  have h3 : cs0[j]? = some (.int .u8 k) := by
    have := congrArg (·[0]?) e1
    simpa [List.getElem?_take, List.getElem?_drop] using this
  rw [h3, ← h2, List.getD_eq_getElem?_getD, List.getElem?_eq_getElem hj]
  rfl

theorem Tryd.bytesOf29 : Tryd.checked.prog.bytesOf 29 = 4 := by kernel_rfl
theorem open_u32s {H : Type} {enc : TypeId × Value → H} {W : World} {base : Nat} {v : Value} {d : DataW H} {p : List MemPlace}
    (hv : Value.okWide Tryd.prog W .any base 36 v) (h : DataW.Trod enc Tryd.prog W 0 (fun _ => true) true 36 v d p)
    (hs : ∀ el sp : List (DataW H), d = .slice el sp → (el.length + sp.length) * Tryd.checked.prog.bytesOf 29 ≤ reachBytes) :
    ∃ l : List Nat, Sl W v (uv l) ∧ (∀ b ∈ l, b < 4294967296) ∧ l.length ≤ 140737488351232 := by
  obtain ⟨a, len, cap, rfl⟩ := okWide_slice Tryd.underlying36 hv
  obtain ⟨fuel, hf⟩ := h
  rcases open_ints Tryd.underlying36 Tryd.underlying29 (by kernel_rfl) hf with ⟨hcs, _⟩ | ⟨x, l, c, zs, hcs, _, hl, hm, hz, hx, hcell, hwz⟩
  · simp [Value.cells] at hcs
    obtain ⟨rfl, rfl, rfl⟩ := hcs
    exact ⟨[], Sl.nil_ W, by simp, by simp⟩
  · simp [Value.cells] at hcs
    obtain ⟨rfl, rfl, rfl⟩ := hcs
    simp only [Prod.mk.injEq] at hx
    have hr := hs _ _ hx.1
    rw [Tryd.bytesOf29] at hr
    simp only [lits, List.length_map, List.length_take, List.length_drop, reachBytes] at hr
    simp only [if_true] at hz
    have hb : ∀ n ∈ zs, 0 ≤ n ∧ n ≤ 4294967295 := fun n hn => bounds_u32 (hwz n hn)
    refine ⟨(zs.take len).map Int.toNat, ⟨some x, cap, ?_, ?_, hm, ?_⟩, ?_, ?_⟩
    · simp; omega
    · simp; omega
    · intro hp
      have hlen : 0 < len := by simp at hp; omega
      obtain ⟨b, o, s⟩ := x
      have hc0 := hcell 0 (by omega)
      have hs : s = none := by simpa [Addr.add] using World.cell?_spot hc0
      subst hs
      refine ⟨b, o, rfl, fun i u hu => ?_⟩
      rw [uv_get, List.getElem?_map, List.getElem?_take] at hu
      by_cases hi : i < len
      · rw [if_pos hi] at hu
        have hil : i < zs.length := by omega
        have hc := hcell i hil
        have ha : (⟨b, o, none⟩ : Addr).add i = ⟨b, o + i, none⟩ := by unfold Addr.add; split <;> simp_all
        rw [ha] at hc
        rw [hc, ← hu, List.getElem?_eq_getElem hil]
        simp only [List.getD, List.getElem?_eq_getElem hil, Option.getD_some, Option.map_some]
        have := hb zs[i] (List.getElem_mem hil)
        rw [Int.toNat_of_nonneg this.1]
      · rw [if_neg hi] at hu
        cases hu
    · intro b hb'
      obtain ⟨n, hn, rfl⟩ := List.mem_map.1 hb'
      have := hb n (List.mem_of_mem_take hn)
      omega
    · simp; omega
end Go.Proofs.YtnkkcfhjgnfchaaDoor
