/- Contract of banyanref02's Made. -/
import Derived.Test.YtlifpmglaoppoaaScC
import Derived.Test.YtlifpmglaoppoaaQ12P7
set_option linter.unusedVariables false
set_option linter.unusedSimpArgs false
namespace Go.Proofs.Ytlifpmglaoppoaa
open Go.RowKit
open Go.Proofs.PlainAes
open Go.Proofs.PlainSha

def MadeAt (w : World) (e : Ending) (w' : World) : Prop := ∃ vH vK, e = .returned (.agg #[vH, vK]) ∧ Sl w' vH (wv H0) ∧ Sl w' vK (wv K0) ∧ Below w.heap.size w w'
theorem arrC : ArrTy Try.prog 103 2 := ⟨_, Try.underlying103, rfl, by kernel_rfl⟩
set_option maxRecDepth 100000 in
theorem made_any (w : World) : Calls Try.prog 53 #[] w (MadeAt w) := by
  have h8 := Lib.hid (fun w => fracs8 w)
  have h64 := Lib.hid (fun w => fracs64 w)
  go_enter Try.func53, Try.ntmps53
  go_wp2_with (refine wpList_allocA rfl 103 rfl [.slice none 0 0, .slice none 0 0] (by kernel_rfl) ?_)
  intro w1 hx1 hK1 hz1
  have hB1 := (Below.refl w.heap.size w).trans (hK1.below (Nat.le_refl _) (by simp))
  clear hK1 hz1
  go_wp2_with fail
  refine (h8.out _).mono ?_
  rintro e w2 ⟨v, rfl, hs2, hB2, hn2⟩
  obtain ⟨A, c, hu, -⟩ := id hs2
  rw [wv_length, H0_length] at hu
  subst hu
  have hx2 := hx1.keep hB2
  have hB2' := below_call hB1 hB1.size hB2
  replace hs2 := Lib.hid hs2
  have hg1 := hx1.lt
  replace hn2 := Lib.hid (fun A' n' c' e => Nat.lt_of_lt_of_le hg1 (hn2 A' n' c' e))
  clear hx1 hB1 hB2
  go_wp2_with fail
  refine (h64.out _).mono ?_
  rintro e w3 ⟨v, rfl, hs3, hB3, hn3⟩
  obtain ⟨A3, c3, hu, -⟩ := id hs3
  rw [wv_length, K0_length] at hu
  subst hu
  have hx3 := hx2.keep hB3
  have hB3' := below_call hB2' hB2'.size hB3
  replace hs3 := Lib.hid hs3
  have hg2 := hx2.lt
  replace hn3 := Lib.hid (fun A' n' c' e => Nat.lt_of_lt_of_le hg2 (hn3 A' n' c' e))
  have hs23 := Lib.hid (hs2.out.keep hB3)
  clear hx2 hB2' hB3 hs2
  go_wp2_with (refine wpList_storeW rfl 103 (.tmp 0) (.tmp 3) rfl 2 arrC w.heap.size rfl [.slice A 8 c, .slice A3 64 c3] rfl 103 _ hx3 rfl rfl (by intro v hv; simp at hv; rcases hv with rfl | rfl <;> rfl) ?_)
  intro w4 hx4 hK4
  have hB4 := hB3'.trans (hK4.below hB3'.size (by simp))
  have hsH := hs23.out.keeps hK4 (fun A' n' c' e => by have := hn2.out A' n' c' e; simp; omega)
  have hsK := hs3.out.keeps hK4 (fun A' n' c' e => by have := hn3.out A' n' c' e; simp; omega)
  go_wp2_with fail
  exact bodyPost_ret (v := .agg #[.slice A 8 c, .slice A3 64 c3]) (res_cell Try.results53 _ _ _ 103 _ arrC rfl rfl hx4) rfl ⟨_, _, rfl, hsH, hsK, hB4⟩
end Go.Proofs.Ytlifpmglaoppoaa
