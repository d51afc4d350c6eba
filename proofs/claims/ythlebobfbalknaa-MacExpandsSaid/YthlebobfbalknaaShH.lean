/- Contracts of package sha: Sum of bytes, Len, Sum of none. -/
import Derived.Test.YthlebobfbalknaaShG
set_option linter.unusedVariables false
set_option linter.unusedSimpArgs false
namespace Go.Proofs.Ythlebobfbalknaa
open Go.RowKit
open Go.Proofs.PlainAes
open Go.Proofs.PlainSha

theorem Sl.lt {w : World} {v : Value} {xs : List Value} (h : Sl w v xs) (hp : 0 < xs.length) {a : Addr} {n c : Nat} (e : v = .slice (some a) n c) : a.block < w.heap.size := by
  obtain ⟨A', c', e', h1, h2, h3⟩ := h
  obtain ⟨g, o, hA, hc⟩ := h3 hp
  rw [e] at e'
  injection e' with e1 _ _
  rw [hA] at e1
  injection e1 with e1
  subst e1
  have hc0 := hc 0 _ (List.getElem?_eq_getElem hp)
  exact cell_lt hc0
/-- What a function that makes memory of its own answers: a hash. -/
def RetH (l : List Nat) (w : World) (e : Ending) (w' : World) : Prop := e = .returned (.agg (bv l).toArray) ∧ Below w.heap.size w w'
set_option maxRecDepth 100000 in
set_option maxHeartbeats 1000000 in
theorem shasum_core (b : List Nat) (A : Option Addr) (n c : Nat) (w : World) (hs : Sl w (.slice A n c) (bv b)) (bb : Byt b) (hlen : (b.length : Int) ≤ 549755813888) :
    Calls Try.prog 10 #[.slice A n c] w (RetH (shaL b) w) := by
  have hnew := Lib.hid (fun w => new_any w)
  have hwr := Lib.hid (fun B g w h a d => write_any [] b B g (.slice A n c) none w h a (by intro x hx; simp at hx) bb (by simp; omega) d)
  have hsm := Lib.hid (fun B g r w h => sum_any b B g r w h bb (by omega))
  have hsep : Hid (0 < b.length → ∀ a n' c', Value.slice A n c = .slice (some a) n' c' → a.block < w.heap.size) := fun hp a n' c' e => Sl.lt hs (by simpa using hp) e
  have Hs := Lib.hid hs
  have hHl := Lib.hid (show (bv (shaL b)).length = 32 by simp [shaL, outL_length])
  clear hs
  go_enter Try.func10, Try.ntmps10
  go_wp2_with (refine wpList_allocA rfl 25 rfl (bv (zeros 32)) (by kernel_rfl) ?_)
  intro w1 ho1 hK1 hz1
  have hB1 := hK1.below (Nat.le_refl _) (by simp)
  replace Hs := Lib.hid (Hs.out.keep hB1)
  clear hK1
  go_wp2_with fail
  refine (hnew.out _).mono ?_
  rintro e w2 ⟨g, rfl, hh, hB2⟩
  obtain ⟨v0, q1, q2, q3, q4, hBg⟩ := hh
  have hgl := q1.lt
  have hh : Hsh w2 w1.heap.size g none [] := ⟨v0, q1, q2, q3, q4, hBg⟩
  have hwr2 := Lib.hid (hwr.out w1.heap.size g w2 hh (Hs.out.keep hB2) (fun hp a n' c' e => ⟨by have := hsep.out hp a n' c' e; omega, by simp⟩))
  have ho2 := ho1.keep hB2
  have hB2' := below_call hB1 hB1.size hB2
  clear hh q1 q2 q3 q4 hB1 hB2 ho1 hsep
  go_wp2_with fail
  refine hwr2.out.mono ?_
  rintro e w3 ⟨rfl, r', hh3, hK3, hm3⟩
  have ho3 := ho2.keeps hK3 (by simp; omega)
  have hB3 := hB2'.trans (hK3.below hB2'.size (by simp; omega))
  have hsm3 := Lib.hid (hsm.out _ _ _ w3 hh3)
  clear hK3 hm3 hh3 ho2 hB2'
  go_wp2_with fail
  refine hsm3.out.mono ?_
  rintro e w4 ⟨rfl, hB4⟩
  have ho4 := ho3.keep hB4
  have hB4' := below_call hB3 hB3.size hB4
  generalize shaL b = O at *
  clear hB4
  go_wp2_with (refine wpList_allocA rfl 25 rfl (bv (zeros 32)) (by kernel_rfl) ?_)
  intro w5 hx5 hK5 hz5
  have ho5 := ho4.keeps hK5 (by simp)
  have hB5 := hB4'.trans (hK5.below hB4'.size (by simp))
  have hol := ho4.lt
  clear hK5 hB4' ho4 ho3
  generalize w4.heap.size = gx at *
  go_wp2_with (refine wpList_storeW rfl 25 (.tmp 4) (.tmp 13) rfl 32 arrH gx rfl (bv O) rfl 25 _ hx5 hHl.out (by simp) (ones_bv _) ?_)
  intro w6 hx6 hK6
  have ho6 := ho5.keeps hK6 (by simp; omega)
  have hgw : w.heap.size ≤ gx := by omega
  have hB6 := hB5.trans (hK6.below hB5.size (by simp; omega))
  clear hK6 hx5 hB5 ho5
  go_wp2_with (first | refine wpList_loadW rfl 25 (.tmp 4) rfl 32 arrH _ rfl 25 _ hx6 hHl.out ?_ | refine wpList_storeW rfl 25 (.tmp 2) (.tmp 15) rfl 32 arrH _ rfl (bv O) rfl 25 _ ho6 hHl.out (by simp) (ones_bv _) ?_)
  intro w7 ho7 hK7
  go_wp2
  exact bodyPost_ret (v := .agg (bv O).toArray) (res_cell Try.results10 _ _ _ 25 _ arrH hHl.out rfl ho7) rfl ⟨rfl, hB6.trans (hK7.below hB6.size (by simp))⟩
theorem shasum_any (b : List Nat) (v : Value) (w : World) (hs : Sl w v (bv b)) (bb : Byt b) (hlen : (b.length : Int) ≤ 549755813888) :
    Calls Try.prog 10 #[v] w (RetH (shaL b) w) := by
  obtain ⟨A, c, rfl, _⟩ := id hs
  exact shasum_core b A _ c w hs bb hlen

end Go.Proofs.Ythlebobfbalknaa
