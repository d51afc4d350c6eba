/- The argument of SealBlocks, opened. -/
import Derived.Test.YtlifpmglaoppoaaOpenZ
set_option linter.unusedVariables false
set_option linter.unusedSimpArgs false
namespace Go.Proofs.Ytlifpmglaoppoaa
open Go.ChangeShapes Go.WideShapes Go.ChangeAt Go.RowKit
set_option maxRecDepth 100000 in
theorem open_born {H : Type} {enc : TypeId × Value → H} {W : World} {base : Nat} {v : Value} {d : DataW H} {p : List MemPlace} (hv : Value.okWide Try.prog W .any base 37 v) (h : DataW.Trod enc Try.prog W 0 (fun _ => true) true 37 v d p)
    (hs : ∀ n, n ∈ d.weights Try.prog 37 → n ≤ reachBytes) :
    ∃ (A : Option Addr) (n c b a : Nat) (k m : List Nat), v = .agg (bv k ++ ([.int .u64 (b : Int), .int .u32 (a : Int), .slice A n c] : List Value)).toArray ∧ k.length = 32 ∧ (∀ x ∈ k, x < 256) ∧ (b : Int) ≤ 18446744073709551615 ∧ (a : Int) ≤ 4294967295 ∧ Sl W (.slice A n c) (bv m) ∧ (∀ x ∈ m, x < 256) ∧ n = m.length ∧ (n : Int) ≤ 140737488351232 := by
  simp only [Value.okWide, Try.underlying37] at hv
  obtain ⟨cs, rfl, -⟩ := hv
  obtain ⟨L, rfl⟩ : ∃ L : List Value, cs = L.toArray := ⟨cs.toList, by simp⟩
  obtain ⟨fuel, hf⟩ := h
  obtain ⟨xs, q, -, hx, hl, hxl, hi⟩ := DataW.trod_struct Try.underlying37 hf
  try simp only [Value.cells] at hl hi
  rw [show Try.prog.cellsOf 37 = 35 by kernel_rfl] at hl
  obtain ⟨X, r, rfl, hXl, hrl⟩ := arr_more (n := 3) (show L.length = 32 + 3 by simpa using hl)
  obtain ⟨b, c, e, rfl⟩ : ∃ b c e, r = [b, c, e] := by
    match r, hrl with
    | [b, c, e], _ => exact ⟨b, c, e, rfl⟩
  obtain ⟨x0, x1, x2, x3, rfl⟩ : ∃ a b c e, xs = [a, b, c, e] := by
    match xs, (show xs.length = 4 by simpa using hxl) with
    | [a, b, c, e], _ => exact ⟨a, b, c, e, rfl⟩
  injection hx with hx1 hx2
  subst hx1
  have e0 : DataW.trod enc Try.prog W 0 (fun _ => true) true q 24 X = some x0 := by
    have h := hi 0 _ rfl
    have e : (List.take (Try.prog.cellsOf 24) (List.drop 0 (X ++ [b, c, e]))) = X := by
      rw [show Try.prog.cellsOf 24 = 32 by kernel_rfl, List.drop_zero, List.take_left' hXl]
    rw [← e]
    exact h
  have hd : ∀ j, List.drop (32 + j) (X ++ [b, c, e]) = List.drop j [b, c, e] := fun j => by rw [← List.drop_drop, List.drop_left' hXl]
  have e1 : DataW.trod enc Try.prog W 0 (fun _ => true) true q 34 [b] = some x1 := by
    have h := hi 1 _ rfl
    have e : (List.take (Try.prog.cellsOf 34) (List.drop 32 (X ++ [b, c, e]))) = [b] := by
      rw [show Try.prog.cellsOf 34 = 1 by kernel_rfl, hd 0]; rfl
    rw [← e]
    exact h
  have e2 : DataW.trod enc Try.prog W 0 (fun _ => true) true q 35 [c] = some x2 := by
    have h := hi 2 _ rfl
    have e : (List.take (Try.prog.cellsOf 35) (List.drop 33 (X ++ [b, c, e]))) = [c] := by
      rw [show Try.prog.cellsOf 35 = 1 by kernel_rfl, hd 1]; rfl
    rw [← e]
    exact h
  have e3 : DataW.trod enc Try.prog W 0 (fun _ => true) true q 22 [e] = some x3 := by
    have h := hi 3 _ rfl
    have e : (List.take (Try.prog.cellsOf 22) (List.drop 34 (X ++ [b, c, e]))) = [e] := by
      rw [show Try.prog.cellsOf 22 = 1 by kernel_rfl, hd 2]; rfl
    rw [← e]
    exact h
  have hwe : ∀ (parts : List (DataW H)), (DataW.agg parts).weights Try.prog 37 = DataW.weightsEach Try.prog [24, 34, 35, 22] parts := fun parts => by
    simp [DataW.weights, Try.underlying37]
  have eb : Try.prog.bytesOf 5 = 1 := by kernel_rfl
  have hsz : ∀ el sp : List (DataW H), x3.1 = .slice el sp → el.length + sp.length ≤ reachBytes := fun el sp h3 => by
    have h := hs ((el.length + sp.length) * Try.prog.bytesOf 5) (by
      rw [hwe]
      exact DataW.weights_mem_each (j := 3) (t := 22) (d := x3.1) rfl rfl _ (by rw [h3]; simp [DataW.weights, Try.underlying22]))
    rw [eb] at h
    omega
  obtain ⟨k, rfl, lk, bk⟩ := trod_bytes Try.underlying24 Try.underlying5 (by kernel_rfl) (by kernel_rfl) e0
  obtain ⟨A, n, c', m, rfl, s1, b1, n1, l1⟩ := open_bytesS e3 hsz
  obtain ⟨i, rfl, wi⟩ := open_nat Try.underlying34 (fun n h => (bounds_u64 h).1) e1
  obtain ⟨j, rfl, wj⟩ := open_nat Try.underlying35 (fun n h => (bounds_u32 h).1) e2
  exact ⟨A, n, c', i, j, k, m, rfl, lk, bk, (bounds_u64 wi).2, (bounds_u32 wj).2, s1, b1, n1, l1⟩
end Go.Proofs.Ytlifpmglaoppoaa
