/- The argument of SealOpens, opened. -/
import Derived.Test.YtlifpmglaoppoaaQ12P4
import Derived.Test.YtlifpmglaoppoaaOpenZ
set_option linter.unusedVariables false
set_option linter.unusedSimpArgs false
namespace Go.Proofs.Ytlifpmglaoppoaa
open Go.ChangeShapes Go.WideShapes Go.ChangeAt Go.RowKit

theorem arr_two {α : Type} {l : List α} {n m : Nat} (h : l.length = n + m) : ∃ X r, l = X ++ r ∧ X.length = n ∧ r.length = m := ⟨l.take n, l.drop n, (List.take_append_drop n l).symm, by simp [h], by simp [h]⟩
theorem two_of {α : Type} {l : List α} (h : l.length = 2) : ∃ u v, l = [u, v] := by
  match l, h with
  | [u, v], _ => exact ⟨u, v, rfl⟩
/-- A pointer's cells, opened. -/
theorem open_ptr {H : Type} {enc : TypeId × Value → H} {W : World} {m : Nat} {Y : List Value} {x : DataW H × List MemPlace} (hf : DataW.trod enc Try.prog W 0 (fun _ => true) true m 41 Y = some x) :
    ∃ (a b : Nat) (s : List Nat), Y = pcells a b s ∧ s.length = 32 ∧ (∀ x ∈ s, x < 256) ∧ (a : Int) ≤ 4294967295 ∧ (b : Int) ≤ 18446744073709551615 := by
  obtain ⟨xs, q, -, -, hl, hxl, hi⟩ := DataW.trod_struct Try.underlying41 hf
  rw [show Try.prog.cellsOf 41 = 34 by kernel_rfl] at hl
  obtain ⟨p2, Z, rfl, h2, hZ⟩ := arr_two (n := 2) (m := 32) (show Y.length = 2 + 32 from hl)
  obtain ⟨u, v, rfl⟩ := two_of h2
  change DataW.trod enc Try.prog W 0 (fun _ => true) true m 41 (u :: v :: Z) = some x at hf
  obtain ⟨x0, x1, x2, rfl⟩ : ∃ a b c, xs = [a, b, c] := by
    match xs, (show xs.length = 3 by simpa using hxl) with
    | [a, b, c], _ => exact ⟨a, b, c, rfl⟩
  have e0 : DataW.trod enc Try.prog W 0 (fun _ => true) true q 35 [u] = some x0 := by
    have h := hi 0 _ rfl
    have e : (List.take (Try.prog.cellsOf 35) (List.drop 0 (u :: v :: Z))) = [u] := by
      rw [show Try.prog.cellsOf 35 = 1 by kernel_rfl]; rfl
    rw [← e]
    exact h
  have e1 : DataW.trod enc Try.prog W 0 (fun _ => true) true q 34 [v] = some x1 := by
    have h := hi 1 _ rfl
    have e : (List.take (Try.prog.cellsOf 34) (List.drop 1 (u :: v :: Z))) = [v] := by
      rw [show Try.prog.cellsOf 34 = 1 by kernel_rfl]; rfl
    rw [← e]
    exact h
  have e2 : DataW.trod enc Try.prog W 0 (fun _ => true) true q 26 Z = some x2 := by
    have h := hi 2 _ rfl
    have e : (List.take (Try.prog.cellsOf 26) (List.drop 2 (u :: v :: Z))) = Z := by
      rw [show Try.prog.cellsOf 26 = 32 by kernel_rfl, show List.drop 2 (u :: v :: Z) = Z from rfl, List.take_of_length_le (by omega)]
    rw [← e]
    exact h
  obtain ⟨s, rfl, ls, bs⟩ := trod_bytes Try.underlying26 Try.underlying5 (by kernel_rfl) (by kernel_rfl) e2
  obtain ⟨i, rfl, wi⟩ := open_nat Try.underlying35 (fun n h => (bounds_u32 h).1) e0
  obtain ⟨j, rfl, wj⟩ := open_nat Try.underlying34 (fun n h => (bounds_u64 h).1) e1
  exact ⟨i, j, s, rfl, ls, bs, (bounds_u32 wi).2, (bounds_u64 wj).2⟩
set_option maxRecDepth 100000 in
theorem open_opened {H : Type} {enc : TypeId × Value → H} {W : World} {base : Nat} {v : Value} {d : DataW H} {p : List MemPlace} (hv : Value.okWide Try.prog W .any base 52 v) (h : DataW.Trod enc Try.prog W 0 (fun _ => true) true 52 v d p)
    (hs : ∀ n, n ∈ d.weights Try.prog 52 → n ≤ reachBytes) :
    ∃ (A : Option Addr) (n c b a : Nat) (y : Bool) (k s m : List Nat), v = .agg (bv k ++ (pcells a b s ++ ([.slice A n c, .bool y] : List Value))).toArray ∧ k.length = 32 ∧ (∀ x ∈ k, x < 256) ∧ s.length = 32 ∧ (∀ x ∈ s, x < 256) ∧ (b : Int) ≤ 18446744073709551615 ∧ (a : Int) ≤ 4294967295 ∧
      Sl W (.slice A n c) (bv m) ∧ (∀ x ∈ m, x < 256) ∧ n = m.length ∧ (n : Int) ≤ 140737488351232 := by
  simp only [Value.okWide, Try.underlying52] at hv
  obtain ⟨cs, rfl, -⟩ := hv
  obtain ⟨L, rfl⟩ : ∃ L : List Value, cs = L.toArray := ⟨cs.toList, by simp⟩
  obtain ⟨fuel, hf⟩ := h
  obtain ⟨xs, q, -, hx, hl, hxl, hi⟩ := DataW.trod_struct Try.underlying52 hf
  try simp only [Value.cells] at hl hi
  rw [show Try.prog.cellsOf 52 = 68 by kernel_rfl] at hl
  obtain ⟨X, R, rfl, hXl, hRl⟩ := arr_two (n := 32) (m := 36) (show L.length = 32 + 36 by simpa using hl)
  obtain ⟨Y, r, rfl, hYl, hrl⟩ := arr_two (n := 34) (m := 2) (show R.length = 34 + 2 by simpa using hRl)
  obtain ⟨e, f, rfl⟩ : ∃ e f, r = [e, f] := by
    match r, hrl with
    | [e, f], _ => exact ⟨e, f, rfl⟩
  obtain ⟨x0, x1, x2, x3, rfl⟩ : ∃ a b c e, xs = [a, b, c, e] := by
    match xs, (show xs.length = 4 by simpa using hxl) with
    | [a, b, c, e], _ => exact ⟨a, b, c, e, rfl⟩
  injection hx with hx1 hx2
  subst hx1
  have e0 : DataW.trod enc Try.prog W 0 (fun _ => true) true q 24 X = some x0 := by
    have h := hi 0 _ rfl
    have e : (List.take (Try.prog.cellsOf 24) (List.drop 0 (X ++ (Y ++ [e, f])))) = X := by
      rw [show Try.prog.cellsOf 24 = 32 by kernel_rfl, List.drop_zero, List.take_left' hXl]
    rw [← e]
    exact h
  have hd : ∀ j, List.drop (32 + j) (X ++ (Y ++ [e, f])) = List.drop j (Y ++ [e, f]) := fun j => by rw [← List.drop_drop, List.drop_left' hXl]
  have hd2 : ∀ j, List.drop (32 + (34 + j)) (X ++ (Y ++ [e, f])) = List.drop j [e, f] := fun j => by rw [hd, ← List.drop_drop, List.drop_left' hYl]
  have e1 : DataW.trod enc Try.prog W 0 (fun _ => true) true q 41 Y = some x1 := by
    have h := hi 1 _ rfl
    have e : (List.take (Try.prog.cellsOf 41) (List.drop 32 (X ++ (Y ++ [e, f])))) = Y := by
      rw [show Try.prog.cellsOf 41 = 34 by kernel_rfl, hd 0, List.drop_zero, List.take_left' hYl]
    rw [← e]
    exact h
  have e2 : DataW.trod enc Try.prog W 0 (fun _ => true) true q 22 [e] = some x2 := by
    have h := hi 2 _ rfl
    have e : (List.take (Try.prog.cellsOf 22) (List.drop 66 (X ++ (Y ++ [e, f])))) = [e] := by
      rw [show Try.prog.cellsOf 22 = 1 by kernel_rfl, hd2 0]; rfl
    rw [← e]
    exact h
  have e3 : DataW.trod enc Try.prog W 0 (fun _ => true) true q 4 [f] = some x3 := by
    have h := hi 3 _ rfl
    have e : (List.take (Try.prog.cellsOf 4) (List.drop 67 (X ++ (Y ++ [e, f])))) = [f] := by
      rw [show Try.prog.cellsOf 4 = 1 by kernel_rfl, hd2 1]; rfl
    rw [← e]
    exact h
  have hwe : ∀ (parts : List (DataW H)), (DataW.agg parts).weights Try.prog 52 = DataW.weightsEach Try.prog [24, 41, 22, 4] parts := fun parts => by
    simp [DataW.weights, Try.underlying52]
  have eb : Try.prog.bytesOf 5 = 1 := by kernel_rfl
  have hsz : ∀ el sp : List (DataW H), x2.1 = .slice el sp → el.length + sp.length ≤ reachBytes := fun el sp h3 => by
    have h := hs ((el.length + sp.length) * Try.prog.bytesOf 5) (by
      rw [hwe]
      exact DataW.weights_mem_each (j := 2) (t := 22) (d := x2.1) rfl rfl _ (by rw [h3]; simp [DataW.weights, Try.underlying22]))
    rw [eb] at h
    omega
  obtain ⟨k, rfl, lk, bk⟩ := trod_bytes Try.underlying24 Try.underlying5 (by kernel_rfl) (by kernel_rfl) e0
  obtain ⟨a, b, s, rfl, ls, bs, wa, wb⟩ := open_ptr e1
  obtain ⟨A, n, c', m, rfl, s1, b1, n1, l1⟩ := open_bytesS e2 hsz
  obtain ⟨y, ey, -⟩ := DataW.trod_bool Try.underlying4 e3
  injection ey with ey
  subst ey
  exact ⟨A, n, c', b, a, y, k, s, m, rfl, lk, bk, ls, bs, wb, wa, s1, b1, n1, l1⟩
end Go.Proofs.Ytlifpmglaoppoaa
