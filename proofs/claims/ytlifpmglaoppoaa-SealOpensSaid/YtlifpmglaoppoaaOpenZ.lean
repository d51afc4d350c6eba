/- Arguments of layer 12's statements that are structs, opened. -/
import Derived.Test.YtlifpmglaoppoaaOpenY
import Derived.Test.YtlifpmglaoppoaaOpenB
set_option linter.unusedVariables false
set_option linter.unusedSimpArgs false
namespace Go.Proofs.Ytlifpmglaoppoaa
open Go.ChangeShapes Go.WideShapes Go.ChangeAt Go.RowKit

theorem open_nat {H : Type} {enc : TypeId × Value → H} {P : Program} {W : World} {m : Nat} {t : TypeId} {k : IntKind} {v : Value} {x : DataW H × List MemPlace} (hu : P.underlying t = some (.int k)) (hk : ∀ n, (Lit.int k n).wf = true → 0 ≤ n) (hf : DataW.trod enc P W 0 (fun _ => true) true m t [v] = some x) :
    ∃ i : Nat, v = .int k (i : Int) ∧ (Lit.int k (i : Int)).wf = true := by
  obtain ⟨i, ei, -, wi⟩ := DataW.trod_int hu hf
  injection ei with ei
  obtain ⟨j, rfl⟩ := Int.eq_ofNat_of_zero_le (hk i wi)
  exact ⟨j, ei, wi⟩
theorem arr_more {α : Type} {l : List α} {n : Nat} (h : l.length = 32 + n) : ∃ X r, l = X ++ r ∧ X.length = 32 ∧ r.length = n := ⟨l.take 32, l.drop 32, (List.take_append_drop 32 l).symm, by simp [h], by simp [h]⟩
set_option maxRecDepth 100000 in
theorem open_turned {H : Type} {enc : TypeId × Value → H} {W : World} {base : Nat} {v : Value} {d : DataW H} {p : List MemPlace} (hv : Value.okWide Try.prog W .any base 58 v) (h : DataW.Trod enc Try.prog W 0 (fun _ => true) true 58 v d p)
    (hs : ∀ n, n ∈ d.weights Try.prog 58 → n ≤ reachBytes) :
    ∃ (A A2 : Option Addr) (n c n2 c2 a t u : Nat) (k m : List Nat), v = .agg #[.slice A n c, .slice A2 n2 c2, .int .u16 (a : Int), .int .u16 (t : Int), .int .u8 (u : Int)] ∧ Sl W (.slice A n c) (bv k) ∧ (∀ x ∈ k, x < 256) ∧ n = k.length ∧ (n : Int) ≤ 140737488351232 ∧ Sl W (.slice A2 n2 c2) (bv m) ∧ (∀ x ∈ m, x < 256) ∧ n2 = m.length ∧ (n2 : Int) ≤ 140737488351232 ∧ (a : Int) ≤ 65535 ∧ (t : Int) ≤ 65535 ∧ (u : Int) ≤ 255 := by
  simp only [Value.okWide, Try.underlying58] at hv
  obtain ⟨cs, rfl, -⟩ := hv
  obtain ⟨L, rfl⟩ : ∃ L : List Value, cs = L.toArray := ⟨cs.toList, by simp⟩
  obtain ⟨fuel, hf⟩ := h
  obtain ⟨xs, q, -, hx, hl, hxl, hi⟩ := DataW.trod_struct Try.underlying58 hf
  try simp only [Value.cells] at hl hi
  rw [show Try.prog.cellsOf 58 = 5 by kernel_rfl] at hl
  obtain ⟨a, b, c, e, f, rfl⟩ : ∃ a b c e f, L = [a, b, c, e, f] := by
    match L, (show L.length = 5 by simpa using hl) with
    | [a, b, c, e, f], _ => exact ⟨a, b, c, e, f, rfl⟩
  obtain ⟨x0, x1, x2, x3, x4, rfl⟩ : ∃ a b c e f, xs = [a, b, c, e, f] := by
    match xs, (show xs.length = 5 by simpa using hxl) with
    | [a, b, c, e, f], _ => exact ⟨a, b, c, e, f, rfl⟩
  injection hx with hx1 hx2
  subst hx1
  have e0 : DataW.trod enc Try.prog W 0 (fun _ => true) true q 22 [a] = some x0 := hi 0 _ rfl
  have e1 : DataW.trod enc Try.prog W 0 (fun _ => true) true q 22 [b] = some x1 := hi 1 _ rfl
  have e2 : DataW.trod enc Try.prog W 0 (fun _ => true) true q 56 [c] = some x2 := hi 2 _ rfl
  have e3 : DataW.trod enc Try.prog W 0 (fun _ => true) true q 56 [e] = some x3 := hi 3 _ rfl
  have e4 : DataW.trod enc Try.prog W 0 (fun _ => true) true q 5 [f] = some x4 := hi 4 _ rfl
  have hwe : ∀ (parts : List (DataW H)), (DataW.agg parts).weights Try.prog 58 = DataW.weightsEach Try.prog [22, 22, 56, 56, 5] parts := fun parts => by
    simp [DataW.weights, Try.underlying58]
  have eb : Try.prog.bytesOf 5 = 1 := by kernel_rfl
  have hsz : ∀ (j : Nat) (y : DataW H), ([22, 22, 56, 56, 5] : List TypeId)[j]? = some 22 → [x0.1, x1.1, x2.1, x3.1, x4.1][j]? = some y → ∀ el sp : List (DataW H), y = .slice el sp → el.length + sp.length ≤ reachBytes := fun j y h1 h2 el sp h3 => by
    have h := hs ((el.length + sp.length) * Try.prog.bytesOf 5) (by
      rw [hwe]
      exact DataW.weights_mem_each h1 h2 _ (by subst h3; simp [DataW.weights, Try.underlying22]))
    rw [eb] at h
    omega
  obtain ⟨A, n, c', k, rfl, s1, b1, n1, l1⟩ := open_bytesS e0 (hsz 0 x0.1 rfl rfl)
  obtain ⟨A2, n2, c2, m, rfl, s2, b2, nn2, l2⟩ := open_bytesS e1 (hsz 1 x1.1 rfl rfl)
  obtain ⟨i, rfl, wi⟩ := open_nat Try.underlying56 (fun n h => (bounds_u16 h).1) e2
  obtain ⟨j, rfl, wj⟩ := open_nat Try.underlying56 (fun n h => (bounds_u16 h).1) e3
  obtain ⟨u, rfl, wu⟩ := open_nat Try.underlying5 (fun n h => (bounds_u8 h).1) e4
  exact ⟨A, A2, n, c', n2, c2, i, j, u, k, m, rfl, s1, b1, n1, l1, s2, b2, nn2, l2, (bounds_u16 wi).2, (bounds_u16 wj).2, (bounds_u8 wu).2⟩
set_option maxRecDepth 100000 in
theorem open_stream12 {H : Type} {enc : TypeId × Value → H} {W : World} {base : Nat} {v : Value} {d : DataW H} {p : List MemPlace} (hv : Value.okWide Try.prog W .any base 62 v) (h : DataW.Trod enc Try.prog W 0 (fun _ => true) true 62 v d p)
    (hs : ∀ n, n ∈ d.weights Try.prog 62 → n ≤ reachBytes) :
    ∃ (A : Option Addr) (n c b a : Nat) (k m : List Nat), v = .agg (bv k ++ ([.int .u32 (b : Int), .int .u16 (a : Int), .slice A n c] : List Value)).toArray ∧ k.length = 32 ∧ (∀ x ∈ k, x < 256) ∧ (b : Int) ≤ 4294967295 ∧ (a : Int) ≤ 65535 ∧ Sl W (.slice A n c) (bv m) ∧ (∀ x ∈ m, x < 256) ∧ n = m.length ∧ (n : Int) ≤ 140737488351232 := by
  simp only [Value.okWide, Try.underlying62] at hv
  obtain ⟨cs, rfl, -⟩ := hv
  obtain ⟨L, rfl⟩ : ∃ L : List Value, cs = L.toArray := ⟨cs.toList, by simp⟩
  obtain ⟨fuel, hf⟩ := h
  obtain ⟨xs, q, -, hx, hl, hxl, hi⟩ := DataW.trod_struct Try.underlying62 hf
  try simp only [Value.cells] at hl hi
  rw [show Try.prog.cellsOf 62 = 35 by kernel_rfl] at hl
  obtain ⟨X, r, rfl, hXl, hrl⟩ := arr_more (n := 3) (show L.length = 32 + 3 by simpa using hl)
  obtain ⟨b, c, e, rfl⟩ : ∃ b c e, r = [b, c, e] := by
    match r, hrl with
    | [b, c, e], _ => exact ⟨b, c, e, rfl⟩
  obtain ⟨x0, x1, x2, x3, rfl⟩ : ∃ a b c e, xs = [a, b, c, e] := by
    match xs, (show xs.length = 4 by simpa using hxl) with
    | [a, b, c, e], _ => exact ⟨a, b, c, e, rfl⟩
  injection hx with hx1 hx2
  subst hx1
  have e0 : DataW.trod enc Try.prog W 0 (fun _ => true) true q 24 X = some x0 := by
    have h := hi 0 _ rfl
    have e : (List.take (Try.prog.cellsOf 24) (List.drop 0 (X ++ [b, c, e]))) = X := by
      rw [show Try.prog.cellsOf 24 = 32 by kernel_rfl, List.drop_zero, List.take_left' hXl]
    rw [← e]
    exact h
  have hd : ∀ j, List.drop (32 + j) (X ++ [b, c, e]) = List.drop j [b, c, e] := fun j => by rw [← List.drop_drop, List.drop_left' hXl]
  have e1 : DataW.trod enc Try.prog W 0 (fun _ => true) true q 35 [b] = some x1 := by
    have h := hi 1 _ rfl
    have e : (List.take (Try.prog.cellsOf 35) (List.drop 32 (X ++ [b, c, e]))) = [b] := by
      rw [show Try.prog.cellsOf 35 = 1 by kernel_rfl, hd 0]; rfl
    rw [← e]
    exact h
  have e2 : DataW.trod enc Try.prog W 0 (fun _ => true) true q 56 [c] = some x2 := by
    have h := hi 2 _ rfl
    have e : (List.take (Try.prog.cellsOf 56) (List.drop 33 (X ++ [b, c, e]))) = [c] := by
      rw [show Try.prog.cellsOf 56 = 1 by kernel_rfl, hd 1]; rfl
    rw [← e]
    exact h
  have e3 : DataW.trod enc Try.prog W 0 (fun _ => true) true q 22 [e] = some x3 := by
    have h := hi 3 _ rfl
    have e : (List.take (Try.prog.cellsOf 22) (List.drop 34 (X ++ [b, c, e]))) = [e] := by
      rw [show Try.prog.cellsOf 22 = 1 by kernel_rfl, hd 2]; rfl
    rw [← e]
    exact h
  have hwe : ∀ (parts : List (DataW H)), (DataW.agg parts).weights Try.prog 62 = DataW.weightsEach Try.prog [24, 35, 56, 22] parts := fun parts => by
    simp [DataW.weights, Try.underlying62]
  have eb : Try.prog.bytesOf 5 = 1 := by kernel_rfl
  have hsz : ∀ el sp : List (DataW H), x3.1 = .slice el sp → el.length + sp.length ≤ reachBytes := fun el sp h3 => by
    have h := hs ((el.length + sp.length) * Try.prog.bytesOf 5) (by
      rw [hwe]
      exact DataW.weights_mem_each (j := 3) (t := 22) (d := x3.1) rfl rfl _ (by rw [h3]; simp [DataW.weights, Try.underlying22]))
    rw [eb] at h
    omega
  obtain ⟨k, rfl, lk, bk⟩ := trod_bytes Try.underlying24 Try.underlying5 (by kernel_rfl) (by kernel_rfl) e0
  obtain ⟨A, n, c', m, rfl, s1, b1, n1, l1⟩ := open_bytesS e3 hsz
  obtain ⟨i, rfl, wi⟩ := open_nat Try.underlying35 (fun n h => (bounds_u32 h).1) e1
  obtain ⟨j, rfl, wj⟩ := open_nat Try.underlying56 (fun n h => (bounds_u16 h).1) e2
  exact ⟨A, n, c', i, j, k, m, rfl, lk, bk, (bounds_u32 wi).2, (bounds_u16 wj).2, s1, b1, n1, l1⟩
set_option maxRecDepth 100000 in
theorem open_two12 {H : Type} {enc : TypeId × Value → H} {W : World} {base : Nat} {v : Value} {d : DataW H} {p : List MemPlace} (hv : Value.okWide Try.prog W .any base 70 v) (h : DataW.Trod enc Try.prog W 0 (fun _ => true) true 70 v d p) :
    ∃ (a b c d : Nat) (k : List Nat), v = .agg (bv k ++ ([.int .u32 (a : Int), .int .u32 (b : Int), .int .u16 (c : Int), .int .u16 (d : Int)] : List Value)).toArray ∧ k.length = 32 ∧ (∀ x ∈ k, x < 256) ∧ (a : Int) ≤ 4294967295 ∧ (b : Int) ≤ 4294967295 ∧ (c : Int) ≤ 65535 ∧ (d : Int) ≤ 65535 := by
  simp only [Value.okWide, Try.underlying70] at hv
  obtain ⟨cs, rfl, -⟩ := hv
  obtain ⟨L, rfl⟩ : ∃ L : List Value, cs = L.toArray := ⟨cs.toList, by simp⟩
  obtain ⟨fuel, hf⟩ := h
  obtain ⟨xs, q, -, hx, hl, hxl, hi⟩ := DataW.trod_struct Try.underlying70 hf
  try simp only [Value.cells] at hl hi
  rw [show Try.prog.cellsOf 70 = 36 by kernel_rfl] at hl
  obtain ⟨X, r, rfl, hXl, hrl⟩ := arr_more (n := 4) (show L.length = 32 + 4 by simpa using hl)
  obtain ⟨b, c, e, f, rfl⟩ : ∃ b c e f, r = [b, c, e, f] := by
    match r, hrl with
    | [b, c, e, f], _ => exact ⟨b, c, e, f, rfl⟩
  obtain ⟨x0, x1, x2, x3, x4, rfl⟩ : ∃ a b c e f, xs = [a, b, c, e, f] := by
    match xs, (show xs.length = 5 by simpa using hxl) with
    | [a, b, c, e, f], _ => exact ⟨a, b, c, e, f, rfl⟩
  have e0 : DataW.trod enc Try.prog W 0 (fun _ => true) true q 24 X = some x0 := by
    have h := hi 0 _ rfl
    have e : (List.take (Try.prog.cellsOf 24) (List.drop 0 (X ++ [b, c, e, f]))) = X := by
      rw [show Try.prog.cellsOf 24 = 32 by kernel_rfl, List.drop_zero, List.take_left' hXl]
    rw [← e]
    exact h
  have hd : ∀ j, List.drop (32 + j) (X ++ [b, c, e, f]) = List.drop j [b, c, e, f] := fun j => by rw [← List.drop_drop, List.drop_left' hXl]
  have e1 : DataW.trod enc Try.prog W 0 (fun _ => true) true q 35 [b] = some x1 := by
    have h := hi 1 _ rfl
    have e : (List.take (Try.prog.cellsOf 35) (List.drop 32 (X ++ [b, c, e, f]))) = [b] := by
      rw [show Try.prog.cellsOf 35 = 1 by kernel_rfl, hd 0]; rfl
    rw [← e]
    exact h
  have e2 : DataW.trod enc Try.prog W 0 (fun _ => true) true q 35 [c] = some x2 := by
    have h := hi 2 _ rfl
    have e : (List.take (Try.prog.cellsOf 35) (List.drop 33 (X ++ [b, c, e, f]))) = [c] := by
      rw [show Try.prog.cellsOf 35 = 1 by kernel_rfl, hd 1]; rfl
    rw [← e]
    exact h
  have e3 : DataW.trod enc Try.prog W 0 (fun _ => true) true q 56 [e] = some x3 := by
    have h := hi 3 _ rfl
    have e : (List.take (Try.prog.cellsOf 56) (List.drop 34 (X ++ [b, c, e, f]))) = [e] := by
      rw [show Try.prog.cellsOf 56 = 1 by kernel_rfl, hd 2]; rfl
    rw [← e]
    exact h
  have e4 : DataW.trod enc Try.prog W 0 (fun _ => true) true q 56 [f] = some x4 := by
    have h := hi 4 _ rfl
    have e : (List.take (Try.prog.cellsOf 56) (List.drop 35 (X ++ [b, c, e, f]))) = [f] := by
      rw [show Try.prog.cellsOf 56 = 1 by kernel_rfl, hd 3]; rfl
    rw [← e]
    exact h
  obtain ⟨k, rfl, lk, bk⟩ := trod_bytes Try.underlying24 Try.underlying5 (by kernel_rfl) (by kernel_rfl) e0
  obtain ⟨i, rfl, wi⟩ := open_nat Try.underlying35 (fun n h => (bounds_u32 h).1) e1
  obtain ⟨j, rfl, wj⟩ := open_nat Try.underlying35 (fun n h => (bounds_u32 h).1) e2
  obtain ⟨u, rfl, wu⟩ := open_nat Try.underlying56 (fun n h => (bounds_u16 h).1) e3
  obtain ⟨v, rfl, wv⟩ := open_nat Try.underlying56 (fun n h => (bounds_u16 h).1) e4
  exact ⟨i, j, u, v, k, rfl, lk, bk, (bounds_u32 wi).2, (bounds_u32 wj).2, (bounds_u16 wu).2, (bounds_u16 wv).2⟩
end Go.Proofs.Ytlifpmglaoppoaa
