/- Contract of slices.Chunk over bytes, in parts of 64: the parts come one behind the other. -/
import Derived.Test.YthlebobfbalknaaRng
import Derived.Test.YthlebobfbalknaaClo
import Derived.IntWalk
set_option linter.unusedVariables false
set_option linter.unusedSimpArgs false
namespace Go.Proofs.Ythlebobfbalknaa
open Go.RowKit
attribute [local go_sem] Oper.semAt_some

/-- Which part. -/
abbrev Part (q : Nat) : Type := { j : Nat // j < q }
def partV (ge q : Nat) (x : Part q) : Value := .slice (some ⟨ge, 64 * x.1, none⟩) 64 64
/-- The first ones. -/
def ptsTo (q k : Nat) (h : k ≤ q) : List (Part q) := (List.range k).attach.map (fun i => ⟨i.1, by have := List.mem_range.1 i.2; omega⟩)
theorem ptsTo_length (q k : Nat) (h : k ≤ q) : (ptsTo q k h).length = k := by simp [ptsTo]
theorem ptsTo_vals (q k : Nat) (h : k ≤ q) : (ptsTo q k h).map (·.1) = List.range k := by
  simp [ptsTo, Function.comp_def]
theorem pts_inj {q : Nat} : ∀ a b : List (Part q), a.map (·.1) = b.map (·.1) → a = b
  | [], [], _ => rfl
  | [], y :: b, h => by simp at h
  | x :: a, [], h => by simp at h
  | x :: a, y :: b, h => by
    simp only [List.map_cons, List.cons.injEq] at h
    rw [Subtype.ext h.1, pts_inj a b h.2]
theorem ptsTo_succ (q k : Nat) (h : k + 1 ≤ q) : ptsTo q (k + 1) h = ptsTo q k (by omega) ++ [⟨k, by omega⟩] := by
  apply pts_inj
  rw [ptsTo_vals, List.map_append, ptsTo_vals, List.range_succ]
  rfl

set_option maxHeartbeats 1000000 in
theorem chunk_any (A : Option Addr) (n c : Nat) (w : World) :
    Calls Try.prog 34 #[.slice A n c, .int .i64 64] w fun e w' => e = .returned (.func (.func 46) #[] #[.pointer (some ⟨w.heap.size, 0, none⟩), .pointer (some ⟨w.heap.size + 1, 0, none⟩)]) ∧
      w' = (w.alloc (.cells #[.slice A n c] 22)).alloc (.cells #[.int .i64 64] 3) := by
  go_enter Try.func34, Try.ntmps34
  go_wp2
  go_ret
  exact ⟨rfl, rfl⟩
/-- What a round keeps: the two boxes. -/
def KpC (Bs : Nat) (W W' : World) : Prop := ∀ b, b = Bs ∨ b = Bs + 1 → W'.heap[b]? = W.heap[b]?

set_option maxRecDepth 100000 in
set_option maxHeartbeats 2000000 in
theorem chunk1_in (n : Nat) (hn : 1 ≤ n) (l Bs ge q c : Nat) (hq : (64 * q : Int) ≤ 140737488355328) (hc : 64 * q ≤ c) (hc2 : c ≤ maxLen) (J Jx : List (Part q) → World → Prop)
    (hY : ∀ pre x W, J pre W → pre.length < q → YieldAt Fence.wide (n - 1) Try.prog l #[partV ge q x] W fun e W' =>
      (e = .returned (.bool true) ∧ J (pre ++ [x]) W' ∧ KpC Bs W W') ∨ (e = .returned (.bool false) ∧ Jx (pre ++ [x]) W'))
    (hJd : ∀ pre W n, J pre W → J pre (W.drewN n))
    (W : World) (h1 : Blk W Bs 22 [.slice (some ⟨ge, 0, none⟩) (64 * q) c]) (h2 : Blk W (Bs + 1) 3 [.int .i64 64]) (h0 : J [] W) :
    CallsIn Fence.wide n Try.prog 46 #[.func (.yield l) #[] #[], .pointer (some ⟨Bs, 0, none⟩), .pointer (some ⟨Bs + 1, 0, none⟩)] W fun e W' => (∃ v, e = .returned v) ∧
      ((∃ ys, ys = ptsTo q q (Nat.le_refl _) ∧ J ys W') ∨ (∃ pre, True ∧ Jx pre W')) := by
  refine callsIn_of_wp Try.func46 rfl trivial ?_ rfl
  simp only [Try.ntmps46, List.size_toArray, List.length_cons, List.length_nil, Nat.reduceAdd, Nat.reduceSub, Array.replicate_succ, Array.replicate_zero, List.push_toArray, List.append_toArray, List.nil_append, List.cons_append]
  gi_wp2
  gi_loopw [4] (fun i wr => ∃ (k : Nat) (hk : k ≤ q), i = .int .i64 ((64 * k : Nat) : Int) ∧ J (ptsTo q k hk) wr ∧ Blk wr Bs 22 [.slice (some ⟨ge, 0, none⟩) (64 * q) c] ∧ Blk wr (Bs + 1) 3 [.int .i64 64])
    (fun i _ => 64 * q - (intOf i).toNat)
  case atStart => exact ⟨0, Nat.zero_le _, rfl, h0, h1, h2⟩
  case round =>
    clear h0 h1 h2
    obtain ⟨k, hk, rfl, hJs, h1, h2⟩ := hrel
    have hJs := Lib.hid hJs
    have c1 : wr.cell? ⟨Bs, 0, none⟩ = some (.slice (some ⟨ge, 0, none⟩) (64 * q) c) := by have := h1.cell 0; simpa using this
    have c2 : wr.cell? ⟨Bs + 1, 0, none⟩ = some (.int .i64 64) := by have := h2.cell 0; simpa using this
    by_cases hlt : k < q
    · gi_wp2
      refine wpIn_wide.2 ?_
      go_quiet (fail)
      obtain ⟨fn, tmps, assign, body, hy, hR⟩ := hY _ ⟨k, hlt⟩ (wr.drewN nq) (hJd _ _ _ hJs.out) (by rw [ptsTo_length]; exact hlt)
      simp only [partV] at hy
      have hcI : (64 * (k : Int)) + 64 ≤ (c : Int) := by omega
      gi_wp2
      refine hR.mono ?_
      rintro e W3 (⟨rfl, hJ3, hk3⟩ | ⟨rfl, hJx3⟩)
      · have g1 : Blk W3 Bs 22 [.slice (some ⟨ge, 0, none⟩) (64 * q) c] := (hk3 Bs (.inl rfl)).trans h1
        have g2 : Blk W3 (Bs + 1) 3 [.int .i64 64] := (hk3 (Bs + 1) (.inr rfl)).trans h2
        have c2 : W3.cell? ⟨Bs + 1, 0, none⟩ = some (.int .i64 64) := by have := g2.cell 0; simpa using this
        gi_wp2
        go_roundw
        case rel => exact ⟨k + 1, by omega, by go_num, by rw [ptsTo_succ]; exact hJ3, g1, g2⟩
        case measure => simp [intOf]; omega
      · gi_wp2
        refine bodyPost_ret (results_none rfl _ _ _) rfl ?_
        exact ⟨⟨_, rfl⟩, .inr ⟨_, trivial, hJx3⟩⟩
    · obtain rfl : k = q := by omega
      gi_wp2
      go_end0
      exact ⟨⟨_, rfl⟩, .inl ⟨_, rfl, hJs.out⟩⟩
theorem chunk_stops (n : Nat) (hn : 1 ≤ n) (Bs ge q c : Nat) (hq : (64 * q : Int) ≤ 140737488355328) (hc : 64 * q ≤ c) (hc2 : c ≤ maxLen) (w : World) (h1 : Blk w Bs 22 [.slice (some ⟨ge, 0, none⟩) (64 * q) c]) (h2 : Blk w (Bs + 1) 3 [.int .i64 64]) :
    SeqStopsK Fence.wide n Try.prog 46 #[.pointer (some ⟨Bs, 0, none⟩), .pointer (some ⟨Bs + 1, 0, none⟩)] (fun x : Part q => #[partV ge q x]) (KpC Bs) (fun ys => ys = ptsTo q q (Nat.le_refl _)) (fun _ => True) q w := fun l J Jx W hW hJ _ hY h0 =>
  chunk1_in n hn l Bs ge q c hq hc hc2 J Jx hY (fun pre W n h => hJ pre W _ none h ⟨rfl, rfl, rfl, Nat.le_refl _, fun _ _ _ => rfl⟩ (fun r e => by cases e)) W (h1.keep hW) (h2.keep hW) h0
end Go.Proofs.Ythlebobfbalknaa
