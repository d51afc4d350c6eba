/- Contracts of package sha: Sum of a hasher. -/
import Derived.Test.YthlebobfbalknaaShF
import Derived.Test.YthlebobfbalknaaChk
import Derived.Test.YthlebobfbalknaaNumD
import Derived.Laws.ResultCell
set_option linter.unusedVariables false
set_option linter.unusedSimpArgs false
namespace Go.Proofs.Ythlebobfbalknaa
open Go.RowKit
open Go.Proofs.PlainAes
open Go.Proofs.PlainSha
attribute [local go_sem] Oper.semAt_some

theorem noughts_step (n j : Nat) (h : j < noughts n) : ¬ (n % 64 + 1 + j) % 64 = 56 := by unfold noughts at h; omega
theorem noughts_end (n : Nat) : (n % 64 + 1 + noughts n) % 64 = 56 := by unfold noughts; omega
theorem rs_len (l : List Nat) : (rsOf l).length = l.length % 64 := by simp [rsOf]; omega
/-- The last bytes: the rest, with what stands behind. -/
def endOf (l : List Nat) : List Nat := rsOf l ++ [128] ++ List.replicate (noughts l.length) 0 ++ putB (l.length * 8 % 18446744073709551616) 8
theorem pad_drop (l : List Nat) : (pad l).drop (64 * (l.length / 64)) = endOf l := by
  unfold pad endOf rsOf
  rw [List.append_assoc, List.append_assoc, List.drop_append_of_le_length (by omega)]
  simp only [List.append_assoc]
theorem hash_eq (l : List Nat) (q : Nat) (h : (endOf l).length = 64 * q) : shaL l = outL (states K0 (stOf l) (endOf l) q) := by
  have e1 : (pad l).length = 64 * (l.length / 64 + q) := by
    have h2 := congrArg List.length (pad_drop l)
    rw [List.length_drop, h] at h2
    have h3 : l.length ≤ (pad l).length := by simp [pad]
    omega
  have e2 : (pad l).length / 64 = l.length / 64 + q := by omega
  have e3 : states K0 H0 (pad l) (l.length / 64) = stOf l := by
    unfold pad stOf
    rw [List.append_assoc, List.append_assoc]
    exact states_append K0 H0 l _ _ (by omega)
  unfold shaL
  rw [e2, states_add, e3, pad_drop]
theorem fold_ok (E : List Nat) {q : Nat} : ∀ (pre : List (Part q)) (s : List Nat), s.length = 8 → Wds s → (pre.foldl (fun s x => takeS K0 s (seg E (64 * x.1) 64)) s).length = 8 ∧ Wds (pre.foldl (fun s x => takeS K0 s (seg E (64 * x.1) 64)) s)
  | [], s, h1, h2 => ⟨h1, h2⟩
  | x :: pre, s, h1, h2 => fold_ok E pre _ (takeS_length _ _ _) (takeS_wds _ _ _)
theorem fold_states (E s : List Nat) (q : Nat) : ∀ (k : Nat) (hk : k ≤ q), (ptsTo q k hk).foldl (fun s x => takeS K0 s (seg E (64 * x.1) 64)) s = states K0 s E k
  | 0, _ => rfl
  | k + 1, hk => by rw [ptsTo_succ, List.foldl_append, fold_states E s q k (by omega)]; rfl
theorem Sl.recap {w : World} {A : Option Addr} {n c c' : Nat} {xs : List Value} (h : Sl w (.slice A n c) xs) (h1 : n ≤ c') (h2 : c' ≤ maxLen) : Sl w (.slice A n c') xs := by
  obtain ⟨A', c0, e, a1, a2, a3⟩ := h
  injection e with e1 e2 e3
  subst e1 e2 e3
  exact ⟨A, c', rfl, h1, h2, a3⟩
theorem own_belowB {b B : Nat} {w w' : World} {e : TypeId} {v : Value} {n : Nat} {xs : List Value} (h : w.ownsRow b e 1 v n xs) (hB : Below B w w') (hk : ∀ k, v.ownBlock = some k → k < B) : w'.ownsRow b e 1 v n xs := by
  obtain ⟨h1, h2⟩ := h
  refine ⟨h1, ?_⟩
  rcases h2 with h | ⟨g, cap, cur, rfl, hb2, hg, r⟩
  · exact .inl h
  · exact .inr ⟨g, cap, cur, rfl, hb2, (hB.block g (hk g rfl)).trans hg, r⟩
/-- What a function answers with a block's row and a number. -/
theorem res_cell_tmp {P : Program} {fn : Func} {p u : Tmp} {ty n : Nat} (h : fn.results = #[.cell p ty, .tmp u]) (tmps : Array Value) (w : World) (g : Nat) (t : TypeId) (L : List Value) (hT : ArrTy P ty n) (hl : L.length = n)
    (hp : tmps.getD p undef = .pointer (some ⟨g, 0, none⟩)) (v : Value) (hv : tmps.getD u undef = v) (hb : Blk w g t L) : (results fn tmps).run P w = .ok (.tuple #[.agg L.toArray, v]) w := by
  obtain ⟨d, hu, hd, hi⟩ := hT
  have e1 := run_loadVar_row (P := P) w g t ty L.toArray (0, 0) d hb hu (by cases d <;> simp_all) (by simpa [hl] using hi)
  rw [results_cell_tmp h, hp, hv]
  simp [asAddr, Result.andThen, e1]
theorem index_word (L : List Nat) (k : Nat) (hL : L.length = 8) (hk : k < 8) (w : World) : (Instr.index 72 (.agg (wv L).toArray) (.int .i64 (k : Int))).run Try.prog w = .ok (.int .u32 ((gd L k : Nat) : Int)) w := by
  have hu : Try.prog.underlying 72 = some (.array 8 70) := Try.underlying72
  have hs : (sizeOf 70).run Try.prog w = .ok 1 w := by kernel_rfl
  have ha : (isAgg 70).run Try.prog w = .ok false w := by kernel_rfl
  have hg : (wv L)[k]? = some (.int .u32 ((gd L k : Nat) : Int)) := gd_wv (by omega)
  have hkI : (k : Int) < 8 := by omega
  simp [Instr.index, asIntOf, Sem.run_bind, run_underlying hu, hs, ha, part, hk, hg]
theorem outL_length (s : List Nat) : (outL s).length = 32 := by
  simp [outL, mk, Function.comp_def]
  rfl
theorem outL_seg (s : List Nat) (k : Nat) (hk : k < 8) : ((outL s).drop (4 * k)).take 4 = putB (gd s k) 4 := by
  rcases (by omega : k = 0 ∨ k = 1 ∨ k = 2 ∨ k = 3 ∨ k = 4 ∨ k = 5 ∨ k = 6 ∨ k = 7) with rfl | rfl | rfl | rfl | rfl | rfl | rfl | rfl
  all_goals simp [outL, mk, List.range_succ, putB]
theorem outL_byt (s : List Nat) : Byt (outL s) := by
  intro x hx
  simp only [outL, List.mem_flatMap] at hx
  obtain ⟨a, _, h⟩ := hx
  exact putB_lt _ _ x h
theorem arrH : ArrTy Try.prog 25 32 := ⟨_, Try.underlying25, rfl, by kernel_rfl⟩
def RetSum (l : List Nat) (w : World) (e : Ending) (w' : World) : Prop := e = .returned (.tuple #[.agg (bv (shaL l)).toArray, .int .i64 0]) ∧ Below w.heap.size w w'

set_option maxRecDepth 100000 in
set_option maxHeartbeats 4000000 in
theorem sum_any (l : List Nat) (B g : Nat) (r : Option Nat) (w : World) (h : Hsh w B g r l) (bl : Byt l) (hlen : (l.length : Int) ≤ 1099511627776) :
    Calls Try.prog 23 #[.pointer (some ⟨g, 0, none⟩)] w (RetSum l w) := by
  obtain ⟨i0, hi, hz0, hz1, hz2⟩ := info_parts (P := Try.prog) (e := 5) (z := .int .u8 0) (size := 1) (bytes := 1) (by kernel_rfl)
  obtain ⟨v0, hb0, own0, hr0, hrg, hBg⟩ := h
  have hst := stOf_length l
  have hgl := hb0.lt
  have hrl := rs_len l
  have hcl := Lib.hid (fun w h => clone_own (B := B) v0 (rsOf l) w h (by rw [hrl]; omega))
  have hrlI : ((rsOf l).length : Int) < 64 := by omega
  obtain ⟨A0, c0, rfl, -⟩ := own_shape own0
  replace hr0 := Lib.hid hr0
  replace hrg := Lib.hid hrg
  replace hst := Lib.hid hst
  replace hrl := Lib.hid hrl
  have c72 := hb0.cell 72
  rw [hcells_v _ _ _ hst.out] at c72
  refine (callsIn_wide (n := 5)).1 ?_
  refine callsIn_of_wp_marks Try.func23 rfl trivial ?_ rfl
  refine wpIn_wide.2 ?_
  simp only [Try.ntmps23, List.size_toArray, List.length_cons, List.length_nil, Nat.reduceAdd, Nat.reduceSub, Array.replicate_succ, Array.replicate_zero, List.push_toArray, List.append_toArray, List.nil_append, List.cons_append]
  go_wp2_with (refine wpList_allocA rfl 25 rfl (bv (zeros 32)) (by kernel_rfl) ?_)
  intro w1 ho1 hK1 hz1'
  have hx1 : Blk w1 w.heap.size 47 [.pointer (some ⟨g, 0, none⟩)] := (Blk.new_at (w := w) (t := 47) (cs := #[.pointer (some ⟨g, 0, none⟩)]) rfl rfl).keeps hK1 (by simp)
  have hb1 := (hb0.alloc (.cells #[.pointer (some ⟨g, 0, none⟩)] 47)).keeps hK1 (by simp)
  have own1 := own_keeps (own0.alloc (.cells #[.pointer (some ⟨g, 0, none⟩)] 47)) hK1 (by simp)
  have hB1 : Below w.heap.size w w1 := ((Below.refl _ _).alloc (Nat.le_refl _) _).trans (hK1.below (by simp) (by simp))
  have hzw : w1.heap.size = w.heap.size + 2 := by omega
  replace hzw := Lib.hid hzw
  replace own1 := Lib.hid own1
  replace own0 := Lib.hid own0
  replace ho1 : Blk w1 (w.heap.size + 1) 25 (bv (zeros 32)) := ho1
  clear hK1 hz1' c72
  have c1 : w1.cell? ⟨w.heap.size, 0, none⟩ = some (.pointer (some ⟨g, 0, none⟩)) := by have := hx1.cell 0; simpa using this
  have c72 := hb1.cell 72
  rw [hcells_v _ _ _ hst.out] at c72
  have hcl1 := Lib.hid (hcl.out w1 own1.out)
  generalize hR : rsOf l = R at *
  replace hR := Lib.hid hR
  go_wp2_with fail
  refine hcl1.out.mono ?_
  rintro e w2 ⟨v2, rfl, own2, hB2⟩
  go_wp2_with (at_builtin; refine wpList_append_sl rfl (.tmp 20) (.tmp 21) 22 rfl w1.heap.size 5 i0 (.int .u8 0) 1 Try.underlying22 hi hz0 hz1 hz2 rfl _ R.length (bv R) rfl (own2.alloc _) _ (bv [128]) rfl ?_ (bv_oneCell _) ?_ ?_ ?_ ?_)
  · exact Sl.of_blk (n := 1) (c := 1) (Blk.new_at (w := w2) (t := 5) (cs := #[.int .u8 128]) rfl rfl) (Nat.le_refl _) (by simp) (by unfold maxLen; omega)
  · simp [maxLen]; omega
  · simp; omega
  · have := hB2.size; simp; omega
  intro v3 w3 own3 gr3
  have hB3 : Below w1.heap.size w1 w3 := own_below (hB2.alloc hB2.size (.cells #[.int .u8 128] 5)) gr3 (own2.alloc _) (by have := hB2.size; simp; omega)
  rw [← bv_app] at own3
  clear gr3 own2 hB2 hcl1
  have hnl := Lib.hid (show R.length = l.length % 64 from hrl.out)
  obtain ⟨z, hz⟩ : ∃ z, z = noughts l.length := ⟨_, rfl⟩
  have hzlt : Hid (z < 64) := by show _ < _; rw [hz]; unfold noughts; omega
  have hstep := Lib.hid (fun j h => noughts_step l.length j h)
  have hlast := Lib.hid (noughts_end l.length)
  rw [← hz] at hlast hstep
  rw [← hnl.out] at hlast hstep
  replace hz := Lib.hid hz
  go_wp2
  go_loopg [4] z (fun gk v wr => ∃ j, Hid (gk + j = z) ∧ wr.ownsRow w1.heap.size 5 1 v (R.length + 1 + j) (bv (R ++ [128] ++ List.replicate j 0)) ∧ Below w1.heap.size w1 wr)
  case atStart => exact ⟨0, rfl, by simpa using own3, hB3⟩
  case round =>
    clear own3 hB3
    obtain ⟨j, hgk, own, hB⟩ := hrel
    obtain ⟨Aj, cj, rfl, -⟩ := own_shape own
    replace own := Lib.hid own
    by_cases hj : j < z
    · have ht : (((R.length + 1 + j : Nat) : Int) % 64 != 56) = true := by
        have := hstep.out j hj
        simp only [bne_iff_ne, ne_eq]
        omega
      go_wp2_with (at_builtin; refine wpList_append_sl rfl (.tmp 27) (.tmp 28) 22 rfl w1.heap.size 5 i0 (.int .u8 0) 1 Try.underlying22 hi hz0 hz1 hz2 rfl _ (R.length + 1 + j) (bv (R ++ [128] ++ List.replicate j 0)) rfl (own.out.alloc _) _ (bv [0]) rfl ?_ (bv_oneCell _) ?_ ?_ ?_ ?_)
      · exact (Sl.of_blk (n := 1) (c := 1) (Blk.new_at (w := wr) (t := 5) (cs := #[.int .u8 0]) rfl rfl) (Nat.le_refl _) (by simp) (by unfold maxLen; omega))
      · have := hzlt.out; simp [maxLen]; omega
      · have := hzlt.out; simp; omega
      · have := hB.size; simp; omega
      intro v' w4 own4 gr4
      have hB4 : Below w1.heap.size w1 w4 := own_below (hB.alloc hB.size (.cells #[.int .u8 0] 5)) gr4 (own.out.alloc _) (by have := hB.size; simp; omega)
      rw [← bv_app] at own4
      replace own4 := Lib.hid own4
      clear gr4 own hB
      go_wp2
      go_roundg (gk - 1)
      case measure => have := hgk.out; omega
      case rel =>
        refine ⟨j + 1, by show _ = _; have := hgk.out; omega, ?_, hB4⟩
        have h := own4.out
        rw [show R ++ 128 :: List.replicate j 0 ++ [0] = R ++ [128] ++ List.replicate (j + 1) 0 from by rw [List.replicate_succ']; simp] at h
        exact h
    · have hjz : j = z := by have := hgk.out; omega
      subst hjz
      have ht : (((R.length + 1 + j : Nat) : Int) % 64 != 56) = false := by
        have := hlast.out
        simp only [bne_eq_false_iff_eq]
        omega
      have d1 : wr.cell? ⟨w.heap.size, 0, none⟩ = some (.pointer (some ⟨g, 0, none⟩)) := by rw [(bcell hB).1 _ _ (by have := hx1.lt; omega)]; exact c1
      have d73 : wr.cell? ⟨g, 73, none⟩ = some (.int .i64 (l.length : Int)) := by rw [(bcell hB).1 _ _ (by have := hb1.lt; omega), hb1.cell, hcells_n _ _ _ hst.out]
      have hput := Lib.hid (put_ok (l.length * 8) 8 wr (by omega) (by decide) (by omega))
      rw [show ((l.length * 8 : Nat) : Int) = (l.length : Int) * 8 from by simp] at hput
      go_wp2_with fail
      refine hput.out.mono ?_
      rintro e w5 ⟨v5, rfl, sl5, hB5⟩
      have own5 := own_keep own.out hB5
      have hB5' := below_call hB hB.size hB5
      obtain ⟨A5, c5, hv5, -⟩ := id sl5
      subst hv5
      go_wp2_with (at_builtin; refine wpList_append_sl rfl (.tmp 40) (.tmp 41) 22 rfl w1.heap.size 5 i0 (.int .u8 0) 1 Try.underlying22 hi hz0 hz1 hz2 rfl _ (R.length + 1 + j) (bv (R ++ [128] ++ List.replicate j 0)) rfl own5 _ (bv (putB (l.length * 8) 8)) rfl sl5 (bv_oneCell _) ?_ ?_ ?_ ?_)
      · have := hzlt.out; simp [maxLen]; omega
      · have := hzlt.out; simp; omega
      · exact hB5'.size
      intro v6 w6 own6 gr6
      have hB6 : Below w1.heap.size w1 w6 := own_below hB5' gr6 own5 hB5'.size
      rw [← bv_app] at own6
      have hE : Hid (R ++ [128] ++ List.replicate j 0 ++ putB (l.length * 8) 8 = endOf l) := by
        show _ = _
        unfold endOf
        rw [hR.out, ← hz.out, Nat.mod_eq_of_lt (a := l.length * 8) (by omega)]
      have own6' : w6.ownsRow w1.heap.size 5 1 v6 (R.length + 1 + j + 8) (bv (endOf l)) := by
        rw [← hE.out]
        simpa using own6
      clear own6 gr6 own5 sl5 own hB hB5 hB5' d1 d73
      obtain ⟨A6, c6, hv6, hn6, hm6, hs6⟩ := own_shape own6'
      subst hv6
      obtain ⟨ge, hge, hgl6⟩ := hs6 (by omega)
      subst hge
      have hge1 := (own6'.lt ge rfl).1
      replace own6' := Lib.hid own6'
      have hb6 := hb1.keep hB6
      have hx6 := hx1.keep hB6
      have ho6 := ho1.keep hB6
      have hbl := Lib.hid (show 0 + 8 ≤ (hcells (stOf l) (.slice A0 R.length c0) l.length).length by rw [hcells_length _ _ _ hst.out]; decide)
      have hcs := Lib.hid (hcells_s (stOf l) (.slice A0 R.length c0) l.length hst.out)
      have hsl := Lib.hid (show (wv (stOf l)).length = 8 by simp [hst.out])
      have e1 : w6.cell? ⟨w.heap.size, 0, none⟩ = some (.pointer (some ⟨g, 0, none⟩)) := by have := hx6.cell 0; simpa using this
      go_wp2_with (first
        | refine wpList_loadA rfl 72 (.tmp 45) rfl 8 arr8s g 0 rfl 75 _ hb6 hbl.out (wv (stOf l)) hcs.out ?_
        | refine wpList_allocA rfl 72 rfl (wv (zeros 8)) (by kernel_rfl) ?_)
      intro w7 h7 hK7 hz7
      have hB7 := hB6.trans (hK7.below hB6.size (by simp))
      have hg7 : w1.heap.size ≤ w6.heap.size := hB6.size
      generalize hg7e : w6.heap.size = g7 at *
      have hgl7 : ge < g7 := by omega
      have hwg : w.heap.size + 2 ≤ g7 := by have := hzw.out; omega
      go_wp2_with (refine wpList_storeW rfl 72 (.tmp 7) (.tmp 46) rfl 8 arr8s g7 rfl (wv (stOf l)) rfl 72 _ h7 hsl.out (by simp) (ones_wv _) ?_)
      intro w8 h8 hK8
      have hB8 := hB7.trans (hK8.below hB7.size (by simp; omega))
      have own8 := Lib.hid (own_keeps (own_keeps own6'.out hK7 (by simp)) hK8 (fun k hk hv => by simp only [Value.ownBlock, Option.some.injEq] at hv; simp; omega))
      have hx8 := hx1.keep hB8
      have hb8 := hb1.keep hB8
      have ho8 := ho1.keep hB8
      have hg8 : g7 < w8.heap.size := h8.lt
      replace hbl := hbl.out
      clear hB7 hB6 hK7 hK8 hb6 hx6 ho6 e1 h7 hz7 hcs hbl
      have e1 : w8.cell? ⟨w.heap.size, 0, none⟩ = some (.pointer (some ⟨g, 0, none⟩)) := by have := hx8.cell 0; simpa using this
      go_wp2_with (go_at_call 34; refine (chunk_any _ _ _ _).mono ?_; rintro e w9 ⟨rfl, hw9⟩)
      have hq : ∃ q, R.length + 1 + j + 8 = 64 * q := ⟨(R.length + 1 + j + 8) / 64, by have := hlast.out; omega⟩
      obtain ⟨q, hq⟩ := hq
      have hE6 := Lib.hid (show (endOf l).length = R.length + 1 + j + 8 from by have h := own8.out.1; simpa using h)
      have hEb := Lib.hid (show Byt (endOf l) from by
        unfold endOf
        intro x hx
        simp only [List.mem_append, List.mem_cons, List.not_mem_nil, or_false, List.mem_replicate] at hx
        rcases hx with ((h | h) | h) | h
        · exact bl x (List.mem_of_mem_drop h)
        · omega
        · omega
        · exact putB_lt _ _ x h)
      have hqI : (64 * q : Int) ≤ 128 := by have := hzlt.out; omega
      rw [hq] at hE6 hn6 own8
      generalize hEe : endOf l = E at *
      replace hEe := Lib.hid hEe
      have k1 : Blk ((w8.alloc (.cells #[.slice (some ⟨ge, 0, none⟩) (64 * q) c6] 22)).alloc (.cells #[.int .i64 64] 3)) w8.heap.size 22 [.slice (some ⟨ge, 0, none⟩) (64 * q) c6] := (Blk.new_at (w := w8) (t := 22) (cs := #[.slice (some ⟨ge, 0, none⟩) (64 * q) c6]) rfl rfl).alloc _
      have k2 : Blk ((w8.alloc (.cells #[.slice (some ⟨ge, 0, none⟩) (64 * q) c6] 22)).alloc (.cells #[.int .i64 64] 3)) (w8.heap.size + 1) 3 [.int .i64 64] := Blk.new_at (by simp) rfl
      have h10 := (h8.alloc (.cells #[.slice (some ⟨ge, 0, none⟩) (64 * q) c6] 22)).alloc (.cells #[.int .i64 64] 3)
      have hB10 : Below g7 w8 ((w8.alloc (.cells #[.slice (some ⟨ge, 0, none⟩) (64 * q) c6] 22)).alloc (.cells #[.int .i64 64] 3)) := ((Below.refl g7 w8).alloc (by omega) _).alloc (by simp; omega) _
      have hz10 : ((w8.alloc (.cells #[.slice (some ⟨ge, 0, none⟩) (64 * q) c6] 22)).alloc (.cells #[.int .i64 64] 3)).heap.size = w8.heap.size + 2 := by simp
      have htk := Lib.hid (fun (s : List Nat) (x : Part q) (W : World) (a1 : s.length = 8) (a2 : Wds s) (a3 : Sl W (partV ge q x) (bv (seg E (64 * x.1) 64))) (a4 : At W g 8 (wv K0)) => take_any s K0 (seg E (64 * x.1) 64) (partV ge q x) g 8 W a1 a2 K0_length K0_wds a3 (seg_length (by rw [hE6.out]; have := x.2; omega)) (seg_lt hEb.out _ _) a4)
      rw [hq]
      generalize hw10 : (w8.alloc (.cells #[.slice (some ⟨ge, 0, none⟩) (64 * q) c6] 22)).alloc (.cells #[.int .i64 64] 3) = w10 at *
      clear hw10
      refine (wpIn_wide (n := 5)).1 ?_
      refine wpIn_rangeFunc_ownF (F := Fence.wide) (n := 5) rfl (by decide) (gf := 46) (lb := #[.pointer (some ⟨w8.heap.size, 0, none⟩), .pointer (some ⟨w8.heap.size + 1, 0, none⟩)]) rfl trivial (enters_of Try.func46 (by kernel_rfl) rfl)
        (chunk_stops (5 - 1) (by decide) w8.heap.size ge q c6 (by omega) hn6 hm6 w10 k1 k2)
        (fun h k b hb => (k b hb).trans (h b hb))
        (fun W l o o' hl ho _ _ b hb => World.putObj_heap_other (by rcases hb with rfl | rfl <;> omega))
        (Below.refl _ _) (fun _ => rfl)
        (fun pre W => Blk W g7 72 (wv (pre.foldl (fun s x => takeS K0 s (seg E (64 * x.1) 64)) (stOf l))) ∧ Blk W w8.heap.size 22 [.slice (some ⟨ge, 0, none⟩) (64 * q) c6] ∧ Blk W (w8.heap.size + 1) 3 [.int .i64 64] ∧ Below g7 w8 W)
        (fun _ _ _ => False) ?hI (fun _ _ _ _ _ hs _ _ => hs) ⟨h10, k1, k2, hB10⟩ ?a1 ?assign ?body ?done ?stop
      case assign =>
        intro lp x W K hK
        gi_wp2
        exact hK
      case hI =>
        rintro s W W' row ⟨a1, a2, a3, a4⟩ hg hr
        have hK := Keeps.grown hg
        have hrow : ∀ b ∈ row.toList, w10.heap.size ≤ b := fun b hb => by
          cases row with
          | none => simp at hb
          | some k => simp only [Option.toList_some, List.mem_cons, List.not_mem_nil, or_false] at hb; subst hb; exact (hr b rfl).1
        exact ⟨a1.keeps hK (fun h => by have := hrow _ h; omega), a2.keeps hK (fun h => by have := hrow _ h; omega), a3.keeps hK (fun h => by have := hrow _ h; omega), a4.trans (hK.below (by have := a4.size; omega) (fun b hb => by have := hrow b hb; omega))⟩
      case stop => rintro D c pre W _ _ h; exact h.elim
      case body =>
        rintro lp pre x W ⟨a1, a2, a3, a4⟩ _
        generalize hs' : pre.foldl (fun s x => takeS K0 s (seg E (64 * x.1) 64)) (stOf l) = s at *
        have hs8 : s.length = 8 ∧ Wds s := by rw [← hs']; exact fold_ok E pre _ (stOf_length l) (states_wds H0_wds _)
        replace hs' := Lib.hid hs'
        have hsl' := Lib.hid (show (wv s).length = 8 by simp [hs8.1])
        have hb' := hb8.below a4 (by have := hzw.out; omega)
        have hx' := hx8.below a4 (by have := hzw.out; omega)
        have hxp : W.drew.cell? ⟨w.heap.size, 0, none⟩ = some (.pointer (some ⟨g, 0, none⟩)) := by have := hx'.cell 0; simpa using this
        have hpv : Sl W.drew (partV ge q x) (bv (seg E (64 * x.1) 64)) := by
          have o1 : W.drew.ownsRow _ _ _ _ _ _ := own_belowB own8.out a4.drew (fun k hk => by have e : some ge = some k := hk; cases e; exact hgl7)
          have h := own_part o1 (64 * x.1) 64 (by have := x.2; omega) hm6 hn6
          rw [bv_seg] at h
          exact h.recap (Nat.le_refl _) (by unfold maxLen; omega)
        have htk1 := Lib.hid (htk.out s x W.drew hs8.1 hs8.2 hpv (hshK hst.out hb'.drew))
        have hT1 := Lib.hid (show (wv (takeS K0 s (seg E (64 * x.1) 64))).length = 8 by simp)
        have hI1 : Hid ((pre ++ [x]).foldl (fun s x => takeS K0 s (seg E (64 * x.1) 64)) (stOf l) = takeS K0 s (seg E (64 * x.1) 64)) := by
          show _ = _
          rw [List.foldl_append, hs'.out]; rfl
        change Hid (Calls _ _ _ _ (RetV (takeS K0 s (seg E (64 * x.1) 64)) _)) at htk1
        generalize takeS K0 s (seg E (64 * x.1) 64) = s' at *
        clear hpv
        gi_wp2
        refine regionIn_held (S := fun w' => w'.cell? ⟨w.heap.size, 0, none⟩ = some (.pointer (some ⟨g, 0, none⟩))) (by kernel_rfl) (by kernel_rfl) hxp (fun hH => ?_)
        refine takeH_move (o := ⟨some 51, _, _, _, _, _⟩) (i := 1) rfl (by kernel_rfl) (by kernel_rfl) (by kernel_rfl) (fun _ _ _ _ h => h) rfl (.tmp 8) rfl (partV ge q x) rfl hH ?_
        simp only [Act.put, List.setIfInBounds_toArray, List.set_cons_zero, List.set_cons_succ, Nat.zero_add, decide_true, beq_self_eq_true]
        refine takeH_cell (o := ⟨some 52, _, _, _, _, _⟩) (i := 2) rfl (by kernel_rfl) (by kernel_rfl) (by kernel_rfl) (fun _ _ _ _ h => h) rfl 47 (.tmp 1) rfl Try.underlying47 rfl w.heap.size 0 rfl (.pointer (some ⟨g, 0, none⟩)) (fun w h => h) hH ?_
        simp only [Act.put, List.setIfInBounds_toArray, List.set_cons_zero, List.set_cons_succ, Nat.zero_add, decide_true, beq_self_eq_true]
        refine takeH_nil (o := ⟨some 53, _, _, _, _, _⟩) (i := 3) rfl (by kernel_rfl) (by kernel_rfl) (by kernel_rfl) (fun _ _ _ _ h => h) rfl (.tmp 52) rfl ⟨g, 0, none⟩ rfl hH ?_
        simp only [Act.put, List.setIfInBounds_toArray, List.set_cons_zero, List.set_cons_succ, Nat.zero_add, decide_true, beq_self_eq_true]
        refine takeH_field (o := ⟨some 54, _, _, _, _, _⟩) (i := 4) rfl (by kernel_rfl) (by kernel_rfl) (by kernel_rfl) (fun _ _ _ _ h => h) rfl 75 (.tmp 53) 1 rfl g 8 rfl (fun w => hfld1 _ w) hH ?_
        simp only [Act.put, List.setIfInBounds_toArray, List.set_cons_zero, List.set_cons_succ, Nat.zero_add, decide_true, beq_self_eq_true]
        refine wpAnyH_ready (rs := [0]) (by kernel_rfl) (by simp) ?_
        refine AllReadyH.cons rfl (fun K1 hK1 => ?_) AllReadyH.nil
        rw [if_pos (by rfl)]
        refine wp_loadA 72 (.tmp 7) rfl 8 arr8s g7 0 rfl 72 _ a1.drew (by rw [hsl'.out]; decide) (wv s) (by rw [List.drop_zero, List.take_of_length_le (by rw [hsl'.out]; decide)]) ?_
        refine hK1.out _ _ hxp (fun hH => ?_)
        clear hK1 K1
        refine wpAnyH_ready (rs := [5]) (by kernel_rfl) (by simp) ?_
        refine AllReadyH.cons rfl (fun K1 hK1 => ?_) AllReadyH.nil
        rw [if_pos (by rfl)]
        go_wp2_with fail
        refine htk1.out.mono ?_
        rintro e W5 ⟨rfl, hB5⟩
        have hx5 : W5.cell? ⟨w.heap.size, 0, none⟩ = some (.pointer (some ⟨g, 0, none⟩)) := by rw [(bcell hB5).1 _ _ (cell_lt hxp)]; exact hxp
        have a15 := a1.drew.keep hB5
        have hK5 : Keeps [g7] W W5 := ((Keeps.refl [g7] W).drew).trans (Keeps.of_below hB5)
        refine hK1.out _ _ hx5 (fun hH => ?_)
        clear hK1 K1
        refine wpAnyH_ready (rs := [6]) (by kernel_rfl) (by simp) ?_
        refine AllReadyH.cons rfl (fun K1 hK1 => ?_) AllReadyH.nil
        rw [if_pos (by rfl)]
        refine wp_storeA 72 (.tmp 7) (.tmp 55) rfl 8 arr8s g7 0 rfl (wv s') rfl 72 _ a15 hT1.out (by rw [hsl'.out]; decide) (ones_wv _) ?_
        intro W6 a16 hK6
        rw [putL_all (by rw [hT1.out, hsl'.out])] at a16
        have hK7 := hK5.trans hK6
        have hx6 : W6.cell? ⟨w.heap.size, 0, none⟩ = some (.pointer (some ⟨g, 0, none⟩)) := by
          have h := (hx'.keeps hK7 (by simp; omega)).cell 0
          simpa using h
        refine hK1.out _ _ hx6 (fun hH => ?_)
        clear hK1 K1
        refine wpAnyH_done (by kernel_rfl) ?_ _
        refine JustN.normal ?_
        gi_wp2
        refine ⟨⟨hK7.size, fun k o h ho => ?_⟩, fun b hb => ?_, ?_, ?_, ?_, ?_⟩
        · refine (hK7.block k ?_ ?_).trans h
          · exact (Array.getElem?_eq_some_iff.1 h).1
          · intro hm
            simp only [List.mem_singleton] at hm
            subst hm
            have e := a1.symm.trans h
            injection e with e
            rw [← e] at ho
            cases ho
        · exact hK7.block b (by rcases hb with rfl | rfl; exact a2.lt; exact a3.lt) (by rcases hb with rfl | rfl <;> simp <;> omega)
        · rw [hI1.out]; exact a16
        · exact a2.keeps hK7 (by simp; omega)
        · exact a3.keeps hK7 (by simp; omega)
        · exact a4.trans (hK7.below (by have := a4.size; omega) (by simp))
      case done =>
        rintro D xs W hD rfl ⟨a1, a2, a3, a4⟩ hK
        rw [fold_states] at a1
        have hsh := Lib.hid (hash_eq l q (by rw [hEe.out]; exact hE6.out))
        rw [hEe.out] at hsh
        have hs8 : (states K0 (stOf l) E q).length = 8 := states_length (stOf_length l) q
        have hsw : Wds (states K0 (stOf l) E q) := states_wds (states_wds H0_wds _) q
        generalize states K0 (stOf l) E q = st at *
        have hsl' := Lib.hid (show (wv st).length = 8 by simp [hs8])
        have hix := Lib.hid (fun k hk w => index_word st k hs8 hk w)
        have ho' := ho8.below a4 (by omega)
        have hBW : Below w.heap.size w W := (hB1.trans (hB8.mono (by have := hzw.out; omega))).trans (a4.mono (by omega))
        have hoD : w.heap.size + 1 ≠ D := by
          intro e
          have h1 := ho'
          unfold Blk at h1
          rw [e, hK] at h1
          cases h1
        have hseg := Lib.hid (fun k hk => outL_seg st k hk)
        have hol := Lib.hid (outL_length st)
        rw [← hsh.out] at hseg hol
        have hpt := Lib.hid (fun k w => put_ok (gd st k) 4 w (by have := hsw.gd k; omega) (by decide) (by have := hsw.gd k; omega))
        replace hs8 := Lib.hid hs8
        replace hsw := Lib.hid hsw
        clear a2 a3 hsh
        generalize hO : shaL l = O at *
        replace hO := Lib.hid hO
        go_wp2_with (refine wpList_loadW rfl 72 (.tmp 7) rfl 8 arr8s g7 rfl 72 _ a1 hsl'.out ?_)
        go_loopw [57] (fun i wr => ∃ k : Nat, (k : Int) ≤ 8 ∧ i = .int .i64 (k : Int) ∧ Blk wr (w.heap.size + 1) 25 (bv (upd O (zeros 32) (4 * k))) ∧ wr.heap[D]? = some (.deferred (some [])) ∧ Below w.heap.size w wr) (fun i _ => 8 - (intOf i).toNat)
        case atStart => exact ⟨0, by omega, rfl, by rw [Nat.mul_zero, upd_zero]; exact ho', hK, hBW⟩
        case round =>
          clear ho' hK hBW a1
          obtain ⟨k, hk, rfl, hob, hK, hBW⟩ := hrel
          by_cases hlt : (k : Int) < 8
          · have hi0 := hix.out k (by omega)
            have hpk := Lib.hid (fun w => hpt.out k w)
            have hsk := Lib.hid (hseg.out k (by omega))
            have hlk := hsw.out.gd k
            generalize gd st k = x at *
            have hxI : (x : Int) ≤ 4294967295 := by omega
            go_wp2_with fail
            refine (hpk.out _).mono ?_
            rintro e w11 ⟨v11, rfl, sl11, hB11⟩
            have hob1 := hob.keep hB11
            have hK1 := (hB11.block D (Array.getElem?_eq_some_iff.1 hK).1).trans hK
            have hBW1 := below_call hBW hBW.size hB11
            clear hob hK hBW hB11
            obtain ⟨A11, c11, hv11, hl11, hm11, hs11⟩ := id sl11
            obtain ⟨g11, o11, rfl, hc11⟩ := hs11 (by simp)
            subst hv11
            have h4k : (4 * (k : Int)) < 32 := by omega
            have hsl2 : ∀ w', (Instr.sliceAt 25 (.pointer (some ⟨w.heap.size + 1, 0, none⟩)) (some (.int .i64 (4 * (k : Int)))) none none).run Try.prog w' = .ok (.slice (some ⟨w.heap.size + 1, 4 * k, none⟩) (32 - 4 * k) (32 - 4 * k)) w' := fun w' => by
              have h := run_sliceA_l (P := Try.prog) (ty := 25) (len := 32) (el := 5) (s := 1) Try.underlying25 (by kernel_rfl) (w.heap.size + 1) 0 (4 * k) (4 * (k : Int)) (by simp) (by omega) w'
              simpa using h
            go_wp2_with (refine wpList_copyA rfl (.tmp 69) (.tmp 70) 22 22 rfl 5 Try.underlying22 (by kernel_rfl) (w.heap.size + 1) (4 * k) _ _ rfl ⟨g11, o11, none⟩ _ _ rfl 25 _ hob1 (bv (putB x 4)) ?_ ?_ ?_ (ones_bv _) ?_)
            · rw [bv_length, putB_length]
              have h4 : 4 ≤ 32 - 4 * k := by omega
              exact (Nat.min_eq_left h4).symm
            · intro j' v hj
              have ha : (⟨g11, o11, none⟩ : Addr).add j' = ⟨g11, o11 + j', none⟩ := by unfold Addr.add; split <;> simp_all
              rw [ha]; exact hc11 j' v hj
            · rw [bv_length, putB_length, bv_length, upd_length (by rw [hol.out]; simp) (by simp; omega), zeros_length]; omega
            intro w12 hob2 hK12
            have hob3 : Blk w12 (w.heap.size + 1) 25 (bv (upd O (zeros 32) (4 * (k + 1)))) := by
              rw [putL_bv, putB_length, ← hsk.out, upd_put (by rw [hol.out]; simp) (by simp; omega)] at hob2
              rw [show 4 * (k + 1) = 4 * k + 4 from by omega]
              exact hob2
            have hK2 := (hK12.block D (Array.getElem?_eq_some_iff.1 hK1).1 (by simp; omega)).trans hK1
            have hBW2 := hBW1.trans (hK12.below hBW1.size (by simp))
            clear hob2 hK12 hK1 hBW1 hob1 hc11 sl11 hsl2 hi0
            go_wp2
            go_roundw
            case rel => exact ⟨k + 1, by omega, by go_num, hob3, hK2, hBW2⟩
            case measure => simp [intOf]; omega
          · obtain rfl : k = 8 := by omega
            rw [show 4 * 8 = 32 from rfl, upd_all hol.out (by simp)] at hob
            have hxl := Lib.hid (show (bv O).length = 32 by simp [hol.out])
            go_wp2_with (first | refine wpList_loadW rfl 25 (.tmp 2) rfl 32 arrH _ rfl 25 _ hob hxl.out ?_ | refine wpList_storeW rfl 25 (.tmp 2) (.tmp 73) rfl 32 arrH _ rfl (bv O) rfl 25 _ hob hxl.out hxl.out (ones_bv _) ?_)
            intro w13 hob4 hK13
            have hK3 := (hK13.block D (Array.getElem?_eq_some_iff.1 hK).1 (by simp; omega)).trans hK
            have hBW3 := hBW.trans (hK13.below hBW.size (by simp))
            clear hob hK hBW hK13
            go_wp2
            have hob5 : Blk (w13.putObj D (.deferred none)) (w.heap.size + 1) 25 (bv O) := (World.putObj_heap_other (by omega)).trans hob4
            have hBW4 : Below w.heap.size w (w13.putObj D (.deferred none)) := hBW3.grown (grownBy_putObj' _ _ _) (by have := hBW3.size; omega) (fun k e => by cases e; omega)
            refine ⟨by simp, .inl ⟨_, _, rfl, run_takeDeferred hK3, ?_⟩⟩
            exact ⟨_, res_cell_tmp Try.results23 _ _ _ 25 _ arrH hxl.out rfl (.int .i64 0) rfl hob5, by rw [hO.out], hBW4⟩
end Go.Proofs.Ythlebobfbalknaa
