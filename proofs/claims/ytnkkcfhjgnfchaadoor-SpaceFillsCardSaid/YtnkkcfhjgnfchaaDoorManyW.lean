/- The law SpaceMany: the walk. -/
import Derived.Test.YtnkkcfhjgnfchaaDoorOwnW
import Derived.Deep.RegionHeld3
set_option linter.unusedVariables false
set_option linter.unusedSimpArgs false
namespace Go.Proofs.YtnkkcfhjgnfchaaDoor
open Go.RowKit
open Go.Proofs.PlainSpace

theorem step_append_sl {P : Program} {w : World} {ops : Array Oper} {o : Oper} {a : Act} {K : Act → World → Prop} {Q : Exit → Act → World → Prop} {E : Prop} (hgd : o.guard = none) (s x : Operand) (t : TypeId)
    (ho : o.op = .call { callee := .builtin .append, args := #[s, x], argTypes := #[t, t] })
    (base : Nat) (e : TypeId) (i : TypeInfo) (z : Value) (bytes : Nat) (ht : P.underlying t = some (.slice e)) (hi : P.info? e = some i) (hz : i.zero = some z)
    (hsize : i.size = 1) (hby : i.bytes = bytes) (hzs : z.cells.size = 1)
    (v : Value) (n : Nat) (xs : List Value) (hs : a.eval s = v) (hown : w.ownsRow base e 1 v n xs) (u : Value) (ys : List Value) (hx : a.eval x = u) (hu : Sl w u ys) (h1 : ∀ y ∈ ys, y.oneCell' = true)
    (h63 : n + ys.length ≤ maxLen) (hbytes : (n + ys.length) * bytes ≤ 140737488355328) (hbase : base ≤ w.heap.size)
    (h : ∀ v' w', w'.ownsRow base e 1 v' (n + ys.length) (xs ++ ys) → w.grownBy w' v.ownBlock → K (a.put o.dst v') w') :
    if Region.wanted o (yielded ops a.tmps) = true then Oper.wp P o a w K Q else E := by
  have hw : Region.wanted o (yielded ops a.tmps) = true := by simp [Region.wanted, hgd]
  rw [if_pos hw]
  obtain ⟨v', w', hr, h2, h3⟩ := run_append_sl (P := P) w base t o.type e i z bytes ht hi hz hsize hby hzs v n xs hown u ys hu h1 h63 hbytes hbase
  unfold Oper.wp
  simp [execOp, ho, resolve, invoke, builtin, hs, hx, hr, Result.andThen]
  exact h v' w' h2 h3

theorem step_append_ev {P : Program} {w : World} {ops : Array Oper} {o : Oper} {a : Act} {K : Act → World → Prop} {Q : Exit → Act → World → Prop} {E : Prop} (hgd : o.guard = none) (s x : Operand) (t : TypeId)
    (ho : o.op = .call { callee := .builtin .append, args := #[s, x], argTypes := #[t, t] })
    (base : Nat) (e : TypeId) (i : TypeInfo) (z : Value) (bytes : Nat) (ht : P.underlying t = some (.slice e)) (hi : P.info? e = some i) (hz : i.zero = some z)
    (hsize : i.size = 1) (hby : i.bytes = bytes) (hzs : z.cells.size = 1)
    (n : Nat) (xs : List Value) (hown : w.ownsRow base e 1 (a.eval s) n xs) (ys : List Value) (hu : Sl w (a.eval x) ys) (h1 : ∀ y ∈ ys, y.oneCell' = true)
    (h63 : n + ys.length ≤ maxLen) (hbytes : (n + ys.length) * bytes ≤ 140737488355328) (hbase : base ≤ w.heap.size)
    (h : ∀ v' w', w'.ownsRow base e 1 v' (n + ys.length) (xs ++ ys) → w.grownBy w' (a.eval s).ownBlock → K (a.put o.dst v') w') :
    if Region.wanted o (yielded ops a.tmps) = true then Oper.wp P o a w K Q else E :=
  step_append_sl hgd s x t ho base e i z bytes ht hi hz hsize hby hzs _ n xs rfl hown _ ys rfl hu h1 h63 hbytes hbase h
theorem Keeps.of_grown {w w' : World} {row : Option Nat} (h : w.grownBy w' row) : Keeps row.toList w w' :=
  by obtain ⟨a, b, c, d, e⟩ := h; exact ⟨a, b, c, d, fun k hk hne => e k hk (fun h => hne (by rw [← h]; simp))⟩
/-- The marked ones are just those that are taken. -/
def Just (S : List Bool) (M : List Nat) : Prop := S.length = 64 ∧ cnt S = M.length ∧ M.Nodup ∧ ∀ b, has S b = true ↔ b ∈ M
theorem Just.new : Just (List.replicate 64 false) [] := ⟨by simp, by rw [cnt_new]; rfl, List.nodup_nil, fun b => by rw [has_new]; simp⟩
theorem Just.mark {S : List Bool} {M : List Nat} (h : Just S M) {a : Nat} (h0 : markE S a = 0) : Just (markS S a) (M ++ [a]) := by
  obtain ⟨h1, h2, h3, h4⟩ := h
  obtain ⟨hA, hb, hm⟩ := mark_yes h0
  rw [hm]
  have hnm : a ∉ M := fun hh => by rw [(h4 a).2 hh] at hb; cases hb
  refine ⟨by simpa using h1, by rw [cnt_set S a hA.2 hb, h2]; simp, ?_, fun b => ?_⟩
  · rw [List.nodup_append]
    refine ⟨h3, by simp, fun x hx y hy => ?_⟩
    simp at hy; subst hy; rintro rfl; exact hnm hx
  · rw [has_set S a true hA.2]
    by_cases e : a = b
    · subst e; simp
    · rw [if_neg e, h4 b]; simp; intro e'; exact absurd e'.symm e
/-- All of the rest are still taken. -/
def Still (S : List Bool) (M : List Nat) : Prop := S.length = 64 ∧ M.Nodup ∧ (∀ b ∈ M, isA S b) ∧ ∀ b, has S b = true ↔ b ∈ M
theorem Still.free {S : List Bool} {a : Nat} {M : List Nat} (h : Still S (a :: M)) : freeE S a = 0 ∧ Still (freeS S a) M := by
  obtain ⟨h1, h2, h3, h4⟩ := h
  have hA := h3 a (by simp)
  have hb := (h4 a).2 (by simp)
  obtain ⟨n1, n2⟩ := List.nodup_cons.1 h2
  refine ⟨by rw [freeE, if_pos hA, if_pos hb], ?_⟩
  rw [freeS, if_pos ⟨hA, hb⟩]
  refine ⟨by simpa using h1, n2, fun b hbm => ⟨(h3 b (by simp [hbm])).1, by simpa using (h3 b (by simp [hbm])).2⟩, fun b => ?_⟩
  rw [has_set S a false hA.2]
  by_cases e : a = b
  · subst e; simp [n1]
  · rw [if_neg e, h4 b]; simp; intro e'; exact absurd e'.symm e
theorem Still.none {S : List Bool} (h : Still S []) : S = List.replicate 64 false :=
  ext (by simpa using h.1) fun a => by
    rw [has_new]
    cases e : has S a with
    | false => rfl
    | true => have := (h.2.2.2 a).1 e; cases this
theorem Just.still {S : List Bool} {M P : List Nat} (h : Just S M) (ho : Ok S) (hp : P.Perm M) : Still S P := by
  obtain ⟨h1, h2, h3, h4⟩ := h
  refine ⟨h1, hp.symm.nodup h3, fun b hb => ?_, fun b => (h4 b).trans hp.symm.mem_iff⟩
  have hb' := (h4 b).2 (hp.mem_iff.1 hb)
  refine ⟨?_, has_lt hb'⟩
  rcases Nat.lt_or_ge b 2 with h | h
  · obtain ⟨_, _, o1, o2⟩ := ho
    rcases (show b = 0 ∨ b = 1 by omega) with rfl | rfl <;> simp_all
  · exact h
theorem rot_perm (M : List Nat) (k : Nat) : (M.drop k ++ M.take k).Perm M := by
  have := List.perm_append_comm (l₁ := M.drop k) (l₂ := M.take k)
  rwa [List.take_append_drop] at this

namespace w_SpaceMany
set_option maxHeartbeats 4000000 in
theorem core (W : World) (hT : Tab W) (at_ : Nat) (hat : at_ ≤ 255) (A : Option Addr) (c : Nat) (l : List Nat)
    (h3 : 0 < (uv l).length → ∃ b o, A = some ⟨b, o, none⟩ ∧ ∀ i u, (uv l)[i]? = some u → W.cell? ⟨b, o + i, none⟩ = some u) (hl : ∀ x ∈ l, x < 4294967296) (hlen : l.length ≤ 140737488351232) :
    Calls Tryd.prog 6 #[.slice A l.length c, .int .u8 (at_ : Int)] W fun e w' => e = .returned (.bool true) ∧ Below W.heap.size W w' := by
  obtain ⟨i0, hi, hz0, hz1, hz2⟩ := info_parts Tryd.info29
  have hlI : (l.length : Int) ≤ 140737488351232 := by omega
  have hatI : (at_ : Int) ≤ 255 := by omega
  have halive := Lib.hid (alive_any W hT)
  have hnew := Lib.hid (fun w => new_ok 64 w (by omega) (by omega))
  have hmark := Lib.hid (fun (g hz : Nat) (T : List Bool) (x : Nat) w (h1 : Spc w g hz T) (h2 : x < 4294967296) => mark_any g hz T x w h1 h2)
  have hfree := Lib.hid (fun (g hz : Nat) (T : List Bool) (x : Nat) w (h1 : Spc w g hz T) (h2 : x < 4294967296) => free_any g hz T x w h1 h2)
  have htaken := Lib.hid (fun (g hz : Nat) (T : List Bool) w (h1 : Spc w g hz T) (h2 : Tab w) => taken_any g hz T w h1 h2)
  have hleft := Lib.hid (fun (g hz : Nat) (T : List Bool) w (h1 : Spc w g hz T) => left_any g hz T w h1)
  have HT := Lib.hid hT
  have Hl := Lib.hid hl
  clear hT hl
  go_enter Tryd.func6, Tryd.ntmps6
  go_wp2_with fail
  refine halive.out.mono ?_
  rintro e w0 ⟨rfl, hB0⟩
  have hT0 := HT.out.keep hB0
  go_wp2_with fail
  refine (hnew.out w0).mono ?_
  rintro e w1 ⟨g, hz, rfl, hg, hh, hS1, hB1⟩
  have hT1 := hT0.keep hB1
  have hg' : W.heap.size ≤ g := Nat.le_trans hB0.size hg
  have hh' : W.heap.size ≤ hz := Nat.le_trans hB0.size hh
  have hG : ∀ b ∈ [g, hz], W.heap.size ≤ b := by simp [hg', hh']
  have hBW1 := below_call hB0 hB0.size hB1
  have hgb := Lib.hid hS1.bound
  by_cases h300 : (300 : Int) < l.length
  · clear h3
    go_wp2
    go_ret
    exact ⟨rfl, hBW1⟩
  · go_wp2
    go_loopw [7, 30] (fun v i wr => ∃ (k : Nat) (S : List Bool) (M : List Nat), k ≤ l.length ∧ i = .int .i64 (k : Int) ∧ Hid (Just S M) ∧ M.length ≤ k ∧ Spc wr g hz S ∧ Tab wr ∧ Below W.heap.size W wr ∧ w1.heap.size ≤ wr.heap.size ∧ wr.ownsRow w1.heap.size 29 1 v M.length (uv M)) (fun _ i _ => l.length - (intOf i).toNat)
    case atStart => exact ⟨0, _, [], Nat.zero_le _, rfl, Just.new, Nat.le_refl _, hS1, hT1, hBW1, Nat.le_refl _, World.ownsRow_nil _ _ _ _⟩
    case round =>
      obtain ⟨k, S, M, hk, rfl, hJ, hMk, hS, hTr, hB, hsz, hown⟩ := hrel
      have hfr : ∀ (A : Addr) n c, u7 = .slice (some A) n c → A.block ∉ [g, hz] := fun A n c e hm => by
        have h1 := own_fresh hown A n c e
        have h2 := hgb.out
        simp at hm; omega
      by_cases hlt : k < l.length
      · obtain ⟨b, o, rfl, hc⟩ := h3 (by simp; omega)
        have hc' := hc k (.int .u32 ((l[k] : Nat) : Int)) (by rw [uv_get, List.getElem?_eq_getElem hlt]; rfl)
        rw [← (bcell hB).1 _ (o + k) (cell_lt hc')] at hc'
        have hb := Hl.out l[k] (List.getElem_mem hlt)
        have hm := Lib.hid (hmark.out g hz S l[k] wr hS hb)
        clear hc h3
        generalize l[k] = x at *
        have hxI : (x : Int) ≤ 4294967295 := by omega
        have HO := Lib.hid hown
        clear hb hown
        have hnx : Hid (markE S x = 0 → Just (markS S x) (M ++ [x])) := fun h0 => hJ.out.mark h0
        have hno : Hid (markE S x ≠ 0 → markS S x = S) := fun h0 => mark_no h0
        go_wp2_with fail
        refine hm.out.mono ?_
        rintro e w2 ⟨rfl, hS2, hK2⟩
        have hT2 := hTr.keepsS hS hK2
        have hB2 := hB.trans (hK2.below hB.size hG)
        have own2 := own_keeps HO.out hK2 hfr
        have hsz2 : w1.heap.size ≤ w2.heap.size := Nat.le_trans hsz hK2.size
        generalize hT' : markS S x = T at *
        generalize markE S x = m at *
        by_cases hm0 : m = 0
        · subst hm0
          have hJ2 := Lib.hid (hnx.out rfl)
          have own3 := own2.alloc (.cells #[.int .u32 (x : Int)] 29)
          have sl1 : Sl (w2.alloc (.cells #[.int .u32 (x : Int)] 29)) (.slice (some ⟨w2.heap.size, 0, none⟩) 1 1) (uv [x]) := by
            have := Sl.of_blk (n := 1) (c := 1) (Blk.new w2 29 #[.int .u32 (x : Int)]) (Nat.le_refl _) (by simp) (by unfold maxLen; omega)
            simpa [uv] using this
          have hMI : (M.length : Int) ≤ 300 := by omega
          have hfr2 : g ∉ u7.ownBlock.toList ∧ hz ∉ u7.ownBlock.toList ∧ (∀ b ∈ u7.ownBlock.toList, W.heap.size ≤ b) ∧ 0 ∉ u7.ownBlock.toList := by
            have h2 := hgb.out
            have hlt : ∀ b ∈ u7.ownBlock.toList, w1.heap.size ≤ b := fun b hb => (own2.lt b (by simpa using hb)).1
            have h4 := cell_lt (hT1 0 (by decide))
            refine ⟨fun hm => by have := hlt _ hm; omega, fun hm => by have := hlt _ hm; omega, fun b hb => by have := hlt b hb; have := hBW1.size; omega, fun hm => by have := hlt _ hm; omega⟩
          clear hnx hno own2 hm hJ
          go_wp2_with (at_builtin; refine wpList_append_sl rfl (.tmp 38) (.tmp 40) 36 rfl w1.heap.size 29 i0 (.int .u32 0) 4 Tryd.underlying36 hi hz0 hz1 hz2 rfl _ M.length (uv M) rfl own3 _ (uv [x]) rfl sl1 (uv_oneCell _) ?_ ?_ ?_ ?_)
          · simp [maxLen]; omega
          · simp; omega
          · simp; omega
          intro v' w3 own4 gr1
          have hKa : Keeps [] w2 (w2.alloc (.cells #[.int .u32 (x : Int)] 29)) := (Keeps.refl _ _).alloc _
          have hKg := (hKa.mono (G' := u7.ownBlock.toList) (by simp)).trans (Keeps.of_grown gr1)
          have hS3 := hS2.keeps hKg hfr2.1 hfr2.2.1
          have hT3 := hT2.keeps hKg hfr2.2.2.2
          have hB3 := hB2.trans (hKg.below hB2.size hfr2.2.2.1)
          have hsz3 := Nat.le_trans hsz2 hKg.size
          have hO4 := Lib.hid own4
          clear own3 own4 sl1 gr1 hKa
          go_wp2
          go_roundw
          case rel => exact ⟨k + 1, T, M ++ [x], by omega, by simp, hJ2, by simp; omega, hS3, hT3, hB3, hsz3, by have := hO4.out; simpa [uv] using this⟩
          case measure => simp [intOf]; omega
        · have hne : (m == 0) = false := by simpa using hm0
          obtain rfl := hno.out hm0
          have HO2 := Lib.hid own2
          clear own2 hnx hno hm0
          go_wp2
          go_roundw
          case rel => exact ⟨k + 1, _, M, by omega, by simp, hJ, by omega, hS2, hT2, hB2, hsz2, HO2.out⟩
          case measure => simp [intOf]; omega
      · obtain rfl : k = l.length := by omega
        have hJ1 := hJ.out.1
        have hJ2 := hJ.out.2.1
        have hlb : (S.length : Int) - 2 - (cnt S : Nat) = 62 - (M.length : Nat) := by omega
        have htk := Lib.hid (show (taken S).length = M.length from hJ2)
        have hok := Lib.hid hS.ok
        have hle := Lib.hid (hleft.out g hz S wr hS)
        rw [hlb] at hle
        obtain ⟨Am, cm, rfl⟩ := own_len hown
        have hMI : (M.length : Int) ≤ 300 := by omega
        clear hlb hJ1 hJ2 h3
        have HO := Lib.hid hown
        clear hown
        go_wp2_with fail
        refine hle.out.mono ?_
        rintro e w2 ⟨rfl, hB2⟩
        have hS2 := hS.keep hB2
        have hT2 := hTr.keep hB2
        have hBW2 := below_call hB hB.size hB2
        go_wp2_with fail
        refine (htaken.out g hz S w2 hS2 hT2).mono ?_
        rintro e w3 ⟨v3, rfl, hv3, hf3, hB3⟩
        obtain ⟨A3, c3, rfl, hv31, hv32, hv33⟩ := hv3
        rw [uv_length, htk.out] at hv31 ⊢
        have hS3 := hS2.keep hB3
        have hT3 := hT2.keep hB3
        have hBW3 := below_call hBW2 hBW2.size hB3
        have own3 := own_keeps (own_keeps HO.out (Keeps.of_below (G := []) hB2) (by simp)) (Keeps.of_below (G := []) hB3) (by simp)
        have HO3 := Lib.hid own3
        clear hv33 hf3 own3
        obtain ⟨q, hq⟩ : ∃ q, q = at_ % (M.length + 1) := ⟨_, rfl⟩
        have hqM : q ≤ M.length := by rw [hq]; have := Nat.mod_lt at_ (show 0 < M.length + 1 by omega); omega
        have hqI : (at_ : Int) % ((M.length : Int) + 1) = (q : Int) := by rw [hq]; simp
        have hqMI : (q : Int) ≤ M.length := by omega
        clear hq
        have hq0 : (0 : Int) ≤ (q : Int) := by omega
        rcases HO3.out.2 with ⟨e, h0⟩ | ⟨b, cap, cur, e, hbb, hgg, hnc, hcm, hcs, hct⟩
        · simp only [Value.slice.injEq] at e
          obtain ⟨rfl, hM0, rfl⟩ := e
          obtain rfl : q = 0 := by omega
          have hMn : M = [] := List.eq_nil_of_length_eq_zero h0
          have hSD : Hid (∀ W, Sl W (.slice none 0 0) (uv (M.drop 0))) := fun W => by rw [hMn]; exact Sl.nil_ W
          have hST : Hid (∀ W, Sl W (.slice none 0 0) (uv (M.take 0))) := fun W => Sl.nil_ W
          have own0 : (w3.alloc (.cells #[] 29)).ownsRow w3.heap.size 29 1 (.slice (some ⟨w3.heap.size, 0, none⟩) 0 0) 0 [] := World.ownsRow_made w3 #[] 0 (Nat.le_refl _) (Nat.zero_le _) rfl
          have bel0 : Below w3.heap.size w3 (w3.alloc (.cells #[] 29)) := (Below.refl _ _).alloc (Nat.le_refl _) _
          have O0 := Lib.hid own0
          have b0 := Lib.hid bel0
          have hMz : ((M.length : Nat) : Int) = 0 := by omega
          rw [hM0]
          clear own0 bel0 hMn
          go_wp2
          go_region_held3 (fun _ => True) (trivial) (first
            | (refine step_append_ev ?_ (.tmp 63) (.tmp 66) 36 ?_ w3.heap.size 29 i0 (.int .u32 0) 4 Tryd.underlying36 hi hz0 hz1 hz2 rfl 0 [] ?_ (uv (M.drop 0)) ?_ (uv_oneCell _) ?_ ?_ ?_ ?_
               · rfl
               · rfl
               · exact O0.out.drew
               · exact hSD.out _
               · simp [maxLen]; omega
               · simp; omega
               · simp
               intro v4 w4 own4 gr4
               have bel4 := own_below b0.out.drew gr4 O0.out.drew (by simp))
            | (refine step_append_ev ?_ (.tmp 67) (.tmp 70) 36 ?_ w3.heap.size 29 i0 (.int .u32 0) 4 Tryd.underlying36 hi hz0 hz1 hz2 rfl (0 + (uv (M.drop 0)).length) ([] ++ uv (M.drop 0)) ?_ (uv (M.take 0)) ?_ (uv_oneCell _) ?_ ?_ ?_ ?_
               · rfl
               · rfl
               · first | exact own4 | exact own4.drew
               · exact hST.out _
               · simp [maxLen]; omega
               · simp; omega
               · have := bel4.size; first | (simp; omega) | exact this
               intro v5 w5 own5 gr5
               have bel5 : Below w3.heap.size w3 w5 := by first | exact own_below bel4 gr5 own4 bel4.size | exact own_below bel4.drew gr5 own4.drew bel4.size
               obtain ⟨nn, hnn⟩ : ∃ nn, Hid (nn = 0 + (uv (M.drop 0)).length + (uv (M.take 0)).length) := ⟨_, rfl⟩
               rw [← hnn.out] at own5
               obtain ⟨A5, c5, rfl⟩ := own_len own5
               clear gr4 gr5 own4)
            | fail)
          obtain ⟨P, hP⟩ : ∃ P, P = M.drop 0 ++ M.take 0 := ⟨_, rfl⟩
          have hL5 : nn = P.length := by rw [hnn.out, hP]; simp
          clear hnn
          subst hL5
          have e5 : [] ++ uv (M.drop 0) ++ uv (M.take 0) = uv P := by rw [hP]; simp [uv]
          rw [e5] at own5
          clear e5
          have hPl : P.length = M.length := by rw [hP]; simp <;> omega
          have hSt0 : Hid (Still S (P.drop 0)) := by
            refine hJ.out.still hok.out ?_
            rw [hP]; exact rot_perm M 0
          have hPb : Hid (∀ x ∈ P, x < 4294967296) := fun x hx => by
            have := (hSt0.out.2.2.1 x (by simpa using hx)).2
            have := hok.out.2.1
            omega
          have hn5 : ∀ (A' : Addr) n' c', Value.slice A5 P.length c5 = .slice (some A') n' c' → A'.block ∉ [g, hz] := fun A' n' c' e hm => by
            have h1 := own_fresh own5 A' n' c' e
            have h2 := hS3.bound
            simp at hm; omega
          have hV5 : Sl w5 (.slice A5 P.length c5) (uv P) := by
            have := Sl.of_own own5
            exact this
          have hS5 := hS3.keep bel5
          have hT5 := hT3.keep bel5
          have hBW5 := below_call hBW3 hBW3.size bel5
          have hPI : (P.length : Int) ≤ 300 := by omega
          have HN5 := Lib.hid hn5
          have HPl := Lib.hid hPl
          clear hPl hP
          clear own5 hn5 hq0 hqMI hqI
          go_wp2
          go_loopw [73] (fun i wr => ∃ (j : Nat) (T : List Bool), j ≤ P.length ∧ i = .int .i64 (j : Int) ∧ Hid (Still T (P.drop j)) ∧ Spc wr g hz T ∧ Tab wr ∧ Below W.heap.size W wr ∧ Sl wr (.slice A5 P.length c5) (uv P)) (fun i _ => P.length - (intOf i).toNat)
          case atStart => exact ⟨0, S, Nat.zero_le _, rfl, hSt0, hS5, hT5, hBW5, hV5⟩
          case round =>
            obtain ⟨j, T, hj, rfl, hSt, hS6, hT6, hBW6, hV6⟩ := hrel
            by_cases hjl : j < P.length
            · exfalso; have := HPl.out; omega
            · obtain rfl : j = P.length := by omega
              have hst := hSt.out
              rw [List.drop_length] at hst
              obtain rfl := hst.none
              have hl' := Lib.hid (hleft.out g hz _ _ hS6)
              rw [cnt_new, List.length_replicate] at hl'
              clear hst hSt
              go_wp2_with fail
              refine hl'.out.mono ?_
              rintro e w7 ⟨rfl, hB7⟩
              have hS7 := hS6.keep hB7
              have hT7 := hT6.keep hB7
              have hBW7 := below_call hBW6 hBW6.size hB7
              have ht' := Lib.hid (htaken.out g hz _ w7 hS7 hT7)
              rw [taken_new] at ht'
              go_wp2_with fail
              refine ht'.out.mono ?_
              rintro e w8 ⟨v8, rfl, hv8, hf8, hB8⟩
              have hBW8 := below_call hBW7 hBW7.size hB8
              obtain ⟨A8, c8, rfl, q1, q2, q3⟩ := hv8
              clear q3 hf8
              go_wp2
              go_ret
              exact ⟨rfl, hBW8⟩
        · cases e
          have hnc' : (M.length : Int) ≤ (cm : Int) := by omega
          have hqc' : (q : Int) ≤ (cm : Int) := by omega
          have hcell := fun j (u : Value) hu => (HO3.out.cells (g := b) rfl j u hu)
          have slD : Sl w3 (.slice (if cm = q then some ⟨b, 0, none⟩ else some ⟨b, q, none⟩) (M.length - q) (cm - q)) (uv (M.drop q)) := by
            have e : (uv (M.drop q)).length = M.length - q := by simp
            refine ⟨if cm = q then some ⟨b, 0, none⟩ else some ⟨b, q, none⟩, cm - q, by rw [e], by rw [e]; omega, by unfold maxLen at *; omega, fun hp => ⟨b, q, if_neg (by rw [e] at hp; omega), fun i u hu => ?_⟩⟩
            have hc := hcell (q + i) u (by rw [uv_get] at hu ⊢; rw [List.getElem?_drop] at hu; exact hu)
            have ha : (⟨b, 0, none⟩ : Addr).add (q + i) = ⟨b, q + i, none⟩ := by unfold Addr.add; split <;> simp_all
            rw [ha] at hc; exact hc
          have slT : ∀ off n c, off = 0 → n = q → c = cm → Sl w3 (.slice (some ⟨b, off, none⟩) n c) (uv (M.take q)) := by
            rintro off n c rfl rfl rfl
            have e : (uv (M.take n)).length = n := by simp; omega
            refine ⟨some ⟨b, 0, none⟩, c, by rw [e], by rw [e]; omega, hcm, fun _ => ⟨b, 0, rfl, fun i u hu => ?_⟩⟩
            have hc := hcell i u (by
              rw [uv_get] at hu ⊢; rw [List.getElem?_take] at hu
              split at hu
              · exact hu
              · cases hu)
            have ha : (⟨b, 0, none⟩ : Addr).add i = ⟨b, 0 + i, none⟩ := by unfold Addr.add; split <;> simp_all
            rw [ha] at hc; exact hc
          have own0 : (w3.alloc (.cells #[] 29)).ownsRow w3.heap.size 29 1 (.slice (some ⟨w3.heap.size, 0, none⟩) 0 0) 0 [] := World.ownsRow_made w3 #[] 0 (Nat.le_refl _) (Nat.zero_le _) rfl
          have bel0 : Below w3.heap.size w3 (w3.alloc (.cells #[] 29)) := (Below.refl _ _).alloc (Nat.le_refl _) _
          obtain ⟨Az, hAz⟩ : ∃ Az, (if cm = q then some (⟨b, 0, none⟩ : Addr) else some ⟨b, q, none⟩) = Az := ⟨_, rfl⟩
          rw [hAz] at slD
          have SD := Lib.hid slD
          have ST := Lib.hid slT
          have O0 := Lib.hid own0
          have b0 := Lib.hid bel0
          clear hgg hcs hct hcell slD slT own0 bel0
          go_wp2
          go_region_held3 (fun _ => True) (trivial) (first
            | (refine step_append_ev ?_ (.tmp 63) (.tmp 66) 36 ?_ w3.heap.size 29 i0 (.int .u32 0) 4 Tryd.underlying36 hi hz0 hz1 hz2 rfl 0 [] ?_ (uv (M.drop q)) ?_ (uv_oneCell _) ?_ ?_ ?_ ?_
               · rfl
               · rfl
               · exact O0.out.drew
               · exact SD.out.keep b0.out.drew
               · simp [maxLen]; omega
               · simp; omega
               · simp
               intro v4 w4 own4 gr4
               have bel4 := own_below b0.out.drew gr4 O0.out.drew (by simp))
            | (refine step_append_ev ?_ (.tmp 67) (.tmp 70) 36 ?_ w3.heap.size 29 i0 (.int .u32 0) 4 Tryd.underlying36 hi hz0 hz1 hz2 rfl (0 + (uv (M.drop q)).length) ([] ++ uv (M.drop q)) ?_ (uv (M.take q)) ?_ (uv_oneCell _) ?_ ?_ ?_ ?_
               · rfl
               · rfl
               · first | exact own4 | exact own4.drew
               · exact (ST.out _ _ _ (by first | rfl | simp) (by first | rfl | simp | omega) (by first | rfl | simp | omega)).keep (by first | exact bel4 | exact bel4.drew)
               · simp [maxLen]; omega
               · simp; omega
               · have := bel4.size; first | (simp; omega) | exact this
               intro v5 w5 own5 gr5
               have bel5 : Below w3.heap.size w3 w5 := by first | exact own_below bel4 gr5 own4 bel4.size | exact own_below bel4.drew gr5 own4.drew bel4.size
               obtain ⟨nn, hnn⟩ : ∃ nn, Hid (nn = 0 + (uv (M.drop q)).length + (uv (M.take q)).length) := ⟨_, rfl⟩
               rw [← hnn.out] at own5
               obtain ⟨A5, c5, rfl⟩ := own_len own5
               clear gr4 gr5 own4)
            | fail)
          obtain ⟨P, hP⟩ : ∃ P, P = M.drop q ++ M.take q := ⟨_, rfl⟩
          have hL5 : nn = P.length := by rw [hnn.out, hP]; simp
          clear hnn
          subst hL5
          have e5 : [] ++ uv (M.drop q) ++ uv (M.take q) = uv P := by rw [hP]; simp [uv]
          rw [e5] at own5
          clear e5
          have hPl : P.length = M.length := by rw [hP]; simp <;> omega
          have hSt0 : Hid (Still S (P.drop 0)) := by
            refine hJ.out.still hok.out ?_
            rw [hP]; exact rot_perm M q
          have hPb : Hid (∀ x ∈ P, x < 4294967296) := fun x hx => by
            have := (hSt0.out.2.2.1 x (by simpa using hx)).2
            have := hok.out.2.1
            omega
          have hn5 : ∀ (A' : Addr) n' c', Value.slice A5 P.length c5 = .slice (some A') n' c' → A'.block ∉ [g, hz] := fun A' n' c' e hm => by
            have h1 := own_fresh own5 A' n' c' e
            have h2 := hS3.bound
            simp at hm; omega
          have hV5 : Sl w5 (.slice A5 P.length c5) (uv P) := by
            have := Sl.of_own own5
            exact this
          have hS5 := hS3.keep bel5
          have hT5 := hT3.keep bel5
          have hBW5 := below_call hBW3 hBW3.size bel5
          have hPI : (P.length : Int) ≤ 300 := by omega
          have HN5 := Lib.hid hn5
          have HPl := Lib.hid hPl
          clear hPl hP
          clear own5 hn5 hnc hq0 hqMI hqI
          go_wp2
          go_loopw [73] (fun i wr => ∃ (j : Nat) (T : List Bool), j ≤ P.length ∧ i = .int .i64 (j : Int) ∧ Hid (Still T (P.drop j)) ∧ Spc wr g hz T ∧ Tab wr ∧ Below W.heap.size W wr ∧ Sl wr (.slice A5 P.length c5) (uv P)) (fun i _ => P.length - (intOf i).toNat)
          case atStart => exact ⟨0, S, Nat.zero_le _, rfl, hSt0, hS5, hT5, hBW5, hV5⟩
          case round =>
            obtain ⟨j, T, hj, rfl, hSt, hS6, hT6, hBW6, hV6⟩ := hrel
            by_cases hjl : j < P.length
            · obtain ⟨A6, c6, e6, v61, v62, hc6⟩ := id hV6
              simp only [uv_length, Value.slice.injEq, true_and] at e6
              obtain ⟨rfl, rfl⟩ := e6
              obtain ⟨b6, o6, rfl, hcc⟩ := hc6 (by simp; omega)
              have hc' := hcc j (.int .u32 ((P[j] : Nat) : Int)) (by rw [uv_get, List.getElem?_eq_getElem hjl]; rfl)
              have hst := hSt.out
              rw [List.drop_eq_getElem_cons hjl] at hst
              obtain ⟨hf0, hst'⟩ := hst.free
              have hF := Lib.hid (hfree.out g hz T P[j] _ hS6 (hPb.out _ (List.getElem_mem hjl)))
              rw [hf0] at hF
              have HST := Lib.hid hst'
              have HV6 := Lib.hid hV6
              clear hcc hst hf0 hst' v61 v62 hc6 hV6
              generalize P[j] = x at *
              go_wp2_with fail
              refine hF.out.mono ?_
              rintro e w7 ⟨rfl, hS7, hK7⟩
              have hT7 := hT6.keepsS hS6 hK7
              have hBW7 := hBW6.trans (hK7.below hBW6.size hG)
              have hV7 := HV6.out.keeps hK7 HN5.out
              go_wp2
              go_roundw
              case rel => exact ⟨j + 1, _, by omega, by simp, HST, hS7, hT7, hBW7, hV7⟩
              case measure => simp [intOf]; omega
            · obtain rfl : j = P.length := by omega
              have hst := hSt.out
              rw [List.drop_length] at hst
              obtain rfl := hst.none
              have hl' := Lib.hid (hleft.out g hz _ _ hS6)
              rw [cnt_new, List.length_replicate] at hl'
              clear hst hSt
              go_wp2_with fail
              refine hl'.out.mono ?_
              rintro e w7 ⟨rfl, hB7⟩
              have hS7 := hS6.keep hB7
              have hT7 := hT6.keep hB7
              have hBW7 := below_call hBW6 hBW6.size hB7
              have ht' := Lib.hid (htaken.out g hz _ w7 hS7 hT7)
              rw [taken_new] at ht'
              go_wp2_with fail
              refine ht'.out.mono ?_
              rintro e w8 ⟨v8, rfl, hv8, hf8, hB8⟩
              have hBW8 := below_call hBW7 hBW7.size hB8
              obtain ⟨A8, c8, rfl, q1, q2, q3⟩ := hv8
              clear q3 hf8
              go_wp2
              go_ret
              exact ⟨rfl, hBW8⟩

theorem walk (W : World) (hT : Tab W) (v0 : Value) (l0 : List Nat) (s0 : Sl W v0 (uv l0)) (b0 : ∀ b ∈ l0, b < 4294967296) (m0 : l0.length ≤ 140737488351232) (a1 : Int) (b1 : 0 ≤ a1) (c1 : a1 ≤ 255) :
    Calls Tryd.prog 6 #[v0, .int .u8 a1] W fun e w' => e = .returned (.bool true) ∧ Below W.heap.size W w' := by
  obtain ⟨x, rfl⟩ := Int.eq_ofNat_of_zero_le b1
  obtain ⟨A, c, rfl, h1, h2, h3⟩ := s0
  rw [uv_length]
  exact core W hT x (by omega) A c l0 h3 b0 m0
end w_SpaceMany
end Go.Proofs.YtnkkcfhjgnfchaaDoor
