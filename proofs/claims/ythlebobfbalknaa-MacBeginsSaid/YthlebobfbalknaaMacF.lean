/- Contract of package mac: Expand. -/
import Derived.Test.YthlebobfbalknaaMacE
import Derived.Test.YthlebobfbalknaaMacC
import Derived.Test.YthlebobfbalknaaClo
import Derived.Test.YthlebobfbalknaaSlC
import Derived.Laws.IdiomStrings
import Derived.Lib.SmallJoins
set_option linter.unusedVariables false
set_option linter.unusedSimpArgs false
namespace Go.Proofs.Ythlebobfbalknaa
open Go.RowKit
open Go.Proofs.PlainAes
open Go.Proofs.PlainSha
open Go.Proofs.PlainMac

theorem bytes_cell (w : World) (e c : Nat) (fr : Nat × Nat) {l : List Nat} (hl : Byt l) {k d : Nat} (hk : l[k]? = some d) :
    (w.drew.alloc (.cells (bytesRow (bstr l) c) e fr)).cell? ⟨w.heap.size, k, none⟩ = some (.int .u8 (d : Int)) := by
  rw [Go.Joins.cell_alloc_mark_at w.drew _ _ _ w.heap.size _ rfl]
  have hlt : k < l.length := (List.getElem?_eq_some_iff.1 hk).1
  have hd : d < 256 := hl d (List.mem_of_getElem? hk)
  have he : l[k] = d := (List.getElem?_eq_some_iff.1 hk).2
  unfold bytesRow bstr
  rw [Array.getElem?_append_left (by simp; omega)]
  simp [List.getElem?_map, hk]
  omega
theorem bstr_size (l : List Nat) : (bstr l).size = l.length := by simp [bstr, ByteArray.size]
/-- The bytes of a string, in new memory. -/
theorem sl_string (w : World) (fr : Nat × Nat) {l : List Nat} (hl : Byt l) (hn : (l.length : Int) ≤ 140737488355328) :
    Sl (w.drew.alloc (.cells (bytesRow (bstr l) (grownCap w l.length 0 5)) 5 fr)) (.slice (some ⟨w.heap.size, 0, none⟩) l.length (grownCap w l.length 0 5)) (bv l) := by
  refine ⟨some ⟨w.heap.size, 0, none⟩, grownCap w l.length 0 5, by simp, ?_, ?_, fun _ => ⟨w.heap.size, 0, rfl, fun i u hu => ?_⟩⟩
  · rw [bv_length]; exact grownCap_ge _ _ _ _
  · exact grownCap_le_maxLen _ _ _ _ (by unfold maxLen; omega)
  · rw [bv_get, Option.map_eq_some_iff] at hu
    obtain ⟨d, hd, rfl⟩ := hu
    rw [Nat.zero_add]
    exact bytes_cell w 5 _ fr hl hd
theorem expB_len {k l : List Nat} (j : Nat) : (expB k l j).length = if j = 0 then 0 else 32 := by
  cases j with
  | zero => rfl
  | succ j => exact macL_len _ _
theorem expB_byt {k l : List Nat} : ∀ j, Byt (expB k l j)
  | 0 => by intro x hx; simp [expB] at hx
  | j + 1 => macL_byt _ _
theorem expL_len (k l : List Nat) : ∀ j, (expL k l j).length = 32 * j
  | 0 => rfl
  | j + 1 => by rw [expL, List.length_append, expL_len k l j, expB, macL_len]; omega
theorem expL_byt (k l : List Nat) : ∀ j, Byt (expL k l j)
  | 0 => by intro x hx; simp [expL] at hx
  | j + 1 => fun x hx => (List.mem_append.1 hx).elim (expL_byt k l j x) (expB_byt (j + 1) x)
/-- The world ahead of Concat: a string's bytes, a row of one, a row of three. -/
theorem cargs (wr : World) (C : Array Value) (fr : Nat × Nat) (x : Int) (v1 v2 : Value) (W : World) (hW : W = (((wr.alloc (.cells C 5 fr)).alloc (.cells #[.int .u8 x] 5)).alloc (.cells #[v1, v2, .slice (some ⟨wr.heap.size + 1, 0, none⟩) 1 1] 22)).drew) :
    Sl W (.slice (some ⟨wr.heap.size + 1 + 1, 0, none⟩) 3 3) [v1, v2, .slice (some ⟨wr.heap.size + 1, 0, none⟩) 1 1] ∧ Sl W (.slice (some ⟨wr.heap.size + 1, 0, none⟩) 1 1) [.int .u8 x] ∧ Below wr.heap.size wr W ∧ (∀ v xs, Sl (wr.alloc (.cells C 5 fr)) v xs → Sl W v xs) := by
  subst hW
  have e1 : (wr.alloc (.cells C 5 fr)).heap.size = wr.heap.size + 1 := by simp
  have e2 : ((wr.alloc (.cells C 5 fr)).alloc (.cells #[.int .u8 x] 5)).heap.size = wr.heap.size + 1 + 1 := by simp
  have k1 : Blk ((wr.alloc (.cells C 5 fr)).alloc (.cells #[.int .u8 x] 5)) (wr.heap.size + 1) 5 [.int .u8 x] := Blk.new_at e1 rfl
  have k2 := (k1.alloc (.cells #[v1, v2, .slice (some ⟨wr.heap.size + 1, 0, none⟩) 1 1] 22)).drew
  have k3 : Blk (((wr.alloc (.cells C 5 fr)).alloc (.cells #[.int .u8 x] 5)).alloc (.cells #[v1, v2, .slice (some ⟨wr.heap.size + 1, 0, none⟩) 1 1] 22)) (wr.heap.size + 1 + 1) 22 [v1, v2, .slice (some ⟨wr.heap.size + 1, 0, none⟩) 1 1] := Blk.new_at e2 rfl
  have b1 : Below (wr.heap.size + 1) (wr.alloc (.cells C 5 fr)) (((wr.alloc (.cells C 5 fr)).alloc (.cells #[.int .u8 x] 5)).alloc (.cells #[v1, v2, .slice (some ⟨wr.heap.size + 1, 0, none⟩) 1 1] 22)).drew := (((Below.refl _ _).alloc (by simp) _).alloc (by simp) _).drew
  refine ⟨Sl.of_blk (n := 3) (c := 3) k3.drew (Nat.le_refl _) (by simp) (by unfold maxLen; omega), Sl.of_blk (n := 1) (c := 1) k2 (Nat.le_refl _) (by simp) (by unfold maxLen; omega), ((((Below.refl _ _).alloc (Nat.le_refl _) _).alloc (by simp) _).alloc (by simp; omega) _).drew, fun v xs h => h.keep (by rw [e1]; exact b1)⟩
theorem concat3 (w : World) (g : Nat) (v1 v2 v3 : Value) (a b d : List Nat) (hs : Sl w (.slice (some ⟨g, 0, none⟩) 3 3) [v1, v2, v3]) (h1 : Sl w v1 (bv a)) (h2 : Sl w v2 (bv b)) (h3 : Sl w v3 (bv d)) (ht : ((a ++ b ++ d).length : Int) ≤ 1099511627776) :
    Calls Try.prog 27 #[.slice (some ⟨g, 0, none⟩) 3 3] w fun e w' => ∃ v, e = .returned v ∧ w'.ownsRow w.heap.size 5 1 v (a ++ b ++ d).length (bv (a ++ b ++ d)) ∧ Below w.heap.size w w' := by
  have e : [a, b, d].flatten = a ++ b ++ d := by simp
  have h := concat_core (some ⟨g, 0, none⟩) 3 3 [v1, v2, v3] [a, b, d] w hs rfl (fun i l hi => by
    rcases (by omega : i = 0 ∨ i = 1 ∨ i = 2 ∨ 3 ≤ i) with rfl | rfl | rfl | h
    · injection hi with hi; subst hi; exact ⟨v1, rfl, h1⟩
    · injection hi with hi; subst hi; exact ⟨v2, rfl, h2⟩
    · injection hi with hi; subst hi; exact ⟨v3, rfl, h3⟩
    · rw [List.getElem?_eq_none (by simpa using h)] at hi; cases hi) (by rw [e]; exact ht)
  rw [e] at h
  exact h
/-- What Expand answers. -/
def RetX (k l : List Nat) (m : Nat) (w : World) (e : Ending) (w' : World) : Prop := ∃ v, e = .returned (.tuple #[v, .int .i64 0]) ∧ Sl w' v (bv ((expL k l ((m + 31) / 32)).take m)) ∧ Below w.heap.size w w'

set_option maxRecDepth 100000 in
set_option maxHeartbeats 4000000 in
theorem expand_core (A : Option Addr) (n c m : Nat) (k l : List Nat) (w : World) (hs : Sl w (.slice A n c) (bv k)) (bk : Byt k) (hlk : (k.length : Int) ≤ 549755813888) (bl : Byt l) (hll : (l.length : Int) ≤ 274877906944) (hm : (m : Int) ≤ 8160) :
    Calls Try.prog 15 #[.slice A n c, .string (bstr l), .int .i64 (m : Int)] w (RetX k l m w) := by
  obtain ⟨i0, hi, hz0, hz1, hz2⟩ := info_parts (P := Try.prog) (e := 5) (z := .int .u8 0) (size := 1) (bytes := 1) (by kernel_rfl)
  have hmac := Lib.hid (fun msg v2 w (h : Sl w (.slice A n c) (bv k)) h2 bm hl => mac_any _ v2 k msg w h h2 bk bm hlk hl)
  have kc := fun (w : World) (s : ByteArray) => run_bytes_of_string (P := Try.prog) w 9 22 5 s Try.underlying9 Try.underlying22 Try.underlying5
  have hsz := bstr_size l
  obtain ⟨q, hq⟩ : ∃ q, q = (m + 31) / 32 := ⟨_, rfl⟩
  have Hq := Lib.hid hq
  have hstep : Hid (∀ j, expB k l (j + 1) = macL k (expB k l j ++ l ++ [(j + 1) % 256])) := fun j => rfl
  have hB0 : Hid (expB k l 0 = [] ∧ expL k l 0 = []) := ⟨rfl, rfl⟩
  have hL1 : Hid (∀ j, expL k l (j + 1) = expL k l j ++ expB k l (j + 1)) := fun j => rfl
  have hBb : Hid (∀ j, Byt (expB k l j)) := fun j => expB_byt j
  have hBl : Hid (∀ j, (expB k l j).length ≤ 32 ∧ (expB k l (j + 1)).length = 32) := fun j => ⟨by rw [expB_len]; split <;> omega, macL_len _ _⟩
  have hLl : Hid (∀ j, (expL k l j).length = 32 * j) := fun j => expL_len k l j
  replace hs := Lib.hid hs
  have hlb := Lib.hid bl
  have hsl2 := Lib.hid (fun w fr => sl_string w fr bl (by omega))
  have hR : Hid (∀ w e w', (∃ v, e = .returned (.tuple #[v, .int .i64 0]) ∧ Sl w' v (bv ((expL k l q).take m)) ∧ Below w.heap.size w w') → RetX k l m w e w') := fun w e w' h => by rw [hq] at h; exact h
  clear bk bl hlk hq
  generalize RetX k l m = RX at *
  go_enter Try.func15, Try.ntmps15
  go_wp2
  go_loopg [8, 9, 10] q (fun gk out last i wr => ∃ j, Hid (gk + j = q) ∧ i = .int .u8 (((j + 1) % 256 : Nat) : Int) ∧ wr.ownsRow w.heap.size 5 1 out (32 * j) (bv (expL k l j)) ∧ Sl wr last (bv (expB k l j)) ∧ (∀ a n c, last = .slice (some a) n c → out.ownBlock ≠ some a.block) ∧ Below w.heap.size w wr)
  case atStart => exact ⟨0, rfl, rfl, by rw [hB0.out.2]; exact World.ownsRow_nil _ _ _ _, by rw [hB0.out.1]; exact Sl.nil_ _, by intro a n c e; simp [Value.ownBlock], Below.refl _ _⟩
  case round =>
    obtain ⟨j, hgk, rfl, own, hsl, hne, hB⟩ := hrel
    obtain ⟨Ao, co, rfl, hco, hcm, hao⟩ := own_shape own
    obtain ⟨Al, cl, rfl, -⟩ := id hsl
    obtain ⟨nl, hnl⟩ : ∃ nl, Hid (nl = (expB k l j).length) := ⟨_, rfl⟩
    rw [bv_length, ← hnl.out] at hsl hne ⊢
    replace own := Lib.hid own
    replace hsl := Lib.hid hsl
    replace hne := Lib.hid hne
    replace hao := Lib.hid hao
    by_cases hj : j < q
    · have ht : (32 * (j : Int)) < (m : Int) := by have := Hq.out; omega
      go_wp2_with fail
      obtain ⟨q1, q2, q3, q4⟩ := cargs wr (bytesRow (bstr l) (grownCap wr l.length 0 5)) ((bytesRow (bstr l) (grownCap wr l.length 0 5)).size, (bytesRow (bstr l) (grownCap wr l.length 0 5)).size + 1) (((j : Int) + 1) % 256) (.slice Al nl cl) (.slice (some ⟨wr.heap.size, 0, none⟩) l.length (grownCap wr l.length 0 5)) _ rfl
      have s1 := hsl.out.keep q3
      have s2 := q4 _ _ (hsl2.out wr ((bytesRow (bstr l) (grownCap wr l.length 0 5)).size, (bytesRow (bstr l) (grownCap wr l.length 0 5)).size + 1))
      have s3 : Sl _ (.slice (some ⟨wr.heap.size + 1, 0, none⟩) 1 1) (bv [(j + 1) % 256]) := q2
      have hlen3 : (((expB k l j) ++ l ++ [(j + 1) % 256]).length : Int) ≤ 274877906977 := by have := (hBl.out j).1; simp; omega
      refine (concat3 _ _ _ _ _ (expB k l j) l [(j + 1) % 256] q1 s1 s2 s3 (by omega)).mono ?_
      rintro e w2 ⟨v2, rfl, own2, hB2⟩
      have hb2 := below_call q3 q3.size hB2
      have sl2 := Lib.hid (Sl.of_own own2)
      clear own2 hB2 q1 q2 q3 q4 s1 s2 s3
      have hm2 := Lib.hid (hmac.out _ v2 w2 (hs.out.keep (below_call hB hB.size hb2)) sl2.out (by
        intro x hx
        rcases List.mem_append.1 hx with hx | hx
        · exact (List.mem_append.1 hx).elim (hBb.out j x) (hlb.out x)
        · simp only [List.mem_cons, List.not_mem_nil, or_false] at hx; omega) (by omega))
      rw [← hstep.out] at hm2
      have hXl := Lib.hid (show (bv (expB k l (j + 1))).length = 32 by rw [bv_length]; exact (hBl.out j).2)
      have hL := Lib.hid (hL1.out j)
      clear hlen3
      go_wp2_with fail
      refine hm2.out.mono ?_
      rintro e w3 ⟨rfl, hB3⟩
      have hb3 := below_call hb2 hb2.size hB3
      clear hb2 hB3 sl2 hm2
      go_wp2_with (refine wpList_allocA rfl 25 rfl (bv (zeros 32)) (by kernel_rfl) ?_)
      intro w4 h4 hK4 hz4
      have hb4 := hb3.trans (hK4.below hb3.size (by simp))
      have hg11 := hb3.size
      clear hK4 hb3 hz4
      generalize w3.heap.size = g11 at *
      go_wp2_with (refine wpList_storeW rfl 25 (.tmp 11) (.tmp 32) rfl 32 arrH g11 rfl (bv (expB k l (j + 1))) rfl 25 _ h4 hXl.out (by simp) (ones_bv _) ?_)
      intro w5 h5 hK5
      have hb5 := hb4.trans (hK5.below hb4.size (by simp; omega))
      have own5 := own_keep own.out hb5
      have sl5 : Sl w5 (.slice (some ⟨g11, 0, none⟩) 32 32) (bv (expB k l (j + 1))) := by
        have h := Sl.of_blk h5 (show 32 ≤ 32 from Nat.le_refl _) (Nat.le_of_eq hXl.out.symm) (by unfold maxLen; omega)
        rw [List.take_of_length_le (Nat.le_of_eq hXl.out)] at h
        exact h
      have hB5 := below_call hB hB.size hb5
      have hne5 : Hid ((Value.slice Ao (32 * j) co).ownBlock ≠ some g11) := fun e => by have := (own.out.lt _ e).2; omega
      clear hK5 h4 hb4 hb5
      have hjI : (j : Int) ≤ 255 := by omega
      go_wp2_with (at_builtin; refine wpList_append_sl2 rfl (.tmp 34) (.tmp 35) 22 rfl w.heap.size 5 i0 (.int .u8 0) 1 Try.underlying22 hi hz0 hz1 hz2 rfl _ (32 * j) (bv (expL k l j)) rfl own5 _ (bv (expB k l (j + 1))) rfl sl5 (bv_oneCell _) ?_ ?_ ?_ ?_)
      · rw [hXl.out]; simp [maxLen]; omega
      · rw [hXl.out]; omega
      · exact hB5.size
      intro v6 w6 own6 gr6 mv6
      have own6' : w6.ownsRow w.heap.size 5 1 v6 (32 * (j + 1)) (bv (expL k l (j + 1))) := by
        rw [hL.out, bv_app, show 32 * (j + 1) = 32 * j + (bv (expB k l (j + 1))).length by rw [hXl.out]; omega]
        first | exact own6 | (rw [bv_length]; exact own6)
      have h6 : Blk w6 g11 25 (bv (expB k l (j + 1))) := h5.keeps (Keeps.grown gr6) (by simp only [Option.mem_toList]; exact hne5.out)
      have sl6 : Sl w6 (.slice (some ⟨g11, 0, none⟩) 32 32) (bv (expB k l (j + 1))) := by
        have h := Sl.of_blk h6 (show 32 ≤ 32 from Nat.le_refl _) (Nat.le_of_eq hXl.out.symm) (by unfold maxLen; omega)
        rw [List.take_of_length_le (Nat.le_of_eq hXl.out)] at h
        exact h
      have hB6 := own_below hB5 gr6 own5 hB5.size
      have hne6 : ∀ (a : Addr) (n c : Nat), Value.slice (some ⟨g11, 0, none⟩) 32 32 = .slice (some a) n c → v6.ownBlock ≠ some a.block := fun a n c e => by
        injection e with e
        injection e with e
        subst e
        exact mv6.ne h5.lt hne5.out
      replace own6' := Lib.hid own6'
      replace sl6 := Lib.hid sl6
      replace hne6 := Lib.hid hne6
      clear own6 gr6 mv6 own5 sl5 h5 h6 hB5 hne5
      go_wp2
      go_roundg (gk - 1)
      case measure => have := hgk.out; omega
      case rel => exact ⟨j + 1, by show _ = _; have := hgk.out; omega, by congr 1; omega, own6'.out, sl6.out, hne6.out, hB6⟩
    · have hjq : j = q := by have := hgk.out; omega
      have hm32 : Hid (m ≤ 32 * j ∧ (m = 0 ↔ j = 0)) := by show _ ∧ _; have := Hq.out; omega
      have ht : ¬ (32 * (j : Int)) < (m : Int) := by have := hm32.out.1; omega
      have hBl2 := Lib.hid (hLl.out j)
      rw [← hjq] at hR
      have hmj : (m : Int) ≤ 32 * (j : Int) := by omega
      clear hsl hne hnl hgk hjq hao
      rcases own.out.2 with ⟨e, -⟩ | ⟨g, cap, cur, e, hb2, hg, h3, h4, -, -⟩
      · injection e with e1 e2 e3
        have hj0 : j = 0 := by omega
        have hm0 : m = 0 := by have := hm32.out.2; omega
        subst e1 e3 hj0 hm0
        clear own e2
        go_wp2_with fail
        refine (clone_nil _).mono ?_
        rintro e w2 ⟨rfl, rfl⟩
        go_wp2
        exact hR.out _ _ _ ⟨_, rfl, by rw [List.take_zero]; exact Sl.nil_ _, hB⟩
      · injection e with e1 e2 e3
        subst e1 e3
        have hcI : (m : Int) ≤ co := by omega
        have hc1 : (co : Int) ≤ 9223372036854775807 := by unfold maxLen at h4; omega
        have slo : Sl wr (.slice (some ⟨g, 0, none⟩) (32 * j) co) (bv (expL k l j)) := Sl.of_own own.out
        have slh := slo.head (i := m) (by rw [bv_length, hBl2.out]) hm32.out.1
        rw [show (bv (expL k l j)).take m = bv ((expL k l j).take m) from by simp [bv]] at slh
        have hcl := Lib.hid (clone_any ⟨g, 0, none⟩ m co ((expL k l j).take m) wr slh (by have := (expL k l j).length_take_le m; omega))
        clear slo slh own hg
        go_wp2_with fail
        refine hcl.out.mono ?_
        rintro e w2 ⟨v2, rfl, own2, hB2⟩
        have sl2 := Lib.hid (Sl.of_own own2)
        have hB2' := below_call hB hB.size hB2
        clear own2 hB2 hcl
        go_wp2
        exact hR.out _ _ _ ⟨_, rfl, sl2.out, hB2'⟩
theorem expand_any (v : Value) (m : Nat) (k l : List Nat) (w : World) (hs : Sl w v (bv k)) (bk : Byt k) (hlk : (k.length : Int) ≤ 549755813888) (bl : Byt l) (hll : (l.length : Int) ≤ 274877906944) (hm : (m : Int) ≤ 8160) :
    Calls Try.prog 15 #[v, .string (bstr l), .int .i64 (m : Int)] w (RetX k l m w) := by
  obtain ⟨A, c, rfl, -⟩ := id hs
  exact expand_core A _ c m k l w hs bk hlk bl hll hm
end Go.Proofs.Ythlebobfbalknaa
