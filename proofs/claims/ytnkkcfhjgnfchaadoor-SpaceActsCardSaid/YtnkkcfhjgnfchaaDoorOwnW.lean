/- The law SpaceOwn: the walk. -/
import Derived.Test.YtnkkcfhjgnfchaaDoorLowW
set_option linter.unusedVariables false
set_option linter.unusedSimpArgs false
namespace Go.Proofs.YtnkkcfhjgnfchaaDoor
open Go.RowKit
open Go.Proofs.PlainSpace

theorem own_keeps {G : List Nat} {w w' : World} {base : Nat} {e : TypeId} {size : Nat} {v : Value} {n : Nat} {xs : List Value} (h : w.ownsRow base e size v n xs) (hk : Keeps G w w')
    (hne : ∀ (A : Addr) k c, v = .slice (some A) k c → A.block ∉ G) : w'.ownsRow base e size v n xs := by
  refine ⟨h.1, ?_⟩
  rcases h.2 with h0 | ⟨g, cap, cur, rfl, hb, hg, hn, hm, hs, ht⟩
  · exact .inl h0
  · refine .inr ⟨g, cap, cur, rfl, hb, ?_, hn, hm, hs, ht⟩
    have hlt : g < w.heap.size := by
      rcases Nat.lt_or_ge g w.heap.size with h | h
      · exact h
      · rw [Array.getElem?_eq_none h] at hg; cases hg
    rw [hk.block g hlt (hne _ _ _ rfl)]; exact hg
theorem own_blk {w : World} {base : Nat} {e : TypeId} {v : Value} {n : Nat} {xs : List Value} (h : w.ownsRow base e 1 v n xs) (hn : 0 < n) : ∃ b c, v = .slice (some ⟨b, 0, none⟩) n c ∧ base ≤ b := by
  rcases h.2 with ⟨_, h0⟩ | ⟨g, cap, cur, rfl, hb, hg, hn', hm, hs, ht⟩
  · omega
  · exact ⟨g, cap, rfl, hb⟩
theorem own_len {w : World} {base : Nat} {e : TypeId} {v : Value} {n : Nat} {xs : List Value} (h : w.ownsRow base e 1 v n xs) : ∃ A c, v = .slice A n c := by
  rcases h.2 with ⟨rfl, h0⟩ | ⟨g, cap, cur, rfl, hb, hg, hn', hm, hs, ht⟩
  · subst h0; exact ⟨_, _, rfl⟩
  · exact ⟨_, _, rfl⟩
theorem uv_set (l : List Nat) (i x : Nat) : (uv l).set i (.int .u32 (x : Int)) = uv (l.set i x) := by simp [uv, List.map_set]

theorem marks_length (l : List Nat) : ∀ (S : List Bool), (marks S l).length = S.length := by
  induction l with
  | nil => intro S; rfl
  | cons a l ih => intro S; show (marks (markS S a) l).length = _; rw [ih, markS_length]
theorem markS_has {S : List Bool} {a b : Nat} (h : has S b = true) : has (markS S a) b = true := by
  unfold markS; split
  · rename_i hh
    rw [has_set S a true hh.1.2]; split
    · rfl
    · exact h
  · exact h
theorem marks_keep (l : List Nat) : ∀ (S : List Bool) (b : Nat), has S b = true → has (marks S l) b = true := by
  induction l with
  | nil => intro S b h; exact h
  | cons a l ih => intro S b h; exact ih _ _ (markS_has h)
theorem markS_self {S : List Bool} {a : Nat} (h : isA S a) : has (markS S a) a = true := by
  unfold markS
  cases hb : has S a with
  | false => rw [if_pos ⟨h, rfl⟩]; exact has_set_eq S true h.2
  | true => rw [if_neg (by simp)]; exact hb
theorem marks_mem (l : List Nat) : ∀ (S : List Bool) (b : Nat), b ∈ l → isA S b → has (marks S l) b = true := by
  induction l with
  | nil => intro S b h; cases h
  | cons a l ih =>
    intro S b h hA
    rcases List.mem_cons.1 h with rfl | h
    · exact marks_keep l _ _ (markS_self hA)
    · exact ih _ _ h ⟨hA.1, by rw [markS_length]; exact hA.2⟩

namespace w_SpaceOwn
set_option maxHeartbeats 4000000 in
theorem core (W : World) (hT : Tab W) (A : Option Addr) (c : Nat) (l : List Nat)
    (h3 : 0 < (uv l).length → ∃ b o, A = some ⟨b, o, none⟩ ∧ ∀ i u, (uv l)[i]? = some u → W.cell? ⟨b, o + i, none⟩ = some u) (hl : ∀ x ∈ l, x < 4294967296) (hlen : l.length ≤ 140737488351232) :
    Calls Tryd.prog 9 #[.slice A l.length c] W fun e w' => e = .returned (.bool true) ∧ Below W.heap.size W w' := by
  obtain ⟨i0, hi, hz0, hz1, hz2⟩ := info_parts Tryd.info29
  have hlI : (l.length : Int) ≤ 140737488351232 := by omega
  have halive := Lib.hid (alive_any W hT)
  have hnew := Lib.hid (fun w => new_ok 64 w (by omega) (by omega))
  have hset := Lib.hid (fun (g h : Nat) (T : List Bool) v m w (h1 : Spc w g h T) h2 h3 h4 h5 => set_any g h T v m w h1 h2 h3 h4 h5)
  have hhas := Lib.hid (fun (g h : Nat) (T : List Bool) (x : Nat) w (h1 : Spc w g h T) (h2 : x < 4294967296) => has_any g h T x w h1 h2)
  have htaken := Lib.hid (fun (g h : Nat) (T : List Bool) w (h1 : Spc w g h T) (h2 : Tab w) => taken_own g h T w h1 h2)
  have hleft := Lib.hid (fun (g h : Nat) (T : List Bool) w (h1 : Spc w g h T) => left_any g h T w h1)
  have HT := Lib.hid hT
  have Hl := Lib.hid hl
  have hR0 : Hid (taken (List.replicate 64 false) = [] ∧ cnt (List.replicate 64 false) = 0) := ⟨taken_new 64, cnt_new 64⟩
  clear hT hl
  by_cases h300 : (300 : Int) < l.length
  · clear h3
    go_enter Tryd.func9, Tryd.ntmps9
    go_wp2_with fail
    refine halive.out.mono ?_
    rintro e w0 ⟨rfl, hB0⟩
    go_wp2_with fail
    refine (hnew.out w0).mono ?_
    rintro e w1 ⟨g, h, rfl, hg, hh, hS1, hB1⟩
    have hBW1 := below_call hB0 hB0.size hB1
    go_wp2_with fail
    refine (hnew.out w1).mono ?_
    rintro e w2 ⟨g', h', rfl, hg2, hh2, hS2, hB2⟩
    have hBW2 := below_call hBW1 hBW1.size hB2
    go_wp2
    go_ret
    exact ⟨rfl, hBW2⟩
  · obtain ⟨M, hM⟩ : ∃ M : List Nat, M = l.map (fun x => 2 + x % 62) := ⟨_, rfl⟩
    have hMl : M.length = l.length := by rw [hM]; simp
    have hMg : Hid (∀ k x, l[k]? = some x → M[k]? = some (x % 62 + 2)) := fun k x h => by rw [hM, List.getElem?_map, h]; exact congrArg some (Nat.add_comm _ _)
    have hMA : Hid (∀ x ∈ M, isA (List.replicate 64 false) x) := fun x hx => by
      rw [hM] at hx; obtain ⟨y, _, rfl⟩ := List.mem_map.1 hx
      exact ⟨by omega, by simp; omega⟩
    have hmk : ∀ w, (Instr.makeSlice 36 (.int .i64 (l.length : Int)) (.int .i64 (l.length : Int))).run Tryd.prog w = .ok (.slice (some ⟨w.heap.size, 0, none⟩) l.length l.length) (w.alloc (.cells (madeCells #[.int .u32 0] l.length) 29)) :=
      run_make_row' (P := Tryd.prog) 36 29 (.int .u32 0) 4 Tryd.underlying36 Tryd.info29 rfl .i64 .i64 l.length (by omega) (by omega)
    have HML := Lib.hid hMl
    clear hM hMl
    generalize hn : l.length = n at *
    have HN := Lib.hid hn
    clear hn
    go_enter Tryd.func9, Tryd.ntmps9
    go_wp2_with fail
    refine halive.out.mono ?_
    rintro e w0 ⟨rfl, hB0⟩
    have hT0 := HT.out.keep hB0
    go_wp2_with fail
    refine (hnew.out w0).mono ?_
    rintro e w1 ⟨g, h, rfl, hg, hh, hS1, hB1⟩
    have hT1 := hT0.keep hB1
    have hBW1 := below_call hB0 hB0.size hB1
    go_wp2_with fail
    refine (hnew.out w1).mono ?_
    rintro e w2 ⟨g', h', rfl, hg2, hh2, hS2, hB2⟩
    have hT2 := hT1.keep hB2
    have hBW2 := below_call hBW1 hBW1.size hB2
    have hS12 := hS1.keep hB2
    have hgb := Lib.hid hS1.bound
    have hgb2 := Lib.hid hS2.bound
    clear hS1
    go_wp2
    have hgW : W.heap.size ≤ w2.heap.size := hBW2.size
    go_loopw [45] (fun i wr => ∃ k : Nat, k ≤ n ∧ i = .int .i64 (k : Int) ∧ Blk wr w2.heap.size 29 (fill (uv M) (.int .u32 0) k) ∧ Below w2.heap.size w2 wr) (fun i _ => n - (intOf i).toNat)
    case atStart =>
      refine ⟨0, Nat.zero_le _, rfl, ?_, (Below.refl _ _).alloc (by omega) _⟩
      have := Blk.new w2 29 (madeCells #[.int .u32 0] n)
      rw [toList_madeCells_one] at this
      rw [fill_zero, uv_length, HML.out]
      exact this
    case round =>
      obtain ⟨k, hk, rfl, hb, hBg⟩ := hrel
      have hn300 : (n : Int) ≤ 300 := by omega
      by_cases hlt : k < n
      · have hkl : k < l.length := by rw [HN.out]; exact hlt
        obtain ⟨b, o, rfl, hc⟩ := h3 (by simp; omega)
        have hc' := hc k (.int .u32 ((l[k] : Nat) : Int)) (by rw [uv_get, List.getElem?_eq_getElem hkl]; rfl)
        have hbW := cell_lt hc'
        have hBW : Below W.heap.size W wr := hBW2.trans (hBg.mono hgW)
        rw [← (bcell hBW).1 _ (o + k) hbW] at hc'
        have hx := Hl.out l[k] (List.getElem_mem hkl)
        have c0 := hb.cell k
        have f0 := hb.frozen k
        have hml := HML.out
        obtain ⟨u, hu⟩ := fill_get (uv M) (.int .u32 0) (k := k) (by rw [uv_length, hml]; exact hlt)
        rw [hu] at c0
        have hst := Lib.hid (fill_set (uv M) (.int .u32 0) (.int .u32 (((l[k] % 62 + 2 : Nat)) : Int)) (k := k) (by rw [uv_get, hMg.out k _ (List.getElem?_eq_getElem hkl)]; rfl))
        clear hu hc h3 hml
        generalize l[k] = x at *
        have hxI : (x : Int) ≤ 4294967295 := by omega
        clear hx
        go_wp2
        go_roundw
        case rel =>
          refine ⟨k + 1, by omega, by simp, ?_, hBg.setCell (Nat.le_refl _) _⟩
          have := hb.set_ k (.int .u32 (((x % 62 + 2 : Nat)) : Int))
          rw [hst.out] at this
          rw [show 2 + (x : Int) % 62 = ((x % 62 + 2 : Nat) : Int) from by omega]
          exact this
        case measure => simp [intOf]; omega
      · obtain rfl : k = n := by omega
        have hb' : Blk wr w2.heap.size 29 (uv M) := by
          have e := fill_all (uv M) (.int .u32 0)
          rw [uv_length, HML.out] at e
          rw [e] at hb; exact hb
        have hBW : Below W.heap.size W wr := hBW2.trans (hBg.mono hgW)
        have hBg2 : Below w2.heap.size w2 wr := hBg
        have hT3 := hT2.keep hBg2
        have hS3 := hS12.keep hBg2
        have hS3' := hS2.keep hBg2
        have hgis := hb'.lt
        have hMls : M.length = k := by rw [HML.out]
        have hsl : Sl wr (.slice (some ⟨w2.heap.size, 0, none⟩) k k) (uv M) := by
          have := Sl.of_blk (n := k) (c := k) hb' (Nat.le_refl _) (by simp; omega) (by unfold maxLen; omega)
          rwa [List.take_of_length_le (by simp; omega)] at this
        clear hb h3 hmk hT0 hT1 hT2 hS12 hS2
        have own0 : (wr.alloc (.cells #[] 29)).ownsRow wr.heap.size 29 1 (.slice (some ⟨wr.heap.size, 0, none⟩) 0 0) 0 [] := World.ownsRow_made wr #[] 0 (Nat.le_refl _) (Nat.zero_le _) rfl
        have bel0 : Below wr.heap.size wr (wr.alloc (.cells #[] 29)) := (Below.refl _ _).alloc (Nat.le_refl _) _
        have hsl0 := hsl.keep bel0
        have HMS := Lib.hid hMls
        have hMsI : (M.length : Int) ≤ 300 := by omega
        clear hMls
        go_wp2_with (at_builtin; refine wpList_append_sl rfl (.tmp 57) (.tmp 58) 36 rfl wr.heap.size 29 i0 (.int .u32 0) 4 Tryd.underlying36 hi hz0 hz1 hz2 rfl _ 0 [] rfl own0 _ (uv M) rfl hsl0 (uv_oneCell M) ?_ ?_ ?_ ?_)
        · simp [maxLen]; omega
        · simp; omega
        · simp
        intro v' w4 own1 gr1
        have bel1 := own_below bel0 gr1 own0 (by simp)
        clear gr1 own0 hsl0 bel0
        have hS4 := hS3.keep bel1
        have hS4' := hS3'.keep bel1
        have hT4 := hT3.keep bel1
        have hBW4 := below_call hBW hBW.size bel1
        have hsl4 := hsl.keep bel1
        have hb4 := hb'.keep bel1
        have hfr := own_fresh own1
        have hsv := Sl.of_own own1
        obtain ⟨Av, cv, rfl⟩ := own_len own1
        clear own1 hsl hb' hS3 hS3' hT3
        have hgbo := hgb.out
        have hgbo2 := hgb2.out
        have hz2' := hB2.size
        have hbz := hBg2.size
        have hset4 := Lib.hid (hset.out g h (List.replicate 64 false) (.slice (some ⟨w2.heap.size, 0, none⟩) k k) M w4 hS4 hsl4 (fun A' n' c' e => by cases e; constructor <;> (simp only; omega)) (fun x hx => by have := (hMA.out x hx).2; simp at this; omega) (by omega))
        rw [setE, if_pos hMA.out, setS, if_pos hMA.out, List.length_replicate] at hset4
        go_wp2_with fail
        refine hset4.out.mono ?_
        rintro e w5 ⟨rfl, hS5, hK5⟩
        have hmem := Lib.hid (fun x hx => marks_mem M (List.replicate 64 false) x hx (hMA.out x hx))
        have hml5 := Lib.hid (marks_length M (List.replicate 64 false))
        generalize marks (List.replicate 64 false) M = T at *
        have hT5 := hT4.keepsS hS4 hK5
        have hG : ∀ b ∈ [g, h], W.heap.size ≤ b := by have := hB0.size; simp; omega
        have hBW5 := hBW4.trans (hK5.below hBW4.size hG)
        have hS5' := hS4'.keeps hK5 (by simp; omega) (by simp; omega)
        have hsv5 := hsv.keeps hK5 (fun A' n' c' e hm => by have := hfr A' n' c' e; simp at hm; omega)
        have hb5 := hb4.keeps hK5 (by simp; omega)
        clear hsv hb4 hS4 hS4' hsl4 hset4 hT4
        go_wp2
        go_loopw [66] (fun i wr => ∃ (j : Nat) (cs : List Value), j ≤ k ∧ i = .int .i64 (j : Int) ∧ cs.length = k ∧ Blk wr w2.heap.size 29 cs ∧ Keeps [w2.heap.size] w5 wr) (fun i _ => k - (intOf i).toNat)
        case atStart => exact ⟨0, uv M, Nat.zero_le _, rfl, by rw [uv_length]; exact HMS.out, hb5, Keeps.refl _ _⟩
        case round =>
          obtain ⟨j, cs, hj, rfl, hcl, hbj, hKj⟩ := hrel
          by_cases hjk : j < k
          · have c0 := hbj.cell j
            have f0 := hbj.frozen j
            rw [List.getElem?_eq_getElem (by omega)] at c0
            go_wp2
            go_roundw
            case rel => exact ⟨j + 1, _, by omega, by simp, by rw [List.length_set]; exact hcl, hbj.set_ j _, hKj.setCell (by simp) _⟩
            case measure => simp [intOf]; omega
          · obtain rfl : j = k := by omega
            have hne1 : w2.heap.size ∉ [g, h] := by simp; omega
            have hS6 := hS5.keeps hKj (by simp; omega) (by simp; omega)
            have hS6' := hS5'.keeps hKj (by simp; omega) (by simp; omega)
            have hT6 := hT5.keeps hKj (by have := hB0.size; simp; have := cell_lt (hT5 0 (by decide)); have := cell_lt (HT.out 0 (by decide)); omega)
            have hsv6 := hsv5.keeps hKj (fun A' n' c' e hm => by have := hfr A' n' c' e; simp at hm; omega)
            have hBW6 := hBW5.trans (hKj.below hBW5.size (by simp; omega))
            clear hbj hS5 hS5' hT5 hsv5 hb5 hKj hcl
            go_wp2_with fail
            refine (htaken.out g h T wr hS6 hT6).mono ?_
            rintro e w8 ⟨v8, rfl, own8, hB8⟩
            obtain ⟨A8, c8, rfl⟩ := own_len own8
            have hT64 : T.length = 64 := by rw [hml5.out]; simp
            have htl : ((taken T).length : Int) ≤ 64 := by have := cnt_le T; unfold cnt at this; omega
            have hlt64 : Hid (∀ (i x : Nat), 0 ≤ i → (taken T)[i]? = some x → x ≤ 63) := fun i x _ hx => by
              have := has_lt (mem_taken.1 (List.mem_of_getElem? hx)); omega
            clear hT64
            generalize taken T = L at *
            generalize hn8 : L.length = n8 at *
            have HN8 := Lib.hid hn8
            clear hn8
            have HS6 := Lib.hid hS6
            have HS6' := Lib.hid hS6'
            have HT6 := Lib.hid hT6
            have HV6 := Lib.hid hsv6
            have HW6 := Lib.hid hBW6
            have HO8 := Lib.hid own8
            have HB8 := Lib.hid hB8
            clear hS6 hS6' hT6 hsv6 hBW6 own8 hB8
            go_wp2
            go_loopw [77] (fun i w' => ∃ (j : Nat) (xs : List Nat), j ≤ n8 ∧ i = .int .i64 (j : Int) ∧ xs.length = n8 ∧ Hid (∀ (i x : Nat), j ≤ i → xs[i]? = some x → x ≤ 63) ∧ w'.ownsRow wr.heap.size 29 1 (.slice A8 n8 c8) n8 (uv xs) ∧ Below wr.heap.size wr w') (fun i _ => n8 - (intOf i).toNat)
            case atStart => exact ⟨0, L, Nat.zero_le _, rfl, HN8.out, hlt64.out, HO8.out, HB8.out⟩
            case round =>
              obtain ⟨j, xs, hj, rfl, hxl, hx64, own9, hB9⟩ := hrel
              by_cases hjn : j < n8
              · obtain ⟨b8, c8', e8, hb8⟩ := own_blk own9 (by omega)
                cases e8
                have hjx : j < xs.length := by omega
                have hgx := uv_get xs j
                rw [List.getElem?_eq_getElem hjx] at hgx
                have c0 := own9.cellAt j (by omega)
                rw [hgx] at c0
                simp only [Option.map_some] at c0
                have f0 := own9.frozenAt j
                have hx := hx64.out j _ (Nat.le_refl _) (List.getElem?_eq_getElem hjx)
                generalize xs[j] = x at *
                have hxI : (x : Int) ≤ 63 := by omega
                have own10 := (own9.stored j (.int .u32 ((x + 1 : Nat) : Int))).1
                rw [uv_set] at own10
                have hx64' : Hid (∀ (i y : Nat), j + 1 ≤ i → (xs.set j (x + 1))[i]? = some y → y ≤ 63) := fun i y hi hy => by
                  rw [List.getElem?_set_ne (by omega)] at hy; exact hx64.out i y (by omega) hy
                have HO := Lib.hid own10
                clear own10 own9 hx hgx
                go_wp2
                go_roundw
                case rel => exact ⟨j + 1, xs.set j (x + 1), by omega, by simp, by rw [List.length_set]; exact hxl, hx64'.out, HO.out, hB9.setCell hb8 _⟩
                case measure => simp [intOf]; omega
              · obtain rfl : j = n8 := by omega
                have hS9 := HS6.out.keep hB9
                have hS9' := HS6'.out.keep hB9
                have hT9 := HT6.out.keep hB9
                have hsv9 := HV6.out.keep hB9
                have hBW9 := below_call HW6.out HW6.out.size hB9
                obtain ⟨Aq, cq, eq, q1, q2, hq3⟩ := hsv9
                simp only [uv_length, Value.slice.injEq, true_and] at eq
                obtain ⟨rfl, rfl⟩ := eq
                rw [uv_length] at hq3
                have HQ3 := Lib.hid hq3
                clear own9 hq3
                go_wp2
                have hMsI' : (M.length : Int) ≤ 300 := hMsI
                go_loop [89] (fun i => ∃ j : Nat, j ≤ M.length ∧ i = .int .i64 (j : Int)) (fun i => M.length - (intOf i).toNat)
                case atStart => exact ⟨0, Nat.zero_le _, rfl⟩
                case round =>
                  obtain ⟨q, hq, rfl⟩ := hrel
                  by_cases hql : q < M.length
                  · obtain ⟨bq, oq, rfl, hcq⟩ := HQ3.out (by omega)
                    have hc' := hcq q (.int .u32 ((M[q] : Nat) : Int)) (by rw [uv_get, List.getElem?_eq_getElem hql]; rfl)
                    have hmq := hmem.out M[q] (List.getElem_mem hql)
                    have hxq : M[q] < 4294967296 := by have := (hMA.out _ (List.getElem_mem hql)).2; simp at this; omega
                    have hh := Lib.hid (hhas.out g h T M[q] _ hS9 hxq)
                    rw [hmq] at hh
                    clear hmq hcq
                    generalize M[q] = y at *
                    clear hxq
                    go_wp2_with fail
                    refine hh.out.mono ?_
                    rintro e w11 ⟨rfl, rfl⟩
                    go_wp2
                    go_round
                    case rel => exact ⟨q + 1, by omega, by simp⟩
                    case measure => simp [intOf]; omega
                  · obtain rfl : q = M.length := by omega
                    have ht := Lib.hid (htaken.out g' h' (List.replicate 64 false) _ hS9' hT9)
                    rw [hR0.out.1] at ht
                    go_wp2_with fail
                    refine ht.out.mono ?_
                    rintro e w12 ⟨v12, rfl, own12, hB12⟩
                    have hS12 := hS9'.keep hB12
                    have hBW12 := below_call hBW9 hBW9.size hB12
                    obtain ⟨A12, c12, rfl⟩ := own_len own12
                    have hl := Lib.hid (hleft.out g' h' (List.replicate 64 false) w12 hS12)
                    rw [hR0.out.2, List.length_replicate] at hl
                    clear own12
                    go_wp2_with fail
                    refine hl.out.mono ?_
                    rintro e w13 ⟨rfl, hB13⟩
                    have hBW13 := below_call hBW12 hBW12.size hB13
                    go_wp2
                    go_ret
                    exact ⟨rfl, hBW13⟩
theorem walk (W : World) (hT : Tab W) (v0 : Value) (l0 : List Nat) (s0 : Sl W v0 (uv l0)) (b0 : ∀ b ∈ l0, b < 4294967296) (m0 : l0.length ≤ 140737488351232) :
    Calls Tryd.prog 9 #[v0] W fun e w' => e = .returned (.bool true) ∧ Below W.heap.size W w' := by
  obtain ⟨A, c, rfl, h1, h2, h3⟩ := s0
  rw [uv_length]
  exact core W hT A c l0 h3 b0 m0
end w_SpaceOwn
end Go.Proofs.YtnkkcfhjgnfchaaDoor
