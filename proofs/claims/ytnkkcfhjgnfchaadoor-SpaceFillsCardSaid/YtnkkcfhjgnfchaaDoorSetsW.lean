/- The law SpaceSets: the walk. -/
import Derived.Test.YtnkkcfhjgnfchaaDoorMap
set_option linter.unusedVariables false
set_option linter.unusedSimpArgs false
namespace Go.Proofs.YtnkkcfhjgnfchaaDoor
open Go.RowKit
open Go.Proofs.PlainSpace

theorem upto_le2 {S : List Bool} (ho : Ok S) : ∀ k, (upto S k).length ≤ k - 2
  | 0 => Nat.le_refl _
  | k + 1 => by
    have ih := upto_le2 ho k
    rw [upto_succ, List.length_append]
    rcases Nat.lt_or_ge k 2 with h2 | h2
    · have e : has S k = false := by
        rcases (show k = 0 ∨ k = 1 by omega) with rfl | rfl
        · exact ho.2.2.1
        · exact ho.2.2.2
      rw [e]; simp; omega
    · split <;> simp <;> omega
theorem cnt_le2 {S : List Bool} (ho : Ok S) : cnt S + 2 ≤ S.length := by
  have := upto_le2 ho S.length
  have h1 := ho.1
  show (upto S S.length).length + 2 ≤ _
  omega
/-- What the map holds after k rounds, if all of them are sectors. -/
def Tied (R : List Bool) (l : List Nat) (k : Nat) (f : Nat → Bool) (c : Nat) : Prop :=
  (∀ a ∈ l.take k, isA R a) → (∀ x, f x = has (marks R (l.take k)) x) ∧ c = cnt (marks R (l.take k))
theorem Tied.step {R : List Bool} {l : List Nat} {k : Nat} {f : Nat → Bool} {c : Nat} (h : Tied R l k f c) (hk : k < l.length) : Tied R l (k + 1) (fun x => f x || x == l[k]) (if f l[k] then c else c + 1) := by
  intro hall
  have hs := take_snoc l k hk
  rw [hs] at hall
  obtain ⟨h1, h2⟩ := h (fun a ha => hall a (List.mem_append.2 (.inl ha)))
  have hA := hall l[k] (List.mem_append.2 (.inr (List.mem_singleton.2 rfl)))
  rw [take_marks R l k hk]
  generalize l[k] = a at *
  have hA' : isA (marks R (l.take k)) a := ⟨hA.1, by rw [marks_length]; exact hA.2⟩
  generalize marks R (l.take k) = S at *
  rw [h1 a]
  cases hb : has S a with
  | true =>
    have e : markS S a = S := by unfold markS; rw [if_neg (by simp [hb])]
    rw [e]
    refine ⟨fun x => ?_, by simpa using h2⟩
    show (f x || x == a) = _
    rw [h1 x]
    by_cases ex : x = a
    · subst ex; simp [hb]
    · simp [ex]
  | false =>
    have e : markS S a = S.set a true := by unfold markS; rw [if_pos ⟨hA', hb⟩]
    rw [e]
    refine ⟨fun x => ?_, by rw [cnt_set S a hA'.2 hb, h2]; simp⟩
    show (f x || x == a) = _
    rw [h1 x, has_set S a true hA'.2]
    by_cases ex : x = a
    · subst ex; simp
    · have : ¬ a = x := fun e => ex e.symm
      simp [ex, this]
theorem all_step {R : List Bool} {l : List Nat} {k : Nat} (hk : k < l.length) {m : Bool} (h : m = true ↔ ∀ a ∈ l.take k, isA R a) : ((m && decide (2 ≤ l[k]) && decide (l[k] < R.length)) = true) ↔ ∀ a ∈ l.take (k + 1), isA R a := by
  rw [take_snoc l k hk]
  simp only [Bool.and_eq_true, decide_eq_true_eq, List.mem_append, List.mem_singleton]
  constructor
  · rintro ⟨⟨h1, h2⟩, h3⟩ a (ha | rfl)
    · exact h.1 h1 a ha
    · exact ⟨h2, h3⟩
  · intro hh
    have := hh l[k] (.inr rfl)
    exact ⟨⟨h.2 (fun a ha => hh a (.inl ha)), this.1⟩, this.2⟩

namespace w_SpaceSets
set_option maxRecDepth 100000 in
set_option maxHeartbeats 4000000 in
theorem core (W : World) (hT : Tab W) (sz : Nat) (hsz : sz ≤ 65535) (A : Option Addr) (c : Nat) (l : List Nat)
    (h3 : 0 < (uv l).length → ∃ b o, A = some ⟨b, o, none⟩ ∧ ∀ i u, (uv l)[i]? = some u → W.cell? ⟨b, o + i, none⟩ = some u)
    (hl : ∀ x ∈ l, x < 4294967296) (hlen : l.length ≤ 140737488351232) :
    Calls Tryd.prog 7 #[.slice A l.length c, .int .u16 (sz : Int)] W fun e w' => e = .returned (.bool true) ∧ Below W.heap.size W w' := by
  have hlI : (l.length : Int) ≤ 140737488351232 := by omega
  have hszI : (sz : Int) ≤ 65535 := by omega
  obtain ⟨n, hn⟩ : ∃ n, n = 16 + sz % 200 := ⟨_, rfl⟩
  have hnI : (16 : Int) + (sz : Int) % 200 = (n : Int) := by omega
  have hn0 : (16 : Int) ≤ n := by omega
  have hn1 : (n : Int) ≤ 215 := by omega
  clear hn
  have hmm := @run_makeMap Tryd.prog
  have halive := Lib.hid (alive_any W hT)
  have hnew := Lib.hid (fun w => new_ok n w (by omega) (by omega))
  have htake := Lib.hid (fun (g h : Nat) (T : List Bool) w (h1 : Spc w g h T) (h2 : Tab w) => take_any g h T w h1 h2)
  have hmark := Lib.hid (fun (g h : Nat) (T : List Bool) (x : Nat) w (h1 : Spc w g h T) (h2 : x < 4294967296) => mark_any g h T x w h1 h2)
  have hfree := Lib.hid (fun (g h : Nat) (T : List Bool) (x : Nat) w (h1 : Spc w g h T) (h2 : x < 4294967296) => free_any g h T x w h1 h2)
  have hhas := Lib.hid (fun (g h : Nat) (T : List Bool) (x : Nat) w (h1 : Spc w g h T) (h2 : x < 4294967296) => has_any g h T x w h1 h2)
  have hleft := Lib.hid (fun (g h : Nat) (T : List Bool) w (h1 : Spc w g h T) => left_any g h T w h1)
  have hset := Lib.hid (fun (g h : Nat) (T : List Bool) w (h1 : Spc w g h T) h2 => set_core g h T A c l w h1 h2 hl hlen (setE T l) (setS T l) (fun hA => ⟨if_pos hA, if_pos hA⟩) (fun hA => ⟨if_neg hA, if_neg hA⟩))
  have HT := Lib.hid hT
  have Hl := Lib.hid hl
  have H3 := Lib.hid h3
  clear hT hl
  go_enter Tryd.func7, Tryd.ntmps7
  go_wp2_with fail
  refine halive.out.mono ?_
  rintro e w0 ⟨rfl, hB0⟩
  have hT0 := HT.out.keep hB0
  go_wp2_with fail
  refine (hnew.out w0).mono ?_
  rintro e w1 ⟨g, hz, rfl, hg, hh, hS1, hB1⟩
  have hT1 := hT0.keep hB1
  have hg' : W.heap.size ≤ g := Nat.le_trans hB0.size hg
  have hh' : W.heap.size ≤ hz := Nat.le_trans hB0.size hh
  have hG : ∀ b ∈ [g, hz], W.heap.size ≤ b := by simp [hg', hh']
  have hBW1 := below_call hB0 hB0.size hB1
  by_cases h500 : (500 : Int) < l.length
  · clear h3
    go_wp2
    go_ret
    exact ⟨rfl, hBW1⟩
  · go_wp2_with fail
    refine (htake.out g hz _ w1 hS1 hT1).mono ?_
    rintro e w2 ⟨a0, f0, S1, rfl, hP, hS2, hK2⟩
    obtain ⟨rfl, rfl, rfl⟩ := hP.unique (TakeP.some 2 ⟨by omega, by rw [List.length_replicate]; omega⟩ (has_new _ _) (fun b h1 h2 => by omega))
    clear hP
    have hT2 := hT1.keepsS hS1 hK2
    have hBW2 := hBW1.trans (hK2.below hBW1.size hG)
    have hS1l : ((List.replicate n false).set 2 true).length = n := by simp
    have hS1h : has ((List.replicate n false).set 2 true) 2 = true := has_set_eq _ true (by rw [List.length_replicate]; omega)
    have hS1c : cnt ((List.replicate n false).set 2 true) = 1 := by rw [cnt_set _ 2 (by rw [List.length_replicate]; omega) (has_new _ _), cnt_new]
    generalize hS1e : (List.replicate n false).set 2 true = S1 at *
    clear hS1e
    have hSet := Lib.hid (hset.out g hz S1 w2 hS2 (fun hp => by
      obtain ⟨b, o, rfl, hc⟩ := H3.out hp
      have hb := cell_lt (hc 0 _ (List.getElem?_eq_getElem hp))
      refine ⟨b, o, rfl, by omega, by omega, fun i u hu => ?_⟩
      rw [(bcell hBW2).1 _ _ hb]; exact hc i u hu))
    have hEv : Hid ((∀ a ∈ l, isA (List.replicate n false) a) → setE S1 l = 0 ∧ setS S1 l = marks (List.replicate n false) l) := fun hA => by
      have hA' : ∀ a ∈ l, isA S1 a := fun a ha => ⟨(hA a ha).1, by have := (hA a ha).2; rw [List.length_replicate] at this; omega⟩
      rw [setE, if_pos hA', setS, if_pos hA', hS1l]; exact ⟨rfl, rfl⟩
    have hEn : Hid (¬ (∀ a ∈ l, isA (List.replicate n false) a) → setE S1 l = 2 ∧ setS S1 l = S1) := fun hA => by
      have hA' : ¬ ∀ a ∈ l, isA S1 a := fun hh => hA (fun a ha => ⟨(hh a ha).1, by have := (hh a ha).2; rw [List.length_replicate]; omega⟩)
      rw [setE, if_neg hA', setS, if_neg hA']; exact ⟨rfl, rfl⟩
    have hS1l' := Lib.hid hS1l
    have hS1h' := Lib.hid hS1h
    have hS1c' := Lib.hid hS1c
    clear hS1l hS1h hS1c
    generalize setE S1 l = ee at *
    generalize setS S1 l = T at *
    go_wp2_with fail
    refine hSet.out.mono ?_
    rintro e w3 ⟨rfl, hS3, hK3⟩
    have hT3 := hT2.keepsS hS2 hK3
    have hBW3 := hBW2.trans (hK3.below hBW2.size hG)
    have hgb := Lib.hid hS3.bound
    clear hS2 hS1 hT0 hT1 hT2
    go_wp2
    go_loopw [11, 49] (fun m i wr => ∃ (k : Nat) (mb : Bool) (f : Nat → Bool) (cc : Nat), k ≤ l.length ∧ i = .int .i64 (k : Int) ∧ m = .bool mb ∧ Hid (mb = true ↔ ∀ a ∈ l.take k, isA (List.replicate n false) a) ∧ Hid (Tied (List.replicate n false) l k f cc) ∧ Im wr w3.heap.size f cc k ∧ Below w3.heap.size w3 wr) (fun _ i _ => l.length - (intOf i).toNat)
    case atStart =>
      refine ⟨0, true, fun _ => false, 0, Nat.zero_le _, rfl, rfl, ⟨fun _ a ha => by simp at ha, fun _ => rfl⟩, fun _ => ⟨fun x => ?_, ?_⟩, Im.made w3, (Below.refl _ _).alloc (Nat.le_refl _) _⟩
      · exact (has_new n x).symm
      · exact (cnt_new n).symm
    case round =>
      obtain ⟨k, mb, f, cc, hk, rfl, rfl, hmb, htd, hIm, hBr⟩ := hrel
      by_cases hlt : k < l.length
      · obtain ⟨b, o, rfl, hc⟩ := h3 (by simp; omega)
        have hc' := hc k (.int .u32 ((l[k] : Nat) : Int)) (by rw [uv_get, List.getElem?_eq_getElem hlt]; rfl)
        have hBWr := below_call hBW3 hBW3.size hBr
        rw [← (bcell hBWr).1 _ (o + k) (cell_lt hc')] at hc'
        have hb := Hl.out l[k] (List.getElem_mem hlt)
        have hmb' := Lib.hid (all_step hlt hmb.out)
        have htd' := Lib.hid (htd.out.step hlt)
        obtain ⟨w4, hrun, hIm4, hK4⟩ := hIm.put (by omega) hb
        have hB4 : Below w3.heap.size w3 w4 := hBr.trans (hK4.below hBr.size (by simp))
        clear hc h3
        generalize l[k] = x at *
        have hxI : (x : Int) ≤ 4294967295 := by omega
        rw [List.length_replicate] at hmb'
        clear hb hmb htd
        cases mb
        · have e : (false && decide (2 ≤ x) && decide (x < n)) = false := by simp
          rw [e] at hmb'
          go_wp2
          go_roundw
          case rel => exact ⟨k + 1, false, _, _, by omega, by simp, rfl, hmb', htd', hIm4, hB4⟩
          case measure => simp [intOf]; omega
        · by_cases hx2 : (2 : Int) ≤ x
          · by_cases hxn : (x : Int) < n
            · have e : (true && decide (2 ≤ x) && decide (x < n)) = true := by simp; omega
              rw [e] at hmb'
              go_wp2
              go_roundw
              case rel => exact ⟨k + 1, true, _, _, by omega, by simp, rfl, hmb', htd', hIm4, hB4⟩
              case measure => simp [intOf]; omega
            · have e : (true && decide (2 ≤ x) && decide (x < n)) = false := by simp; omega
              rw [e] at hmb'
              go_wp2
              go_roundw
              case rel => exact ⟨k + 1, false, _, _, by omega, by simp, rfl, hmb', htd', hIm4, hB4⟩
              case measure => simp [intOf]; omega
          · have e : (true && decide (2 ≤ x) && decide (x < n)) = false := by simp; omega
            rw [e] at hmb'
            go_wp2
            go_roundw
            case rel => exact ⟨k + 1, false, _, _, by omega, by simp, rfl, hmb', htd', hIm4, hB4⟩
            case measure => simp [intOf]; omega
      · obtain rfl : k = l.length := by omega
        have hBWr := below_call hBW3 hBW3.size hBr
        have hSr := hS3.keep hBr
        have hTr := hT3.keep hBr
        clear h3
        cases mb
        · have hna : ¬ ∀ a ∈ l, isA (List.replicate n false) a := fun hh => by
            have := hmb.out.2 (by rw [List.take_length]; exact hh)
            cases this
          obtain ⟨rfl, rfl⟩ := hEn.out hna
          have hh := Lib.hid (hhas.out g hz T 2 wr hSr (by omega))
          rw [hS1h'.out] at hh
          have hle := Lib.hid (fun w hs => hleft.out g hz T w hs)
          rw [hS1l'.out, hS1c'.out, show ((n : Int) - 2 - ((1 : Nat) : Int)) = n - 3 from by omega] at hle
          clear hna
          go_wp2_with fail
          refine hh.out.mono ?_
          rintro e w5 ⟨rfl, rfl⟩
          go_wp2_with fail
          refine (hle.out wr hSr).mono ?_
          rintro e w5 ⟨rfl, hB5⟩
          have hBW5 := below_call hBWr hBWr.size hB5
          go_wp2
          go_ret
          exact ⟨rfl, hBW5⟩
        · have ha : ∀ a ∈ l, isA (List.replicate n false) a := fun a hal => by
            have := hmb.out.1 rfl
            rw [List.take_length] at this
            exact this a hal
          have htt := htd.out (by rw [List.take_length]; exact ha)
          rw [List.take_length] at htt
          obtain ⟨rfl, rfl⟩ := hEv.out ha
          obtain ⟨hf, rfl⟩ := htt
          have hTl : (marks (List.replicate n false) l).length = n := by rw [marks_length]; simp
          clear ha hEv hEn htd hmb hSet
          generalize marks (List.replicate n false) l = T at *
          have hok := Lib.hid hSr.ok
          obtain rfl : f = has T := funext hf
          clear hf
          have hTl' := Lib.hid hTl
          clear hTl
          go_wp2
          go_loopw [90] (fun i w' => ∃ (j : Nat), (j : Int) ≤ n + 5 ∧ i = .int .u32 (j : Int) ∧ Spc w' g hz T ∧ Tab w' ∧ Im w' w3.heap.size (has T) (cnt T) l.length ∧ Below W.heap.size W w') (fun i _ => n + 5 - (intOf i).toNat)
          case atStart => exact ⟨0, by omega, rfl, hSr, hTr, hIm, hBWr⟩
          case round =>
            obtain ⟨j, hj, rfl, hS5, hT5, hIm5, hBW5⟩ := hrel
            by_cases hjn : (j : Int) < n + 5
            · have hjl : j < 4294967296 := by omega
              have hlk := Lib.hid (fun W (hh : Im W w3.heap.size (has T) (cnt T) l.length) => hh.look hjl)
              have hh := Lib.hid (fun w hs => hhas.out g hz T j w hs hjl)
              have hjI : (j : Int) ≤ 219 := by omega
              have HS5 := Lib.hid hS5
              have HT5 := Lib.hid hT5
              have HI5 := Lib.hid hIm5
              have HB5 := Lib.hid hBW5
              clear hS5 hT5 hIm5 hBW5 hjl hIm hTr hSr hS3 hT3 hBr hBWr hK3 hK2
              generalize has T j = bb at *
              go_wp2
              have hl0 := hlk.out _ HI5.out
              go_region_held3 (fun w' => (Instr.lookup 33 (.map (some w3.heap.size)) (.int .u32 (j : Int)) false).run Tryd.prog w' = .ok (.bool bb) w') (first | exact hl0 | exact hlk.out _ HI5.out) (first
                | (go_at_call 18
                   refine (hh.out _ ?_).mono ?_
                   · exact HS5.out
                   rintro e w6 ⟨rfl, rfl⟩)
                | fail)
              all_goals
                (go_wp2
                 go_roundw
                 (case rel => exact ⟨j + 1, by omega, by simp, HS5.out, HT5.out, HI5.out, by repeat' (first | (with_reducible exact HB5.out) | (with_reducible refine below_drewN ?_ _) | (with_reducible refine Below.drew ?_))⟩)
                 (case measure => simp [intOf]; omega))
            · have hle2 := cnt_le2 hok.out
              have hTl := hTl'.out
              have hln := hIm5.len
              have hBs := hBr.size
              have hgo := hgb.out
              have HI5 := Lib.hid hIm5
              have hcI : (cnt T : Int) + 2 ≤ n := by omega
              clear hIm5 hIm hTr hSr hBWr
              go_wp2_with fail
              refine (htake.out g hz T _ hS5 hT5).mono ?_
              rintro e w6 ⟨x, f6, U, rfl, hP, hS6, hK6⟩
              have hT6 := hT5.keepsS hS5 hK6
              have hBW6 := hBW5.trans (hK6.below hBW5.size hG)
              have hI6 := HI5.out.keeps hK6 (by simp; omega)
              have hln6 := hI6.len
              cases hP with
              | none hfull =>
                have hcn := full_cnt hok.out hfull
                have hcn' : (cnt T : Int) = n - 2 := by omega
                have hceq : ((cnt T : Int) == (n : Int) - 2) = true := by simp; omega
                clear hfull hcn hcn' hle2 hTl
                go_wp2
                go_ret
                exact ⟨rfl, hBW6⟩
              | some _ hA hf hlow =>
                have hcU := cnt_set T x hA.2 hf
                have hleU := cnt_le2 hS6.ok
                have hUl : (T.set x true).length = n := by simpa using hTl
                have hcne : ((cnt T : Int) == (n : Int) - 2) = false := by simp; omega
                have hUx : has (T.set x true) x = true := has_set_eq T true hA.2
                have hx : x < 4294967296 := by have := hA.2; omega
                have hxA : isA (T.set x true) x := ⟨hA.1, by rw [hUl, ← hTl]; exact hA.2⟩
                have hlk := hI6.look hx
                rw [hf] at hlk
                have hle := Lib.hid (hleft.out g hz (T.set x true) w6 hS6)
                rw [hUl, hcU, show (n : Int) - 2 - ((cnt T + 1 : Nat) : Int) = n - 3 - (cnt T : Nat) from by omega] at hle
                have m1 := Lib.hid (fun w hs => hmark.out g hz (T.set x true) x w hs hx)
                rw [markE, if_pos hxA, if_pos hUx, markS, if_neg (by simp [hUx])] at m1
                have m2 := Lib.hid (fun w hs => hmark.out g hz (T.set x true) 0 w hs (by omega))
                have na0 : ¬ isA (T.set x true) 0 := fun hh => by have := hh.1; omega
                rw [markE, if_neg na0, markS, if_neg (fun hh => na0 hh.1)] at m2
                have m3 := Lib.hid (fun w hs => hmark.out g hz (T.set x true) 1 w hs (by omega))
                have na1 : ¬ isA (T.set x true) 1 := fun hh => by have := hh.1; omega
                rw [markE, if_neg na1, markS, if_neg (fun hh => na1 hh.1)] at m3
                have m4 := Lib.hid (fun w hs => hfree.out g hz (T.set x true) n w hs (by omega))
                have nan : ¬ isA (T.set x true) n := fun hh => by have := hh.2; omega
                rw [freeE, if_neg nan, freeS, if_neg (fun hh => nan hh.1)] at m4
                have hxI : (x : Int) ≤ 4294967295 := by omega
                generalize T.set x true = U at *
                clear hA hf hlow hcU hleU hUl hUx hx hxA na0 na1 nan hle2 hTl
                go_wp2_with fail
                refine hle.out.mono ?_
                rintro e w7 ⟨rfl, hB7⟩
                have hS7 := hS6.keep hB7
                have hBW7 := below_call hBW6 hBW6.size hB7
                have hln7 := (hI6.keep hB7).len
                go_wp2_with fail
                refine (m1.out w7 hS7).mono ?_
                rintro e w8 ⟨rfl, hS8, hK8⟩
                have hBW8 := hBW7.trans (hK8.below hBW7.size hG)
                go_wp2_with fail
                refine (m2.out w8 hS8).mono ?_
                rintro e w9 ⟨rfl, hS9, hK9⟩
                have hBW9 := hBW8.trans (hK9.below hBW8.size hG)
                go_wp2_with fail
                refine (m3.out w9 hS9).mono ?_
                rintro e w10 ⟨rfl, hS10, hK10⟩
                have hBW10 := hBW9.trans (hK10.below hBW9.size hG)
                go_wp2_with fail
                refine (m4.out w10 hS10).mono ?_
                rintro e w11 ⟨rfl, hS11, hK11⟩
                have hBW11 := hBW10.trans (hK11.below hBW10.size hG)
                go_wp2
                go_ret
                exact ⟨rfl, hBW11⟩
theorem walk (W : World) (hT : Tab W) (v0 : Value) (l0 : List Nat) (s0 : Sl W v0 (uv l0)) (b0 : ∀ b ∈ l0, b < 4294967296) (m0 : l0.length ≤ 140737488351232) (a1 : Int) (b1 : 0 ≤ a1) (c1 : a1 ≤ 65535) :
    Calls Tryd.prog 7 #[v0, .int .u16 a1] W fun e w' => e = .returned (.bool true) ∧ Below W.heap.size W w' := by
  obtain ⟨x, rfl⟩ := Int.eq_ofNat_of_zero_le b1
  obtain ⟨A, c, rfl, h1, h2, h3⟩ := s0
  rw [uv_length]
  exact core W hT x (by omega) A c l0 h3 b0 m0
end w_SpaceSets
end Go.Proofs.YtnkkcfhjgnfchaaDoor
