/- Contracts of banyanref11: Taken, Set. -/
import Derived.Test.YtnkkcfhjgnfchaaDoorRfA
set_option linter.unusedVariables false
set_option linter.unusedSimpArgs false
namespace Go.Proofs.YtnkkcfhjgnfchaaDoor
open Go.RowKit
open Go.Proofs.PlainSpace

set_option maxHeartbeats 1000000 in
theorem rtaken_any (g h : Nat) (S : List Bool) (w : World) (hs : Rfs w g h S) : Calls Tryd.prog 25 #[pt g] w (RetO (taken S) w) := by
  obtain ⟨i0, hi, hz0, hz1, hz2⟩ := info_parts Tryd.info29
  obtain ⟨b1, b2, hgh, ho⟩ := id hs
  have c0 := b1.cell 0
  simp only [List.getElem?_cons_zero] at c0
  have hlI : (S.length : Int) ≤ 4096 := by have := ho.2.1; omega
  have hend := Lib.hid (upto_ge S (k := S.length) (Nat.le_refl _))
  have B2 := Lib.hid b2
  clear b1 b2 ho hs
  go_enter Tryd.func25, Tryd.ntmps25
  go_wp2
  go_loopw [3, 11] (fun v i wr => ∃ (k : Nat), k ≤ S.length ∧ i = .int .i64 (k : Int) ∧ wr.ownsRow w.heap.size 29 1 v (upto S k).length (uv (upto S k)) ∧ Below w.heap.size w wr) (fun _ i _ => S.length - (intOf i).toNat)
  case atStart => exact ⟨0, Nat.zero_le _, rfl, World.ownsRow_nil _ _ _ _, Below.refl _ _⟩
  case round =>
    obtain ⟨k, hk, rfl, hown, hB⟩ := hrel
    by_cases hlt : k < S.length
    · have c1 := (B2.out.keep hB).cell k
      rw [lv_has hlt] at c1
      have hup := upto_succ S k
      have hul := upto_length_le S k
      have hkI : (k : Int) ≤ 4095 := by omega
      cases hb : has S k
      · rw [hb] at c1 hup
        have HU := Lib.hid hup
        have HO := Lib.hid hown
        clear hup hown hb hul
        go_wp2
        go_roundw
        case rel => exact ⟨k + 1, by omega, by simp, by rw [HU.out]; simpa using HO.out, hB⟩
        case measure => simp [intOf]; omega
      · rw [hb] at c1 hup
        obtain ⟨L, hL⟩ : ∃ L, L = upto S k := ⟨_, rfl⟩
        rw [← hL] at hown hul hup
        have HU := Lib.hid hup
        have hLl : L.length ≤ 4160 := by omega
        clear hup hul hL hb
        have own1 := hown.alloc (.cells #[.int .u32 (k : Int)] 29)
        have sl1 : Sl (wr.alloc (.cells #[.int .u32 (k : Int)] 29)) (.slice (some ⟨wr.heap.size, 0, none⟩) 1 1) (uv [k]) := by
          have := Sl.of_blk (n := 1) (c := 1) (Blk.new wr 29 #[.int .u32 (k : Int)]) (Nat.le_refl _) (by simp) (by unfold maxLen; omega)
          simpa [uv] using this
        have bel1 : Below w.heap.size w (wr.alloc (.cells #[.int .u32 (k : Int)] 29)) := hB.alloc hB.size _
        go_wp2_with (at_builtin; refine wpList_append_sl rfl (.tmp 17) (.tmp 20) 36 rfl w.heap.size 29 i0 (.int .u32 0) 4 Tryd.underlying36 hi hz0 hz1 hz2 rfl _ L.length (uv L) rfl own1 _ (uv [k]) rfl sl1 (uv_oneCell _) ?_ ?_ ?_ ?_)
        · first | (simp [maxLen]; omega) | (simp [maxLen] at *; omega)
        · first | omega | (simp; omega)
        · have := bel1.size; first | exact this | (simp at this ⊢; omega)
        intro v' w1 own2 gr1
        have bel2 := own_below bel1 gr1 own1 bel1.size
        clear own1 sl1 gr1 hown
        rw [uv_snoc] at own2
        go_wp2
        go_roundw
        case rel =>
          refine ⟨k + 1, by omega, by simp, ?_, bel2⟩
          rw [HU.out]
          simpa using own2
        case measure => simp [intOf]; omega
    · obtain rfl : k = S.length := by omega
      rw [hend.out] at hown
      have hs := Lib.hid hown
      clear hown
      go_wp2
      go_ret
      exact ⟨_, rfl, hs.out, hB⟩

theorem marks_len (l : List Nat) : ∀ (S : List Bool), (marks S l).length = S.length := by
  induction l with
  | nil => intro S; rfl
  | cons a l ih => intro S; show (marks (markS S a) l).length = _; rw [ih, markS_length]
theorem markS_isA {S : List Bool} {a : Nat} (h : isA S a) : markS S a = S.set a true := by
  unfold markS
  cases hb : has S a with
  | false => rw [if_pos ⟨h, rfl⟩]
  | true =>
    rw [if_neg (by simp)]
    have := set_back S a true false h.2 hb
    rw [List.set_set] at this
    exact this.symm

set_option maxHeartbeats 1000000 in
theorem rset_core (g h : Nat) (S : List Bool) (A : Option Addr) (c : Nat) (l : List Nat) (w : World) (hs : Rfs w g h S)
    (h3 : 0 < (uv l).length → ∃ b o, A = some ⟨b, o, none⟩ ∧ b ≠ g ∧ ∀ i u, (uv l)[i]? = some u → w.cell? ⟨b, o + i, none⟩ = some u) (hl : ∀ a ∈ l, a < 4294967296) (hlen : l.length ≤ 140737488351232)
    (E : Int) (T : List Bool) (hyes : Hid ((∀ a ∈ l, isA S a) → E = 0 ∧ T = marks (List.replicate S.length false) l)) (hno : Hid (¬ (∀ a ∈ l, isA S a) → E = 2 ∧ T = S)) :
    Calls Tryd.prog 23 #[pt g, .slice A l.length c] w fun e w' => e = .returned (.int .i64 E) ∧ (∃ h', (h' = h ∨ w.heap.size ≤ h') ∧ Rfs w' g h' T) ∧ Keeps [g] w w' := by
  have hlI : (l.length : Int) ≤ 140737488351232 := by omega
  have his := Lib.hid (fun (a : Nat) (h2 : a < 4294967296) => ris_any g h S a w hs h2)
  obtain ⟨b1, b2, hgh, ho⟩ := id hs
  have c0 := b1.cell 0
  have f0 := b1.frozen 0
  simp only [List.getElem?_cons_zero] at c0
  obtain ⟨n, hn⟩ : ∃ n, n = S.length := ⟨_, rfl⟩
  rw [← hn] at c0 b1
  have hn1 : n ≤ 4096 := by rw [hn]; exact ho.2.1
  have hn0 : 16 ≤ n := by rw [hn]; exact ho.1
  have hnI : (n : Int) ≤ 4096 := by omega
  have hmk : ∀ w, (Instr.makeSlice 52 (.int .i64 (n : Int)) (.int .i64 (n : Int))).run Tryd.prog w = .ok (.slice (some ⟨w.heap.size, 0, none⟩) n n) (w.alloc (.cells (madeCells #[.bool false] n) 4)) :=
    run_make_row' (P := Tryd.prog) 52 4 (.bool false) 1 Tryd.underlying52 Tryd.info4e rfl .i64 .i64 n (by omega) (by omega)
  have hgs := b1.lt
  have c0' := ((b1.alloc (.cells (madeCells #[.bool false] n) 4)).cell 0)
  have f0' := ((b1.alloc (.cells (madeCells #[.bool false] n) 4)).frozen 0)
  simp only [List.getElem?_cons_zero] at c0'
  have hsp : Hid (Rfs ((w.setCell ⟨g, 0, none⟩ (.slice (some ⟨w.heap.size, 0, none⟩) n n)).alloc (.cells (madeCells #[.bool false] n) 4)) g w.heap.size (List.replicate n false)) := by
    refine ⟨?_, ?_, by omega, Ok.new hn0 hn1⟩
    · have := (b1.set_ 0 (.slice (some ⟨w.heap.size, 0, none⟩) n n)).alloc (.cells (madeCells #[.bool false] n) 4)
      simpa using this
    · have := Blk.new (w.setCell ⟨g, 0, none⟩ (.slice (some ⟨w.heap.size, 0, none⟩) n n)) 4 (madeCells #[.bool false] n)
      rw [toList_madeCells_one] at this
      simpa [lv] using this
  have hkp : Hid (Keeps [g] w ((w.setCell ⟨g, 0, none⟩ (.slice (some ⟨w.heap.size, 0, none⟩) n n)).alloc (.cells (madeCells #[.bool false] n) 4))) :=
    ((Keeps.refl _ _).setCell (by simp) _).alloc _
  have HS := Lib.hid hs
  have HN := Lib.hid hn
  have H3 := Lib.hid h3
  clear b1 b2 ho hs hn hn0 hn1
  go_enter Tryd.func23, Tryd.ntmps23
  go_wp2
  go_loop [11] (fun i => ∃ (k : Nat), k ≤ l.length ∧ i = .int .i64 (k : Int) ∧ Hid (∀ a ∈ l.take k, isA S a)) (fun i => l.length - (intOf i).toNat)
  case atStart => exact ⟨0, Nat.zero_le _, rfl, fun a ha => by simp at ha⟩
  case round =>
    obtain ⟨k, hk, rfl, hF⟩ := hrel
    by_cases hlt : k < l.length
    · obtain ⟨b, o, rfl, hb1, hc⟩ := h3 (by simp; omega)
      have hc' := hc k (.int .u32 ((l[k] : Nat) : Int)) (by rw [uv_get, List.getElem?_eq_getElem hlt]; rfl)
      have hb := hl l[k] (List.getElem_mem hlt)
      have hall : Hid (isA S l[k] → ∀ a ∈ l.take (k + 1), isA S a) := fun hx a ha => by
        rw [take_snoc l k hlt] at ha
        rcases List.mem_append.1 ha with h' | h'
        · exact hF.out a h'
        · simp at h'; rw [h']; exact hx
      have hnot : Hid (¬ isA S l[k] → ¬ ∀ a ∈ l, isA S a) := fun hx hA => hx (hA _ (List.getElem_mem hlt))
      have hi := Lib.hid (his.out _ hb)
      clear hc h3 hl
      generalize l[k] = a at *
      by_cases hA : isA S a
      · rw [decide_eq_true hA] at hi
        have hallA := Lib.hid (hall.out hA)
        clear hA
        go_wp2_with fail
        refine hi.out.mono ?_
        rintro e w1 ⟨rfl, rfl⟩
        go_wp2
        go_round
        case rel => exact ⟨k + 1, by omega, by simp, hallA⟩
        case measure => simp [intOf]; omega
      · rw [decide_eq_false hA] at hi
        obtain ⟨rfl, rfl⟩ := hno.out (hnot.out hA)
        clear hA
        go_wp2_with fail
        refine hi.out.mono ?_
        rintro e w1 ⟨rfl, rfl⟩
        go_wp2
        go_ret
        exact ⟨rfl, ⟨h, .inl rfl, HS.out⟩, Keeps.refl _ _⟩
    · obtain rfl : k = l.length := by omega
      have hA := hF.out
      rw [List.take_length] at hA
      obtain ⟨rfl, rfl⟩ := hyes.out hA
      have HA : Hid (∀ a ∈ l, isA (List.replicate n false) a) := fun a ha => ⟨(hA a ha).1, by rw [List.length_replicate, HN.out]; exact (hA a ha).2⟩
      clear hA
      go_wp2
      go_loopw [31] (fun i wr => ∃ (k : Nat), k ≤ l.length ∧ i = .int .i64 (k : Int) ∧ Rfs wr g w.heap.size (marks (List.replicate n false) (l.take k)) ∧ Keeps [g] w wr) (fun i _ => l.length - (intOf i).toNat)
      case atStart => exact ⟨0, Nat.zero_le _, rfl, hsp.out, hkp.out⟩
      case round =>
        obtain ⟨k, hk, rfl, hS, hK⟩ := hrel
        by_cases hlt : k < l.length
        · obtain ⟨b, o, rfl, hb1, hc⟩ := h3 (by simp; omega)
          have hc' := hc k (.int .u32 ((l[k] : Nat) : Int)) (by rw [uv_get, List.getElem?_eq_getElem hlt]; rfl)
          have hbk := hK.block b (cell_lt hc') (by simp [hb1])
          have hc2 : wr.cell? ⟨b, o + k, none⟩ = some (.int .u32 ((l[k] : Nat) : Int)) := by
            rw [← hc']; simp [World.cell?, hbk]
          have hml : (marks (List.replicate n false) (l.take k)).length = n := by rw [marks_len]; simp
          have hisA : isA (marks (List.replicate n false) (l.take k)) l[k] := by
            have := HA.out l[k] (List.getElem_mem hlt)
            exact ⟨this.1, by rw [hml]; simpa using this.2⟩
          have hst := Lib.hid (take_marks (List.replicate n false) l k hlt)
          rw [markS_isA hisA] at hst
          obtain ⟨q1, q2, q3, q4⟩ := id hS
          rw [hml] at q1
          have d0 := q1.cell 0
          simp only [List.getElem?_cons_zero] at d0
          have d1 := q2.cell l[k]
          rw [lv_has hisA.2] at d1
          have e1 := q2.frozen l[k]
          have haN : (l[k] : Int) < n := by have := hisA.2; rw [hml] at this; omega
          have hnew := Lib.hid (rfs_stored hS hisA true)
          clear hc h3 hl hc' hbk hisA q1 q2 q3 q4 hml
          generalize l[k] = a at *
          have hkk : Keeps [g] w (wr.setCell ⟨w.heap.size, a, none⟩ (.bool true)) := by
            refine ⟨hK.os, hK.tape, hK.output, by have := hK.size; simpa using this, fun b hb hn => ?_⟩
            exact (Below.heap_setCell wr ⟨w.heap.size, a, none⟩ (.bool true) b (by simp only; omega)).trans (hK.block b hb hn)
          have HK := Lib.hid hkk
          have HO := Lib.hid hK
          clear hkk hK hS
          go_wp2
          go_roundw
          case rel => exact ⟨k + 1, by omega, by simp, by rw [hst.out]; exact hnew.out.1, HK.out⟩
          case measure => simp [intOf]; omega
        · obtain rfl : k = l.length := by omega
          rw [List.take_length] at hS
          go_wp2
          go_ret
          exact ⟨rfl, ⟨_, .inr (Nat.le_refl _), by rw [← HN.out]; exact hS⟩, hK⟩
end Go.Proofs.YtnkkcfhjgnfchaaDoor
