/- Contracts of package space: Taken; of the reference: Same. -/
import Derived.Test.YtnkkcfhjgnfchaaDoorSpC
import Derived.Test.YtnkkcfhjgnfchaaDoorApp
set_option linter.unusedVariables false
set_option linter.unusedSimpArgs false
namespace Go.Proofs.YtnkkcfhjgnfchaaDoor
open Go.RowKit
open Go.Proofs.PlainSpace

theorem own_fresh {w : World} {base : Nat} {e : TypeId} {v : Value} {n : Nat} {xs : List Value} (h : w.ownsRow base e 1 v n xs) : ∀ (A : Addr) k c, v = .slice (some A) k c → base ≤ A.block := by
  intro A k c hv
  rcases h.2 with ⟨rfl, h0⟩ | ⟨g, cap, cur, rfl, hb, hg, hn, hm, hs, ht⟩
  · cases hv
  · cases hv; exact hb
theorem uv_snoc (l : List Nat) (x : Nat) : uv l ++ uv [x] = uv (l ++ [x]) := by simp [uv]

/-- What a maker of address rows answers: a row of its own. -/
def RetO (l : List Nat) (w : World) (e : Ending) (w' : World) : Prop := ∃ v, e = .returned v ∧ w'.ownsRow w.heap.size 29 1 v l.length (uv l) ∧ Below w.heap.size w w'
theorem RetO.u {l : List Nat} {w : World} {e : Ending} {w' : World} (h : RetO l w e w') : RetU l w e w' := by
  obtain ⟨v, rfl, ho, hB⟩ := h
  exact ⟨v, rfl, Sl.of_own ho, own_fresh ho, hB⟩

set_option maxHeartbeats 2000000 in
theorem taken_own (g h : Nat) (S : List Bool) (w : World) (hs : Spc w g h S) (hT : Tab w) : Calls Tryd.prog 16 #[pt g] w (RetO (taken S) w) := by
  obtain ⟨i0, hi, hz0, hz1, hz2⟩ := info_parts Tryd.info29
  have htz := Lib.hid (fun (x : Nat) W (h1 : x < 18446744073709551616) (h2 : Tab W) => tz_any x h1 W h2)
  obtain ⟨ws, b1, b2, hgh, hr, ho⟩ := id hs
  have hwl : ws.length ≤ 64 := by have := hr.1; have := ho.2.1; omega
  have hwlI : (ws.length : Int) ≤ 64 := by omega
  have c1 := b1.cell 1
  simp only [List.getElem?_cons_succ, List.getElem?_cons_zero] at c1
  have HR := Lib.hid hr
  have HT := Lib.hid hT
  have B2 := Lib.hid b2
  have hend := Lib.hid (upto_ge S (k := 64 * ws.length) (by have := hr.1; omega))
  clear b1 b2 hr hs hT
  go_enter Tryd.func16, Tryd.ntmps16
  go_wp2
  go_loopw [2, 12] (fun v i wr => ∃ (k : Nat), k ≤ ws.length ∧ i = .int .i64 (k : Int) ∧ wr.ownsRow w.heap.size 29 1 v (upto S (64 * k)).length (uv (upto S (64 * k))) ∧ Below w.heap.size w wr) (fun _ i _ => ws.length - (intOf i).toNat)
  case atStart => exact ⟨0, Nat.zero_le _, rfl, World.ownsRow_nil _ _ _ _, Below.refl _ _⟩
  case round =>
    obtain ⟨k, hk, rfl, hown, hB⟩ := hrel
    by_cases hlt : k < ws.length
    · have c3 := (B2.out.keep hB).cell k
      rw [wv_get, List.getElem?_eq_getElem hlt] at c3
      simp only [Option.map_some] at c3
      have hrest := Rest.first HR.out (List.getElem?_eq_getElem hlt)
      generalize ws[k] = x at *
      have hown0 := Lib.hid hown
      clear hown
      go_wp2
      go_loopw [2, 4] (fun v y wr => ∃ (d z : Nat), y = .int .u64 (z : Int) ∧ PlainSpace.Rest S k d z ∧ wr.ownsRow w.heap.size 29 1 v (upto S (64 * k + d)).length (uv (upto S (64 * k + d))) ∧ Below w.heap.size w wr) (fun _ y _ => (intOf y).toNat)
      case atStart => exact ⟨0, x, rfl, hrest, hown0.out, hB⟩
      case round =>
        obtain ⟨d, z, rfl, hz, hown, hB⟩ := hrel
        have hzl : (z : Int) ≤ 18446744073709551615 := by have := hz.1; omega
        by_cases h0 : z = 0
        · subst h0
          have hl := Lib.hid hz.last
          have hown0 := Lib.hid hown
          clear hown
          go_wp2
          go_roundw
          case rel => exact ⟨k + 1, by omega, by simp, by rw [hl.out]; exact hown0.out, hB⟩
          case measure => simp [intOf]; omega
        · obtain ⟨hn, hbit, hup, hdk⟩ := hz.step h0
          have hal : 64 * k + Lib.ctz 64 z < 4096 := by have := has_lt hbit; have := ho.2.1; omega
          have hct := Lib.hid (htz.out z wr hz.1 (HT.out.keeps (G := []) ⟨hB.os, hB.tape, hB.output, hB.size, fun b hb _ => hB.block b hb⟩ (by simp)))
          have ht64 := ctz_lt hz.1 h0
          generalize Lib.ctz 64 z = t at *
          have htI : (t : Int) < 64 := by omega
          have hzp : (0 : Int) < z := by omega
          have hor : bits BinOp.or IntKind.i64 ((k : Int) * 64) (t : Int) = ((64 * k + t : Nat) : Int) := by
            rw [show (k : Int) * 64 = ((k * 64 : Nat) : Int) from by omega, i64_or_nat _ _ (by omega) (by omega), join64 _ _ ht64]
          have hand : bits BinOp.and IntKind.u64 (z : Int) ((z : Int) - 1) = ((z &&& (z - 1) : Nat) : Int) := by
            rw [show (z : Int) - 1 = ((z - 1 : Nat) : Int) from by omega, u64_and_nat z (z - 1) hz.1 (by omega)]
          have hlt' : z &&& (z - 1) < z := Nat.lt_of_le_of_lt Nat.and_le_right (by omega)
          obtain ⟨a, hA⟩ : ∃ a, a = 64 * k + t := ⟨_, rfl⟩
          rw [← hA] at hor hal
          have haI : (a : Int) ≤ 4095 := by omega
          have hul := upto_length_le S (64 * k + d)
          have HN := Lib.hid hn
          have HU := Lib.hid hup
          have HA := Lib.hid hA
          obtain ⟨y, hy⟩ : ∃ y, y = z &&& (z - 1) := ⟨_, rfl⟩
          rw [← hy] at hand hlt' HN
          obtain ⟨L, hL⟩ : ∃ L, L = upto S (64 * k + d) := ⟨_, rfl⟩
          rw [← hL] at hown hul HU
          have hLl : L.length ≤ 4160 := by have := hz.2.1; omega
          clear hn hup hA hy hL hul hz hbit hal
          have own1 := hown.alloc (.cells #[.int .u32 (a : Int)] 29)
          have sl1 : Sl (wr.alloc (.cells #[.int .u32 (a : Int)] 29)) (.slice (some ⟨wr.heap.size, 0, none⟩) 1 1) (uv [a]) := by
            have := Sl.of_blk (n := 1) (c := 1) (Blk.new wr 29 #[.int .u32 (a : Int)]) (Nat.le_refl _) (by simp) (by unfold maxLen; omega)
            simpa [uv] using this
          have bel1 : Below w.heap.size w (wr.alloc (.cells #[.int .u32 (a : Int)] 29)) := hB.alloc hB.size _
          go_wp2_with fail
          refine hct.out.mono ?_
          rintro e w1 ⟨rfl, rfl⟩
          go_wp2_with (at_builtin; refine wpList_append_sl rfl (.tmp 23) (.tmp 30) 36 rfl w.heap.size 29 i0 (.int .u32 0) 4 Tryd.underlying36 hi hz0 hz1 hz2 rfl _ L.length (uv L) rfl own1 _ (uv [a]) rfl sl1 (uv_oneCell _) ?_ ?_ ?_ ?_)
          · simp [maxLen]; omega
          · simp; omega
          · exact bel1.size
          intro v' w1 own2 gr1
          have bel2 := own_below bel1 gr1 own1 bel1.size
          clear own1 sl1 gr1 hown
          rw [uv_snoc] at own2
          go_wp2
          go_roundw
          case rel =>
            refine ⟨t + 1, y, rfl, HN.out, ?_, bel2⟩
            rw [HU.out, ← HA.out]
            simpa using own2
          case measure => simp [intOf]; omega
    · obtain rfl : k = ws.length := by omega
      rw [hend.out] at hown
      have hs := Lib.hid hown
      clear hown
      go_wp2
      go_ret
      exact ⟨_, rfl, hs.out, hB⟩
theorem taken_any (g h : Nat) (S : List Bool) (w : World) (hs : Spc w g h S) (hT : Tab w) : Calls Tryd.prog 16 #[pt g] w (RetU (taken S) w) :=
  (taken_own g h S w hs hT).mono fun _ _ h => h.u
theorem taken_nil (w : World) : Calls Tryd.prog 16 #[.pointer none] w fun e w' => e = .returned (.slice none 0 0) ∧ w = w' := by
  go_enter Tryd.func16, Tryd.ntmps16
  go_wp2
  go_ret
  exact ⟨rfl, rfl⟩

/-! ### Same -/
set_option maxHeartbeats 1000000 in
theorem same_core (A B : Option Addr) (c d : Nat) (a b : List Nat) (w : World)
    (ha3 : 0 < (uv a).length → ∃ g o, A = some ⟨g, o, none⟩ ∧ ∀ i u, (uv a)[i]? = some u → w.cell? ⟨g, o + i, none⟩ = some u)
    (hb3 : 0 < (uv b).length → ∃ g o, B = some ⟨g, o, none⟩ ∧ ∀ i u, (uv b)[i]? = some u → w.cell? ⟨g, o + i, none⟩ = some u)
    (ha : ∀ x ∈ a, x < 4294967296) (hb : ∀ x ∈ b, x < 4294967296) (la : a.length ≤ 140737488351232) (lb : b.length ≤ 140737488351232)
    (R : Bool) (hR : Hid (R = decide (a = b))) :
    Calls Tryd.prog 17 #[.slice A a.length c, .slice B b.length d] w fun e w' => e = .returned (.bool R) ∧ Below w.heap.size w w' := by
  have laI : (a.length : Int) ≤ 140737488351232 := by omega
  have lbI : (b.length : Int) ≤ 140737488351232 := by omega
  by_cases hl : a.length = b.length
  · have hlb : ((a.length : Int) != (b.length : Int)) = false := by rw [hl]; simp
    have Hl := Lib.hid hl
    clear hl
    go_enter Tryd.func17, Tryd.ntmps17
    go_wp2
    go_loopw [13] (fun i wr => ∃ (j : Nat), j ≤ a.length ∧ i = .int .i64 (j : Int) ∧ Hid (a.take j = b.take j) ∧ (∀ p, wr.cell? p = w.cell? p) ∧ Below w.heap.size w wr) (fun i _ => a.length - (intOf i).toNat)
    case atStart => exact ⟨0, Nat.zero_le _, rfl, rfl, fun _ => rfl, Below.refl _ _⟩
    case round =>
      obtain ⟨j, hj, rfl, hd, hw, hB⟩ := hrel
      by_cases hlt : j < a.length
      · have hjb : j < b.length := by have := Hl.out; omega
        obtain ⟨g, o, rfl, hc⟩ := ha3 (by simp; omega)
        obtain ⟨g', o', rfl, hc'⟩ := hb3 (by simp; omega)
        have k1 := (hw _).trans (hc j (.int .u32 ((a[j] : Nat) : Int)) (by rw [uv_get, List.getElem?_eq_getElem hlt]; rfl))
        have k2 := (hw _).trans (hc' j (.int .u32 ((b[j] : Nat) : Int)) (by rw [uv_get, List.getElem?_eq_getElem hjb]; rfl))
        have hjaI : (j : Int) < a.length := by omega
        have hjbI : (j : Int) < b.length := by omega
        have HW := Lib.hid hw
        have h1 := ha _ (List.getElem_mem hlt)
        have h2 := hb _ (List.getElem_mem hjb)
        have HD : Hid (a[j] = b[j] → a.take (j + 1) = b.take (j + 1)) := fun h => by rw [take_snoc a j hlt, take_snoc b j hjb, h, hd.out]
        have HF : Hid (a[j] ≠ b[j] → R = false) := fun h => by rw [hR.out]; simp; rintro rfl; exact h rfl
        clear ha3 hb3 hc hc' hw ha hb
        generalize a[j] = x at *
        generalize b[j] = y at *
        by_cases hxy : x = y
        · subst hxy
          go_wp2
          go_quiet (fail)
          go_wp2
          go_roundw
          case rel => exact ⟨j + 1, by omega, by simp, HD.out trivial, fun p => by simpa using HW.out p, by first | exact below_drewN hB _ | exact hB⟩
          case measure => simp [intOf]; omega
        · have hne : ((x : Int) != (y : Int)) = true := by simp; omega
          obtain rfl := HF.out hxy
          go_wp2
          go_quiet (fail)
          go_wp2
          go_ret
          exact ⟨rfl, by repeat' (first | (with_reducible exact hB) | (with_reducible refine below_drewN ?_ _) | (with_reducible refine Below.drew ?_))⟩
      · obtain rfl : j = a.length := by omega
        have e : R = true := by
          have h1 := hd.out
          rw [List.take_length] at h1
          rw [Hl.out, List.take_length] at h1
          rw [hR.out, h1]; simp
        subst e
        clear ha3 hb3 hw
        go_wp2
        go_ret
        exact ⟨rfl, hB⟩
  · have hlb : ((a.length : Int) != (b.length : Int)) = true := by simp; omega
    have e : R = false := by rw [hR.out]; simp; rintro rfl; exact hl rfl
    subst e
    clear ha3 hb3 ha hb
    go_enter Tryd.func17, Tryd.ntmps17
    go_wp2
    go_ret
    exact ⟨rfl, Below.refl _ _⟩
theorem same_any (va vb : Value) (a b : List Nat) (w : World) (ha : Sl w va (uv a)) (hb : Sl w vb (uv b)) (h1 : ∀ x ∈ a, x < 4294967296) (h2 : ∀ x ∈ b, x < 4294967296) (la : a.length ≤ 140737488351232) (lb : b.length ≤ 140737488351232) :
    Calls Tryd.prog 17 #[va, vb] w fun e w' => e = .returned (.bool (decide (a = b))) ∧ Below w.heap.size w w' := by
  obtain ⟨A, c, rfl, a1, a2, a3⟩ := ha
  obtain ⟨B, d, rfl, b1, b2, b3⟩ := hb
  rw [uv_length, uv_length]
  exact same_core A B c d a b w a3 b3 h1 h2 la lb _ rfl
end Go.Proofs.YtnkkcfhjgnfchaaDoor
