/- Contracts of the reference's long numbers: of, times, power, more. -/
import Derived.Test.YtlifpmglaoppoaaNumR
import Derived.Test.YtlifpmglaoppoaaApp
import Derived.Test.YtlifpmglaoppoaaLgP
set_option linter.unusedVariables false
set_option linter.unusedSimpArgs false
namespace Go.Proofs.Ytlifpmglaoppoaa
open Go.RowKit
open Go.Proofs.PlainLong (V Norm Inv Car)

theorem Try.info_int : (Try.prog.info? 3).map (fun i => (i.zero, i.size, i.bytes)) = some (some (.int .i64 0), 1, 8) := by kernel_rfl

/-- Numbers as values. -/
def iv (l : List Nat) : List Value := l.map fun (b : Nat) => Value.int .i64 (b : Int)
@[simp] theorem iv_length (l : List Nat) : (iv l).length = l.length := by simp [iv]
theorem iv_get (l : List Nat) (i : Nat) : (iv l)[i]? = (l[i]?).map fun (b : Nat) => Value.int .i64 (b : Int) := by simp [iv]
theorem iv_oneCell (l : List Nat) : ∀ y ∈ iv l, y.oneCell' = true := by
  intro y hy
  simp only [iv, List.mem_map] at hy
  obtain ⟨b, _, rfl⟩ := hy
  rfl
theorem iv_set (l : List Nat) (j x : Nat) : (iv l).set j (.int .i64 (x : Int)) = iv (l.set j x) := by simp [iv, List.map_set]

/-- What a function that makes a long number answers. -/
def RetD (v m : Nat) (w : World) (e : Ending) (w' : World) : Prop := ∃ u l, e = .returned u ∧ Sl w' u (iv l) ∧ Norm l ∧ V l = v ∧ l.length ≤ m ∧ Below w.heap.size w w'

/-- What 'of' has gathered: L; what is left: z. -/
def OfI (x : Nat) (L : List Nat) (z : Nat) : Prop := V L + 10000 ^ L.length * z = x ∧ (∀ d ∈ L, d < 10000) ∧ (z = 0 → ∀ (k : Nat), L.length = k + 1 → L[k]? ≠ some 0) ∧ L.length ≤ 5

theorem ofI_step {x : Nat} {L : List Nat} {z : Nat} (h : OfI x L z) (hx : x < 18446744073709551616) (hz : 0 < z) : L.length ≤ 4 ∧ OfI x (L ++ [z % 10000]) (z / 10000) := by
  obtain ⟨h1, h2, h3, h4⟩ := h
  have hl : L.length ≤ 4 := by
    rcases Nat.lt_or_ge 4 L.length with h | h
    · have e : L.length = 5 := by omega
      rw [e] at h1
      omega
    · exact h
  refine ⟨hl, ?_, ?_, ?_, by simp; omega⟩
  · rw [PlainLong.V_append, List.length_append, List.length_singleton, Nat.pow_succ]
    simp only [V]
    rw [Nat.mul_assoc, Nat.add_assoc, ← Nat.mul_add, ← h1]
    congr 2
    omega
  · intro d hd
    rcases List.mem_append.1 hd with h | h
    · exact h2 d h
    · simp at h; omega
  · intro hz0 k hk
    have e : k = L.length := by simp at hk; omega
    subst e
    simp
    omega

set_option maxRecDepth 100000 in
set_option maxHeartbeats 1000000 in
theorem of_any' (x : Nat) (w : World) (hx : x < 18446744073709551616) : Calls Try.prog 95 #[.int .u64 (x : Int)] w (RetD x 5 w) := by
  obtain ⟨i0, hi, hz0, hz1, hz2⟩ := info_parts Try.info_int
  go_enter Try.func95, Try.ntmps95
  go_wp2
  go_loopw [0, 3] (fun y v wr => ∃ (L : List Nat) (z : Nat), y = .int .u64 (z : Int) ∧ z ≤ 18446744073709551615 ∧ OfI x L z ∧ wr.ownsRow w.heap.size 3 1 v L.length (iv L) ∧ Below w.heap.size w wr) (fun y _ _ => (intOf y).toNat)
  case atStart => exact ⟨[], x, rfl, by omega, by simp [OfI, V], World.ownsRow_nil _ _ _ _, Below.refl _ _⟩
  case round =>
    obtain ⟨L, z, rfl, hzl, hI, hown, hB⟩ := hrel
    by_cases hz : (0 : Int) < z
    · obtain ⟨hl4, hI'⟩ := ofI_step hI hx (by omega)
      have hzI : (z : Int) ≤ 18446744073709551615 := by omega
      have own1 := hown.alloc (.cells #[.int .i64 ((z : Int) % 10000)] 3)
      have sl1 : Sl (wr.alloc (.cells #[.int .i64 ((z : Int) % 10000)] 3)) (.slice (some ⟨wr.heap.size, 0, none⟩) 1 1) (iv [z % 10000]) := by
        have := Sl.of_blk (n := 1) (c := 1) (Blk.new wr 3 #[.int .i64 ((z : Int) % 10000)]) (Nat.le_refl _) (by simp) (by unfold maxLen; omega)
        simpa [iv] using this
      have bel1 : Below w.heap.size w (wr.alloc (.cells #[.int .i64 ((z : Int) % 10000)] 3)) := hB.alloc hB.size _
      go_wp2_with (at_builtin; refine wpList_append_sl rfl (.tmp 6) (.tmp 10) 154 rfl w.heap.size 3 i0 (.int .i64 0) 8 Try.underlying154 hi hz0 hz1 hz2 rfl _ L.length (iv L) rfl own1 _ (iv [z % 10000]) rfl sl1 (iv_oneCell _) ?_ ?_ ?_ ?_)
      · simp [maxLen]; omega
      · simp; omega
      · exact bel1.size
      intro v' w1 own2 gr1
      have bel2 := own_below bel1 gr1 own1 bel1.size
      clear own1 sl1 gr1 hown
      go_wp2
      go_roundw
      case rel =>
        refine ⟨L ++ [z % 10000], z / 10000, by simp, by omega, hI', ?_, bel2⟩
        simpa [iv] using own2
      case measure => simp [intOf]; omega
    · obtain rfl : z = 0 := by omega
      have hs := Sl.of_own hown
      obtain ⟨h1, h2, h3, h4⟩ := hI
      have hN : Norm L := ⟨h2, h3 rfl⟩
      have hV : V L = x := by omega
      have HV := Lib.hid hV
      clear h1 h2 h3 hV hown
      go_wp2
      go_ret
      exact ⟨_, L, rfl, hs, hN, HV.out, h4, hB⟩

theorem ret_dec {p : Prop} [Decidable p] {b : Bool} (h : b = true ↔ p) : Ending.returned (.bool b) = .returned (.bool (decide p)) := by
  congr 2; rw [Bool.eq_iff_iff]; simpa using h

set_option maxRecDepth 100000 in
set_option maxHeartbeats 1000000 in
theorem more_core (A B : Option Addr) (c d : Nat) (a b : List Nat) (w : World) 
    (ha3 : 0 < (iv a).length → ∃ g o, A = some ⟨g, o, none⟩ ∧ ∀ i u, (iv a)[i]? = some u → w.cell? ⟨g, o + i, none⟩ = some u)
    (hb3 : 0 < (iv b).length → ∃ g o, B = some ⟨g, o, none⟩ ∧ ∀ i u, (iv b)[i]? = some u → w.cell? ⟨g, o + i, none⟩ = some u)
    (na : Norm a) (nb : Norm b) (la : a.length ≤ 1000) (lb : b.length ≤ 1000) :
    Calls Try.prog 97 #[.slice A a.length c, .slice B b.length d] w fun e w' => e = .returned (.bool (decide (V b < V a))) ∧ Below w.heap.size w w' := by
  have laI : (a.length : Int) ≤ 1000 := by omega
  have lbI : (b.length : Int) ≤ 1000 := by omega
  by_cases hl : a.length = b.length
  · have hlb : ((a.length : Int) != (b.length : Int)) = false := by rw [hl]; simp
    have fin1 : a = b → Ending.returned (.bool false) = .returned (.bool (decide (V b < V a))) := fun h => ret_dec (by subst h; simp)
    have fin2 : ∀ m (h1 : m < a.length) (h2 : m < b.length), a.drop (m + 1) = b.drop (m + 1) → a[m] ≠ b[m] → Ending.returned (.bool (decide (b[m] < a[m]))) = .returned (.bool (decide (V b < V a))) := by
      intro m h1 h2 hd hne
      refine ret_dec ?_
      simp only [decide_eq_true_eq]
      rcases Nat.lt_or_ge a[m] b[m] with h | h
      · have := PlainLong.V_lt_of_place na.1 hl h1 hd h
        omega
      · have := PlainLong.V_lt_of_place nb.1 hl.symm h2 hd.symm (show b[m] < a[m] by omega)
        omega
    generalize decide (V b < V a) = res at *
    have Fin1 := Lib.hid fin1
    have Fin2 := Lib.hid fin2
    have Hl := Lib.hid hl
    clear fin1 fin2 hl na nb
    go_enter Try.func97, Try.ntmps97
    go_wp2
    go_loopw [5] (fun i wr => ∃ (j : Nat), j ≤ a.length ∧ i = .int .i64 ((j : Int) - 1) ∧ Hid (a.drop j = b.drop j) ∧ (∀ p, wr.cell? p = w.cell? p) ∧ Below w.heap.size w wr) (fun i _ => (intOf i + 1).toNat)
    case atStart => exact ⟨a.length, Nat.le_refl _, rfl, by show _ = _; rw [List.drop_length, Hl.out, List.drop_length], fun _ => rfl, Below.refl _ _⟩
    case round =>
      obtain ⟨j, hj, rfl, hd, hw, hB⟩ := hrel
      by_cases h0 : j = 0
      · subst h0
        have e := hd.out
        simp only [List.drop_zero] at e
        have E := Lib.hid e
        clear ha3 hb3 hw e
        go_wp2
        go_ret
        exact ⟨Fin1.out E.out, hB⟩
      · obtain ⟨m, rfl⟩ : ∃ m, j = m + 1 := ⟨j - 1, by omega⟩
        have hma : m < a.length := by omega
        have hmb : m < b.length := by have := Hl.out; omega
        obtain ⟨g, o, rfl, hc⟩ := ha3 (by simp; omega)
        obtain ⟨g', o', rfl, hc'⟩ := hb3 (by simp; omega)
        have k1 := (hw _).trans (hc m (.int .i64 ((a[m] : Nat) : Int)) (by rw [iv_get, List.getElem?_eq_getElem hma]; rfl))
        have k2 := (hw _).trans (hc' m (.int .i64 ((b[m] : Nat) : Int)) (by rw [iv_get, List.getElem?_eq_getElem hmb]; rfl))
        have hmaI : (m : Int) < a.length := by omega
        have hmbI : (m : Int) < b.length := by omega
        have HW := Lib.hid hw
        have F2 := Lib.hid (Fin2.out m hma hmb hd.out)
        have HD : Hid (a[m] = b[m] → a.drop m = b.drop m) := fun h => by rw [List.drop_eq_getElem_cons hma, List.drop_eq_getElem_cons hmb, h, hd.out]
        clear ha3 hb3 hc hc' hw
        generalize a[m] = x at *
        generalize b[m] = y at *
        by_cases hxy : x = y
        · subst hxy
          go_wp2
          go_quiet (fail)
          go_wp2
          go_roundw
          case rel => exact ⟨m, by omega, by simp, HD.out trivial, fun p => by simpa using HW.out p, by first | exact below_drewN hB _ | exact hB⟩
          case measure => simp [intOf]
        · have hne : ((x : Int) != (y : Int)) = true := by simp; omega
          go_wp2
          go_quiet (fail)
          go_wp2
          go_quiet (fail)
          go_wp2
          go_ret
          exact ⟨F2.out hxy, by repeat' (first | (with_reducible exact hB) | (with_reducible refine below_drewN ?_ _) | (with_reducible refine Below.drew ?_))⟩
  · have hlb : ((a.length : Int) != (b.length : Int)) = true := by simp; omega
    have fin : Ending.returned (.bool (decide (b.length < a.length))) = .returned (.bool (decide (V b < V a))) := by
      refine ret_dec ?_
      simp only [decide_eq_true_eq]
      rcases Nat.lt_or_ge a.length b.length with h | h
      · have := PlainLong.V_lt_of_len na nb h; omega
      · have := PlainLong.V_lt_of_len nb na (by omega); omega
    generalize decide (V b < V a) = res at *
    have Fin := Lib.hid fin
    clear ha3 hb3 na nb fin
    go_enter Try.func97, Try.ntmps97
    go_wp2
    go_ret
    exact ⟨Fin.out, Below.refl _ _⟩

theorem more_any (va vb : Value) (a b : List Nat) (w : World) (ha : Sl w va (iv a)) (hb : Sl w vb (iv b)) (na : Norm a) (nb : Norm b) (la : a.length ≤ 1000) (lb : b.length ≤ 1000) :
    Calls Try.prog 97 #[va, vb] w fun e w' => e = .returned (.bool (decide (V b < V a))) ∧ Below w.heap.size w w' := by
  obtain ⟨A, c, rfl, a1, a2, a3⟩ := ha
  obtain ⟨B, d, rfl, b1, b2, b3⟩ := hb
  rw [iv_length, iv_length]
  exact more_core A B c d a b w a3 b3 na nb la lb
end Go.Proofs.Ytlifpmglaoppoaa
