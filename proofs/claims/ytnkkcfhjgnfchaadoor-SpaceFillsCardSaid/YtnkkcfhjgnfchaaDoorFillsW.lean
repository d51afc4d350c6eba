/- The law SpaceFills: the walk. -/
import Derived.Test.YtnkkcfhjgnfchaaDoorSetsW
import Derived.Test.YtnkkcfhjgnfchaaDoorLaidS
import Derived.Maps.RangeWalk
set_option linter.unusedVariables false
set_option linter.unusedSimpArgs false
namespace Go.Proofs.YtnkkcfhjgnfchaaDoor
open Go.RowKit Go.Maps
open Go.Proofs.PlainSpace (has upto taken cnt Ok isA TakeP has_lt has_ge has_set has_set_ne has_set_eq upto_succ cnt_set cnt_unset has_new cnt_new)

theorem ranges_keeps {G : List Nat} {w w' : World} {b r n : Nat} {D : DataW Unit} {left : Lit → Bool} {cnt : Nat} (h : w.ranges Tryd.prog 29 (plainElem Tryd.prog 4) b r n D left cnt) (hk : Keeps G w w') (hb : b ∉ G) (hr : r ∉ G) :
    w'.ranges Tryd.prog 29 (plainElem Tryd.prog 4) b r n D left cnt := by
  have h1 := h.owns.lt
  have h2 := h.lt
  obtain ⟨es, clock, since, seen, c0, e1, F, hs, hD, e2, rest⟩ := h
  exact ⟨es, clock, since, seen, c0, (hk.block b h1 hb).trans e1, F, hs, hD, (hk.block r h2 hr).trans e2, rest⟩

theorem wpList_next_ub (w : World) {ops : Array Oper} {rest : List Oper} {o : Oper} {a : Act} {Q : Exit → Act → World → Prop} (hg : o.guard = none) (it : Operand) (hop : o.op = Op.next it false)
    (b r n : Nat) (D : DataW Unit) (left : Lit → Bool) (cnt : Nat) (hit : a.eval it = .pointer (some ⟨r, 0, none⟩)) (h : w.ranges Tryd.prog 29 (plainElem Tryd.prog 4) b r n D left cnt)
    (hDone : (∀ kl, left kl = false) → wpList Tryd.prog ops Q rest (a.put o.dst (.tuple #[.bool false])) w)
    (hMore : ∀ (x : Nat) (c : Value) (w' : World) (cnt' : Nat), x < 4294967296 → left (ky x) = true → w'.ranges Tryd.prog 29 (plainElem Tryd.prog 4) b r n D (fun z => left z && !z.sameKey (ky x)) cnt' → cnt' < cnt →
      Keeps [r] w w' → wpList Tryd.prog ops Q rest (a.put o.dst (.tuple #[.bool true, .int .u32 (x : Int), c])) w') :
    wpList Tryd.prog ops Q (o :: rest) a w :=
  wpList_next_ranges w hg it hop 29 lawU (plainElem Tryd.prog 4) (Value.int .u32) (fun (v : Value) => v) (fun key kl hkey => by obtain ⟨x, rfl, _⟩ := Maps.keyOf_int_inv Tryd.underlying29 hkey; exact ⟨x, rfl⟩)
    (fun v y hv => ⟨v, rfl⟩)
    b r n D left cnt hit h (fun _ hl => hDone hl) (fun x c kl y w' cnt' hkey hlk hv hat hrg hlt hgr hsz hen => by
      obtain ⟨x', ex, rfl, hwx⟩ := Maps.keyOf_int_inv Tryd.underlying29 hkey
      cases ex
      have hb : 0 ≤ x ∧ x ≤ 4294967295 := by
        have := hwx
        simp [Lit.wf, IntKind.min, IntKind.max, IntKind.signed, IntKind.bits] at this
        omega
      obtain ⟨m, rfl⟩ := Int.eq_ofNat_of_zero_le hb.1
      exact hMore m c w' cnt' (by omega) hlk hrg hlt (by have := Keeps.of_grown hgr; simpa using this))

/-- What is left of the keys, as a space. -/
def Left (n : Nat) (left : Lit → Bool) (L : List Bool) : Prop := L.length = n ∧ ∀ x, x < 4294967296 → left (ky x) = has L x
theorem Left.step {n : Nat} {left : Lit → Bool} {L : List Bool} (h : Left n left L) {x : Nat} (hx : x < 4294967296) (hl : left (ky x) = true) : x < n ∧ Left n (fun z => left z && !z.sameKey (ky x)) (L.set x false) ∧ cnt L = cnt (L.set x false) + 1 := by
  have hL : has L x = true := by rw [← h.2 x hx]; exact hl
  have hlt := has_lt hL
  refine ⟨by rw [← h.1]; exact hlt, ⟨by simpa using h.1, fun y hy => ?_⟩, cnt_unset L x hlt hL⟩
  show (left (ky y) && !(ky y).sameKey (ky x)) = _
  rw [has_set L x false hlt, h.2 y hy]
  by_cases e : x = y
  · subst e; rw [WideAt.sameKey_self (ky_is hx)]; simp
  · rw [if_neg e, sameKey_ne (ky_ne (fun h => e h.symm))]; simp
/-- The free ones of S, as a space. -/
def freeL (S : List Bool) : List Bool := (List.range S.length).map fun x => decide (2 ≤ x) && !has S x
theorem freeL_has (S : List Bool) (x : Nat) : has (freeL S) x = (decide (isA S x) && !has S x) := by
  unfold PlainSpace.has freeL
  rw [List.getD_eq_getElem?_getD, List.getElem?_map]
  rcases Nat.lt_or_ge x S.length with h | h
  · rw [List.getElem?_range h]
    have : isA S x ↔ 2 ≤ x := ⟨fun hh => hh.1, fun hh => ⟨hh, h⟩⟩
    simp [this, PlainSpace.has]
  · rw [List.getElem?_eq_none (by simpa using h)]
    have : ¬ isA S x := fun hh => by have := hh.2; omega
    simp [this]
theorem freeL_upto {S : List Bool} (ho : Ok S) : ∀ k, k ≤ S.length → (upto (freeL S) k).length + (upto S k).length = k - 2
  | 0, _ => rfl
  | k + 1, hk => by
    have ih := freeL_upto ho k (by omega)
    rw [upto_succ, upto_succ, List.length_append, List.length_append, freeL_has]
    rcases Nat.lt_or_ge k 2 with h2 | h2
    · have e : has S k = false := by
        rcases (show k = 0 ∨ k = 1 by omega) with rfl | rfl
        · exact ho.2.2.1
        · exact ho.2.2.2
      have : ¬ isA S k := fun hh => by have := hh.1; omega
      rw [e]; simp [this]; omega
    · have : isA S k := ⟨h2, by omega⟩
      cases e : has S k <;> simp [this] <;> omega
theorem freeL_cnt {S : List Bool} (ho : Ok S) : cnt (freeL S) + cnt S = S.length - 2 := by
  have := freeL_upto ho S.length (Nat.le_refl _)
  have e : (freeL S).length = S.length := by simp [freeL]
  unfold cnt taken
  rw [e]; exact this

theorem isA_len {S T : List Bool} (h : S.length = T.length) (x : Nat) : isA S x ↔ isA T x := ⟨fun hh => ⟨hh.1, h ▸ hh.2⟩, fun hh => ⟨hh.1, h ▸ hh.2⟩⟩
theorem fill_step {T : List Bool} {f : Nat → Bool} {a : Nat} (h : ∀ x, f x = (decide (isA T x) && !has T x)) (hA : isA T a) : ∀ x, (fun x => f x || x == a) x = (decide (isA (freeS T a) x) && !has (freeS T a) x) := by
  intro x
  show (f x || x == a) = _
  have hlen : (freeS T a).length = T.length := by unfold freeS; split <;> simp
  rw [h x]
  have e1 : decide (isA (freeS T a) x) = decide (isA T x) := decide_eq_decide.2 (isA_len hlen x)
  rw [e1]
  have e2 : has (freeS T a) x = (has T x && !(x == a)) := by
    unfold freeS
    split
    · rw [has_set T a false hA.2]
      by_cases e : a = x
      · subst e; simp
      · have : ¬ x = a := fun h => e h.symm
        simp [e, this]
    · rename_i hh
      by_cases e : x = a
      · subst e
        cases hb : has T x with
        | false => simp
        | true => exact absurd ⟨hA, hb⟩ hh
      · simp [e]
  rw [e2]
  by_cases e : x = a
  · subst e; simp [hA]
  · have e3 : (x == a) = false := by simpa using e
    rw [e3]; simp
theorem cnt_none {L : List Bool} (h : ∀ x, x < 4294967296 → has L x = false) (hl : L.length < 4294967296) : cnt L = 0 := by
  unfold cnt taken upto
  rw [List.length_eq_zero_iff, List.filter_eq_nil_iff]
  intro x hx
  rw [h x (by simp at hx; omega)]
  simp
theorem full_of_cnt {S : List Bool} (ho : Ok S) (hc : cnt S + 2 = S.length) : ∀ b, 2 ≤ b → b < S.length → has S b = true := by
  intro b h1 h2
  cases e : has S b with
  | true => rfl
  | false =>
    have h3 := cnt_set S b h2 e
    have h4 := cnt_le2 (ho.set ⟨h1, h2⟩ true)
    rw [List.length_set] at h4
    omega

namespace w_SpaceFills
set_option maxRecDepth 100000 in
set_option maxHeartbeats 4000000 in
theorem core (W : World) (hT : Tab W) (sz : Nat) (hsz : sz ≤ 65535) (A : Option Addr) (c : Nat) (l : List Nat)
    (h3 : 0 < (sv l).length → ∃ b o, A = some ⟨b, o, none⟩ ∧ ∀ i u, (sv l)[i]? = some u → W.cell? ⟨b, o + i, none⟩ = some u)
    (hl : ∀ x ∈ l, x < 65536) (hlen : l.length ≤ 140737488351232) :
    Calls Tryd.prog 3 #[.int .u16 (sz : Int), .slice A l.length c] W fun e w' => e = .returned (.bool true) ∧ Below W.heap.size W w' := by
  have hlI : (l.length : Int) ≤ 140737488351232 := by omega
  have hszI : (sz : Int) ≤ 65535 := by omega
  obtain ⟨n, hn⟩ : ∃ n, n = 16 + sz % 300 := ⟨_, rfl⟩
  have hnI : (16 : Int) + (sz : Int) % 300 = (n : Int) := by omega
  have hn0 : (16 : Int) ≤ n := by omega
  have hn1 : (n : Int) ≤ 315 := by omega
  clear hn
  have hmm := @run_makeMap Tryd.prog
  have halive := Lib.hid (alive_any W hT)
  have hnew := Lib.hid (fun w => new_ok n w (by omega) (by omega))
  have htake := Lib.hid (fun (g h : Nat) (T : List Bool) w (h1 : Spc w g h T) (h2 : Tab w) => take_any g h T w h1 h2)
  have hfree := Lib.hid (fun (g h : Nat) (T : List Bool) (x : Nat) w (h1 : Spc w g h T) (h2 : x < 4294967296) => free_any g h T x w h1 h2)
  have hleft := Lib.hid (fun (g h : Nat) (T : List Bool) w (h1 : Spc w g h T) => left_any g h T w h1)
  have HT := Lib.hid hT
  have Hl := Lib.hid hl
  clear hT hl
  go_enter Tryd.func3, Tryd.ntmps3
  go_wp2_with fail
  refine halive.out.mono ?_
  rintro e w0 ⟨rfl, hB0⟩
  have hT0 := HT.out.keep hB0
  go_wp2_with fail
  refine (hnew.out w0).mono ?_
  rintro e w1 ⟨g, hz, rfl, hg, hh, hS1, hB1⟩
  have hT1 := hT0.keep hB1
  have hg' : W.heap.size ≤ g := Nat.le_trans hB0.size hg
  have hh' : W.heap.size ≤ hz := Nat.le_trans hB0.size hh
  have hG : ∀ b ∈ [g, hz], W.heap.size ≤ b := by simp [hg', hh']
  have hBW1 := below_call hB0 hB0.size hB1
  by_cases h300 : (300 : Int) < l.length
  · clear h3
    go_wp2
    go_ret
    exact ⟨rfl, hBW1⟩
  · go_wp2
    go_loopw [8] (fun i wr => ∃ (k : Nat) (S : List Bool), 2 ≤ k ∧ k ≤ n ∧ i = .int .i64 (k : Int) ∧ S.length = n ∧ cnt S + 2 = k ∧ Hid (∀ b, has S b = (decide (2 ≤ b) && decide (b < k))) ∧ Spc wr g hz S ∧ Tab wr ∧ Below W.heap.size W wr) (fun i _ => n - (intOf i).toNat)
    case atStart =>
      refine ⟨2, _, Nat.le_refl _, by omega, rfl, by simp, by rw [cnt_new], fun b => ?_, hS1, hT1, hBW1⟩
      rw [has_new]
      by_cases h : 2 ≤ b
      · have : ¬ b < 2 := by omega
        simp [this]
      · simp [h]
    case round =>
      obtain ⟨k, S, hk2, hkn, rfl, hSl, hSc, hSh, hS, hTr, hB⟩ := hrel
      by_cases hlt : (k : Int) < n
      · have hP : TakeP S k 0 (S.set k true) := TakeP.some k ⟨hk2, by omega⟩ (by rw [hSh.out k]; simp) (fun b h1 h2 => by rw [hSh.out b]; simp [h1, h2])
        have ht := Lib.hid (take_at hS hTr hP)
        have hcU := cnt_set S k (by omega) (by rw [hSh.out k]; simp)
        have hUl : (S.set k true).length = n := by simpa using hSl
        have hUh : Hid (∀ b, has (S.set k true) b = (decide (2 ≤ b) && decide (b < k + 1))) := fun b => by
          rw [has_set S k true (by omega), hSh.out b]
          by_cases e : k = b
          · subst e; simp [hk2]
          · rw [if_neg e]
            have : b < k ↔ b < k + 1 := by omega
            simp [this]
        have hUc : cnt (S.set k true) + 2 = k + 1 := by omega
        have hle := Lib.hid (fun w hs => hleft.out g hz (S.set k true) w hs)
        rw [hUl, show (n : Int) - 2 - ((cnt (S.set k true) : Nat) : Int) = n - 1 - k from by omega] at hle
        have hkI : (k : Int) ≤ 315 := by omega
        clear hP hcU hSh hSl hSc
        generalize S.set k true = U at *
        have HUl := Lib.hid hUl
        have HUc := Lib.hid hUc
        clear hUl hUc
        go_wp2_with fail
        refine ht.out.mono ?_
        rintro e w2 ⟨rfl, hS2, hK2⟩
        have hT2 := hTr.keepsS hS hK2
        have hB2 := hB.trans (hK2.below hB.size hG)
        go_wp2_with fail
        refine (hle.out w2 hS2).mono ?_
        rintro e w3 ⟨rfl, hB3⟩
        have hS3 := hS2.keep hB3
        have hT3 := hT2.keep hB3
        have hBW3 := below_call hB2 hB2.size hB3
        go_wp2
        go_roundw
        case rel => exact ⟨k + 1, U, by omega, by omega, by simp, HUl.out, HUc.out, hUh, hS3, hT3, hBW3⟩
        case measure => simp [intOf]; omega
      · obtain rfl : k = n := by omega
        have hP : TakeP S 0 6 S := TakeP.none (fun b h1 h2 => by rw [hSh.out b]; simp [h1]; omega)
        have ht := Lib.hid (take_at hS hTr hP)
        have hSl' := Lib.hid hSl
        have hSfull : Hid (∀ x, (decide (isA S x) && !has S x) = false) := fun x => by
          rw [hSh.out x]
          by_cases h1 : 2 ≤ x
          · by_cases h2 : x < k
            · simp [h1, h2]
            · have : ¬ isA S x := fun hh => by have := hh.2; omega
              simp [this]
          · have : ¬ isA S x := fun hh => h1 hh.1
            simp [this]
        clear hP hSl hSc hSh
        go_wp2_with fail
        refine ht.out.mono ?_
        rintro e w2 ⟨rfl, hS2, hK2⟩
        have hT2 := hTr.keepsS hS hK2
        have hB2 := hB.trans (hK2.below hB.size hG)
        have hgb := Lib.hid hS2.bound
        clear hS hTr ht
        have hz2 := hB2.size
        go_wp2
        go_loopw [80] (fun i wr => ∃ (j : Nat) (T : List Bool) (f : Nat → Bool) (cc : Nat), j ≤ l.length ∧ i = .int .i64 (j : Int) ∧ T.length = k ∧ Hid (∀ x, f x = (decide (isA T x) && !has T x)) ∧ Spc wr g hz T ∧ Tab wr ∧ Im wr w2.heap.size f cc j ∧ Below W.heap.size W wr) (fun i _ => l.length - (intOf i).toNat)
        case atStart =>
          have hKm : Keeps [] w2 (w2.alloc (.map #[] 0)) := (Keeps.refl _ _).alloc _
          exact ⟨0, S, fun _ => false, 0, Nat.zero_le _, rfl, hSl'.out, fun x => (hSfull.out x).symm, hS2.keeps hKm (by simp) (by simp), hT2.keeps hKm (by simp), Im.made w2, hB2.alloc hz2 _⟩
        case round =>
          obtain ⟨j, T, f, cc, hj, rfl, hTl, hf, hS3, hT3, hIm, hB3⟩ := hrel
          by_cases hjl : j < l.length
          · obtain ⟨b, o, rfl, hc⟩ := h3 (by simp; omega)
            have hc' := hc j (.int .u16 ((l[j] : Nat) : Int)) (by rw [sv_get, List.getElem?_eq_getElem hjl]; rfl)
            rw [← (bcell hB3).1 _ (o + j) (cell_lt hc')] at hc'
            have hx := Hl.out l[j] (List.getElem_mem hjl)
            clear hc h3
            generalize l[j] = x at *
            have hxI : (x : Int) ≤ 65535 := by omega
            obtain ⟨a, ha⟩ : ∃ a, a = 2 + x % (k - 2) := ⟨_, rfl⟩
            have hmod := Nat.mod_lt x (show 0 < k - 2 by omega)
            have haI : (2 : Int) + (x : Int) % ((k : Int) - 2) = (a : Int) := by
              rw [ha, show (k : Int) - 2 = ((k - 2 : Nat) : Int) from by omega]; simp
            have hA : isA T a := ⟨by omega, by omega⟩
            have hal : a < 4294967296 := by omega
            have haU : (a : Int) ≤ 4294967295 := by omega
            have ha0 : (0 : Int) ≤ a := by omega
            have hF := Lib.hid (hfree.out g hz T a wr hS3 hal)
            rw [freeE, if_pos hA] at hF
            have hstep : Hid (∀ x, (fun x => f x || x == a) x = (decide (isA (freeS T a) x) && !has (freeS T a) x)) := fill_step hf.out hA
            have hfl : Hid ((freeS T a).length = k) := by unfold freeS; show List.length _ = _; split <;> simpa using hTl
            have hfa : f a = !has T a := by rw [hf.out a]; simp [hA]
            have hgo := hgb.out
            have hx0 : (0 : Int) < (k : Int) - 2 := by omega
            clear ha hmod hA hx hf
            generalize freeS T a = T' at *
            have hne : w2.heap.size ∉ [g, hz] := by simp; omega
            cases hb : has T a
            · rw [hb] at hF hfa
              clear hb
              go_wp2_with fail
              refine hF.out.mono ?_
              rintro e w4 ⟨rfl, hS4, hK4⟩
              have hT4 := hT3.keepsS hS3 hK4
              have hB4 := hB3.trans (hK4.below hB3.size hG)
              have hI4 := hIm.keeps hK4 hne
              have hlk := hI4.look hal
              rw [hfa] at hlk
              obtain ⟨w5, hrun, hI5, hK5⟩ := hI4.put (by omega) hal
              have hS5 := hS4.keeps hK5 (by simp; omega) (by simp; omega)
              have hT5 := hT4.keeps hK5 (by simp; have := cell_lt (hT0 0 (by decide)); have := hB1.size; have := hB0.size; omega)
              have hB5 := hB4.trans (hK5.below hB4.size (by simp; omega))
              clear hfa hal
              go_wp2
              go_roundw
              case rel => exact ⟨j + 1, T', _, _, by omega, by simp, hfl.out, hstep, hS5, hT5, hI5, hB5⟩
              case measure => simp [intOf]; omega
            · rw [hb] at hF hfa
              clear hb
              go_wp2_with fail
              refine hF.out.mono ?_
              rintro e w4 ⟨rfl, hS4, hK4⟩
              have hT4 := hT3.keepsS hS3 hK4
              have hB4 := hB3.trans (hK4.below hB3.size hG)
              have hI4 := hIm.keeps hK4 hne
              have hlk := hI4.look hal
              rw [hfa] at hlk
              obtain ⟨w5, hrun, hI5, hK5⟩ := hI4.put (by omega) hal
              have hS5 := hS4.keeps hK5 (by simp; omega) (by simp; omega)
              have hT5 := hT4.keeps hK5 (by simp; have := cell_lt (hT0 0 (by decide)); have := hB1.size; have := hB0.size; omega)
              have hB5 := hB4.trans (hK5.below hB4.size (by simp; omega))
              clear hfa hal
              go_wp2
              go_roundw
              case rel => exact ⟨j + 1, T', _, _, by omega, by simp, hfl.out, hstep, hS5, hT5, hI5, hB5⟩
              case measure => simp [intOf]; omega
          · obtain rfl : j = l.length := by omega
            clear h3
            obtain ⟨D, hown, hI⟩ := hIm
            have hfc := freeL_cnt hS3.ok
            have hL0 : Hid (Left k (Maps.has D) (freeL T)) := ⟨by simp [freeL]; exact hTl, fun x hx => by rw [freeL_has, ← hf.out x]; exact hI.2.2.1 x hx⟩
            have hfc' : Hid (cnt (freeL T) + cnt T + 2 = k) := by have := hS3.ok.1; show _ = _; omega
            have HI := Lib.hid hI
            have HTl := Lib.hid hTl
            have hTb := Lib.hid hS3.bound
            have hol := hown.lt
            clear hI hfc hTl
            go_wp2_with (first
              | (at_range; refine wpList_range_own _ rfl _ 33 rfl 29 4 lawU Tryd.underlying33 _ w2.heap.size l.length D rfl hown ?_; intro w5 hrg5 hg5 hs5)
              | go_in)
            go_frame
            have hK5 := Keeps.of_grown hg5
            have hS5 := hS3.keeps hK5 (by simp) (by simp)
            have hT5 := hT3.keeps hK5 (by simp)
            have hB5 := hB3.trans (hK5.below hB3.size (by simp))
            obtain ⟨w9, hw9⟩ : ∃ w9, w9 = wr := ⟨_, rfl⟩
            subst hw9
            have hrne := hrg5.ne
            have hzz := hTb.out
            have hgo := hgb.out
            have HT5' := Lib.hid HT.out
            go_loopw [18] (fun la w' => ∃ (lastN : Nat) (S : List Bool) (L : List Bool) (left : Lit → Bool) (cn : Nat), la = .int .u32 (lastN : Int) ∧ lastN ≤ 315 ∧ w'.ranges Tryd.prog 29 (plainElem Tryd.prog 4) w2.heap.size w9.heap.size l.length D left cn ∧ Hid (Left k left L) ∧ cnt L + cnt S + 2 = k ∧ S.length = k ∧ Hid (∀ b, has T b = true → has S b = true) ∧ Hid (∀ b, 2 ≤ b → b ≤ lastN → has S b = true) ∧ Spc w' g hz S ∧ Tab w' ∧ Below W.heap.size W w') (fun _ w' => w'.rangeLeft w2.heap.size w9.heap.size)
            case atStart => exact ⟨0, T, freeL T, _, _, rfl, Nat.zero_le _, hrg5, hL0, hfc'.out, HTl.out, fun b h => h, fun b h1 h2 => by omega, hS5, hT5, hB5⟩
            case round =>
              obtain ⟨lastN, S', L, left, cn, rfl, hla, hrg, hLeft, hcc, hSl2, hsub, hlow, hS6, hT6, hB6⟩ := hrel
              go_wp2_with (first
                | (at_next; refine wpList_next_ub _ rfl _ rfl w2.heap.size w9.heap.size l.length D left cn rfl hrg ?_ ?_)
                | go_in)
              · intro hdone
                have hc0 : cnt L = 0 := cnt_none (fun x hx => by rw [← hLeft.out.2 x hx]; exact hdone _) (by rw [hLeft.out.1]; omega)
                have hfull := full_of_cnt hS6.ok (by omega)
                have ht6 := Lib.hid (take_at hS6 hT6 (TakeP.none hfull))
                clear hfull hc0 hdone hcc hSl2
                go_wp2_with fail
                refine ht6.out.mono ?_
                rintro e w8 ⟨rfl, hS8, hK8⟩
                have hB8 := hB6.trans (hK8.below hB6.size hG)
                go_wp2
                go_ret
                exact ⟨rfl, hB8⟩
              · intro x cb w7 cn7 hx hlx hrg7 hlt7 hK7
                obtain ⟨hxk, hL7, hcL⟩ := hLeft.out.step hx hlx
                have hgz : g ∉ [w9.heap.size] ∧ hz ∉ [w9.heap.size] ∧ 0 ∉ [w9.heap.size] := by
                  have := cell_lt (hT3 0 (by decide))
                  simp; omega
                have hS7 := hS6.keeps hK7 hgz.1 hgz.2.1
                have hT7 := hT6.keeps hK7 hgz.2.2
                have hB7 := hB6.trans (hK7.below hB6.size (by have := hB3.size; simp; omega))
                have HL7 := Lib.hid hL7
                have hnf : ¬ ∀ b, 2 ≤ b → b < S'.length → has S' b = true := fun hh => by
                  have := full_cnt hS7.ok hh
                  omega
                have HcL := Lib.hid hcL
                clear hL7 hcL hgz hxk
                go_wp2_with fail
                refine (htake.out g hz S' w7 hS7 hT7).mono ?_
                rintro e w8 ⟨a, f8, U, rfl, hP, hS8, hK8⟩
                have hT8 := hT7.keepsS hS7 hK8
                have hB8 := hB7.trans (hK8.below hB7.size hG)
                have hrg8 := ranges_keeps hrg7 hK8 (by simp; omega) (by simp; omega)
                cases hP with
                | none hfull => exact absurd hfull hnf
                | some _ hA hfr hlow8 =>
                  have hTa : has T a = false := by
                    cases e : has T a with
                    | false => rfl
                    | true => rw [hsub.out a e] at hfr; cases hfr
                  have hal : a < 4294967296 := by have := hA.2; omega
                  have hIm8 : Im w8 w2.heap.size f cc l.length := ⟨D, hrg8.owns, HI.out⟩
                  have hlk := hIm8.look hal
                  have hfa : f a = true := by rw [hf.out a, hTa]; simp; exact (isA_len (HTl.out.trans hSl2.symm) a).2 hA
                  rw [hfa] at hlk
                  have hgt : (lastN : Int) < a := by
                    rcases Nat.lt_or_ge lastN a with h | h
                    · omega
                    · rw [hlow.out a hA.1 h] at hfr; cases hfr
                  have hcU := cnt_set S' a hA.2 hfr
                  have hcc' : Hid (cnt (L.set x false) + cnt (S'.set a true) + 2 = k) := by have := HcL.out; show _ = _; omega
                  have hUl : Hid ((S'.set a true).length = k) := by show _ = _; simpa using hSl2
                  have hsub' : Hid (∀ b, has T b = true → has (S'.set a true) b = true) := fun b h => by
                    rw [has_set S' a true hA.2]; split
                    · rfl
                    · exact hsub.out b h
                  have hlow' : Hid (∀ b, 2 ≤ b → b ≤ a → has (S'.set a true) b = true) := fun b h1 h2 => by
                    rw [has_set S' a true hA.2]; split
                    · rfl
                    · exact hlow8 b h1 (by omega)
                  have ha315 : a ≤ 315 := by have := hA.2; omega
                  have haI : (a : Int) ≤ 315 := by omega
                  have hmea : w8.rangeLeft w2.heap.size w9.heap.size < wr.rangeLeft w2.heap.size w9.heap.size := by rw [hrg8.left_eq, hrg.left_eq]; exact hlt7
                  generalize S'.set a true = U at *
                  clear hcU hA hfr hlow8 hTa hfa hnf hcc hSl2
                  have hA315 := Lib.hid ha315
                  clear ha315 hal
                  go_wp2
                  go_roundw
                  case rel => exact ⟨a, U, _, _, cn7, rfl, hA315.out, hrg8, HL7, hcc'.out, hUl.out, hsub', hlow', hS8, hT8, hB8⟩
                  case measure => exact hmea
theorem walk (W : World) (hT : Tab W) (a0 : Int) (b0 : 0 ≤ a0) (c0 : a0 ≤ 65535) (v1 : Value) (l1 : List Nat) (s1 : Sl W v1 (sv l1)) (b1 : ∀ b ∈ l1, b < 65536) (m1 : l1.length ≤ 140737488351232) :
    Calls Tryd.prog 3 #[.int .u16 a0, v1] W fun e w' => e = .returned (.bool true) ∧ Below W.heap.size W w' := by
  obtain ⟨x, rfl⟩ := Int.eq_ofNat_of_zero_le b0
  obtain ⟨A, c, rfl, h1, h2, h3⟩ := s1
  rw [sv_length]
  exact core W hT x (by omega) A c l1 h3 b1 m1
end w_SpaceFills
end Go.Proofs.YtnkkcfhjgnfchaaDoor
