/- The walk of ShaWhole. -/
import Derived.Test.YtenpehhmomhooaaShL
import Derived.Test.YtenpehhmomhooaaRgx
import Derived.Test.YtenpehhmomhooaaSlC
import Derived.Deep.DeepCutAuto
set_option linter.unusedVariables false
set_option linter.unusedSimpArgs false
namespace Go.Proofs.Ytenpehhmomhooaa.w_ShaWhole
open Go.RowKit
open Go.Proofs.PlainAes
open Go.Proofs.PlainSha

/-- A hasher and a row that was made ahead of it. -/
def Wh (w0 w : World) (y z g : Nat) (r : Option Nat) (m : List Nat) (A : Option Addr) (n c : Nat) (l : List Nat) : Prop :=
  Hsh w z g r m ∧ w.ownsRow y 5 1 (.slice A n c) n (bv l) ∧ Below w0.heap.size w0 w ∧ w0.heap.size ≤ y ∧ y ≤ z ∧ ∀ a, A = some a → a.block < z
variable {w0 w w' : World} {y z g : Nat} {r : Option Nat} {m : List Nat} {A : Option Addr} {n c : Nat} {l : List Nat}
theorem Wh.write (t : Wh w0 w y z g r m A n c l) {e : Ending} {m' : List Nat} (x : RetWr z g r m' w e w') : e = .returned (.int .i64 0) ∧ ∃ q, Wh w0 w' y z g q m' A n c l := by
  obtain ⟨h1, h2, h3, h4, h5, h6⟩ := t
  obtain ⟨rfl, q, hq, hK, hm⟩ := x
  have b1 := h1.lt
  have b3 := h3.size
  refine ⟨rfl, q, hq, own_keeps h2 hK (fun k _ hk => ?_), h3.trans (hK.belowH b3 (by omega) (fun k hk => by have := (h1.row k hk).1; omega)), h4, h5, h6⟩
  cases A with
  | none => cases hk
  | some a =>
    have e1 : a.block = k := by injection hk
    have := h6 a rfl
    simp only [List.mem_cons, Option.mem_toList, not_or]
    exact ⟨by omega, fun e => by have := (h1.row k e).1; omega⟩
theorem Wh.keep (t : Wh w0 w y z g r m A n c l) (hB : Below w.heap.size w w') : Wh w0 w' y z g r m A n c l := by
  obtain ⟨h1, h2, h3, h4, h5, h6⟩ := t
  exact ⟨h1.keep hB, own_keep h2 hB, below_call h3 h3.size hB, h4, h5, h6⟩
theorem Wh.fresh {x : Nat} (t : Wh w0 w y z g r m A n c l) (hK : Keeps [x] w w') (hx : g < x ∧ w0.heap.size ≤ x ∧ r ≠ some x ∧ z ≤ x) : Wh w0 w' y z g r m A n c l := by
  obtain ⟨h1, h2, h3, h4, h5, h6⟩ := t
  refine ⟨h1.keeps hK (by simp; omega) (fun k hk => by simp; intro e; exact hx.2.2.1 (by rw [hk, e])), own_keeps h2 hK (fun k _ hk => ?_), h3.trans (hK.below h3.size (by simp; omega)), h4, h5, h6⟩
  cases A with
  | none => cases hk
  | some a =>
    have e1 : a.block = k := by injection hk
    have := h6 a rfl
    simp; omega
theorem Wh.alloc (t : Wh w0 w y z g r m A n c l) (hK : Keeps [] w w') : Wh w0 w' y z g r m A n c l := by
  obtain ⟨h1, h2, h3, h4, h5, h6⟩ := t
  exact ⟨h1.keeps hK (by simp) (by simp), own_keeps h2 hK (by simp), h3.trans (hK.below h3.size (by simp)), h4, h5, h6⟩
theorem Wh.lt (t : Wh w0 w y z g r m A n c l) : g < w.heap.size ∧ w0.heap.size ≤ w.heap.size ∧ r ≠ some w.heap.size ∧ z ≤ w.heap.size := by
  obtain ⟨h1, h2, h3, h4, h5, h6⟩ := t
  have b1 := h1.lt
  exact ⟨h1.lt.2, h3.size, fun e => by have := (h1.row _ e).2; omega, by omega⟩
theorem Wh.sl (t : Wh w0 w y z g r m A n c l) : Sl w (.slice A n c) (bv l) := Sl.of_own t.2.1
/-- A store into the row. -/
theorem Wh.set (t : Wh w0 w y z g r m A n c l) {i : Nat} (hi : i < n) : ∃ x, A = some ⟨x, 0, none⟩ ∧ w.frozen? ⟨x, i, none⟩ = false ∧ w.cell? ⟨x, i, none⟩ = (bv l)[i]? ∧
    ∀ u : Nat, Wh w0 (w.setCell ⟨x, i, none⟩ (.int .u8 (u : Int))) y z g r m A n c (l.set i u) := by
  obtain ⟨h1, h2, h3, h4, h5, h6⟩ := t
  obtain ⟨x, rfl, hb, hlt, hf, hc, hu⟩ := own_set h2 hi
  have h7 := h6 _ rfl
  simp only at h7
  have b1 := h1.lt
  refine ⟨x, rfl, hf, hc, fun u => ?_⟩
  obtain ⟨o, hK⟩ := hu (.int .u8 (u : Int))
  rw [bv_set] at o
  exact ⟨h1.keeps hK (by simp; omega) (fun k hk => by simp; have := (h1.row k hk).1; omega), o, h3.trans (hK.below h3.size (by simp; omega)), h4, h5, h6⟩

section
variable {P : Program} {ops : Array Oper} {Q : Exit → Act → World → Prop} {S : World → Prop} {md : Region.Mode}
theorem takeH_conv {i : Nat} {o : Oper} {fuel : Nat} {listed : Array Bool} {a : Act} {w : World} (hi : ops[i]? = some o) (hs : Region.noSelect ops = true) (hf : Region.free md ops listed i = true) (hr : (Region.ready md ops listed).contains i = true)
    (hQ : ∀ c a w v, Q (.panic c) (a.put o.dst v) w → Q (.panic c) a w) (hw : Region.wanted o (yielded ops a.tmps) = true) (x : Operand) (ho : o.op = .convert 22 9 x) (v : Value) (hx : a.eval x = v) (l : List Nat) (hS : ∀ w, S w → Sl w v (bv l))
    (hH : S w) (h : wpAnyH Try.prog md ops Q S fuel (listed.setIfInBounds i true) (a.put o.dst (.string (bstr l))) w) : wpAnyH Try.prog md ops Q S (fuel + 1) listed a w :=
  takeH_S hi hs hf hr hQ hw _ (fun w h => by unfold execOp; simp [ho, hx, Sem.run_bind, run_conv w v l (hS w h)]) hH h
theorem takeH_eqStr {i : Nat} {o : Oper} {fuel : Nat} {listed : Array Bool} {a : Act} {w : World} (hi : ops[i]? = some o) (hs : Region.noSelect ops = true) (hf : Region.free md ops listed i = true) (hr : (Region.ready md ops listed).contains i = true)
    (hQ : ∀ c a w v, Q (.panic c) (a.put o.dst v) w → Q (.panic c) a w) (hw : Region.wanted o (yielded ops a.tmps) = true) (t : TypeId) (x y : Operand) (u : Nat) (ho : o.op = .binOp .eql t x y u) (ht : P.underlying t = some .string) (s : ByteArray) (hx : a.eval x = .string s) (hy : a.eval y = .string s)
    (hH : S w) (h : wpAnyH P md ops Q S fuel (listed.setIfInBounds i true) (a.put o.dst (.bool true)) w) : wpAnyH P md ops Q S (fuel + 1) listed a w :=
  takeH_S hi hs hf hr hQ hw _ (fun w _ => by
    have e1 : (eqGuard .eql t x y (.string s) (.string s)).run P w = .ok () w := by simp [eqGuard]
    have e2 : (binOp .eql t (.string s) (.string s)).run P w = .ok (.bool true) w := by
      simp [binOp, Op.equal, Op.maxDepth, Op.equalIn, Op.stringOp, Sem.run_bind, run_underlying ht]
    unfold execOp
    simp only [ho, hx, hy, Sem.run_bind, e1, e2, Result.andThen_ok, Sem.run_pure]) hH h
end
def inc (l : List Nat) : List Nat := l.map fun x => (x + 1) % 256
theorem inc_length (l : List Nat) : (inc l).length = l.length := by simp [inc]
theorem inc_get {l : List Nat} {i x : Nat} (h : l[i]? = some x) : (inc l)[i]? = some ((x + 1) % 256) := by simp [inc, h]

set_option maxRecDepth 100000 in
set_option maxHeartbeats 4000000 in
theorem core (A1 : Option Addr) (n1 c1 : Nat) (a : List Nat) (b : Nat) (w : World) (hs1 : Sl w (.slice A1 n1 c1) (bv a)) (ba : Byt a) (hn1 : n1 = a.length) (hm1 : (n1 : Int) ≤ 140737488355328) (hb : (b : Int) ≤ 65535) :
    Calls Try.prog 4 #[.slice A1 n1 c1, .int .u16 (b : Int)] w fun e w' => e = .returned (.bool true) ∧ Below w.heap.size w w' := by
  have hal := Lib.hid (fun w => alive_any w)
  by_cases hbig : (5000 : Int) < (n1 : Int)
  · clear hs1
    go_enter Try.func4, Try.ntmps4
    go_wp2_with fail
    refine (hal.out _).mono ?_
    rintro e w1 ⟨rfl, hB1⟩
    go_wp2
    go_ret
    exact ⟨rfl, hB1⟩
  · have hnew := Lib.hid (fun w => new_any w)
    have hwr := Lib.hid (fun l b B g v r w h hs bl bb hlen hsep => write_any l b B g v r w h hs bl bb hlen hsep)
    have hsm := Lib.hid (fun l B g r w h bl hlen => sum_any l B g r w h bl hlen)
    have hsum := Lib.hid (fun b v w hs bb hlen => shasum_any b v w hs bb hlen)
    replace hs1 := Lib.hid hs1
    replace hn1 := Lib.hid hn1
    go_enter Try.func4, Try.ntmps4
    go_wp2_with fail
    refine (hal.out _).mono ?_
    rintro e w1 ⟨rfl, hB1⟩
    have q1 : (b : Int) % ((n1 : Int) + 1) = ((b % (n1 + 1) : Nat) : Int) := by first | rfl | (push_cast; rfl) | simp
    have q2 : Int.tmod (b : Int) ((n1 : Int) + 1) = ((b % (n1 + 1) : Nat) : Int) := by rw [Int.tmod_eq_emod_of_nonneg (by omega)]; exact q1
    have hk : b % (n1 + 1) ≤ n1 := by have := Nat.mod_lt b (show 0 < n1 + 1 by omega); omega
    generalize b % (n1 + 1) = k at *
    obtain ⟨i0, hi, hz0, hz1, hz2⟩ := info_parts (P := Try.prog) (e := 5) (z := .int .u8 0) (size := 1) (bytes := 1) (by kernel_rfl)
    have own0 : (w1.alloc (.cells #[] 5)).ownsRow w1.heap.size 5 1 (.slice (some ⟨w1.heap.size, 0, none⟩) 0 0) 0 [] := World.ownsRow_made w1 #[] 0 (Nat.le_refl _) (Nat.zero_le _) rfl
    have bel0 : Below w1.heap.size w1 (w1.alloc (.cells #[] 5)) := (Below.refl _ _).alloc (Nat.le_refl _) _
    have sl1 := (hs1.out.keep hB1).keep bel0
    go_wp2_with (at_builtin; refine wpList_append_sl2 rfl (.tmp 25) (.tmp 26) 22 rfl w1.heap.size 5 i0 (.int .u8 0) 1 Try.underlying22 hi hz0 hz1 hz2 rfl _ 0 [] rfl own0 _ (bv a) rfl sl1 (bv_oneCell a) ?_ ?_ ?_ ?_)
    · have := hn1.out; simp [maxLen]; omega
    · have := hn1.out; simp; omega
    · simp
    intro v2 w2 own2 gr2 mv2
    have bel2 := own_below bel0 gr2 own0 (by simp)
    rw [← hn1.out] at own2
    obtain ⟨A2, c2, rfl, -⟩ := own_shape own2
    have hAc := own_nil own2
    go_wp2_with fail
    refine (hnew.out _).mono ?_
    rintro e w3 ⟨g, rfl, hg, hB3⟩
    have hT : Wh w w3 w1.heap.size w2.heap.size g none [] A2 n1 c2 a := ⟨hg, own_keep own2 hB3, below_call (below_call hB1 hB1.size bel2) (by have := hB1.size; have := bel2.size; omega) hB3, hB1.size, bel2.size, fun x hx => (hAc.2.2 x hx).2⟩
    have hnc : n1 ≤ c2 := hAc.1
    have hcm : c2 ≤ maxLen := hAc.2.1
    have hzA := Lib.hid hT.2.2.2.2.2
    clear own0 bel0 sl1 gr2 mv2 own2 bel2 hB1 hAc hg hB3 hi hz0 hz1 hz2
    generalize w1.heap.size = y at *
    generalize w2.heap.size = z at *
    have hkI : (k : Int) ≤ (n1 : Int) := by omega
    have hkc : k ≤ c2 := by omega
    have hw1 := Lib.hid (hwr.out [] (a.take k) z g (.slice A2 k c2) none _ hT.1 (by rw [← bv_take]; exact hT.sl.head (by rw [bv_length, hn1.out]) hk) (by intro x hx; simp at hx) (fun x hx => ba x (List.mem_of_mem_take hx)) (by have := hn1.out; simp; omega) (fun _ a' n' c' e => by
      injection e with e _ _
      have h1 := hzA.out a' e
      have h2 := hT.1.lt
      exact ⟨by omega, by simp⟩))
    go_wp2_with fail
    refine hw1.out.mono ?_
    rintro e w4 hR
    replace hT := hT.write hR
    obtain ⟨rfl, r, hT⟩ := hT
    clear hR hw1
    rw [List.nil_append] at hT
    go_wp2
    go_loopw [38] (fun v wr => ∃ i : Nat, i ≤ k ∧ v = .int .i64 (i : Int) ∧ Wh w wr y z g r (a.take k) A2 n1 c2 (upd (inc a) a i)) (fun v _ => k - (intOf v).toNat)
    case atStart => exact ⟨0, by omega, rfl, by rw [upd_zero]; exact hT⟩
    case round =>
      clear hT
      obtain ⟨i, hik, rfl, hT⟩ := hrel
      by_cases hlt : (i : Int) < (k : Int)
      · obtain ⟨x, hx⟩ := get_lt (l := a) (k := i) (by have := hn1.out; omega)
        obtain ⟨g2, hA, hf, hc, hs⟩ := hT.set (i := i) (by omega)
        have hS := Lib.hid (hs ((x + 1) % 256))
        rw [bv_some (by rw [upd_get (inc_length a) (Nat.le_refl _) (by have := hn1.out; omega)]; exact hx)] at hc
        rw [upd_set (inc_length a) (by have := hn1.out; omega) (inc_get hx)] at hS
        have hv : IntKind.u8.wrap ((x : Int) + 1) = (((x + 1) % 256 : Nat) : Int) := by rw [IntKind.wrap_u8]; omega
        have hi1 : (i : Int) < (n1 : Int) := by omega
        subst hA
        clear hT hs
        go_wp2
        go_roundw
        case rel => exact ⟨i + 1, by omega, by go_num, hS.out⟩
        case measure => simp [intOf]; omega
      · obtain rfl : i = k := by omega
        have hTd : (upd (inc a) a i).drop i = a.drop i := by rw [upd, List.drop_append, List.drop_of_length_le (by rw [List.length_take]; omega), List.length_take, inc_length, Nat.min_eq_left (by have := hn1.out; omega), Nat.sub_self, List.drop_zero, List.nil_append]
        have hTl : (upd (inc a) a i).length = n1 := by rw [upd_length (inc_length a) (by have := hn1.out; omega), hn1.out]
        have hsl : Sl wr (.slice A2 (i + (n1 - i)) c2) (bv (upd (inc a) a i)) := by rw [show i + (n1 - i) = n1 by omega]; exact hT.sl
        have hji : ((n1 : Int) - (i : Int)) = ((n1 - i : Nat) : Int) := by omega
        go_upto_region 14 with fail
        go_cut [10] (fun s10 wx => s10 = .int .i64 0 ∧ ∃ r, Wh w wx y z g r a A2 n1 c2 (upd (inc a) a i))
        case first =>
          by_cases hci : c2 = i
          · replace hci := hci.symm
            subst hci
            have hs := hsl.tail0 (by rw [bv_length, hTl]; omega) rfl
            rw [bv_drop, hTd, show n1 - i = 0 by omega] at hs
            have hw2 := Lib.hid (hwr.out (a.take i) (a.drop i) z g _ r _ hT.1 hs (fun x hx => ba x (List.mem_of_mem_take hx)) (fun x hx => ba x (List.mem_of_mem_drop hx)) (by have := hn1.out; simp; omega) (fun hp a' n' c' e => by
              exfalso; have := hn1.out; simp at hp; omega))
            rw [List.take_append_drop] at hw2
            clear hs hsl
            go_wp2_with fail
            refine hw2.out.mono ?_
            rintro e w5 hR
            obtain ⟨rfl, r2, hT2⟩ := hT.write hR
            clear hR hT hw2
            go_wp2_with fail
            go_meet
            exact ⟨rfl, r2, hT2⟩
          · have hs := hsl.tail (by rw [bv_length, hTl]; omega)
            rw [bv_drop, hTd] at hs
            have hw2 := Lib.hid (hwr.out (a.take i) (a.drop i) z g _ r _ hT.1 hs (fun x hx => ba x (List.mem_of_mem_take hx)) (fun x hx => ba x (List.mem_of_mem_drop hx)) (by have := hn1.out; simp; omega) (fun hp a' n' c' e => by
              injection e with e _ _
              obtain ⟨x, rfl⟩ : ∃ x, A2 = some x := by cases A2 with | none => cases e | some x => exact ⟨x, rfl⟩
              have h1 := hzA.out x rfl
              have h2 := hT.1.lt
              have h3 : a'.block = x.block := by injection e with e; subst e; unfold Addr.add; split <;> rfl
              exact ⟨by omega, fun e => by have := (hT.1.row _ e).1; omega⟩))
            rw [List.take_append_drop] at hw2
            clear hs hsl
            go_wp2_with fail
            refine hw2.out.mono ?_
            rintro e w5 hR
            obtain ⟨rfl, r2, hT2⟩ := hT.write hR
            clear hR hT hw2
            go_wp2_with fail
            go_meet
            exact ⟨rfl, r2, hT2⟩
        case rest =>
          clear hT hsl
          obtain ⟨rfl, r, hT⟩ := hcut
          replace hTd := Lib.hid hTd
          replace hTl := Lib.hid hTl
          go_wp2_with fail
          go_loopw [57] (fun v wr => ∃ j : Nat, j ≤ i ∧ v = .int .i64 (j : Int) ∧ Wh w wr y z g r a A2 n1 c2 (upd a (upd (inc a) a i) j)) (fun v _ => i - (intOf v).toNat)
          case atStart => exact ⟨0, by omega, rfl, by rw [upd_zero]; exact hT⟩
          case round =>
            clear hT
            obtain ⟨j, hji, rfl, hT⟩ := hrel
            by_cases hlt : (j : Int) < (i : Int)
            · obtain ⟨x, hx⟩ := get_lt (l := a) (k := j) (by have := hn1.out; omega)
              obtain ⟨g2, hA, hf, hc, hs⟩ := hT.set (i := j) (by omega)
              have hx2 : x < 256 := ba x (List.mem_of_getElem? hx)
              have hlu := hTl.out
              have hS := Lib.hid (hs x)
              rw [bv_some (by rw [upd_get (by rw [hlu, hn1.out]) (Nat.le_refl _) (by omega), upd_get_new (inc_length a) (by omega) (by have := hn1.out; omega)]; exact inc_get hx)] at hc
              rw [upd_set (by rw [hlu, hn1.out]) (by omega) hx] at hS
              have hv : IntKind.u8.wrap ((((x + 1) % 256 : Nat) : Int) - 1) = (x : Int) := by rw [IntKind.wrap_u8]; omega
              have hi1 : (j : Int) < (n1 : Int) := by omega
              generalize (x + 1) % 256 = x1 at *
              subst hA
              clear hT hs hx hlu
              go_wp2
              go_roundw
              case rel => exact ⟨j + 1, by omega, by go_num, hS.out⟩
              case measure => simp [intOf]; omega
            · obtain rfl : j = i := by omega
              rw [upd, hTd.out, List.take_append_drop] at hT
              go_wp2_with fail
              refine (hsm.out _ z g r _ hT.1 ba (by have := hn1.out; omega)).mono ?_
              rintro e w6a ⟨rfl, hB6⟩
              replace hT := hT.keep hB6
              clear hB6
              go_wp2_with (refine wpList_allocA rfl 24 rfl (bv (zeros 32)) (by kernel_rfl) ?_)
              intro w6b hx6o hK6 hz6
              have hl6 := hT.lt
              replace hT := hT.alloc hK6
              clear hK6 hz6
              generalize w6a.heap.size = gx at *
              go_wp2_with (refine wpList_storeW rfl 24 (.tmp 12) (.tmp 70) rfl 32 arrH gx rfl (bv (shaL a)) rfl 24 _ hx6o (bvsh a) (by simp) (ones_bv _) ?_)
              intro w6 hx6 hK6
              clear hx6o
              replace hT := hT.fresh hK6 ⟨hl6.1, hl6.2.1, hl6.2.2.1, hl6.2.2.2⟩
              clear hK6 hl6
              have hB9 := Lib.hid hT.2.2.1
              have hsA := Lib.hid (hs1.out.keep hB9.out)
              have hsW := Lib.hid hT.sl
              go_wp2
              refine wp_region_held_drew (S := fun w' => Below w6.heap.size w6 w') (by kernel_rfl) ((Below.refl _ _).drew) (fun hH => ?_)
              refine takeH_move (o := ⟨some 72, _, _, _, _, _⟩) (i := 0) rfl (by kernel_rfl) (by kernel_rfl) (by kernel_rfl) (fun _ _ _ _ h => h) rfl (.tmp 8) rfl (.int .i64 0) rfl hH ?_
              simp only [Act.put, List.setIfInBounds_toArray, List.set_cons_zero, List.set_cons_succ, Nat.zero_add, decide_true, beq_self_eq_true]
              refine takeH_eqInt (o := ⟨some 73, _, _, _, _, _⟩) (i := 1) rfl (by kernel_rfl) (by kernel_rfl) (by kernel_rfl) (fun _ _ _ _ h => h) rfl 32 32 .i64 (.tmp 72) (.const (.int .i64 0)) rfl Try.underlying32 _ _ rfl rfl (rfl) hH ?_
              simp only [Act.put, List.setIfInBounds_toArray, List.set_cons_zero, List.set_cons_succ, Nat.zero_add, decide_true, beq_self_eq_true]
              refine takeH_move (o := ⟨some 74, _, _, _, _, _⟩) (i := 2) rfl (by kernel_rfl) (by kernel_rfl) (by kernel_rfl) (fun _ _ _ _ h => h) rfl (.tmp 73) rfl (.bool true) rfl hH ?_
              simp only [Act.put, List.setIfInBounds_toArray, List.set_cons_zero, List.set_cons_succ, Nat.zero_add, decide_true, beq_self_eq_true]
              refine takeH_move (o := ⟨some 75, _, _, _, _, _⟩) (i := 3) rfl (by kernel_rfl) (by kernel_rfl) (by kernel_rfl) (fun _ _ _ _ h => h) rfl (.tmp 10) rfl (.int .i64 0) rfl hH ?_
              simp only [Act.put, List.setIfInBounds_toArray, List.set_cons_zero, List.set_cons_succ, Nat.zero_add, decide_true, beq_self_eq_true]
              refine takeH_eqInt (o := ⟨some 76, _, _, _, _, _⟩) (i := 4) rfl (by kernel_rfl) (by kernel_rfl) (by kernel_rfl) (fun _ _ _ _ h => h) rfl 32 32 .i64 (.tmp 75) (.const (.int .i64 0)) rfl Try.underlying32 _ _ rfl rfl (rfl) hH ?_
              simp only [Act.put, List.setIfInBounds_toArray, List.set_cons_zero, List.set_cons_succ, Nat.zero_add, decide_true, beq_self_eq_true]
              refine takeH_pick (o := ⟨some 77, _, _, _, _, _⟩) (i := 5) rfl (by kernel_rfl) (by kernel_rfl) (by kernel_rfl) (fun _ _ _ _ h => h) rfl (.tmp 74) (.tmp 76) (.const (.bool false)) rfl true rfl (.bool true) rfl hH ?_
              simp only [Act.put, List.setIfInBounds_toArray, List.set_cons_zero, List.set_cons_succ, Nat.zero_add, decide_true, beq_self_eq_true]
              refine takeH_move (o := ⟨some 78, _, _, _, _, _⟩) (i := 6) rfl (by kernel_rfl) (by kernel_rfl) (by kernel_rfl) (fun _ _ _ _ h => h) rfl (.tmp 77) rfl (.bool true) rfl hH ?_
              simp only [Act.put, List.setIfInBounds_toArray, List.set_cons_zero, List.set_cons_succ, Nat.zero_add, decide_true, beq_self_eq_true]
              refine takeH_move (o := ⟨some 79, _, _, _, _, _⟩) (i := 7) rfl (by kernel_rfl) (by kernel_rfl) (by kernel_rfl) (fun _ _ _ _ h => h) rfl (.tmp 13) rfl (.int .i64 0) rfl hH ?_
              simp only [Act.put, List.setIfInBounds_toArray, List.set_cons_zero, List.set_cons_succ, Nat.zero_add, decide_true, beq_self_eq_true]
              refine takeH_eqInt (o := ⟨some 80, _, _, _, _, _⟩) (i := 8) rfl (by kernel_rfl) (by kernel_rfl) (by kernel_rfl) (fun _ _ _ _ h => h) rfl 32 32 .i64 (.tmp 79) (.const (.int .i64 0)) rfl Try.underlying32 _ _ rfl rfl (rfl) hH ?_
              simp only [Act.put, List.setIfInBounds_toArray, List.set_cons_zero, List.set_cons_succ, Nat.zero_add, decide_true, beq_self_eq_true]
              refine takeH_pick (o := ⟨some 81, _, _, _, _, _⟩) (i := 9) rfl (by kernel_rfl) (by kernel_rfl) (by kernel_rfl) (fun _ _ _ _ h => h) rfl (.tmp 78) (.tmp 80) (.const (.bool false)) rfl true rfl (.bool true) rfl hH ?_
              simp only [Act.put, List.setIfInBounds_toArray, List.set_cons_zero, List.set_cons_succ, Nat.zero_add, decide_true, beq_self_eq_true]
              refine takeH_move (o := ⟨some 82, _, _, _, _, _⟩) (i := 10) rfl (by kernel_rfl) (by kernel_rfl) (by kernel_rfl) (fun _ _ _ _ h => h) rfl (.tmp 81) rfl (.bool true) rfl hH ?_
              simp only [Act.put, List.setIfInBounds_toArray, List.set_cons_zero, List.set_cons_succ, Nat.zero_add, decide_true, beq_self_eq_true]
              refine takeH_load (o := ⟨some 83, _, _, _, _, _⟩) (i := 11) rfl (by kernel_rfl) (by kernel_rfl) (by kernel_rfl) (fun _ _ _ _ h => h) rfl 24 (.tmp 12) rfl 32 arrH gx 0 rfl (bv (shaL a)) (bvsh _) (fun w h => hSS (hx6.keep h) (bvsh _)) hH ?_
              simp only [Act.put, List.setIfInBounds_toArray, List.set_cons_zero, List.set_cons_succ, Nat.zero_add, decide_true, beq_self_eq_true]
              refine takeH_move (o := ⟨some 84, _, _, _, _, _⟩) (i := 12) rfl (by kernel_rfl) (by kernel_rfl) (by kernel_rfl) (fun _ _ _ _ h => h) rfl (.tmp 0) rfl (.slice A1 n1 c1) rfl hH ?_
              simp only [Act.put, List.setIfInBounds_toArray, List.set_cons_zero, List.set_cons_succ, Nat.zero_add, decide_true, beq_self_eq_true]
              refine wpAnyH_ready (rs := [13]) (by kernel_rfl) (by simp) ?_
              refine AllReadyH.cons rfl (fun K1 hK1 => ?_) AllReadyH.nil
              rw [if_pos (by rfl)]
              go_wp2_with fail
              refine (hsum.out a _ _ (hsA.out.keep hH) ba (by have := hn1.out; omega)).mono ?_
              rintro e wa ⟨rfl, hBa⟩
              refine hK1.out _ _ (below_call hH hH.size hBa) (fun hH => ?_)
              clear hK1 K1
              refine takeH_eqlT (o := ⟨some 86, _, _, _, _, _⟩) (i := 14) rfl (by kernel_rfl) (by kernel_rfl) (by kernel_rfl) (fun _ _ _ _ h => h) rfl 24 (.tmp 83) (.tmp 85) 24 rfl 32 bytH _ _ rfl rfl (shlen _) rfl hH ?_
              simp only [Act.put, List.setIfInBounds_toArray, List.set_cons_zero, List.set_cons_succ, Nat.zero_add, decide_true, beq_self_eq_true]
              refine takeH_pick (o := ⟨some 87, _, _, _, _, _⟩) (i := 15) rfl (by kernel_rfl) (by kernel_rfl) (by kernel_rfl) (fun _ _ _ _ h => h) rfl (.tmp 82) (.tmp 86) (.const (.bool false)) rfl true rfl (.bool true) rfl hH ?_
              simp only [Act.put, List.setIfInBounds_toArray, List.set_cons_zero, List.set_cons_succ, Nat.zero_add, decide_true, beq_self_eq_true]
              refine takeH_move (o := ⟨some 88, _, _, _, _, _⟩) (i := 16) rfl (by kernel_rfl) (by kernel_rfl) (by kernel_rfl) (fun _ _ _ _ h => h) rfl (.tmp 87) rfl (.bool true) rfl hH ?_
              simp only [Act.put, List.setIfInBounds_toArray, List.set_cons_zero, List.set_cons_succ, Nat.zero_add, decide_true, beq_self_eq_true]
              refine takeH_move (o := ⟨some 89, _, _, _, _, _⟩) (i := 17) rfl (by kernel_rfl) (by kernel_rfl) (by kernel_rfl) (fun _ _ _ _ h => h) rfl (.tmp 6) rfl (.slice A2 n1 c2) rfl hH ?_
              simp only [Act.put, List.setIfInBounds_toArray, List.set_cons_zero, List.set_cons_succ, Nat.zero_add, decide_true, beq_self_eq_true]
              refine takeH_conv (o := ⟨some 90, _, _, _, _, _⟩) (i := 18) rfl (by kernel_rfl) (by kernel_rfl) (by kernel_rfl) (fun _ _ _ _ h => h) rfl (.tmp 89) rfl (.slice A2 n1 c2) rfl a (fun w h => hsW.out.keep h) hH ?_
              simp only [Act.put, List.setIfInBounds_toArray, List.set_cons_zero, List.set_cons_succ, Nat.zero_add, decide_true, beq_self_eq_true]
              refine takeH_move (o := ⟨some 91, _, _, _, _, _⟩) (i := 19) rfl (by kernel_rfl) (by kernel_rfl) (by kernel_rfl) (fun _ _ _ _ h => h) rfl (.tmp 0) rfl (.slice A1 n1 c1) rfl hH ?_
              simp only [Act.put, List.setIfInBounds_toArray, List.set_cons_zero, List.set_cons_succ, Nat.zero_add, decide_true, beq_self_eq_true]
              refine takeH_conv (o := ⟨some 92, _, _, _, _, _⟩) (i := 20) rfl (by kernel_rfl) (by kernel_rfl) (by kernel_rfl) (fun _ _ _ _ h => h) rfl (.tmp 91) rfl (.slice A1 n1 c1) rfl a (fun w h => hsA.out.keep h) hH ?_
              simp only [Act.put, List.setIfInBounds_toArray, List.set_cons_zero, List.set_cons_succ, Nat.zero_add, decide_true, beq_self_eq_true]
              refine takeH_eqStr (o := ⟨some 93, _, _, _, _, _⟩) (i := 21) rfl (by kernel_rfl) (by kernel_rfl) (by kernel_rfl) (fun _ _ _ _ h => h) rfl 9 (.tmp 90) (.tmp 92) 9 rfl Try.underlying9 (bstr a) rfl rfl hH ?_
              simp only [Act.put, List.setIfInBounds_toArray, List.set_cons_zero, List.set_cons_succ, Nat.zero_add, decide_true, beq_self_eq_true]
              refine takeH_pick (o := ⟨some 94, _, _, _, _, _⟩) (i := 22) rfl (by kernel_rfl) (by kernel_rfl) (by kernel_rfl) (fun _ _ _ _ h => h) rfl (.tmp 88) (.tmp 93) (.const (.bool false)) rfl true rfl (.bool true) rfl hH ?_
              simp only [Act.put, List.setIfInBounds_toArray, List.set_cons_zero, List.set_cons_succ, Nat.zero_add, decide_true, beq_self_eq_true]
              refine takeH_assign (o := ⟨some 4, _, _, _, _, _⟩) (i := 23) rfl (by kernel_rfl) (by kernel_rfl) (by kernel_rfl) (fun _ _ _ _ h => h) rfl (.tmp 94) rfl (.bool true) rfl hH ?_
              simp only [Act.put, List.setIfInBounds_toArray, List.set_cons_zero, List.set_cons_succ, Nat.zero_add, decide_true, beq_self_eq_true]
              refine wpAnyH_done (by kernel_rfl) ?_ _
              go_wp2_with fail
              go_ret
              exact ⟨rfl, below_call hB9.out hB9.out.size hH⟩

theorem walk (v0 : Value) (l0 : List Nat) (b0 : Byt l0) (m0 : l0.length ≤ 140737488351232) (b : Int) (b1 : 0 ≤ b) (b2 : b ≤ 65535) (W : World) (s0 : Sl W v0 (bv l0)) :
    Calls Try.prog 4 #[v0, .int .u16 b] W fun e w' => e = .returned (.bool true) ∧ Below W.heap.size W w' := by
  obtain ⟨A1, c1, h1, -⟩ := id s0
  subst h1
  obtain ⟨b, rfl⟩ := Int.eq_ofNat_of_zero_le b1
  exact core A1 _ c1 l0 b W s0 b0 (by simp) (by simp; omega) (by omega)
end Go.Proofs.Ytenpehhmomhooaa.w_ShaWhole
