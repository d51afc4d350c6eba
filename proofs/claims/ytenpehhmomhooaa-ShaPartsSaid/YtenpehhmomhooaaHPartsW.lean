/- The walk of ShaParts. -/
import Derived.Test.YtenpehhmomhooaaShL
import Derived.Test.YtenpehhmomhooaaRgx
import Derived.Test.YtenpehhmomhooaaEqA
import Derived.Test.YtenpehhmomhooaaScH
set_option linter.unusedVariables false
set_option linter.unusedSimpArgs false
namespace Go.Proofs.Ytenpehhmomhooaa.w_ShaParts
open Go.RowKit
open Go.Proofs.PlainAes
open Go.Proofs.PlainSha

theorem takeH_neqT {P : Program} {ops : Array Oper} {Q : Exit → Act → World → Prop} {S : World → Prop} {md : Region.Mode} {i : Nat} {o : Oper} {fuel : Nat} {listed : Array Bool} {a : Act} {w : World} (hi : ops[i]? = some o) (hs : Region.noSelect ops = true) (hf : Region.free md ops listed i = true) (hr : (Region.ready md ops listed).contains i = true)
    (hQ : ∀ c a w v, Q (.panic c) (a.put o.dst v) w → Q (.panic c) a w) (hw : Region.wanted o (yielded ops a.tmps) = true) (t : TypeId) (x y : Operand) (u : Nat) (ho : o.op = .binOp .neq t x y u) (n : Nat) (hB : ByteArr P t n) (l : List Nat) (hx : a.eval x = .agg (bv l).toArray) (hy : a.eval y = .agg (bv l).toArray) (hl : l.length = n)
    (hH : S w) (h : wpAnyH P md ops Q S fuel (listed.setIfInBounds i true) (a.put o.dst (.bool false)) w) : wpAnyH P md ops Q S (fuel + 1) listed a w :=
  wpAnyH_take hi hs hf hr (fun c a w => hQ c a w _) (.inl ⟨hw, fun w _ => by
    obtain ⟨⟨e, hu, he, hs⟩, hg⟩ := hB
    have e := run_neq_bytes hu he hs hl hl w
    rw [decide_eq_true rfl] at e
    unfold execOp
    simp only [ho, hx, hy, Sem.run_bind, run_eqGuard_agg w _ t x y _ _ hg, e, Result.andThen_ok, Sem.run_pure, Bool.not_true]⟩) hH h

/-- The first rows, one behind the other. -/
def cat (ls : List (List Nat)) (k : Nat) : List Nat := (ls.take k).flatten
theorem cat_succ {ls : List (List Nat)} {k : Nat} {l : List Nat} (h : ls[k]? = some l) : cat ls (k + 1) = cat ls k ++ l := by
  unfold cat
  rw [List.take_add_one, h]
  simp
theorem cat_le (ls : List (List Nat)) (k : Nat) : (cat ls k).length ≤ (cat ls ls.length).length := by
  have e : cat ls ls.length = cat ls k ++ (ls.drop k).flatten := by
    unfold cat
    rw [List.take_length, ← List.flatten_append, List.take_append_drop]
  rw [e, List.length_append]
  exact Nat.le_add_right _ _
theorem cat_byt {ls : List (List Nat)} (h : ∀ l ∈ ls, Byt l) (k : Nat) : Byt (cat ls k) := by
  intro x hx
  unfold cat at hx
  obtain ⟨l, hl, hx⟩ := List.mem_flatten.1 hx
  exact h l (List.mem_of_mem_take hl) x hx
theorem cat_bound {ls : List (List Nat)} (h : ∀ l ∈ ls, l.length ≤ 140737488351232) : ∀ k, (cat ls k).length ≤ k * 140737488351232
  | 0 => by simp [cat]
  | k + 1 => by
    cases hk : ls[k]? with
    | none =>
      have e : cat ls (k + 1) = cat ls k := by
        unfold cat
        rw [List.take_add_one, hk]
        simp
      rw [e]
      exact Nat.le_trans (cat_bound h k) (Nat.mul_le_mul_right _ (Nat.le_succ k))
    | some l =>
      rw [cat_succ hk, List.length_append, Nat.succ_mul]
      exact Nat.add_le_add (cat_bound h k) (h l (List.mem_of_getElem? hk))

/-- A hasher and a row, made behind w0. -/
def Pt (w0 w : World) (g : Nat) (r : Option Nat) (m : List Nat) (va : Value) (l : List Nat) : Prop :=
  Hsh w w0.heap.size g r m ∧ w.ownsRow w0.heap.size 5 1 va l.length (bv l) ∧ va.ownBlock ≠ some g ∧ (∀ k, va.ownBlock = some k → r ≠ some k) ∧ Below w0.heap.size w0 w
variable {w0 w w' : World} {g : Nat} {r : Option Nat} {m l : List Nat} {va : Value}
theorem Pt.write {e : Ending} {m' : List Nat} (t : Pt w0 w g r m va l) (x : RetWr w0.heap.size g r m' w e w') : e = .returned (.int .i64 0) ∧ ∃ q, Pt w0 w' g q m' va l := by
  obtain ⟨h1, h2, h3, h4, h5⟩ := t
  obtain ⟨rfl, q, hq, hK, hm⟩ := x
  refine ⟨rfl, q, hq, own_keeps h2 hK (fun k _ hk => ?_), h3, fun k hk => hm.ne (h2.lt k hk).2 (h4 k hk), h5.trans (hK.belowH h5.size h1.lt.1 (fun k hk => (h1.row k hk).1))⟩
  simp only [List.mem_cons, Option.mem_toList, not_or]
  exact ⟨fun e => h3 (by rw [hk, e]), fun e => h4 k hk e⟩
theorem Pt.append {b : List Nat} {v' : Value} (t : Pt w0 w g r m va l) (o : w'.ownsRow w0.heap.size 5 1 v' (l ++ b).length (bv (l ++ b))) (gr : w.grownBy w' va.ownBlock) (mv : Moved w.heap.size va.ownBlock v'.ownBlock) : Pt w0 w' g r m v' (l ++ b) := by
  obtain ⟨h1, h2, h3, h4, h5⟩ := t
  have hK := Keeps.grown gr
  refine ⟨h1.keeps hK (by simp only [Option.mem_toList]; exact h3) (fun k hk hm => ?_), o, mv.ne h1.lt.2 h3, fun k hk hr => ?_, own_below h5 gr h2 h5.size⟩
  · simp only [Option.mem_toList] at hm
    exact h4 k hm hk
  · exact mv.ne (h1.row k hr).2 (fun e => h4 k e hr) hk
theorem Pt.keep (t : Pt w0 w g r m va l) (hB : Below w.heap.size w w') : Pt w0 w' g r m va l := by
  obtain ⟨h1, h2, h3, h4, h5⟩ := t
  exact ⟨h1.keep hB, own_keep h2 hB, h3, h4, below_call h5 h5.size hB⟩
theorem Pt.alloc (t : Pt w0 w g r m va l) (hK : Keeps [] w w') : Pt w0 w' g r m va l := by
  obtain ⟨h1, h2, h3, h4, h5⟩ := t
  exact ⟨h1.keeps hK (by simp) (by simp), own_keeps h2 hK (by simp), h3, h4, h5.trans (hK.below h5.size (by simp))⟩
theorem Pt.lt (t : Pt w0 w g r m va l) : g < w.heap.size ∧ w0.heap.size ≤ w.heap.size ∧ r ≠ some w.heap.size ∧ va.ownBlock ≠ some w.heap.size := by
  obtain ⟨h1, h2, h3, h4, h5⟩ := t
  exact ⟨h1.lt.2, h5.size, fun e => by have := (h1.row _ e).2; omega, fun e => by have := (h2.lt _ e).2; omega⟩
theorem Pt.fresh {x : Nat} (t : Pt w0 w g r m va l) (hK : Keeps [x] w w') (hx : g < x ∧ w0.heap.size ≤ x ∧ r ≠ some x ∧ va.ownBlock ≠ some x) : Pt w0 w' g r m va l := by
  obtain ⟨h1, h2, h3, h4, h5⟩ := t
  exact ⟨h1.keeps hK (by simp; omega) (fun k hk => by simp; intro e; exact hx.2.2.1 (by rw [hk, e])), own_keeps h2 hK (fun k _ hk => by simp; intro e; exact hx.2.2.2 (by rw [hk, e])), h3, h4, h5.trans (hK.below h5.size (by simp; omega))⟩
theorem Pt.sl (t : Pt w0 w g r m va l) : Sl w va (bv l) := Sl.of_own t.2.1

set_option maxRecDepth 100000 in
set_option maxHeartbeats 4000000 in
theorem core (A : Option Addr) (n c : Nat) (vs : List Value) (ls : List (List Nat)) (W : World) (hs : Sl W (.slice A n c) vs) (hv : vs.length = ls.length) (hn : n = ls.length) (hrow : ∀ (i : Nat) (l : List Nat), ls[i]? = some l → ∃ u, vs[i]? = some u ∧ Sl W u (bv l) ∧ (∀ b ∈ l, b < 256) ∧ l.length ≤ 140737488351232) :
    Calls Try.prog 7 #[.slice A n c] W fun e w' => e = .returned (.bool true) ∧ Below W.heap.size W w' := by
  have hal := Lib.hid (fun w => alive_any w)
  have Hs := Lib.hid hs
  have hnI : (n : Int) ≤ 9223372036854775807 := by have := hs.cap; unfold maxLen at this; omega
  have Hn := Lib.hid hn
  have Hv := Lib.hid hv
  have Hrow := Lib.hid hrow
  have hlb : ∀ l ∈ ls, l.length ≤ 140737488351232 := fun l hl => by
    obtain ⟨i, hi⟩ := List.getElem?_of_mem hl
    obtain ⟨u, -, -, -, h⟩ := hrow i l hi
    exact h
  have hbb : ∀ l ∈ ls, Byt l := fun l hl => by
    obtain ⟨i, hi⟩ := List.getElem?_of_mem hl
    obtain ⟨u, -, -, h, -⟩ := hrow i l hi
    exact h
  have Hlb := Lib.hid hlb
  have Hbb := Lib.hid hbb
  -- row k of the argument, in a world behind W
  have hget : Hid (∀ (k : Nat), k < n → ∃ (ga oa : Nat) (Au : Option Addr) (nl cu : Nat) (l : List Nat), A = some ⟨ga, oa, none⟩ ∧ (∀ w, Below W.heap.size W w → w.cell? ⟨ga, oa + k, none⟩ = some (.slice Au nl cu)) ∧ (∀ w, Below W.heap.size W w → Sl w (.slice Au nl cu) (bv l)) ∧ nl = l.length ∧ ls[k]? = some l ∧ (nl : Int) ≤ 140737488351232 ∧ (∀ a, Au = some a → 0 < nl → a.block < W.heap.size)) := fun k hk => by
    obtain ⟨l, hl⟩ := get_lt (l := ls) (k := k) (by rw [← Hn.out]; exact hk)
    obtain ⟨u, hu, hsl, hby, hle⟩ := hrow k l hl
    obtain ⟨ga, oa, hA, hc⟩ := hs.at_ hu
    obtain ⟨Au, cu, rfl, -⟩ := id hsl
    refine ⟨ga, oa, Au, (bv l).length, cu, l, hA, fun w hB => ?_, fun w hB => hsl.keep hB, by simp, hl, by simp; omega, fun a ha hp => ?_⟩
    · rw [(bcell hB).1 _ _ (cell_lt hc)]; exact hc
    · subst ha
      exact Sl.lt hsl hp rfl
  clear hs hn hv hrow hlb hbb
  by_cases hbig : (30 : Int) < (n : Int)
  · go_enter Try.func7, Try.ntmps7
    go_wp2_with fail
    refine (hal.out _).mono ?_
    rintro e w1 ⟨rfl, hB1⟩
    go_wp2
    go_loopw [3, 17] (fun s i wr => ∃ (k : Nat) (x : Int), (k : Int) ≤ n ∧ i = .int .i64 (k : Int) ∧ s = .int .i64 x ∧ Below W.heap.size W wr) (fun _ i _ => n - (intOf i).toNat)
    case atStart => exact ⟨0, 0, by omega, rfl, rfl, hB1⟩
    case round =>
      clear hB1
      obtain ⟨k, x, hk, rfl, rfl, hB⟩ := hrel
      by_cases hlt : (k : Int) < n
      · obtain ⟨ga, oa, Au, nl, cu, l, rfl, hc, -, -, -, hnl, -⟩ := hget.out k (by omega)
        have hc1 := hc wr hB
        clear hc
        go_wp2
        go_roundw
        case rel => exact ⟨k + 1, _, by omega, by go_num, rfl, hB⟩
        case measure => simp [intOf]; omega
      · by_cases hx : 600 < x
        · go_wp2
          go_ret
          exact ⟨rfl, hB⟩
        · go_wp2
          go_ret
          exact ⟨rfl, hB⟩
  · have hsum : Hid (∀ k l, ls[k]? = some l → (cat ls (k + 1)).length = (cat ls k).length + l.length) := fun k l h => by rw [cat_succ h, List.length_append]
    have hbd : Hid (∀ k : Nat, (k : Int) ≤ 31 → ((cat ls k).length : Int) ≤ 4362862138888192) := fun k hk => by have := cat_bound Hlb.out k; omega
    go_enter Try.func7, Try.ntmps7
    go_wp2_with fail
    refine (hal.out _).mono ?_
    rintro e w1 ⟨rfl, hB1⟩
    go_wp2
    go_loopw [3, 17] (fun s i wr => ∃ (k x : Nat), (k : Int) ≤ n ∧ i = .int .i64 (k : Int) ∧ s = .int .i64 (x : Int) ∧ Hid (x = (cat ls k).length) ∧ Below W.heap.size W wr) (fun _ i _ => n - (intOf i).toNat)
    case atStart => exact ⟨0, 0, by omega, rfl, rfl, rfl, hB1⟩
    case round =>
      clear hB1
      obtain ⟨k, x, hk, rfl, rfl, hx, hB⟩ := hrel
      by_cases hlt : (k : Int) < n
      · obtain ⟨ga, oa, Au, nl, cu, l, rfl, hc, -, hnl2, hlk, hnl, -⟩ := hget.out k (by omega)
        have hc1 := hc wr hB
        have hxb : (x : Int) ≤ 4362862138888192 := by rw [hx.out]; exact hbd.out k (by omega)
        have hx2 : Hid (x + nl = (cat ls (k + 1)).length) := by show _ = _; rw [hsum.out k l hlk, hx.out, hnl2]
        clear hc hlk hnl2 hx
        go_wp2
        go_roundw
        case rel => exact ⟨k + 1, x + nl, by omega, by go_num, by go_num, hx2, hB⟩
        case measure => simp [intOf]; omega
      · obtain rfl : n = k := by omega
        by_cases h6 : (600 : Int) < (x : Int)
        · go_wp2
          go_ret
          exact ⟨rfl, hB⟩
        · have hle : Hid (∀ j, (cat ls j).length ≤ 600) := fun j => by have := cat_le ls j; have := hx.out; rw [Hn.out] at this; omega
          clear hx
          have hmd := Lib.hid (fun w => made_any w)
          have hnw := Lib.hid (fun w => new_any w)
          have hcb : Hid (∀ k, Byt (cat ls k)) := fun k => cat_byt Hbb.out k
          have hwr := Lib.hid (fun k b B g v r w h a (bb : Byt b) (hb : (b.length : Int) ≤ 600) d => write_any (cat ls k) b B g v r w h a (hcb.out k) bb (by have := hle.out k; omega) d)
          have hsm := Lib.hid (fun k B g r w h => sum_any (cat ls k) B g r w h (hcb.out k) (by have := hle.out k; omega))
          have hwi := Lib.hid (fun k vH vK v w a b c => with_any vH vK v (cat ls k) w a b c (hcb.out k) (by have := hle.out k; omega))
          have hcs : Hid (∀ k l, ls[k]? = some l → cat ls (k + 1) = cat ls k ++ l ∧ Byt l) := fun k l h => ⟨cat_succ h, Hbb.out l (List.mem_of_getElem? h)⟩
          have hc0 : Hid (cat ls 0 = []) := rfl
          have hle1 : Hid (∀ k, ((cat ls k).length : Int) ≤ 600) := fun k => by have := hle.out k; omega
          have hol := Lib.hid (fun k => show (shaL (cat ls k)).length = 32 from outL_length _)
          clear hsum hbd hal Hlb Hrow Hv
          generalize cat ls = C at *
          go_wp2_with fail
          refine (hmd.out _).mono ?_
          rintro e w2 ⟨vH, vK, rfl, sH, sK, hB2⟩
          obtain ⟨AH, cH, hvH, -⟩ := id sH
          obtain ⟨AK, cK, hvK, -⟩ := id sK
          have hB2' := below_call hB hB.size hB2
          have SH := Lib.hid sH
          have SK := Lib.hid sK
          have hones : Hid (Ones [vH, vK]) := by
            show Ones _
            intro v hv
            simp only [List.mem_cons, List.not_mem_nil, or_false] at hv
            rcases hv with rfl | rfl
            · rw [hvH]; rfl
            · rw [hvK]; rfl
          clear sH sK hvH hvK hB hB2 hmd
          go_wp2_with (refine wpList_allocA rfl 43 rfl [.slice none 0 0, .slice none 0 0] (by kernel_rfl) ?_)
          intro w3 h3 hK3 hz3
          have hB3 := hB2'.trans (hK3.below hB2'.size (by simp))
          have hb3 := hK3.below (B := w2.heap.size) (Nat.le_refl _) (by simp)
          have hgc : W.heap.size ≤ w2.heap.size := hB2'.size
          go_wp2_with (refine wpList_storeW rfl 43 (.tmp 6) (.tmp 33) rfl 2 arrC w2.heap.size rfl [vH, vK] rfl 43 _ h3 rfl rfl hones.out ?_)
          intro w4 h4 hK4
          have hB4 := hB3.trans (hK4.below hB3.size (by simp; omega))
          have hb4 := hb3.trans (hK4.below hb3.size (by simp))
          have sH4 := Lib.hid (SH.out.keep hb4)
          have sK4 := Lib.hid (SK.out.keep hb4)
          have hgc4 := h4.lt
          clear hK3 hz3 h3 hB3 hb3 hK4 hb4 SH SK hB2' hones
          generalize w2.heap.size = gc at *
          go_wp2_with fail
          refine (hnw.out _).mono ?_
          rintro e w5 ⟨g, rfl, hh5, hB5⟩
          have hP : Pt w4 w5 g none (C 0) (.slice none 0 0) (C 0) := by
            rw [hc0.out]
            exact ⟨hh5, World.ownsRow_nil w5 w4.heap.size 5 1, by simp [Value.ownBlock], by simp [Value.ownBlock], hB5⟩
          clear hh5 hB5 hnw
          go_wp2
          go_loopw [8, 37] (fun va i wr => ∃ (k : Nat) (r : Option Nat), (k : Int) ≤ n ∧ i = .int .i64 (k : Int) ∧ Pt w4 wr g r (C k) va (C k)) (fun _ i _ => n - (intOf i).toNat)
          case atStart => exact ⟨0, none, by omega, rfl, hP⟩
          case round =>
            clear hP
            obtain ⟨k, r, hk, rfl, hP⟩ := hrel
            by_cases hlt : (k : Int) < n
            · obtain ⟨ga, oa, Au, nl, cu, l, rfl, hc, hslu, hnl2, hlk, hnl, hAu⟩ := hget.out k (by omega)
              obtain ⟨hcat, bl⟩ := hcs.out k l hlk
              have hl6 : (l.length : Int) ≤ 600 := by have := hle1.out (k + 1); rw [hcat, List.length_append] at this; omega
              have hBW := hB4.trans (hP.2.2.2.2.mono (by have := hB4.size; omega))
              have hc1 := hc wr hBW
              have hwr1 := Lib.hid (hwr.out k l w4.heap.size g _ r wr hP.1 (hslu wr hBW) bl hl6 (fun hp a n' c' e => by
                have e1 : Au = some a := by injection e
                have h1 := hAu a e1 (by omega)
                have h2 := hP.1.lt
                have h3 := hB4.size
                exact ⟨by omega, fun e => by have := (hP.1.row _ e).1; omega⟩))
              have Hcat := Lib.hid hcat
              have hPr := Lib.hid (fun e w' x => hP.write (w' := w') (e := e) (m' := C k ++ l) x)
              clear hc hlk hAu hnl2 hcat hBW hP
              go_wp2_with fail
              refine hwr1.out.mono ?_
              rintro e w6 x6
              obtain ⟨rfl, q, hP6⟩ := hPr.out _ _ x6
              rw [← Hcat.out] at hP6
              have hBW6 := hB4.trans (hP6.2.2.2.2.mono (by have := hB4.size; omega))
              have hsl6 := hslu w6 hBW6
              obtain ⟨i0, hi, hz0, hz1, hz2⟩ := info_parts (P := Try.prog) (e := 5) (z := .int .u8 0) (size := 1) (bytes := 1) (by kernel_rfl)
              clear x6 hwr1 hPr hc1 hslu
              go_wp2_with (at_builtin; refine wpList_append_sl2 rfl (.tmp 45) (.tmp 46) 22 rfl w4.heap.size 5 i0 (.int .u8 0) 1 Try.underlying22 hi hz0 hz1 hz2 rfl _ (C k).length (bv (C k)) rfl hP6.2.1 _ (bv l) rfl hsl6 (bv_oneCell l) ?_ ?_ ?_ ?_)
              · have := hle.out k; simp [maxLen]; omega
              · have := hle.out k; simp; omega
              · exact hP6.2.2.2.2.size
              intro v7 w7 own7 gr7 mv7
              rw [← bv_app, ← List.length_append] at own7
              have hP7 := hP6.append own7 gr7 mv7
              rw [← Hcat.out] at hP7
              have hsm7 := Lib.hid (hsm.out (k + 1) _ _ _ w7 hP7.1)
              clear hP6 own7 gr7 mv7 hsl6 hBW6 hi hz0 hz1 hz2
              have hOl := Lib.hid (show (bv (shaL (C (k + 1)))).length = 32 by rw [bv_length]; exact hol.out _)
              have hO1 := Lib.hid (hol.out (k + 1))
              have hwi7 := Lib.hid (hwi.out (k + 1) vH vK v7)
              go_wp2_with fail
              refine hsm7.out.mono ?_
              rintro e w8 ⟨rfl, hB8⟩
              have hP8 := hP7.keep hB8
              clear hP7 hB8 hsm7
              generalize shaL (C (k + 1)) = O at *
              go_wp2_with (refine wpList_allocA rfl 24 rfl (bv (zeros 32)) (by kernel_rfl) ?_)
              intro w9 h9 hK9 hz9
              have hP9 := hP8.alloc hK9
              have hlt8 := hP8.lt
              clear hP8 hK9 hz9
              generalize w8.heap.size = gx at *
              go_wp2_with (refine wpList_storeW rfl 24 (.tmp 11) (.tmp 51) rfl 32 arrH gx rfl (bv O) rfl 24 _ h9 hOl.out (by simp) (ones_bv _) ?_)
              intro w10 hx5 hK10
              have hP10 := hP9.fresh hK10 ⟨hlt8.1, hlt8.2.1, hlt8.2.2.1, hlt8.2.2.2⟩
              have sH5 := Lib.hid (sH4.out.keep hP10.2.2.2.2)
              have sK5 := Lib.hid (sK4.out.keep hP10.2.2.2.2)
              have hcc := h4.below hP10.2.2.2.2 hgc4
              obtain ⟨A8, c8, hv8, -⟩ := own_shape hP10.2.1
              subst hv8
              have sl5 := Lib.hid hP10.sl
              have hh5 := hP10.1
              have hlen := Lib.hid (fun w h => len_any (C (k + 1)) w4.heap.size g q w h)
              replace hP10 := Lib.hid hP10
              have hw := Lib.hid (fun w a b c => hwi7.out w a b c)
              clear hwi7 hP9 hK10 h9 hlt8
              generalize (C (k + 1)).length = N8 at *
              go_wp2
              refine wp_region_held_drew (S := fun w' => Below w10.heap.size w10 w') (by kernel_rfl) ((Below.refl _ _).drew) (fun hH => ?_)
              refine takeH_move (o := ⟨some 53, _, _, _, _, _⟩) (i := 0) rfl (by kernel_rfl) (by kernel_rfl) (by kernel_rfl) (fun _ _ _ _ h => h) rfl (.tmp 12) rfl (.int .i64 0) rfl hH ?_
              simp only [Act.put, List.setIfInBounds_toArray, List.set_cons_zero, List.set_cons_succ, Nat.zero_add, decide_true, beq_self_eq_true]
              refine takeH_S (o := ⟨some 54, _, _, _, _, _⟩) (i := 1) rfl (by kernel_rfl) (by kernel_rfl) (by kernel_rfl) (fun _ _ _ _ h => h) rfl (.bool false) (fun w _ => by go_simp) hH ?_
              simp only [Act.put, List.setIfInBounds_toArray, List.set_cons_zero, List.set_cons_succ, Nat.zero_add, decide_true, beq_self_eq_true]
              refine takeH_move (o := ⟨some 55, _, _, _, _, _⟩) (i := 2) rfl (by kernel_rfl) (by kernel_rfl) (by kernel_rfl) (fun _ _ _ _ h => h) rfl (.tmp 54) rfl (.bool false) rfl hH ?_
              simp only [Act.put, List.setIfInBounds_toArray, List.set_cons_zero, List.set_cons_succ, Nat.zero_add, decide_true, beq_self_eq_true]
              refine takeH_load (o := ⟨some 56, _, _, _, _, _⟩) (i := 3) rfl (by kernel_rfl) (by kernel_rfl) (by kernel_rfl) (fun _ _ _ _ h => h) rfl 24 (.tmp 11) rfl 32 arrH gx 0 rfl (bv O) hOl.out (fun w h => hSS (hx5.keep h) hOl.out) hH ?_
              simp only [Act.put, List.setIfInBounds_toArray, List.set_cons_zero, List.set_cons_succ, Nat.zero_add, decide_true, beq_self_eq_true]
              refine takeH_load (o := ⟨some 57, _, _, _, _, _⟩) (i := 4) rfl (by kernel_rfl) (by kernel_rfl) (by kernel_rfl) (fun _ _ _ _ h => h) rfl 43 (.tmp 6) rfl 2 arrC gc 0 rfl [vH, vK] rfl (fun w h => hSS (hcc.keep h) rfl) hH ?_
              simp only [Act.put, List.setIfInBounds_toArray, List.set_cons_zero, List.set_cons_succ, Nat.zero_add, decide_true, beq_self_eq_true]
              refine takeH_move (o := ⟨some 58, _, _, _, _, _⟩) (i := 5) rfl (by kernel_rfl) (by kernel_rfl) (by kernel_rfl) (fun _ _ _ _ h => h) rfl (.tmp 8) rfl (.slice A8 N8 c8) rfl hH ?_
              simp only [Act.put, List.setIfInBounds_toArray, List.set_cons_zero, List.set_cons_succ, Nat.zero_add, decide_true, beq_self_eq_true]
              refine wpAnyH_ready (rs := [6]) (by kernel_rfl) (by simp) ?_
              refine AllReadyH.cons rfl (fun K1 hK1 => ?_) AllReadyH.nil
              rw [if_pos (by rfl)]
              go_wp2_with fail
              refine (hw.out _ (sH5.out.keep hH) (sK5.out.keep hH) (sl5.out.keep hH)).mono ?_
              rintro e wa ⟨rfl, hBa⟩
              refine hK1.out _ _ (below_call hH hH.size hBa) (fun hH => ?_)
              clear hK1 K1
              refine takeH_neqT (o := ⟨some 60, _, _, _, _, _⟩) (i := 7) rfl (by kernel_rfl) (by kernel_rfl) (by kernel_rfl) (fun _ _ _ _ h => h) rfl 24 (.tmp 56) (.tmp 59) 24 rfl 32 bytH O rfl rfl hO1.out hH ?_
              simp only [Act.put, List.setIfInBounds_toArray, List.set_cons_zero, List.set_cons_succ, Nat.zero_add, decide_true, beq_self_eq_true]
              refine takeH_pick (o := ⟨some 61, _, _, _, _, _⟩) (i := 8) rfl (by kernel_rfl) (by kernel_rfl) (by kernel_rfl) (fun _ _ _ _ h => h) rfl (.tmp 55) (.const (.bool true)) (.tmp 60) rfl false rfl (.bool false) rfl hH ?_
              simp only [Act.put, List.setIfInBounds_toArray, List.set_cons_zero, List.set_cons_succ, Nat.zero_add, decide_true, beq_self_eq_true]
              refine takeH_move (o := ⟨some 62, _, _, _, _, _⟩) (i := 9) rfl (by kernel_rfl) (by kernel_rfl) (by kernel_rfl) (fun _ _ _ _ h => h) rfl (.tmp 61) rfl (.bool false) rfl hH ?_
              simp only [Act.put, List.setIfInBounds_toArray, List.set_cons_zero, List.set_cons_succ, Nat.zero_add, decide_true, beq_self_eq_true]
              refine takeH_move (o := ⟨some 63, _, _, _, _, _⟩) (i := 10) rfl (by kernel_rfl) (by kernel_rfl) (by kernel_rfl) (fun _ _ _ _ h => h) rfl (.tmp 7) rfl (.pointer (some ⟨g, 0, none⟩)) rfl hH ?_
              simp only [Act.put, List.setIfInBounds_toArray, List.set_cons_zero, List.set_cons_succ, Nat.zero_add, decide_true, beq_self_eq_true]
              refine takeH_move (o := ⟨some 65, _, _, _, _, _⟩) (i := 12) rfl (by kernel_rfl) (by kernel_rfl) (by kernel_rfl) (fun _ _ _ _ h => h) rfl (.tmp 8) rfl (.slice A8 N8 c8) rfl hH ?_
              simp only [Act.put, List.setIfInBounds_toArray, List.set_cons_zero, List.set_cons_succ, Nat.zero_add, decide_true, beq_self_eq_true]
              refine takeH_len (o := ⟨some 66, _, _, _, _, _⟩) (i := 13) rfl (by kernel_rfl) (by kernel_rfl) (by kernel_rfl) (fun _ _ _ _ h => h) rfl 22 5 (.tmp 65) rfl Try.underlying22 _ _ _ rfl hH ?_
              simp only [Act.put, List.setIfInBounds_toArray, List.set_cons_zero, List.set_cons_succ, Nat.zero_add, decide_true, beq_self_eq_true]
              refine wpAnyH_ready (rs := [11]) (by kernel_rfl) (by simp) ?_
              refine AllReadyH.cons rfl (fun K1 hK1 => ?_) AllReadyH.nil
              rw [if_pos (by rfl)]
              go_wp2_with fail
              refine (hlen.out _ (hh5.keep hH)).mono ?_
              rintro e wa ⟨rfl, rfl⟩
              refine hK1.out _ _ hH (fun hH => ?_)
              clear hK1 K1
              refine takeH_S (o := ⟨some 67, _, _, _, _, _⟩) (i := 14) rfl (by kernel_rfl) (by kernel_rfl) (by kernel_rfl) (fun _ _ _ _ h => h) rfl (.bool false) (fun w _ => by go_simp) hH ?_
              simp only [Act.put, List.setIfInBounds_toArray, List.set_cons_zero, List.set_cons_succ, Nat.zero_add, decide_true, beq_self_eq_true]
              refine takeH_pick (o := ⟨some 68, _, _, _, _, _⟩) (i := 15) rfl (by kernel_rfl) (by kernel_rfl) (by kernel_rfl) (fun _ _ _ _ h => h) rfl (.tmp 62) (.const (.bool true)) (.tmp 67) rfl false rfl (.bool false) rfl hH ?_
              simp only [Act.put, List.setIfInBounds_toArray, List.set_cons_zero, List.set_cons_succ, Nat.zero_add, decide_true, beq_self_eq_true]
              refine wpAnyH_done (by kernel_rfl) ?_ _
              have hP11 := hP10.out.keep hH
              clear hP10 hH hx5 hcc hh5
              go_wp2
              go_roundw
              case rel => exact ⟨k + 1, q, by omega, by go_num, hP11⟩
              case measure => simp [intOf]; omega
            · obtain rfl : k = n := by omega
              go_wp2
              go_ret
              exact ⟨rfl, hB4.trans (hP.2.2.2.2.mono (by have := hB4.size; omega))⟩
theorem walk (v : Value) (vs : List Value) (ls : List (List Nat)) (W : World) (hs : Sl W v vs) (hv : vs.length = ls.length) (hrow : ∀ (i : Nat) (l : List Nat), ls[i]? = some l → ∃ u, vs[i]? = some u ∧ Sl W u (bv l) ∧ (∀ b ∈ l, b < 256) ∧ l.length ≤ 140737488351232) :
    Calls Try.prog 7 #[v] W fun e w' => e = .returned (.bool true) ∧ Below W.heap.size W w' := by
  obtain ⟨A, c, rfl, -⟩ := id hs
  exact core A _ c vs ls W hs hv hv hrow
end Go.Proofs.Ytenpehhmomhooaa.w_ShaParts
