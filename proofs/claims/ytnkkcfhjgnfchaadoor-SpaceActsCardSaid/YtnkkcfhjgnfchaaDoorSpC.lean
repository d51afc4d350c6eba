/- Contracts of package space: Set, Taken. -/
import Derived.Test.YtnkkcfhjgnfchaaDoorSpB
import Derived.Lib.SliceRun
import Derived.Laws.AppendOwnNone
set_option linter.unusedVariables false
set_option linter.unusedSimpArgs false
namespace Go.Proofs.YtnkkcfhjgnfchaaDoor
open Go.RowKit
open Go.Proofs.PlainSpace

/-! ### Many cells laid at once -/
def puts : List Value → Nat → List Value → List Value
  | cs, _, [] => cs
  | cs, o, v :: r => puts (cs.set o v) (o + 1) r
theorem Blk.setCells {g : Nat} {t : TypeId} : ∀ (vs : List Value) (o : Nat) (w : World) (cs : List Value), Blk w g t cs → Blk (w.setCells g o vs) g t (puts cs o vs)
  | [], _, _, _, h => h
  | v :: r, o, w, cs, h => Blk.setCells r (o + 1) _ _ (h.set_ o v)
theorem Blk.farCells {g g' : Nat} {t : TypeId} (hne : g' ≠ g) : ∀ (vs : List Value) (o : Nat) (w : World) (cs : List Value), Blk w g' t cs → Blk (w.setCells g o vs) g' t cs
  | [], _, _, _, h => h
  | v :: r, o, w, cs, h => Blk.farCells hne r (o + 1) _ _ (h.far (p := ⟨g, o, none⟩) hne v)
theorem Keeps.setCells {G : List Nat} {g : Nat} (hg : g ∈ G) : ∀ (vs : List Value) (o : Nat) (a w : World), Keeps G a w → Keeps G a (w.setCells g o vs)
  | [], _, _, _, h => h
  | v :: r, o, a, w, h => Keeps.setCells hg r (o + 1) a _ (h.setCell (p := ⟨g, o, none⟩) hg v)
theorem puts_all : ∀ (vs pre cs : List Value), cs.length = vs.length → puts (pre ++ cs) pre.length vs = pre ++ vs
  | [], pre, cs, h => by
    have : cs = [] := List.eq_nil_of_length_eq_zero (by simpa using h)
    subst this; rfl
  | v :: r, pre, [], h => by simp at h
  | v :: r, pre, c :: cs, h => by
    unfold puts
    have e : (pre ++ c :: cs).set pre.length v = (pre ++ [v]) ++ cs := by simp
    rw [e, show pre.length + 1 = (pre ++ [v]).length from by simp, puts_all r (pre ++ [v]) cs (by simpa using h)]
    simp
theorem puts_zero (vs cs : List Value) (h : cs.length = vs.length) : puts cs 0 vs = vs := puts_all vs [] cs h

theorem zero51 (w : World) : (zeroValue 51).run Tryd.prog w = .ok (.int .u64 0) w := by kernel_rfl

/-- What Set answers, and what is left. -/
def setE (S : List Bool) (l : List Nat) : Int := if ∀ a ∈ l, isA S a then 0 else 2
def marks (S : List Bool) (l : List Nat) : List Bool := l.foldl markS S
def setS (S : List Bool) (l : List Nat) : List Bool := if ∀ a ∈ l, isA S a then marks (List.replicate S.length false) l else S
theorem markS_length (S : List Bool) (a : Nat) : (markS S a).length = S.length := by unfold markS; split <;> simp
theorem take_snoc {α : Type} (l : List α) (k : Nat) (h : k < l.length) : l.take (k + 1) = l.take k ++ [l[k]] := by rw [List.take_add_one, List.getElem?_eq_getElem h]; rfl
theorem take_marks (S : List Bool) (l : List Nat) (k : Nat) (h : k < l.length) : marks S (l.take (k + 1)) = markS (marks S (l.take k)) l[k] := by
  unfold marks
  rw [take_snoc l k h, List.foldl_append]; rfl

set_option maxHeartbeats 1000000 in
theorem set_core (g h : Nat) (S : List Bool) (A : Option Addr) (c : Nat) (l : List Nat) (w : World) (hs : Spc w g h S)
    (h3 : 0 < (uv l).length → ∃ b o, A = some ⟨b, o, none⟩ ∧ b ≠ g ∧ b ≠ h ∧ ∀ i u, (uv l)[i]? = some u → w.cell? ⟨b, o + i, none⟩ = some u) (hl : ∀ a ∈ l, a < 4294967296) (hlen : l.length ≤ 140737488351232)
    (E : Int) (T : List Bool) (hyes : Hid ((∀ a ∈ l, isA S a) → E = 0 ∧ T = marks (List.replicate S.length false) l)) (hno : Hid (¬ (∀ a ∈ l, isA S a) → E = 2 ∧ T = S)) :
    Calls Tryd.prog 19 #[pt g, .slice A l.length c] w fun e w' => e = .returned (.int .i64 E) ∧ Spc w' g h T ∧ Keeps [g, h] w w' := by
  have hlI : (l.length : Int) ≤ 140737488351232 := by omega
  have hmark := Lib.hid (fun (T : List Bool) (a : Nat) W (h1 : Spc W g h T) (h2 : a < 4294967296) => mark_any g h T a W h1 h2)
  have his := Lib.hid (fun (a : Nat) (h2 : a < 4294967296) => is_any g h S a w hs h2)
  obtain ⟨ws, b1, b2, hgh, hr, ho⟩ := id hs
  have hwp : 0 < ws.length := by have := hr.1; have := ho.1; omega
  have c1 := b1.cell 1
  have c2 := b1.cell 2
  have f2 := b1.frozen 2
  simp only [List.getElem?_cons_succ, List.getElem?_cons_zero] at c1 c2
  have hcl : ∀ ty, (Builtin.clear_ #[56] ty #[.slice (some ⟨h, 0, none⟩) ws.length ws.length]).run Tryd.prog w = .ok (.tuple #[]) (w.setCells h 0 (List.replicate ws.length (.int .u64 0))) :=
    fun ty => Lib.run_clear_slice w 56 51 ty (.int .u64 0) Tryd.underlying56 zero51 rfl rfl h 0 ws.length ws.length hwp
      (fun j hj => by rw [Nat.zero_add, b2.cell, wv_get, List.getElem?_eq_getElem hj]; rfl) (fun j hj => by rw [b2.frozen])
  have b1' := Blk.farCells (fun e => hgh e) (List.replicate ws.length (.int .u64 0)) 0 w _ b1
  have c2' := b1'.cell 2
  have c1' := b1'.cell 1
  have f2' := b1'.frozen 2
  simp only [List.getElem?_cons_succ, List.getElem?_cons_zero] at c1' c2'
  have hsp : Spc ((w.setCells h 0 (List.replicate ws.length (.int .u64 0))).setCell ⟨g, 2, none⟩ (.int .i64 0)) g h (List.replicate S.length false) := by
    refine ⟨List.replicate ws.length 0, ?_, ?_, hgh, ?_, Ok.new ho.1 ho.2.1⟩
    · have := b1'.set_ 2 (.int .i64 0)
      simpa [cnt_new] using this
    · have := (Blk.setCells (List.replicate ws.length (.int .u64 0)) 0 w _ b2).far (p := ⟨g, 2, none⟩) (fun e => hgh e.symm) (.int .i64 0)
      rw [puts_zero _ _ (by simp)] at this
      simpa [wv] using this
    · rw [hr.1]; exact Rep.new _
  have hkp : Keeps [g, h] w ((w.setCells h 0 (List.replicate ws.length (.int .u64 0))).setCell ⟨g, 2, none⟩ (.int .i64 0)) :=
    (Keeps.setCells (by simp) _ _ _ _ (Keeps.refl _ w)).setCell (by simp) _
  have HS := Lib.hid hs
  have HSP := Lib.hid hsp
  have HKP := Lib.hid hkp
  clear b1 b2 hr ho hs b1' hsp hkp
  generalize List.replicate ws.length (Value.int .u64 0) = zs at *
  go_enter Tryd.func19, Tryd.ntmps19
  go_wp2
  go_loop [14] (fun i => ∃ (k : Nat), k ≤ l.length ∧ i = .int .i64 (k : Int) ∧ Hid (∀ a ∈ l.take k, isA S a)) (fun i => l.length - (intOf i).toNat)
  case atStart => exact ⟨0, Nat.zero_le _, rfl, fun a ha => by simp at ha⟩
  case round =>
    obtain ⟨k, hk, rfl, hF⟩ := hrel
    by_cases hlt : k < l.length
    · obtain ⟨b, o, rfl, hb1, hb2, hc⟩ := h3 (by simp; omega)
      have hc' := hc k (.int .u32 ((l[k] : Nat) : Int)) (by rw [uv_get, List.getElem?_eq_getElem hlt]; rfl)
      have hb := hl l[k] (List.getElem_mem hlt)
      have hall : Hid (isA S l[k] → ∀ a ∈ l.take (k + 1), isA S a) := fun hx a ha => by
        rw [take_snoc l k hlt] at ha
        rcases List.mem_append.1 ha with h' | h'
        · exact hF.out a h'
        · simp at h'; rw [h']; exact hx
      have hnot : Hid (¬ isA S l[k] → ¬ ∀ a ∈ l, isA S a) := fun hx hA => hx (hA _ (List.getElem_mem hlt))
      have HC := Lib.hid hc
      have hi := Lib.hid (his.out _ hb)
      clear hc h3 hl
      generalize l[k] = a at *
      by_cases hA : isA S a
      · have he : isE S a = 0 := if_pos hA
        rw [he] at hi
        go_wp2_with fail
        refine hi.out.mono ?_
        rintro e w1 ⟨rfl, rfl⟩
        go_wp2
        go_round
        case rel => exact ⟨k + 1, by omega, by simp, hall.out hA⟩
        case measure => simp [intOf]; omega
      · have he : isE S a = 2 := if_neg hA
        rw [he] at hi
        have hn := hnot.out hA
        obtain ⟨rfl, rfl⟩ := hno.out hn
        clear hn
        go_wp2_with fail
        refine hi.out.mono ?_
        rintro e w1 ⟨rfl, rfl⟩
        go_wp2
        go_ret
        exact ⟨rfl, HS.out, Keeps.refl _ _⟩
    · obtain rfl : k = l.length := by omega
      have hA := hF.out
      rw [List.take_length] at hA
      obtain ⟨rfl, rfl⟩ := hyes.out hA
      clear hA
      go_wp2_with (simp only [hcl])
      go_loopw [34] (fun i wr => ∃ (k : Nat), k ≤ l.length ∧ i = .int .i64 (k : Int) ∧ Spc wr g h (marks (List.replicate S.length false) (l.take k)) ∧ Keeps [g, h] w wr) (fun i _ => l.length - (intOf i).toNat)
      case atStart => exact ⟨0, Nat.zero_le _, rfl, HSP.out, HKP.out⟩
      case round =>
        obtain ⟨k, hk, rfl, hS, hK⟩ := hrel
        by_cases hlt : k < l.length
        · obtain ⟨b, o, rfl, hb1, hb2, hc⟩ := h3 (by simp; omega)
          have hc' := hc k (.int .u32 ((l[k] : Nat) : Int)) (by rw [uv_get, List.getElem?_eq_getElem hlt]; rfl)
          have hbk := hK.block b (cell_lt hc') (by simp [hb1, hb2])
          have hc2 : wr.cell? ⟨b, o + k, none⟩ = some (.int .u32 ((l[k] : Nat) : Int)) := by
            rw [← hc']; simp [World.cell?, hbk]
          have hb := hl l[k] (List.getElem_mem hlt)
          have hm := Lib.hid (hmark.out _ _ _ hS hb)
          have hst := Lib.hid (take_marks (List.replicate S.length false) l k hlt)
          clear hc h3 hl hc' hbk
          generalize l[k] = a at *
          go_wp2_with fail
          refine hm.out.mono ?_
          rintro e w2 ⟨rfl, hS2, hK2⟩
          go_wp2
          go_roundw
          case rel => exact ⟨k + 1, by omega, by simp, by rw [hst.out]; exact hS2, hK.trans hK2⟩
          case measure => simp [intOf]; omega
        · obtain rfl : k = l.length := by omega
          rw [List.take_length] at hS
          go_wp2
          go_ret
          exact ⟨rfl, hS, hK⟩
theorem set_any (g h : Nat) (S : List Bool) (v : Value) (l : List Nat) (w : World) (hs : Spc w g h S) (hv : Sl w v (uv l)) (hap : ∀ (A : Addr) n c, v = .slice (some A) n c → A.block ≠ g ∧ A.block ≠ h)
    (hl : ∀ a ∈ l, a < 4294967296) (hlen : l.length ≤ 140737488351232) :
    Calls Tryd.prog 19 #[pt g, v] w fun e w' => e = .returned (.int .i64 (setE S l)) ∧ Spc w' g h (setS S l) ∧ Keeps [g, h] w w' := by
  obtain ⟨A, c, rfl, h1, h2, h3⟩ := hv
  rw [uv_length] at *
  refine set_core g h S A c l w hs (fun hp => ?_) hl hlen _ _ (fun hA => ⟨if_pos hA, if_pos hA⟩) (fun hA => ⟨if_neg hA, if_neg hA⟩)
  obtain ⟨b, o, rfl, hc⟩ := h3 (by simpa using hp)
  exact ⟨b, o, rfl, (hap _ _ _ rfl).1, (hap _ _ _ rfl).2, hc⟩

/-! ### Taken -/
theorem Tryd.info29 : (Tryd.prog.info? 29).map (fun i => (i.zero, i.size, i.bytes)) = some (some (.int .u32 0), 1, 4) := by kernel_rfl
/-- What a maker of address rows answers. -/
def RetU (l : List Nat) (w : World) (e : Ending) (w' : World) : Prop := ∃ v, e = .returned v ∧ Sl w' v (uv l) ∧ (∀ (A : Addr) n c, v = .slice (some A) n c → w.heap.size ≤ A.block) ∧ Below w.heap.size w w'
end Go.Proofs.YtnkkcfhjgnfchaaDoor
