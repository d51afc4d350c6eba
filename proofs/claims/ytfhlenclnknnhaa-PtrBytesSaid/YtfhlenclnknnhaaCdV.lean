/- Reading a pointer, short or not: both readers; a slice argument cloned; equality of pointers inside a drawn region. -/
import Derived.Test.YtfhlenclnknnhaaCdS
import Derived.Test.YtfhlenclnknnhaaCdT
import Derived.Test.YtfhlenclnknnhaaCdU
set_option linter.unusedVariables false
set_option linter.unusedSimpArgs false
namespace Go.Proofs.PlainPtr
/-- What reading gives: the pointer, the error, what is left. -/
def getX (l : List Nat) : PtrD := if l.length < 44 then pz else getP l
def getE (l : List Nat) : Int := if l.length < 44 then 3 else 0
def getL (l : List Nat) : List Nat := if l.length < 44 then l else l.drop 44
theorem getX_ok {l : List Nat} (hb : ∀ x ∈ l, x < 256) : PtOk (getX l) := by
  unfold getX
  split
  · exact pz_ok
  · exact getP_ok (by omega) hb
theorem getL_len (l : List Nat) : (getL l).length ≤ l.length := by
  unfold getL
  split
  · exact Nat.le_refl _
  · rw [List.length_drop]; omega
end Go.Proofs.PlainPtr
namespace Go.Proofs.Ytfhlenclnknnhaa
open Go.RowKit
open Go.Proofs.PlainPtr Go.Proofs.PlainSha
section
variable {B : Nat} {w : World} {g : Nat} {k : Option Nat} {l : List Nat}
def RetGb (B g : Nat) (k : Option Nat) (l : List Nat) (w : World) (e : Ending) (w' : World) : Prop :=
  e = .returned (.tuple #[.agg (pcl (getX l)).toArray, .int .i64 (getE l)]) ∧ Rd B w' g k (getL l) ∧ Keeps [g] w w'
theorem get_both (h : Rd B w g k l) (hlm : (l.length : Int) ≤ 1000000) (hby : ∀ x ∈ l, x < 256) : Calls Try.prog 16 #[.pointer (some ⟨g, 0, none⟩)] w (RetGb B g k l w) := by
  by_cases hs : l.length < 44
  · refine (get_short h hs).mono ?_
    rintro e w' ⟨rfl, hB⟩
    unfold RetGb getX getE getL
    rw [if_pos hs, if_pos hs, if_pos hs]
    exact ⟨rfl, h.keep hB, Keeps.of_below hB⟩
  · refine (get_any h (by omega) hlm hby).mono ?_
    rintro e w' ⟨rfl, hr, hK⟩
    unfold RetGb getX getE getL
    rw [if_neg hs, if_neg hs, if_neg hs]
    exact ⟨rfl, hr, hK⟩
def RetQb (g : Nat) (l : List Nat) (w : World) (e : Ending) (w' : World) : Prop :=
  e = .returned (.tuple #[.agg (pcl (getX l)).toArray, .int .i64 (getE l)]) ∧ (∃ A c, Blk w' g 49 [.slice A (getL l).length c]) ∧ Keeps [g] w w'
theorem qget_both {A : Option Addr} {n c : Nat} (h : Blk w g 49 [.slice A n c]) (hs : Sl w (.slice A n c) (bv l)) (hA : 0 < l.length → ∀ a, A = some a → a.block ≠ g) (hlm : (l.length : Int) ≤ 1000000) (hby : ∀ x ∈ l, x < 256) : Calls Try.prog 18 #[.pointer (some ⟨g, 0, none⟩)] w (RetQb g l w) := by
  have hn : l.length = n := by have := hs.cap.2.2; rwa [bv_length] at this
  by_cases h4 : l.length < 44
  · refine (qget_short h (by omega)).mono ?_
    rintro e w' ⟨rfl, hB⟩
    unfold RetQb getX getE getL
    rw [if_pos h4, if_pos h4, if_pos h4]
    exact ⟨rfl, ⟨A, c, by rw [hn]; exact h.keep hB⟩, Keeps.of_below hB⟩
  · obtain ⟨A', c', hv, hc1, hc2, hc3⟩ := id hs
    rw [bv_length] at hv hc1 hc3
    injection hv with e1 e2 e3
    obtain ⟨b, o, rfl, hcell⟩ := hc3 (by omega)
    subst e1
    have hlt : b < w.heap.size := cell_lt (hcell 0 _ (List.getElem?_eq_getElem (by rw [bv_length]; omega)))
    have hne := hA (by omega) _ rfl
    have hq : Rq 0 w g (some b) l := ⟨_, h, hs, rfl, by rintro e; injection e with e; exact hne e, Nat.zero_le _, fun b' e => by injection e with e; omega⟩
    refine (qget_any hq (by omega) hlm hby).mono ?_
    rintro e w' ⟨rfl, hr, hK⟩
    unfold RetQb getX getE getL
    rw [if_neg h4, if_neg h4, if_neg h4]
    exact ⟨rfl, hr.blk, hK⟩
end
theorem clone_arg (v : Value) (l : List Nat) (w : World) (hs : Sl w v (bv l)) (hv : (∃ A n c, v = .slice (some A) n c) ∨ v = .slice none 0 0) (hl : (l.length : Int) ≤ 140737488355328) :
    Calls Try.prog 36 #[v] w (RetO l w) := by
  rcases hv with ⟨A, n, c, rfl⟩ | rfl
  · exact clone_any A n c l w hs hl
  · have e : l = [] := by
      have := hs.cap.2.2
      rw [bv_length] at this
      exact List.eq_nil_of_length_eq_zero this
    subst e
    refine (clone_nil w).mono ?_
    rintro e w' ⟨rfl, rfl⟩
    exact ⟨_, rfl, World.ownsRow_nil _ _ _ _, Below.refl _ _⟩
theorem putp_nil (X : Array Value) (w : World) : Calls Try.prog 13 #[.pointer none, .agg X] w fun e w' => e = .returned (.int .i64 1) ∧ Below w.heap.size w w' := by
  have B0 : Hid (Below w.heap.size w (w.alloc (.cells X 27))) := (Below.refl _ _).alloc (Nat.le_refl _) _
  go_enter Try.func13, Try.ntmps13
  go_wp2
  go_ret
  exact ⟨rfl, B0.out⟩
section
variable {P : Program} {md : Region.Mode} {ops : Array Oper} {Q : Exit → Act → World → Prop} {S : World → Prop}
theorem takeH_eqPt {i : Nat} {o : Oper} {fuel : Nat} {listed : Array Bool} {a : Act} {w : World} (hi : ops[i]? = some o) (hs : Region.noSelect ops = true) (hf : Region.free md ops listed i = true) (hr : (Region.ready md ops listed).contains i = true)
    (hQ : ∀ c a w v, Q (.panic c) (a.put o.dst v) w → Q (.panic c) a w) (hw : Region.wanted o (yielded ops a.tmps) = true) (x y : Operand) (u : Nat) (ho : o.op = .binOp .eql 27 x y u) (p : PtrD) (hp : PtOk p) (hx : a.eval x = .agg (pcl p).toArray) (hy : a.eval y = .agg (pcl p).toArray)
    (hH : S w) (h : wpAnyH Try.prog md ops Q S fuel (listed.setIfInBounds i true) (a.put o.dst (.bool true)) w) : wpAnyH Try.prog md ops Q S (fuel + 1) listed a w :=
  takeH_S hi hs hf hr hQ hw (.bool true) (fun w _ => by
    unfold execOp
    simp only [ho, hx, hy, Sem.run_bind, run_eqGuard_agg w _ _ x y _ _ pt_guard, eql_ptr p p hp hp w, Result.andThen_ok, Sem.run_pure]
    simp) hH h
end
end Go.Proofs.Ytfhlenclnknnhaa
