/- The walk of ShaHex. -/
import Derived.Test.YtenpehhmomhooaaShL
import Derived.Test.YtenpehhmomhooaaRgx
import Derived.Test.YtenpehhmomhooaaEqH
import Derived.Laws.IdiomStrings
import Derived.Lib.SmallJoins
set_option linter.unusedVariables false
set_option linter.unusedSimpArgs false
namespace Go.Proofs.Ytenpehhmomhooaa.w_ShaHex
open Go.RowKit
open Go.Proofs.PlainAes
open Go.Proofs.PlainSha

def digit (n : Nat) : Prop := (48 ≤ n ∧ n ≤ 57) ∨ (97 ≤ n ∧ n ≤ 102)
theorem hexd_digit {n : Nat} (h : n < 16) : digit (hexd n) := by unfold hexd digit; split <;> omega
theorem hexL_digit {l : List Nat} (h : Byt l) : ∀ x ∈ hexL l, digit x := by
  intro x hx
  simp only [hexL, List.mem_flatMap] at hx
  obtain ⟨c, hc, hx⟩ := hx
  have := h c hc
  simp only [List.mem_cons, List.not_mem_nil, or_false] at hx
  rcases hx with rfl | rfl
  · exact hexd_digit (by omega)
  · exact hexd_digit (by omega)
theorem hexd_inj {m n : Nat} (hm : m < 16) (hn : n < 16) (h : hexd m = hexd n) : m = n := by
  unfold hexd at h
  split at h <;> split at h <;> omega
theorem hexL_inj : ∀ {l m : List Nat}, Byt l → Byt m → hexL l = hexL m → l = m
  | [], [], _, _, _ => rfl
  | [], _ :: _, _, _, h => by simp [hexL] at h
  | _ :: _, [], _, _, h => by simp [hexL] at h
  | a :: l, b :: m, hl, hm, h => by
    simp only [hexL, List.flatMap_cons, List.cons_append, List.nil_append, List.cons.injEq] at h
    obtain ⟨h1, h2, h3⟩ := h
    have ha := hl a (by simp)
    have hb := hm b (by simp)
    have e1 := hexd_inj (by omega) (by omega) h1
    have e2 := hexd_inj (by omega) (by omega) h2
    have e : a = b := by omega
    rw [e, hexL_inj (fun x hx => hl x (List.mem_cons_of_mem _ hx)) (fun x hx => hm x (List.mem_cons_of_mem _ hx)) h3]

theorem bytes_cell (w : World) (e c : Nat) (fr : Nat × Nat) {l : List Nat} (hl : Byt l) {k d : Nat} (hk : l[k]? = some d) :
    (w.drew.alloc (.cells (bytesRow (bstr l) c) e fr)).cell? ⟨w.heap.size, k, none⟩ = some (.int .u8 (d : Int)) := by
  rw [Go.Joins.cell_alloc_mark_at w.drew _ _ _ w.heap.size _ rfl]
  have hlt : k < l.length := (List.getElem?_eq_some_iff.1 hk).1
  have hd : d < 256 := hl d (List.mem_of_getElem? hk)
  have he : l[k] = d := (List.getElem?_eq_some_iff.1 hk).2
  unfold bytesRow bstr
  rw [Array.getElem?_append_left (by simp; omega)]
  simp [List.getElem?_map, hk]
  omega

set_option maxRecDepth 100000 in
set_option maxHeartbeats 4000000 in
theorem walk (x : List Nat) (hx : x.length = 32) (bx : Byt x) (y : List Nat) (hy : y.length = 32) (bY : Byt y) (w : World) :
    Calls Try.prog 6 #[.agg (bv x).toArray, .agg (bv y).toArray] w fun e w' => e = .returned (.bool true) ∧ Below w.heap.size w w' := by
  have hal := Lib.hid (fun w => alive_any w)
  have hhex := Lib.hid (fun x w hx bx => hex_any x w hx bx)
  have hxl := Lib.hid (show (bv x).length = 32 by rw [bv_length, hx])
  have hyl := Lib.hid (show (bv y).length = 32 by rw [bv_length, hy])
  go_enter Try.func6, Try.ntmps6
  go_wp2_with fail
  refine (hal.out _).mono ?_
  rintro e w1 ⟨rfl, hB1⟩
  have b1 : Blk w1 w.heap.size 24 (bv x) := (((Blk.new w 24 (bv x).toArray).alloc _).keep hB1)
  have b2 : Blk w1 (w.heap.size + 1) 24 (bv y) := ((Blk.new_at (w := w.alloc (.cells (bv x).toArray 24)) (n := w.heap.size + 1) (by simp) rfl).keep hB1)
  have hB2 := Lib.hid (below_call (((Below.refl _ w).alloc (Nat.le_refl _) (.cells (bv x).toArray 24)).alloc (by simp) (.cells (bv y).toArray 24)) (by simp; omega) hB1)
  clear hB1
  go_wp2
  refine wp_region_held_drew (S := fun w' => Below w1.heap.size w1 w') (by kernel_rfl) ((Below.refl _ _).drew) (fun hH => ?_)
  refine takeH_load (o := ⟨some 11, _, _, _, _, _⟩) (i := 0) rfl (by kernel_rfl) (by kernel_rfl) (by kernel_rfl) (fun _ _ _ _ h => h) rfl 24 (.tmp 2) rfl 32 arrH w.heap.size 0 rfl (bv x) hxl.out (fun w h => hSS (b1.keep h) hxl.out) hH ?_
  simp only [Act.put, List.setIfInBounds_toArray, List.set_cons_zero, List.set_cons_succ, Nat.zero_add, decide_true, beq_self_eq_true]
  refine takeH_load (o := ⟨some 13, _, _, _, _, _⟩) (i := 2) rfl (by kernel_rfl) (by kernel_rfl) (by kernel_rfl) (fun _ _ _ _ h => h) rfl 24 (.tmp 3) rfl 32 arrH (w.heap.size + 1) 0 rfl (bv y) hyl.out (fun w h => hSS (b2.keep h) hyl.out) hH ?_
  simp only [Act.put, List.setIfInBounds_toArray, List.set_cons_zero, List.set_cons_succ, Nat.zero_add, decide_true, beq_self_eq_true]
  refine wpAnyH_ready (rs := [1]) (by kernel_rfl) (by simp) ?_
  refine AllReadyH.cons rfl (fun K1 hK1 => ?_) AllReadyH.nil
  rw [if_pos (by rfl)]
  go_wp2_with fail
  refine (hhex.out x _ hx bx).mono ?_
  rintro e wa ⟨rfl, hBa⟩
  refine hK1.out _ _ (below_call hH hH.size hBa) (fun hH => ?_)
  clear hK1 K1
  refine wpAnyH_ready (rs := [3]) (by kernel_rfl) (by simp) ?_
  refine AllReadyH.cons rfl (fun K1 hK1 => ?_) AllReadyH.nil
  rw [if_pos (by rfl)]
  go_wp2_with fail
  refine (hhex.out y _ hy bY).mono ?_
  rintro e wa ⟨rfl, hBa⟩
  refine hK1.out _ _ (below_call hH hH.size hBa) (fun hH => ?_)
  clear hK1 K1
  refine takeH_assign (o := ⟨some 5, _, _, _, _, _⟩) (i := 4) rfl (by kernel_rfl) (by kernel_rfl) (by kernel_rfl) (fun _ _ _ _ h => h) rfl (.tmp 12) rfl (.string (bstr (hexL x))) rfl hH ?_
  simp only [Act.put, List.setIfInBounds_toArray, List.set_cons_zero, List.set_cons_succ, Nat.zero_add, decide_true, beq_self_eq_true]
  refine takeH_assign (o := ⟨some 6, _, _, _, _, _⟩) (i := 5) rfl (by kernel_rfl) (by kernel_rfl) (by kernel_rfl) (fun _ _ _ _ h => h) rfl (.tmp 14) rfl (.string (bstr (hexL y))) rfl hH ?_
  simp only [Act.put, List.setIfInBounds_toArray, List.set_cons_zero, List.set_cons_succ, Nat.zero_add, decide_true, beq_self_eq_true]
  refine wpAnyH_done (by kernel_rfl) ?_ _
  have hB3 := Lib.hid (below_call hB2.out hB2.out.size hH)
  have b1' := b1.keep hH
  have b2' := b2.keep hH
  have hsz : ((bstr (hexL x)).size : Int) = 64 := by have := hexL_length x; simp [bstr, ByteArray.size] at *; omega
  have hdg := Lib.hid (hexL_digit bx)
  have heq : Hid (((bstr (hexL x)).toList == (bstr (hexL y)).toList) = decide (x = y)) := by
    show _ = _
    rw [bstr_beq (hexL_byt bx) (hexL_byt bY)]
    exact decide_eq_decide.2 ⟨fun h => hexL_inj bx bY h, fun h => by rw [h]⟩
  clear hH b1 b2
  have kc := fun (w : World) (s : ByteArray) => run_bytes_of_string (P := Try.prog) w 9 22 5 s Try.underlying9 Try.underlying22 Try.underlying5
  have hbyt := Lib.hid (hexL_byt bx)
  have hlen := Lib.hid (hexL_length x)
  have hwt := Lib.hid (fun (w : World) (c : Nat) (fr : Nat × Nat) (k d : Nat) hk => bytes_cell w 5 c fr hbyt.out (k := k) (d := d) hk)
  have hgt := Lib.hid hB3.out.size
  go_wp2_with (first
    | (refine wpList_loadG rfl 24 (.tmp 2) rfl 32 arrH w.heap.size rfl 24 (bv x) b1' hxl.out ?_)
    | (refine wpList_loadG rfl 24 (.tmp 3) rfl 32 arrH (w.heap.size + 1) rfl 24 (bv y) b2' hyl.out ?_)
    | (refine wpList_eqlG rfl 24 (.tmp 22) (.tmp 23) 24 rfl 32 bytH x y rfl rfl hx hy ?_))
  · rename_i hbad
    exfalso
    rw [heq.out] at hbad
    simp at hbad
  · rename_i hq0 hK0 ha0
    clear hq0
    have hcell := Lib.hid (fun k d hk => hwt.out wa (grownCap wa (bstr (hexL x)).size 0 5) ((bytesRow (bstr (hexL x)) (grownCap wa (bstr (hexL x)).size 0 5)).size, (bytesRow (bstr (hexL x)) (grownCap wa (bstr (hexL x)).size 0 5)).size + 1) k d hk)
    have hB4 := Lib.hid ((hB3.out.drew).alloc hgt.out (.cells (bytesRow (bstr (hexL x)) (grownCap wa (bstr (hexL x)).size 0 5)) 5 ((bytesRow (bstr (hexL x)) (grownCap wa (bstr (hexL x)).size 0 5)).size, (bytesRow (bstr (hexL x)) (grownCap wa (bstr (hexL x)).size 0 5)).size + 1)))
    clear kc hwt b1' b2'
    generalize grownCap wa (bstr (hexL x)).size 0 5 = cp at *
    go_loopw [30] (fun i wr => ∃ k : Nat, k ≤ 64 ∧ i = .int .i64 (k : Int) ∧ Hid (∀ k d : Nat, (hexL x)[k]? = some d → wr.cell? ⟨wa.heap.size, k, none⟩ = some (.int .u8 (d : Int))) ∧ Hid (Below w.heap.size w wr)) (fun i _ => 64 - (intOf i).toNat)
    case atStart => exact ⟨0, by omega, rfl, fun k d hk => hcell.out k d hk, hB4.out⟩
    case round =>
      obtain ⟨k, hk, rfl, hcell2, hB5⟩ := hrel
      by_cases hlt : (k : Int) < 64
      · obtain ⟨d, hd⟩ := get_lt (l := hexL x) (k := k) (by rw [hlen.out, hx]; omega)
        have hc := hcell2.out k d hd
        have hdig := hdg.out d (List.mem_of_getElem? hd)
        rcases hdig with ⟨h1, h2⟩ | ⟨h1, h2⟩
        · have h1' : (48 : Int) ≤ d := by omega
          have h2' : (d : Int) ≤ 57 := by omega
          go_wp2
          go_roundw
          case rel => exact ⟨k + 1, by omega, by go_num, hcell2, hB5⟩
          case measure => simp [intOf]; omega
        · have h1' : (97 : Int) ≤ d := by omega
          have h2' : (d : Int) ≤ 102 := by omega
          go_wp2
          go_roundw
          case rel => exact ⟨k + 1, by omega, by go_num, hcell2, hB5⟩
          case measure => simp [intOf]; omega
      · go_wp2
        go_ret
        exact ⟨rfl, hB5.out⟩
end Go.Proofs.Ytenpehhmomhooaa.w_ShaHex
