/- banyanref08.Bytes. -/
import Derived.Test.YtfhlenclnknnhaaCdA
import Derived.Test.YtfhlenclnknnhaaRbR
import Derived.Test.YtfhlenclnknnhaaRgx
import Derived.Test.YtfhlenclnknnhaaRefN0
import Derived.Test.YtfhlenclnknnhaaAppG
import Derived.Deep.Cut
import Derived.Deep.DeepCutAuto
set_option linter.unusedVariables false
set_option linter.unusedSimpArgs false
namespace Go.Proofs.Ytfhlenclnknnhaa
open Go.RowKit
open Go.Proofs.PlainPtr Go.Proofs.PlainSha
theorem fldP0 (g : Nat) (w : World) : (Instr.fieldAt 27 (.pointer (some ⟨g, 0, none⟩)) 0).run Try.prog w = .ok (.pointer (some ⟨g, 0, none⟩)) w := by kernel_rfl
theorem fldP1 (g : Nat) (w : World) : (Instr.fieldAt 27 (.pointer (some ⟨g, 0, none⟩)) 1).run Try.prog w = .ok (.pointer (some ⟨g, 1, none⟩)) w := by kernel_rfl
theorem holeP (g : Nat) (w : World) : (Instr.sliceAt 25 (.pointer (some ⟨g, 2, none⟩)) none none none).run Try.prog w = .ok (.slice (some ⟨g, 2, none⟩) 32 32) w := wholeH g 2 w
theorem ownsRow_base {B C : Nat} {w : World} {e size n : Nat} {v : Value} {xs : List Value} (h : w.ownsRow B e size v n xs) (hC : C ≤ B) : w.ownsRow C e size v n xs := by
  refine ⟨h.1, ?_⟩
  rcases h.2 with h2 | ⟨g, cap, cur, e1, hb, h3⟩
  · exact .inl h2
  · exact .inr ⟨g, cap, cur, e1, Nat.le_trans hC hb, h3⟩
def RetR4 (P : List Nat) (n : Nat) (w : World) (e : Ending) (w' : World) : Prop := ∃ g, e = .returned (.slice (some ⟨g, 0, none⟩) n n) ∧ Blk w' g 5 (bv P) ∧ w.heap.size ≤ g ∧ Below w.heap.size w w'
theorem rb_n (x n : Nat) (w : World) (hx : x < 18446744073709551616) (hn : n ≤ 8) (hf : x / 2 ^ (8 * n) = 0) : Calls Try.prog 41 #[.int .u64 (x : Int), .int .i64 (n : Int)] w (RetR4 (putB x n) n w) := by
  refine (rbytes_row x n w hx hn hf).mono ?_
  rintro e w' ⟨v, rfl, g, rfl, hb, hg, hB⟩
  rw [putB_length]
  exact ⟨g, rfl, hb, hg, hB⟩
set_option maxRecDepth 100000 in
set_option maxHeartbeats 2000000 in
theorem r8bytes (p : PtrD) (hp : PtOk p) (w : World) : Calls Try.prog 20 #[.agg (pcl p).toArray] w (RetO (ptrB p) w) := by
  obtain ⟨i0, hi0, hz0, hz1, hz2⟩ := info_parts (P := Try.prog) (e := 5) (z := .int .u8 0) (size := 1) (bytes := 1) (by kernel_rfl)
  have h0 := Blk.new_at (w := w) (t := 27) (cs := (pcl p).toArray) rfl rfl
  have B0 : Below w.heap.size w (w.alloc (.cells (pcl p).toArray 27)) := (Below.refl _ _).alloc (Nat.le_refl _) _
  have hg0 : w.heap.size < (w.alloc (.cells (pcl p).toArray 27)).heap.size := h0.lt
  have ha := hp.a
  have hb := hp.b
  have hbA := Lib.hid (fun w => rb_n p.a 4 w (by omega) (by decide) (fits4 ha))
  have hbB := Lib.hid (fun w => rb_n p.b 8 w (by omega) (by decide) (fits8 hb))
  have hla := Lib.hid (putB_length p.a 4)
  have hlb := Lib.hid (putB_length p.b 8)
  have hsl := Lib.hid hp.s
  have hR : Hid (∀ v w', w'.ownsRow w.heap.size 5 1 v (4 + 8 + 32) (bv (putB p.a 4) ++ bv (putB p.b 8) ++ bv p.s) → Below w.heap.size w w' → RetO (ptrB p) w (.returned v) w') := fun v w' h1 h2 => by
    refine ⟨v, rfl, ?_, h2⟩
    rw [show (ptrB p).length = 4 + 8 + 32 by unfold ptrB; rw [List.length_append, List.length_append, putB_length, putB_length, hp.s], show bv (ptrB p) = bv (putB p.a 4) ++ bv (putB p.b 8) ++ bv p.s by unfold ptrB; simp [bv]]
    exact h1
  have hwc := Lib.hid (fun wX (hx : Below (w.alloc (.cells (pcl p).toArray 27)).heap.size (w.alloc (.cells (pcl p).toArray 27)) wX) => h0.keep hx)
  have c0 : (w.alloc (.cells (pcl p).toArray 27)).cell? ⟨w.heap.size, 0, none⟩ = some (.int .u32 (p.a : Int)) := (h0.cell 0).trans rfl
  have c1 : (w.alloc (.cells (pcl p).toArray 27)).cell? ⟨w.heap.size, 1, none⟩ = some (.int .u64 (p.b : Int)) := (h0.cell 1).trans rfl
  replace B0 := Lib.hid B0
  clear h0 hp
  generalize RetO (ptrB p) w = RX at *
  generalize putB p.a 4 = PA at *
  generalize putB p.b 8 = PB at *
  go_enter Try.func20, Try.ntmps20
  go_upto_region 1 with fail
  generalize hwA : w.alloc (.cells (pcl p).toArray 27) = wA at *
  clear hwA
  have hwl := Lib.hid hg0
  have hgl : w.heap.size < wA.drew.heap.size := hg0
  have hS0 : Below wA.drew.heap.size wA.drew wA.drew := Below.refl _ _
  have d0 : wA.drew.cell? ⟨w.heap.size, 0, none⟩ = some (.int .u32 (p.a : Int)) := c0
  have d1 : wA.drew.cell? ⟨w.heap.size, 1, none⟩ = some (.int .u64 (p.b : Int)) := c1
  have hD : Hid (Below wA.heap.size wA wA.drew) := ⟨rfl, rfl, rfl, Nat.le_refl _, fun _ _ => rfl⟩
  clear c0 c1 hg0
  refine held_drew2 (S := fun w' => Below wA.drew.heap.size wA.drew w') #[false, false, false, false, false, false, false, false, false] (by kernel_rfl) (by kernel_rfl) hS0 (fun hH => ?_)
  generalize wA.drew = wD at *
  refine takeH_field (o := ⟨some 4, _, _, _, _, _⟩) (i := 0) rfl (by kernel_rfl) (by kernel_rfl) (by kernel_rfl) (fun _ _ _ _ h => h) rfl 27 (.tmp 1) 0 rfl w.heap.size 0 rfl (fun w => fldP0 _ w) hH ?_
  simp only [Act.put, List.setIfInBounds_toArray, List.set_cons_zero, List.set_cons_succ, Nat.zero_add, decide_true, beq_self_eq_true]
  refine takeH_cell (o := ⟨some 5, _, _, _, _, _⟩) (i := 1) rfl (by kernel_rfl) (by kernel_rfl) (by kernel_rfl) (fun _ _ _ _ h => h) rfl 22 (.tmp 4) rfl Try.underlying22 rfl w.heap.size 0 rfl (.int .u32 (p.a : Int)) (fun w h => (h.cell (p := ⟨_, 0, none⟩) hgl).trans d0) hH ?_
  simp only [Act.put, List.setIfInBounds_toArray, List.set_cons_zero, List.set_cons_succ, Nat.zero_add, decide_true, beq_self_eq_true]
  refine takeH_S (o := ⟨some 6, _, _, _, _, _⟩) (i := 2) rfl (by kernel_rfl) (by kernel_rfl) (by kernel_rfl) (fun _ _ _ _ h => h) rfl (.int .u64 (p.a : Int)) (fun w _ => by go_simp; exact IntWalk.u64_in _ (by omega)) hH ?_
  simp only [Act.put, List.setIfInBounds_toArray, List.set_cons_zero, List.set_cons_succ, Nat.zero_add, decide_true, beq_self_eq_true]
  refine takeH_field (o := ⟨some 8, _, _, _, _, _⟩) (i := 4) rfl (by kernel_rfl) (by kernel_rfl) (by kernel_rfl) (fun _ _ _ _ h => h) rfl 27 (.tmp 1) 1 rfl w.heap.size 1 rfl (fun w => fldP1 _ w) hH ?_
  simp only [Act.put, List.setIfInBounds_toArray, List.set_cons_zero, List.set_cons_succ, Nat.zero_add, decide_true, beq_self_eq_true]
  refine takeH_cell (o := ⟨some 9, _, _, _, _, _⟩) (i := 5) rfl (by kernel_rfl) (by kernel_rfl) (by kernel_rfl) (fun _ _ _ _ h => h) rfl 23 (.tmp 8) rfl Try.underlying23 rfl w.heap.size 1 rfl (.int .u64 (p.b : Int)) (fun w h => (h.cell (p := ⟨_, 1, none⟩) hgl).trans d1) hH ?_
  simp only [Act.put, List.setIfInBounds_toArray, List.set_cons_zero, List.set_cons_succ, Nat.zero_add, decide_true, beq_self_eq_true]
  refine wpAnyH_ready (rs := [3]) (by kernel_rfl) (by simp) ?_
  refine AllReadyH.cons rfl (fun K1 hK1 => ?_) AllReadyH.nil
  rw [if_pos (by rfl)]
  go_wp2_with fail
  refine (hbA.out _).mono ?_
  rintro e w1 ⟨k1, rfl, b1, g1, B1⟩
  have hS1 := hS0.trans B1
  refine hK1.out _ _ hS1 (fun hH => ?_)
  clear hK1 K1
  simp only [Act.put, List.getElem_toArray, List.getElem_cons_succ, List.getElem_cons_zero, List.setIfInBounds_toArray, List.set_cons_zero, List.set_cons_succ, Nat.zero_add]
  refine wpAnyH_ready (rs := [6]) (by kernel_rfl) (by simp) ?_
  refine AllReadyH.cons rfl (fun K1 hK1 => ?_) AllReadyH.nil
  rw [if_pos (by rfl)]
  go_wp2_with fail
  refine (hbB.out _).mono ?_
  rintro e w2 ⟨k2, rfl, b2, g2, B2⟩
  have hS2 := hS1.trans (B2.mono hS1.size)
  refine hK1.out _ _ hS2 (fun hH => ?_)
  clear hK1 K1
  simp only [Act.put, List.getElem_toArray, List.getElem_cons_succ, List.getElem_cons_zero, List.setIfInBounds_toArray, List.set_cons_zero, List.set_cons_succ, Nat.zero_add]
  have b1x := b1.keep B2
  have g2x := Nat.le_trans hS1.size g2
  have lt1 := b1.lt
  refine wpAnyH_ready (rs := [7]) (by kernel_rfl) (by simp) ?_
  refine AllReadyH.cons rfl (fun K1 hK1 => ?_) AllReadyH.nil
  rw [if_pos (by rfl)]
  have own2 : w2.ownsRow wD.heap.size 5 1 (.slice (some ⟨k1, 0, none⟩) 4 4) 4 (bv PA) := by
    have := Blk.own b1x g1 (by rw [hla.out]; unfold maxLen; omega)
    rwa [hla.out] at this
  refine wp_append_row2 (.tmp 7) (.tmp 10) 35 rfl wD.heap.size 5 i0 (.int .u8 0) 1 1 Try.underlying35 hi0 hz0 hz1 hz2 rfl (by decide) (.slice (some ⟨k1, 0, none⟩) 4 4) 4 (bv PA) rfl own2 ⟨k2, 0, none⟩ 8 8 (bv PB) rfl (by rw [bv_length, hlb.out]) (fun j u hu => by rw [show (⟨k2, 0, none⟩ : Addr).add j = ⟨k2, j, none⟩ by unfold Addr.add; split <;> simp_all]; exact (b2.cell j).trans hu) (bv_oneCell PB) (by unfold maxLen; omega) (by omega) hS2.size ?_
  intro v3 w3 own3 gr3 mv3
  have k3 := Keeps.grown gr3
  have B3 := hS2.trans (k3.below hS2.size (fun q hq => by rw [Option.mem_toList] at hq; exact (own2.lt q hq).1))
  refine hK1.out _ _ B3 (fun hH => ?_)
  clear hK1 K1
  simp only [Act.put, List.getElem_toArray, List.getElem_cons_succ, List.getElem_cons_zero, List.setIfInBounds_toArray, List.set_cons_zero, List.set_cons_succ, Nat.zero_add]
  obtain ⟨A3, n3, c3, rfl⟩ : ∃ A n c, v3 = .slice A n c := by
    rcases own3.2 with ⟨e, _⟩ | ⟨g', cap, cur, e, _⟩
    · exact ⟨_, _, _, e⟩
    · exact ⟨_, _, _, e⟩
  refine takeH_assign (o := ⟨some 3, _, _, _, _, _⟩) (i := 8) rfl (by kernel_rfl) (by kernel_rfl) (by kernel_rfl) (fun _ _ _ _ h => h) rfl (.tmp 11) rfl (.slice A3 n3 c3) rfl hH ?_
  simp only [Act.put, List.setIfInBounds_toArray, List.set_cons_zero, List.set_cons_succ, Nat.zero_add, decide_true, beq_self_eq_true]
  have hP := hwc.out w3 (hD.out.trans (B3.mono hD.out.size))
  refine wpAnyH_done (by kernel_rfl) ?_ _
  have q3 := holeP w.heap.size w3
  have own3' : Hid (w3.ownsRow wD.heap.size 5 1 (.slice A3 n3 c3) (4 + 8) (bv PA ++ bv PB)) := own3
  have s3 : Sl w3 (.slice (some ⟨w.heap.size, 2, none⟩) 32 32) (bv p.s) := ⟨some ⟨w.heap.size, 2, none⟩, 32, by rw [bv_length, hsl.out], by rw [bv_length, hsl.out]; exact Nat.le_refl _, by unfold maxLen; omega, fun _ => ⟨w.heap.size, 2, rfl, fun i u hu => by
    have h1 := hP.cell (2 + i)
    rw [h1]
    show (Value.int .u32 (p.a : Int) :: Value.int .u64 (p.b : Int) :: bv p.s)[2 + i]? = some u
    rw [Nat.add_comm, List.getElem?_cons_succ, List.getElem?_cons_succ]
    exact hu⟩⟩
  have hsz3 := Lib.hid B3.size
  have hwD : Hid (w.heap.size ≤ wD.heap.size) := by show _ ≤ _; omega
  have B3' := Lib.hid (B0.out.trans ((hD.out.trans (B3.mono hD.out.size)).mono B0.out.size))
  clear hP own3 own2 mv3 gr3 k3 B3 hH b2 b1x lt1 g2x g1 g2 hS1 hS2 hS0 B1 B2 b1 d0 d1 hwc
  go_wp2_with (at_builtin; refine wpList_append_sl2 rfl (.tmp 12) (.tmp 14) 35 rfl wD.heap.size 5 i0 (.int .u8 0) 1 Try.underlying35 hi0 hz0 hz1 hz2 rfl _ (4 + 8) (bv PA ++ bv PB) rfl own3'.out _ (bv p.s) rfl s3 (bv_oneCell p.s) ?_ ?_ ?_ ?_)
  · rw [bv_length, hsl.out]; unfold maxLen; omega
  · rw [bv_length, hsl.out]; omega
  · exact hsz3.out
  intro v4 w4 own4 gr4 mv4
  have k4 := Keeps.grown gr4
  have B4 := Lib.hid (B3'.out.trans (k4.below B3'.out.size (fun q hq => by rw [Option.mem_toList] at hq; exact Nat.le_trans hwD.out (own3'.out.lt q hq).1)))
  have own4' : w4.ownsRow w.heap.size 5 1 v4 (4 + 8 + 32) (bv PA ++ bv PB ++ bv p.s) := by
    rw [hsl.out, ← List.append_assoc] at own4
    exact ownsRow_base own4 hwD.out
  replace own4' := Lib.hid own4'
  obtain ⟨A4, n4, c4, rfl⟩ : ∃ A n c, v4 = .slice A n c := by
    rcases own4.2 with ⟨e, _⟩ | ⟨g', cap, cur, e, _⟩
    · exact ⟨_, _, _, e⟩
    · exact ⟨_, _, _, e⟩
  clear own4 gr4 mv4 k4 s3 q3
  go_wp2
  exact hR.out _ _ own4'.out B4.out
end Go.Proofs.Ytfhlenclnknnhaa
