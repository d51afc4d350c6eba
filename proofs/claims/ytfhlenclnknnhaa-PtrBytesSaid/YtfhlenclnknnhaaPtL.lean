/- The laws of chapter 08: their example. -/
import Derived.Test.YtfhlenclnknnhaaCdA
set_option linter.unusedVariables false
set_option linter.unusedSimpArgs false
namespace Go.Proofs.Ytfhlenclnknnhaa
open Go.RowKit
open Go.Proofs.PlainPtr Go.Proofs.PlainSha

theorem drop_nil (p : PtrD) (w : World) : Calls Try.prog 27 #[.pointer none, .agg (pcl p).toArray] w fun e w' => e = .returned (.tuple #[.int .i64 0, .int .i64 1]) ∧ Below w.heap.size w w' := by
  have B0 : Hid (Below w.heap.size w (w.alloc (.cells (pcl p).toArray 27))) := (Below.refl _ _).alloc (Nat.le_refl _) _
  generalize (pcl p).toArray = X at *
  go_enter Try.func27, Try.ntmps27
  go_wp2
  go_ret2
  exact ⟨rfl, B0.out⟩
def exP : PtrD := ⟨3, 5, List.replicate 32 0⟩
theorem exP_ok : PtOk exP := ⟨by decide, by decide, List.length_replicate, fun x hx => by rw [List.eq_of_mem_replicate hx]; decide⟩
theorem built_ex : Try.prog.built 27 [(0, .int .u32 3), (1, .int .u64 5)] = some (pcl exP).toArray := by kernel_rfl
theorem ptrB_len {p : PtrD} (h : PtOk p) : (ptrB p).length = 44 := by unfold ptrB; rw [List.length_append, List.length_append, putB_length, putB_length, h.s]
theorem alloc_wr (w : World) : ∃ i, Try.prog.info? 37 = some i ∧ i.zero = some (.agg #[.slice none 0 0]) := by
  have h : (Try.prog.info? 37).bind (·.zero) = some (.agg #[.slice none 0 0]) := by kernel_rfl
  cases hi : Try.prog.info? 37 with
  | none => rw [hi] at h; cases h
  | some i => exact ⟨i, rfl, by rw [hi] at h; exact h⟩
set_option maxRecDepth 100000 in
set_option maxHeartbeats 1000000 in
theorem alive08 (w : World) : Calls Try.prog 10 #[] w fun e w' => e = .returned (.bool true) ∧ Below w.heap.size w w' := by
  have h0 := Wr.made (w := w) rfl
  have B0 : Below w.heap.size w (w.alloc (.cells #[.slice none 0 0] 37)) := (Below.refl _ _).alloc (Nat.le_refl _) _
  have hx : Wx w.heap.size (w.alloc (.cells #[.slice none 0 0] 37)) w.heap.size (wbl w.heap.size (.slice none 0 0)) [] := ⟨_, h0, rfl⟩
  have hput := Lib.hid (put_x hx exP exP_ok (by decide))
  have hL0 := Lib.hid (fun k (hk : k ∈ wbl w.heap.size (.slice none 0 0)) => (hx.lt k hk).1)
  have hbe := Lib.hid built_ex
  have hbz := Lib.hid built_pz
  have hdn := Lib.hid (fun w => drop_nil pz w)
  have hnl := Lib.hid (fun w => null_any pz pz_ok w)
  rw [show decide (pz.a = 0) = true from rfl] at hnl
  have hlen : Hid (([] ++ ptrB exP).length = 44) := by show _ = _; rw [List.nil_append]; exact ptrB_len exP_ok
  have h3 : Hid (([] ++ ptrB exP)[3]? = some 3) := by show _ = _; decide
  have h11 : Hid (([] ++ ptrB exP)[11]? = some 5) := by show _ = _; decide
  generalize [] ++ ptrB exP = lb at *
  replace B0 := Lib.hid B0
  clear h0 hx
  go_enter Try.func10, Try.ntmps10
  go_wp2_with (refine wpList_buildV rfl 27 _ rfl [(0, .int .u32 3), (1, .int .u64 5)] rfl (pcl exP) hbe.out ?_)
  refine hput.out.mono ?_
  rintro e w1 ⟨L1, rfl, H1, S1⟩
  have B1 := Lib.hid (B0.out.trans (S1.below hL0.out B0.out.size))
  have hby := Lib.hid (bytes_x H1 (by rw [hlen.out]; decide))
  clear S1 H1 hput
  go_wp2_with fail
  refine hby.out.mono ?_
  rintro e w2 ⟨v, rfl, own, B2⟩
  rw [hlen.out] at own
  obtain ⟨kb, cb, rfl, hc1, hc2⟩ := own_form own (by decide)
  have B2' := Lib.hid (B1.out.trans (B2.mono B1.out.size))
  replace own := Lib.hid own
  clear B2 hby
  go_wp2_with (refine wpList_buildV rfl 27 #[] rfl [] rfl (pcl pz) hbz.out ?_)
  refine (hdn.out _).mono ?_
  rintro e w3 ⟨rfl, B3⟩
  have own3 := own_keep own.out B3
  have B3' := Lib.hid (B2'.out.trans (B3.mono B2'.out.size))
  have c3 : w3.cell? ⟨kb, 3, none⟩ = some (.int .u8 3) := (own3.cellAt 3 (by decide)).trans (by rw [bv_get, h3.out]; rfl)
  have c11 : w3.cell? ⟨kb, 11, none⟩ = some (.int .u8 5) := (own3.cellAt 11 (by decide)).trans (by rw [bv_get, h11.out]; rfl)
  clear B3 own3
  go_wp2_with fail
  refine (hnl.out _).mono ?_
  rintro e w4 ⟨rfl, B4⟩
  have B4' := Lib.hid (B3'.out.trans (B4.mono B3'.out.size))
  clear c3 c11 B4
  go_wp2
  go_ret
  exact ⟨rfl, B4'.out⟩
end Go.Proofs.Ytfhlenclnknnhaa
