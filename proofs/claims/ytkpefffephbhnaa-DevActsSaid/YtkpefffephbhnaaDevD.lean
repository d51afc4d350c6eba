/- The device: Peek, Read. -/
import Derived.Test.YtkpefffephbhnaaDevB
import Derived.Test.YtkpefffephbhnaaClo
set_option linter.unusedVariables false
set_option linter.unusedSimpArgs false
namespace Go.Proofs.PlainDev
/-- What lies there; what is read. -/
def liesL (s : Dst) (a : Nat) : List Nat := (s.lies a).getD (List.replicate 512 0)
def readL (s : Dst) (a : Nat) : List Nat := match lastOf s.waits a with
  | some i => (s.waits.getD i (0, [])).2
  | none => liesL s a
end Go.Proofs.PlainDev
namespace Go.Proofs.Ytkpefffephbhnaa
open Go.RowKit Go.Maps
open Go.Proofs.PlainDev

theorem arrS' : ArrTy Try.prog 72 512 := ⟨_, Try.underlying72, rfl, by kernel_rfl⟩
theorem zeroS (w : World) : (zeroValue 72).run Try.prog w = .ok (secV (zeros 512)) w := by kernel_rfl
theorem zeroI (w : World) : (zeroValue 3).run Try.prog w = .ok (.int .i64 0) w := by kernel_rfl
theorem liesL_sec {s : Dst} (h : Okd s) (a : Nat) : Sec (liesL s a) := by
  unfold liesL
  cases e : s.lies a with
  | none => exact ⟨List.length_replicate, fun x hx => by rw [List.eq_of_mem_replicate hx]; decide⟩
  | some l => exact h.lies a l e
theorem readL_sec {s : Dst} (h : Okd s) (a : Nat) : Sec (readL s a) := by
  unfold readL
  cases e : lastOf s.waits a with
  | none => exact liesL_sec h a
  | some i =>
    obtain ⟨b, hb⟩ := lastOf_get _ _ _ e
    have hm := List.mem_of_getElem? hb
    show Sec (s.waits.getD i (0, [])).2
    rw [List.getD_eq_getElem?_getD, hb]
    exact (h.waits _ hm).2
theorem Dv.look {B : Nat} {w : World} {g bl ba : Nat} {vw : Value} {nl : Nat} {s : Dst} (h : Dv B w g bl ba vw nl s) (a : Nat) (ha : a < 4294967296) :
    (Instr.lookup 67 (.map (some bl)) (.int .u32 (a : Int)) false).run Try.prog w = .ok (secV (liesL s a)) w := by
  rw [h.lies.lookV Try.underlying67 (zeroS w) ha]
  unfold liesL
  cases s.lies a <;> rfl
/-- A new row of bytes, and no error. -/
def RetPk (l : List Nat) (w : World) (e : Ending) (w' : World) : Prop := ∃ v, e = .returned (.tuple #[v, .int .i64 0]) ∧ w'.ownsRow w.heap.size 5 1 v 512 (bv l) ∧ Below w.heap.size w w'
set_option maxRecDepth 100000 in
set_option maxHeartbeats 1000000 in
theorem peek_any {B : Nat} {w : World} {g bl ba : Nat} {vw : Value} {nl : Nat} {s : Dst} (h : Dv B w g bl ba vw nl s) (a : Nat) (ha : (a : Int) ≤ 4294967295) (hlt : a < s.size) :
    Calls Try.prog 16 #[.pointer (some ⟨g, 0, none⟩), .int .u32 (a : Int)] w (RetPk (liesL s a) w) := by
  have ht := Lib.hid (there_any h a ha)
  rw [show thereE s a = 0 from by unfold thereE; rw [if_pos hlt]] at ht
  have hlk := h.look a (by omega)
  have c1 := h.c1
  have hsc := liesL_sec h.ok a
  have hl := Lib.hid (show (bv (liesL s a)).length = 512 by rw [bv_length]; exact hsc.1)
  have hl' := Lib.hid hsc.1
  have hcl := Lib.hid (fun (A : Addr) w hs => clone_any A 512 512 (liesL s a) w hs (by rw [hsc.1]; decide))
  have hR : Hid (∀ v w', w'.ownsRow w.heap.size 5 1 v 512 (bv (liesL s a)) → Below w.heap.size w w' → RetPk (liesL s a) w (.returned (.tuple #[v, .int .i64 0])) w') := fun v w' h1 h2 => ⟨v, rfl, h1, h2⟩
  unfold secV at hlk
  generalize RetPk (liesL s a) w = RX at *
  generalize liesL s a = L at *
  clear h hlt hsc
  go_enter Try.func16, Try.ntmps16
  go_wp2_with (first
    | (go_at_call 36; refine ht.out.mono ?_; rintro e w1 ⟨rfl, rfl⟩)
    | refine wpList_allocA rfl 72 rfl (bv (zeros 512)) (by kernel_rfl) ?_)
  intro w2 h2 hK2 hz2
  have hB := hK2.below (Nat.le_refl _) (by simp)
  have hge : Hid (w.heap.size ≤ w.heap.size) := Nat.le_refl _
  clear hK2 hz2 hlk c1
  generalize hg7 : w.heap.size = g7 at h2 ⊢
  replace hg7 := Lib.hid hg7
  go_wp2_with (refine wpList_storeW rfl 72 (.tmp 7) (.tmp 19) rfl 512 arrS' g7 rfl (bv L) rfl 72 _ h2 hl.out (by rw [bv_length]; exact List.length_replicate) (ones_bv _) ?_)
  intro w3 h3 hK3
  have hB3 := Lib.hid (hB.trans (hK3.below hB.size (by intro b hb; simp only [List.mem_singleton] at hb; subst hb; exact Nat.le_of_eq hg7.out)))
  have sl : Sl w3 (.slice (some ⟨g7, 0, none⟩) 512 512) (bv L) := by
    have := Sl.of_blk (n := 512) (c := 512) h3 (Nat.le_refl _) (by rw [hl.out]; exact Nat.le_refl _) (by unfold maxLen; omega)
    rwa [List.take_of_length_le (by rw [hl.out]; exact Nat.le_refl _)] at this
  have hc := Lib.hid (hcl.out _ w3 sl)
  clear h2 h3 hK3 hB sl
  go_wp2_with fail
  refine hc.out.mono ?_
  rintro e w4 ⟨v, rfl, own, hB4⟩
  replace own := Lib.hid (ownsRow_mono own hB3.out.size)
  rw [hl'.out] at own
  have hB5 := Lib.hid (below_call hB3.out hB3.out.size hB4)
  clear hB4
  go_wp2
  exact hR.out _ _ own.out hB5.out
end Go.Proofs.Ytkpefffephbhnaa
