/- The device: Read. -/
import Derived.Test.YtkpefffephbhnaaDevD
set_option linter.unusedVariables false
set_option linter.unusedSimpArgs false
namespace Go.Proofs.Ytkpefffephbhnaa
open Go.RowKit Go.Maps
open Go.Proofs.PlainDev

theorem wcl_get : ∀ (l : List (Nat × List Nat)), (∀ p ∈ l, p.2.length = 512) → ∀ (i : Nat) (p : Nat × List Nat), l[i]? = some p → (wcl l).length = l.length * 513 ∧ ((wcl l).drop (i * 513)).take 513 = .int .u32 (p.1 : Int) :: bv p.2
  | [], _, i, p, h => by simp at h
  | q :: r, hl, i, p, h => by
    have e : wcl (q :: r) = (.int .u32 (q.1 : Int) :: bv q.2) ++ wcl r := by simp [wcl]
    have hq : (Value.int .u32 (q.1 : Int) :: bv q.2).length = 513 := by rw [List.length_cons, bv_length, hl q (List.mem_cons_self)]
    have hlen : (wcl r).length = r.length * 513 := by
      clear h e hq i p
      have : ∀ (r : List (Nat × List Nat)), (∀ p ∈ r, p.2.length = 512) → (wcl r).length = r.length * 513 := by
        intro r
        induction r with
        | nil => intro _; rfl
        | cons x t ih =>
          intro hx
          have e : wcl (x :: t) = (.int .u32 (x.1 : Int) :: bv x.2) ++ wcl t := by simp [wcl]
          rw [e, List.length_append, List.length_cons, bv_length, hx x List.mem_cons_self, ih (fun p hp => hx p (List.mem_cons_of_mem _ hp)), List.length_cons]
          omega
      exact this r (fun p hp => hl p (List.mem_cons_of_mem _ hp))
    refine ⟨by rw [e, List.length_append, hq, hlen, List.length_cons]; omega, ?_⟩
    rw [e]
    cases i with
    | zero =>
      simp only [List.getElem?_cons_zero, Option.some.injEq] at h
      subst h
      rw [Nat.zero_mul, List.drop_zero, List.take_left' hq]
    | succ j =>
      rw [List.getElem?_cons_succ] at h
      rw [show (j + 1) * 513 = 513 + j * 513 from by omega, ← List.drop_drop, List.drop_left' hq]
      exact (wcl_get r (fun p hp => hl p (List.mem_cons_of_mem _ hp)) j p h).2
/-- The row's block, and what one that waits is there. -/
theorem Dv.wait {B : Nat} {w : World} {g bl ba : Nat} {vw : Value} {nl : Nat} {s : Dst} (h : Dv B w g bl ba vw nl s) {i : Nat} {p : Nat × List Nat} (hp : s.waits[i]? = some p) :
    ∃ k cap L, vw = .slice (some ⟨k, 0, none⟩) s.waits.length cap ∧ Blk w k 74 L ∧ (i + 1) * 513 ≤ L.length ∧ (L.drop (i * 513 + 1)).take 512 = bv p.2 ∧ L[i * 513]? = some (.int .u32 (p.1 : Int)) ∧ (L.drop (i * 513)).take 513 = .int .u32 (p.1 : Int) :: bv p.2 := by
  have hi : i < s.waits.length := (List.getElem?_eq_some_iff.1 hp).1
  have hw := wcl_get s.waits (fun p hp => (h.ok.waits p hp).2.1) i p hp
  rcases h.row.2 with ⟨_, h0⟩ | ⟨k, cap, cur, e, _, hk, hc1, hc2, hc3, htk⟩
  · omega
  · have h5 : (i + 1) * 513 ≤ s.waits.length * 513 := Nat.mul_le_mul_right _ hi
    have h6 : s.waits.length * 513 ≤ cur.size := by rw [hc3]; exact Nat.mul_le_mul_right _ hc1
    have hd : ((cur.toList.drop (i * 513)).take 513) = .int .u32 (p.1 : Int) :: bv p.2 := by
      rw [← hw.2, ← htk, List.drop_take, List.take_take]
      congr 1
      omega
    refine ⟨k, cap, cur.toList, e, hk, by rw [Array.length_toList]; exact Nat.le_trans h5 h6, ?_, ?_, hd⟩
    · have : (cur.toList.drop (i * 513 + 1)).take 512 = ((cur.toList.drop (i * 513)).take 513).drop 1 := by
        rw [List.drop_take, List.drop_drop]
      rw [this, hd]
      rfl
    · have : (cur.toList)[i * 513]? = ((cur.toList.drop (i * 513)).take 513)[0]? := by
        rw [List.getElem?_take, if_pos (by decide), List.getElem?_drop, Nat.add_zero]
      rw [this, hd]
      rfl
/-- A new array, sliced whole, and no error. -/
def RetRd (l : List Nat) (w : World) (e : Ending) (w' : World) : Prop := ∃ k, e = .returned (.tuple #[.slice (some ⟨k, 0, none⟩) 512 512, .int .i64 0]) ∧ Blk w' k 72 (bv l) ∧ w.heap.size ≤ k ∧ Below w.heap.size w w'
set_option maxRecDepth 100000 in
set_option maxHeartbeats 1000000 in
theorem read_any {B : Nat} {w : World} {g bl ba : Nat} {vw : Value} {nl : Nat} {s : Dst} (h : Dv B w g bl ba vw nl s) (a : Nat) (ha : (a : Int) ≤ 4294967295) (hlt : a < s.size) (hd : s.down = false) (hnw : (s.waits.length : Int) ≤ 100000) :
    Calls Try.prog 18 #[.pointer (some ⟨g, 0, none⟩), .int .u32 (a : Int)] w (RetRd (readL s a) w) := by
  have ht := Lib.hid (there_any h a ha)
  rw [show thereE s a = 0 from by unfold thereE; rw [if_pos hlt]] at ht
  have hlk := h.look a (by omega)
  have c1 := h.c1
  have c5 := h.c5
  rw [hd] at c5
  have hl := Lib.hid (show (bv (liesL s a)).length = 512 by rw [bv_length]; exact (liesL_sec h.ok a).1)
  have hl2 := Lib.hid (show (bv (readL s a)).length = 512 by rw [bv_length]; exact (readL_sec h.ok a).1)
  have hR : Hid (∀ k w', Blk w' k 72 (bv (readL s a)) → w.heap.size ≤ k → Below w.heap.size w w' → RetRd (readL s a) w (.returned (.tuple #[.slice (some ⟨k, 0, none⟩) 512 512, .int .i64 0])) w') := fun k w' h1 h2 h3 => ⟨k, rfl, h1, h2, h3⟩
  have hrd : Hid (lastOf s.waits a = none → readL s a = liesL s a) := fun e => by unfold readL; rw [e]
  have hrd2 : Hid (∀ i p, lastOf s.waits a = some i → s.waits[i]? = some p → readL s a = p.2) := fun i p e e2 => by
    unfold readL
    rw [e]
    show (s.waits.getD i (0, [])).2 = _
    rw [List.getD_eq_getElem?_getD, e2]
    rfl
  unfold secV at hlk
  have H := Lib.hid h
  generalize RetRd (readL s a) w = RX at *
  generalize liesL s a = L at *
  generalize readL s a = L2 at *
  clear h hlt hd
  go_enter Try.func18, Try.ntmps18
  go_wp2_with (first
    | (go_at_call 36; refine ht.out.mono ?_; rintro e w1 ⟨rfl, rfl⟩)
    | refine wpList_allocA rfl 72 rfl (bv (zeros 512)) (by kernel_rfl) ?_)
  intro w2 h2 hK2 hz2
  have hB := hK2.below (Nat.le_refl _) (by simp)
  have H2 := Lib.hid (H.out.keep hB)
  clear hK2 hz2 hlk c1 c5
  have hglt := Lib.hid (H.out.lt)
  generalize hg7 : w.heap.size = g7 at h2 ⊢
  replace hg7 := Lib.hid hg7
  go_wp2_with (refine wpList_storeW rfl 72 (.tmp 7) (.tmp 25) rfl 512 arrS' g7 rfl (bv L) rfl 72 _ h2 hl.out (by rw [bv_length]; exact List.length_replicate) (ones_bv _) ?_)
  intro w3 h3 hK3
  have hB3 := Lib.hid (hB.trans (hK3.below hB.size (by intro b hb; simp only [List.mem_singleton] at hb; subst hb; exact Nat.le_of_eq hg7.out)))
  have H3 := Lib.hid (H2.out.keeps hK3 (fun k hk => by simp; have := (hglt.out k hk).2; have := hg7.out; omega))
  clear h2 hK3 hB H2
  have c3 := H3.out.c3
  have hok := H3.out.last.lookOk Try.underlying68 (zeroI w3) (x := a) (by omega)
  cases hla : lastOf s.waits a with
  | none =>
    rw [hla] at hok
    have hE := hrd.out hla
    subst hE
    simp only [Option.map_none, Option.getD_none, Option.isSome_none] at hok
    replace h3 := Lib.hid h3
    clear hla
    go_wp2
    exact hR.out _ _ h3.out (Nat.le_of_eq hg7.out) hB3.out
  | some i =>
    rw [hla] at hok
    obtain ⟨b, hb⟩ := lastOf_get _ _ _ hla
    have hi := lastOf_lt hla
    have hE := hrd2.out i _ hla hb
    obtain ⟨k, cap, LL, hvw, hk, hLl, hLd, -, -⟩ := H3.out.wait hb
    simp only [Option.map_some, Option.getD_some, Option.isSome_some] at hok
    have c2 := H3.out.c2
    rw [hvw] at c2
    have hLh : Hid ((LL.drop (i * 513 + 1)).take 512 = bv L2) := by show _ = _; rw [hLd, hE]
    have hLlh := Lib.hid hLl
    have hiI : (i : Int) < (s.waits.length : Int) := by omega
    clear hla hb hLd hLl hvw hE hrd hrd2
    generalize s.waits.length = nw at *
    go_wp2_with (first
      | refine wpList_loadA rfl 72 (.tmp 42) rfl 512 arrS' k (i * 513 + 1) rfl 74 LL hk (by have := hLlh.out; omega) (bv L2) hLh.out ?_
      | refine wpList_storeW rfl 72 (.tmp 7) (.tmp 43) rfl 512 arrS' g7 rfl (bv L2) rfl 72 _ h3 hl2.out hl.out (ones_bv _) ?_)
    intro w4 h4 hK4
    have hB4 := Lib.hid (hB3.out.trans (hK4.below hB3.out.size (by intro b hb; simp only [List.mem_singleton] at hb; subst hb; exact Nat.le_of_eq hg7.out)))
    replace h4 := Lib.hid h4
    clear hK4 h3
    go_wp2
    exact hR.out _ _ h4.out (Nat.le_of_eq hg7.out) hB4.out
set_option maxRecDepth 100000 in
theorem read_nil (w : World) (a : Nat) : Calls Try.prog 18 #[.pointer none, .int .u32 (a : Int)] w fun e w' => e = .returned (.tuple #[.slice none 0 0, .int .i64 1]) ∧ w = w' := by
  have ht := Lib.hid (there_nil w a)
  go_enter Try.func18, Try.ntmps18
  go_wp2_with fail
  refine ht.out.mono ?_
  rintro e w1 ⟨rfl, rfl⟩
  go_wp2
  go_ret2
  exact ⟨rfl, rfl⟩
end Go.Proofs.Ytkpefffephbhnaa
