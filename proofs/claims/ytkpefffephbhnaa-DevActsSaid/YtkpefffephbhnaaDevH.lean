/- The device: Poke, Limit, Waits, Down, Size; the law's sector; steps that keep what lies beside. -/
import Derived.Test.YtkpefffephbhnaaDevG
import Derived.Deep.OwnRows
set_option linter.unusedVariables false
set_option linter.unusedSimpArgs false
namespace Go.Proofs.PlainDev
def limitS (s : Dst) (n : Int) : Dst := { s with left := if n < -1 then -1 else n }
def pokeS (s : Dst) (a : Nat) (l : List Nat) : Dst := { s with lies := lset s.lies a l }
/-- A sector of one byte, all through, but its first one. -/
def secL (first b : Nat) : List Nat := first :: List.replicate 511 b
theorem secL_length (f b : Nat) : (secL f b).length = 512 := by unfold secL; rw [List.length_cons, List.length_replicate]
theorem secL_set (f b : Nat) : (List.replicate 512 b).set 0 f = secL f b := by
  rw [show (512 : Nat) = 511 + 1 from rfl, List.replicate_succ]; rfl
end Go.Proofs.PlainDev
namespace Go.Proofs.Ytkpefffephbhnaa
open Go.RowKit Go.Maps
open Go.Proofs.PlainDev

theorem secL_sec {f b : Nat} (hf : f < 256) (hb : b < 256) : Sec (secL f b) := ⟨secL_length f b, fun x hx => by
  rcases List.mem_cons.1 hx with rfl | hx
  · exact hf
  · rw [List.eq_of_mem_replicate hx]; exact hb⟩
/-- What a step leaves of what lies beside. -/
structure Step (L L' : List Nat) (w w' : World) : Prop where
  keeps : Keeps L w w'
  more : ∀ k ∈ L', k ∈ L ∨ w.heap.size ≤ k
theorem Step.refl (L : List Nat) (w : World) : Step L L w w := ⟨Keeps.refl _ _, fun k hk => .inl hk⟩
theorem Step.trans {L L' L2 : List Nat} {w w1 w2 : World} (h : Step L L' w w1) (h2 : Step L' L2 w1 w2) : Step L L2 w w2 :=
  ⟨⟨h2.keeps.os.trans h.keeps.os, h2.keeps.tape.trans h.keeps.tape, h2.keeps.output.trans h.keeps.output, Nat.le_trans h.keeps.size h2.keeps.size,
    fun b hb hn => (h2.keeps.block b (Nat.lt_of_lt_of_le hb h.keeps.size) (fun hm => by rcases h.more b hm with h3 | h3; exact hn h3; omega)).trans (h.keeps.block b hb hn)⟩,
   fun k hk => by rcases h2.more k hk with h3 | h3; exact h.more k h3; exact .inr (Nat.le_trans h.keeps.size h3)⟩
theorem Step.drew {L L' : List Nat} {w w' : World} (h : Step L L' w w') : Step L L' w w'.drew := ⟨⟨h.keeps.os, h.keeps.tape, h.keeps.output, h.keeps.size, h.keeps.block⟩, h.more⟩
theorem Step.undrew {L L' : List Nat} {w w' : World} (h : Step L L' w.drew w') : Step L L' w w' := ⟨h.keeps.undrew, h.more⟩
theorem Step.of_below {L : List Nat} {w w' : World} (h : Below w.heap.size w w') : Step L L w w' := ⟨⟨h.os, h.tape, h.output, h.size, fun b hb _ => h.block b hb⟩, fun k hk => .inl hk⟩
theorem Step.below {L L' : List Nat} {B : Nat} {w w' : World} (h : Step L L' w w') (hL : ∀ k ∈ L, B ≤ k) (hB : B ≤ w.heap.size) : Below B w w' :=
  ⟨h.keeps.os, h.keeps.tape, h.keeps.output, h.keeps.size, fun b hb => h.keeps.block b (by omega) (fun hm => by have := hL b hm; omega)⟩
/-- A device, with all its blocks, and a bound on its maps. -/
def Dx (B : Nat) (w : World) (g : Nat) (L : List Nat) (N : Nat) (s : Dst) : Prop := ∃ bl ba vw nl, Dv B w g bl ba vw nl s ∧ L = dblk g bl ba vw ∧ nl + s.waits.length ≤ N
section
variable {B g N : Nat} {w w' : World} {L L' : List Nat} {s : Dst}
theorem Dx.lt (h : Dx B w g L N s) : ∀ k ∈ L, B ≤ k ∧ k < w.heap.size := by
  obtain ⟨bl, ba, vw, nl, h, rfl, -⟩ := h
  exact h.lt
theorem Dx.keeps {G : List Nat} (h : Dx B w g L N s) (hK : Keeps G w w') (hG : ∀ k ∈ L, k ∉ G) : Dx B w' g L N s := by
  obtain ⟨bl, ba, vw, nl, h, rfl, hn⟩ := h
  exact ⟨bl, ba, vw, nl, h.keeps hK hG, rfl, hn⟩
theorem Dx.below {C : Nat} (h : Dx B w g L N s) (hK : Below C w w') (hC : w.heap.size ≤ C) : Dx B w' g L N s := by
  obtain ⟨bl, ba, vw, nl, h, rfl, hn⟩ := h
  exact ⟨bl, ba, vw, nl, h.below hK hC, rfl, hn⟩
theorem Dx.keep (h : Dx B w g L N s) (hK : Below w.heap.size w w') : Dx B w' g L N s := h.below hK (Nat.le_refl _)
theorem Dx.drew (h : Dx B w g L N s) : Dx B w.drew g L N s := by
  obtain ⟨bl, ba, vw, nl, h, rfl, hn⟩ := h
  exact ⟨bl, ba, vw, nl, h.drew, rfl, hn⟩
theorem Dx.ok (h : Dx B w g L N s) : Okd s := by obtain ⟨bl, ba, vw, nl, h, -, -⟩ := h; exact h.ok
/-- Another device stays. -/
theorem Dx.other {g2 N2 : Nat} {L2 : List Nat} {s2 : Dst} (h : Dx B w g2 L2 N2 s2) (hS : Step L L' w w') (hd : ∀ k ∈ L2, k ∉ L) : Dx B w' g2 L2 N2 s2 := h.keeps hS.keeps hd
theorem apart_step {L2 : List Nat} (hS : Step L L' w w') (hd : ∀ k ∈ L2, k ∉ L) (hlt : ∀ k ∈ L2, k < w.heap.size) : ∀ k ∈ L2, k ∉ L' := fun k hk hm => by
  rcases hS.more k hm with h | h
  · exact hd k hk h
  · have := hlt k hk; omega
end
theorem Keeps.step {w w' : World} {g bl ba : Nat} {vw : Value} {ba' : Nat} {vw' : Value} (h : Keeps (dblk g bl ba vw) w w') (hb : ba' = ba ∨ w.heap.size ≤ ba') (hm : Moved w.heap.size vw.ownBlock vw'.ownBlock) : Step (dblk g bl ba vw) (dblk g bl ba' vw') w w' :=
  ⟨h, fun k hk => by
    rcases mem_dblk.1 hk with e | e | e | e
    · exact .inl (mem_dblk.2 (.inl e))
    · exact .inl (mem_dblk.2 (.inr (.inl e)))
    · rcases hb with h2 | h2
      · exact .inl (mem_dblk.2 (.inr (.inr (.inl (e.trans h2)))))
      · exact .inr (e ▸ h2)
    · rcases hm with h2 | h2
      · exact .inl (mem_dblk.2 (.inr (.inr (.inr (h2 ▸ e)))))
      · exact .inr (h2 k e)⟩
section
variable {B g N : Nat} {w : World} {L : List Nat} {s : Dst}
theorem new_x (size : Nat) (w : World) (h1 : (16 : Int) ≤ size) (h2 : (size : Int) ≤ 4096) :
    Calls Try.prog 11 #[.int .i64 (size : Int)] w fun e w' => ∃ g L, e = .returned (.tuple #[.pointer (some ⟨g, 0, none⟩), .int .i64 0]) ∧ Dx w.heap.size w' g L 0 (new0 size) ∧ Below w.heap.size w w' := by
  refine (new_ok size w h1 h2).mono ?_
  rintro e w' ⟨g, bl, ba, rfl, h, hB⟩
  exact ⟨g, _, rfl, ⟨bl, ba, _, 0, h, rfl, Nat.le_refl _⟩, hB⟩
theorem write_x (h : Dx B w g L N s) (hN : (N : Int) ≤ 100000) (a : Nat) (ha : (a : Int) ≤ 4294967295) (A : Option Addr) (n c : Nat) (l : List Nat) (hn : n = l.length) (hs : Sl w (.slice A n c) (bv l)) (bl8 : ∀ x ∈ l, x < 256) (hap : Apart (.slice A n c) L) :
    Calls Try.prog 12 #[.pointer (some ⟨g, 0, none⟩), .int .u32 (a : Int), .slice A n c] w fun e w' => ∃ L', e = .returned (.int .i64 (writeS s a l).2) ∧ Dx B w' g L' (N + 1) (writeS s a l).1 ∧ Step L L' w w' := by
  obtain ⟨bl, ba, vw, nl, h, rfl, hnl⟩ := h
  refine (write_core h a ha A n c l hn hs bl8 hap (by omega)).mono ?_
  rintro e w' ⟨vw', rfl, h', hK, hm⟩
  refine ⟨_, rfl, ⟨bl, ba, vw', nl, h', rfl, ?_⟩, hK.step (.inl rfl) hm⟩
  have : (writeS s a l).1.waits.length ≤ s.waits.length + 1 := by
    unfold writeS
    split
    · split
      · exact Nat.le_succ _
      · split
        · exact Nat.le_succ _
        · show (s.waits ++ [_]).length ≤ _; rw [List.length_append]; exact Nat.le_refl _
    · exact Nat.le_succ _
  omega
theorem flush_x (h : Dx B w g L N s) (hN : (N : Int) ≤ 100000) :
    Calls Try.prog 15 #[.pointer (some ⟨g, 0, none⟩)] w fun e w' => ∃ L', e = .returned (.int .i64 (flushS s).2) ∧ Dx B w' g L' N (flushS s).1 ∧ Step L L' w w' := by
  obtain ⟨bl, ba, vw, nl, h, rfl, hnl⟩ := h
  refine (flush_any h (by omega)).mono ?_
  rintro e w' ⟨ba', vw', nl', rfl, h', hn', hK, hb, hm⟩
  exact ⟨_, rfl, ⟨bl, ba', vw', nl', h', rfl, by omega⟩, hK.step hb hm⟩
theorem crash_x (h : Dx B w g L N s) (hN : (N : Int) ≤ 100000) (keep : Nat) (torn : Int) (hkp : (keep : Int) ≤ 18446744073709551615) (ht0 : -9223372036854775808 ≤ torn) (ht1 : torn ≤ 9223372036854775807) :
    Calls Try.prog 14 #[.pointer (some ⟨g, 0, none⟩), .int .u64 (keep : Int), .int .i64 torn] w fun e w' => ∃ L', e = .returned (.tuple #[]) ∧ Dx B w' g L' N (crashS s keep torn) ∧ Step L L' w w' := by
  obtain ⟨bl, ba, vw, nl, h, rfl, hnl⟩ := h
  refine (crash_any h keep torn hkp ht0 ht1 (by omega)).mono ?_
  rintro e w' ⟨ba', nl', rfl, h', hn', hK, hb⟩
  exact ⟨_, rfl, ⟨bl, ba', _, nl', h', rfl, by show nl' + 0 ≤ _; omega⟩, hK.step (.inr hb) (.inr (fun k hk => by cases hk))⟩
theorem read_x (h : Dx B w g L N s) (hN : (N : Int) ≤ 100000) (a : Nat) (ha : (a : Int) ≤ 4294967295) (hlt : a < s.size) (hd : s.down = false) :
    Calls Try.prog 18 #[.pointer (some ⟨g, 0, none⟩), .int .u32 (a : Int)] w (RetRd (readL s a) w) := by
  obtain ⟨bl, ba, vw, nl, h, rfl, hnl⟩ := h
  exact read_any h a ha hlt hd (by omega)
theorem peek_x (h : Dx B w g L N s) (a : Nat) (ha : (a : Int) ≤ 4294967295) (hlt : a < s.size) :
    Calls Try.prog 16 #[.pointer (some ⟨g, 0, none⟩), .int .u32 (a : Int)] w (RetPk (liesL s a) w) := by
  obtain ⟨bl, ba, vw, nl, h, rfl, hnl⟩ := h
  exact peek_any h a ha hlt
set_option maxRecDepth 100000 in
theorem waits_x (h : Dx B w g L N s) :
    Calls Try.prog 21 #[.pointer (some ⟨g, 0, none⟩)] w fun e w' => e = .returned (.int .i64 (s.waits.length : Int)) ∧ w = w' := by
  obtain ⟨bl, ba, vw, nl, h, rfl, hnl⟩ := h
  have c2 := h.c2
  obtain ⟨Aw, cw, hvw⟩ : ∃ A c, vw = .slice A s.waits.length c := by
    rcases h.row.2 with ⟨e, e2⟩ | ⟨g', cap, cur, e, _⟩
    · exact ⟨none, 0, by rw [e, e2]⟩
    · exact ⟨_, _, e⟩
  subst hvw
  clear h hnl
  generalize s.waits.length = n at *
  go_enter Try.func21, Try.ntmps21
  go_wp2
  go_ret
  exact ⟨rfl, rfl⟩
set_option maxRecDepth 100000 in
theorem down_x (h : Dx B w g L N s) :
    Calls Try.prog 20 #[.pointer (some ⟨g, 0, none⟩)] w fun e w' => e = .returned (.bool s.down) ∧ w = w' := by
  obtain ⟨bl, ba, vw, nl, h, rfl, hnl⟩ := h
  have c5 := h.c5
  clear h hnl
  generalize s.down = b at *
  go_enter Try.func20, Try.ntmps20
  go_wp2
  go_ret
  exact ⟨rfl, rfl⟩
set_option maxRecDepth 100000 in
theorem size_x (h : Dx B w g L N s) :
    Calls Try.prog 24 #[.pointer (some ⟨g, 0, none⟩)] w fun e w' => e = .returned (.int .i64 (s.size : Int)) ∧ w = w' := by
  obtain ⟨bl, ba, vw, nl, h, rfl, hnl⟩ := h
  have c0 := h.c0
  clear h hnl
  generalize s.size = n at *
  go_enter Try.func24, Try.ntmps24
  go_wp2
  go_ret
  exact ⟨rfl, rfl⟩
set_option maxRecDepth 100000 in
theorem limit_x (h : Dx B w g L N s) (n : Int) (h1 : n ≤ 9223372036854775807) :
    Calls Try.prog 19 #[.pointer (some ⟨g, 0, none⟩), .int .i64 n] w fun e w' => e = .returned (.tuple #[]) ∧ Dx B w' g L N (limitS s n) ∧ Step L L w w' := by
  obtain ⟨bl, ba, vw, nl, h, rfl, hnl⟩ := h
  have c4 := h.c4
  have f4 := h.blk.frozen 4
  have hR : Hid (∀ m w', m = (if n < -1 then -1 else n) → w' = w.setCell ⟨g, 4, none⟩ (.int .i64 m) → Dx B w' g (dblk g bl ba vw) N (limitS s n) ∧ Step (dblk g bl ba vw) (dblk g bl ba vw) w w') := by
    rintro m w' rfl rfl
    have hK := (Keeps.refl [g] w).setCell (p := ⟨g, 4, none⟩) (by simp) (.int .i64 (if n < -1 then -1 else n))
    refine ⟨⟨bl, ba, vw, nl, ?_, rfl, hnl⟩, ⟨keeps_one hK (g_mem _ _ _ _), fun k hk => .inl hk⟩⟩
    refine h.set hK (h.blk.set_ 4 _) rfl rfl rfl ?_
    show -1 ≤ (if n < -1 then -1 else n) ∧ (if n < -1 then -1 else n) ≤ _
    split <;> omega
  clear h hnl
  by_cases hn : n < -1
  · rw [if_pos hn] at hR
    go_enter Try.func19, Try.ntmps19
    go_wp2
    go_returns
    exact ⟨rfl, hR.out _ _ rfl rfl⟩
  · rw [if_neg hn] at hR
    go_enter Try.func19, Try.ntmps19
    go_wp2
    go_returns
    exact ⟨rfl, hR.out _ _ rfl rfl⟩
end
theorem made_dev (v : Value) (m : Nat) : (madeCells #[v] m).toList = List.replicate m v := by
  apply List.ext_getElem
  · simp [madeCells]
  · intro i h1 h2
    simp [madeCells, Nat.mod_one]
set_option maxHeartbeats 1000000 in
theorem sector_any (f b : Nat) (w : World) (hf : (f : Int) ≤ 255) (hb : (b : Int) ≤ 255) :
    Calls Try.prog 13 #[.int .u8 (f : Int), .int .u8 (b : Int)] w fun e w' => ∃ k, e = .returned (.slice (some ⟨k, 0, none⟩) 512 512) ∧ Blk w' k 5 (bv (secL f b)) ∧ w.heap.size ≤ k ∧ Below w.heap.size w w' := by
  have hmk : ∀ w, (Instr.makeSlice 22 (.int .i64 512) (.int .i64 512)).run Try.prog w = .ok (.slice (some ⟨w.heap.size, 0, none⟩) 512 512) (w.alloc (.cells (madeCells #[.int .u8 0] 512) 5)) :=
    run_make_row' (P := Try.prog) 22 5 (.int .u8 0) 1 Try.underlying22 (by kernel_rfl) rfl .i64 .i64 512 (by omega) (by omega)
  have hLl := Lib.hid (show (bv (List.replicate 512 b)).length = 512 by rw [bv_length, List.length_replicate])
  have hLg : Hid (∀ k, k < 512 → (bv (List.replicate 512 b))[k]? = some (.int .u8 (b : Int))) := fun k hk => by
    rw [bv_get, List.getElem?_replicate, if_pos hk]; rfl
  have hLs : Hid ((bv (List.replicate 512 b)).set 0 (.int .u8 (f : Int)) = bv (secL f b)) := by
    show _ = _
    rw [bv_set, secL_set]
  have hst : Hid (List.replicate (bv (List.replicate 512 b)).length (.int .u8 0 : Value) = (madeCells #[.int .u8 0] 512).toList) := by
    show _ = _
    rw [hLl.out, made_dev]
  generalize bv (secL f b) = R at *
  generalize bv (List.replicate 512 b) = LL at *
  go_enter Try.func13, Try.ntmps13
  go_wp2
  go_loopw [10] (fun i wr => ∃ (k : Nat), (k : Int) ≤ 512 ∧ i = .int .i64 (k : Int) ∧ Below w.heap.size w wr ∧ Blk wr w.heap.size 5 (fill LL (.int .u8 0) k)) (fun i _ => 512 - (intOf i).toNat)
  case atStart =>
    refine ⟨0, by omega, rfl, (Below.refl _ _).alloc (Nat.le_refl _) _, ?_⟩
    have := Blk.new w 5 (madeCells #[.int .u8 0] 512)
    rw [← hst.out] at this
    rw [fill_zero]
    exact this
  case round =>
    obtain ⟨k, hk, rfl, hB, hb⟩ := hrel
    by_cases hlt : (k : Int) < 512
    · have c0 := hb.cell k
      have f0 := hb.frozen k
      obtain ⟨u0, hu0⟩ := fill_get LL (.int .u8 0) (k := k) (by rw [hLl.out]; omega)
      rw [hu0] at c0
      have HS := Lib.hid (fill_set LL (.int .u8 0) (.int .u8 (b : Int)) (hLg.out k (by omega)))
      clear hmk
      go_wp2
      go_roundw
      case rel =>
        refine ⟨k + 1, by omega, by go_num, hB.setCell (by simp) _, ?_⟩
        rw [← HS.out]
        exact hb.set_ k _
      case measure => simp [intOf]; omega
    · obtain rfl : k = 512 := by omega
      have hb2 : Blk wr w.heap.size 5 LL := by
        have := fill_all LL (.int .u8 0)
        rw [hLl.out] at this
        rwa [this] at hb
      obtain ⟨u0, hu0⟩ : ∃ u, LL[0]? = some u := ⟨_, hLg.out 0 (by decide)⟩
      have c0 := hb2.cell 0
      rw [hu0] at c0
      have f0 := hb2.frozen 0
      clear hmk hb
      replace hb2 := Lib.hid hb2
      replace hB := Lib.hid hB
      go_wp2
      go_ret
      refine ⟨w.heap.size, rfl, ?_, Nat.le_refl _, hB.out.setCell (by simp) _⟩
      have := hb2.out.set_ 0 (.int .u8 (f : Int))
      rwa [hLs.out] at this
end Go.Proofs.Ytkpefffephbhnaa
