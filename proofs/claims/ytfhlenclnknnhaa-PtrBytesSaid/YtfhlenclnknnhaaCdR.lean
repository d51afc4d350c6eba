/- The reference's reader (banyanref07) and Get (banyanref08). -/
import Derived.Test.YtfhlenclnknnhaaCdB
import Derived.Test.YtfhlenclnknnhaaRbN
set_option linter.unusedVariables false
set_option linter.unusedSimpArgs false
namespace Go.Proofs.Ytfhlenclnknnhaa
open Go.RowKit
open Go.Proofs.PlainPtr Go.Proofs.PlainSha

/-- The reference's reader in block g: what is left, in block k. -/
def Rq (B : Nat) (w : World) (g : Nat) (k : Option Nat) (l : List Nat) : Prop :=
  ∃ v, Blk w g 49 [v] ∧ Sl w v (bv l) ∧ v.ownBlock = k ∧ k ≠ some g ∧ B ≤ g ∧ ∀ b, k = some b → b < w.heap.size
section
variable {B : Nat} {w w' : World} {g : Nat} {k : Option Nat} {l : List Nat} {G : List Nat}
theorem Rq.keeps (h : Rq B w g k l) (hK : Keeps G w w') (hg : g ∉ G) (hk : ∀ b, k = some b → b ∉ G) : Rq B w' g k l := by
  obtain ⟨v, h1, h2, h3, h4, h5, h6⟩ := h
  exact ⟨v, h1.keeps hK hg, h2.keeps hK (fun A n c e => hk _ (by rw [← h3, e]; rfl)), h3, h4, h5, fun b hb => Nat.lt_of_lt_of_le (h6 b hb) hK.size⟩
theorem Rq.keep (h : Rq B w g k l) (hB : Below w.heap.size w w') : Rq B w' g k l := h.keeps (Keeps.of_below (G := []) hB) (by simp) (by simp)
theorem Rq.lt (h : Rq B w g k l) : B ≤ g ∧ g < w.heap.size := by
  obtain ⟨v, h1, h2, h3, h4, h5, h6⟩ := h
  exact ⟨h5, h1.lt⟩
end
theorem Rq.row_lt {B : Nat} {w : World} {g : Nat} {k : Option Nat} {l : List Nat} (h : Rq B w g k l) {b : Nat} (hk : k = some b) : b < w.heap.size := by
  obtain ⟨v, h1, h2, h3, h4, h5, h6⟩ := h
  exact h6 b hk
def RetRaw (B g : Nat) (k : Option Nat) (m l : List Nat) (w : World) (e : Ending) (w' : World) : Prop :=
  ∃ v, e = .returned (.tuple #[v, .int .i64 0]) ∧ Sl w' v (bv m) ∧ v.ownBlock = k ∧ Rq B w' g k l ∧ Keeps [g] w w'
section
variable {B : Nat} {w : World} {g : Nat} {k : Option Nat} {l : List Nat}
set_option maxRecDepth 100000 in
set_option maxHeartbeats 1000000 in
theorem raw_ok (h : Rq B w g k l) (n : Nat) (hn : 0 < n) (hnl : n ≤ l.length) (hl : (l.length : Int) ≤ 1000000) :
    Calls Try.prog 50 #[.pointer (some ⟨g, 0, none⟩), .int .i64 (n : Int)] w (RetRaw B g k (l.take n) (l.drop n) w) := by
  obtain ⟨v, hb, hs, hk, hkg, hB, hkz⟩ := h
  obtain ⟨A, c, hv, hc1, hc2, hc3⟩ := id hs
  rw [bv_length] at hv hc1 hc3
  obtain ⟨b, o, rfl, -⟩ := hc3 (by omega)
  obtain ⟨N, hN⟩ : ∃ N, Hid (N = l.length) := ⟨_, rfl⟩
  rw [← hN.out] at hv hc1 hnl hl
  subst hv
  have c0 : w.cell? ⟨g, 0, none⟩ = some (.slice (some ⟨b, o, none⟩) N c) := (hb.cell 0).trans rfl
  have f0 := hb.frozen 0
  obtain ⟨A1, c1, e1, s1, k1⟩ := sl_part hs (l := 0) (k := n) (by omega) hnl
  obtain ⟨A2, c2, e2, s2, k2⟩ := sl_part hs (l := n) (k := N) hnl (Nat.le_refl _)
  rw [Nat.sub_zero] at e1 s1
  rw [List.drop_zero, bv_take] at s1
  rw [bv_drop, List.take_of_length_le (by rw [bv_length, List.length_drop, ← hN.out]; exact Nat.le_refl _)] at s2
  have q1 : (Instr.sliceAt 35 (.slice (some ⟨b, o, none⟩) N c) none (some (.int .i64 (n : Int))) none).run Try.prog w = .ok (.slice A1 n c1) w := by
    rw [sliceAt_h (some ⟨b, o, none⟩) N c n hnl hc1 w, e1]
  have q2 : (Instr.sliceAt 35 (.slice (some ⟨b, o, none⟩) N c) (some (.int .i64 (n : Int))) none none).run Try.prog w = .ok (.slice A2 (N - n) c2) w := by
    rw [sliceAt_l (some ⟨b, o, none⟩) N c n hnl w, e2]
  have hbg : Hid (b ≠ g) := fun e => hkg (by rw [← hk, e]; rfl)
  have hk1 : Hid (A1.map (·.block) = some b) := k1
  have hk2 : Hid (A2.map (·.block) = some b) := k2
  have hkb : Hid (k = some b ∧ k ≠ some g) := ⟨hk.symm, hkg⟩
  have b3 := Lib.hid (hb.set_ 0 (.slice A2 (N - n) c2))
  have hK3 := Lib.hid ((Keeps.refl [g] w).setCell (p := ⟨g, 0, none⟩) (by simp) (.slice A2 (N - n) c2))
  have hnot : ∀ A : Option Addr, Hid (A.map (·.block) = some b) → ∀ a n c n' c', Value.slice A n' c' = .slice (some a) n c → a.block ∉ [g] := fun A hA a n c n' c' e => by
    injection e with e
    have := hA.out
    rw [e] at this
    have e3 : a.block = b := by simpa using this
    simp only [List.mem_singleton]
    rw [e3]
    exact hbg.out
  have s1' := Lib.hid (s1.keeps hK3.out (fun a n c e => hnot A1 hk1 a n c _ _ e))
  have s2' := Lib.hid (s2.keeps hK3.out (fun a n c e => hnot A2 hk2 a n c _ _ e))
  replace hkz := Lib.hid hkz
  clear s1 s2 k1 k2 e1 e2 hs hc3 hk hkg hc2 hb hnot
  go_enter Try.func50, Try.ntmps50
  go_wp2
  go_ret2
  refine ⟨_, rfl, s1'.out, ?_, ⟨_, b3.out, s2'.out, ?_, hkb.out.2, hB, fun b hb => Nat.lt_of_lt_of_le (hkz.out b hb) hK3.out.size⟩, hK3.out⟩
  · rw [hkb.out.1]
    have := hk1.out
    cases A1 with
    | none => cases this
    | some a => exact this
  · rw [hkb.out.1]
    have := hk2.out
    cases A2 with
    | none => cases this
    | some a => exact this
def RetQn (B g : Nat) (k : Option Nat) (x : Nat) (l : List Nat) (w : World) (e : Ending) (w' : World) : Prop :=
  e = .returned (.tuple #[.int .u64 (x : Int), .int .i64 0]) ∧ Rq B w' g k l ∧ Keeps [g] w w'
set_option maxRecDepth 100000 in
theorem qnum_any (h : Rq B w g k l) (n : Nat) (hn : 0 < n) (hn8 : n ≤ 8) (hnl : n ≤ l.length) (hl : (l.length : Int) ≤ 1000000) (hb : ∀ x ∈ l, x < 256) :
    Calls Try.prog 39 #[.pointer (some ⟨g, 0, none⟩), .int .i64 (n : Int)] w (RetQn B g k (num (l.take n)) (l.drop n) w) := by
  have ht := Lib.hid (raw_ok h n hn hnl hl)
  have hbt : Hid (∀ x ∈ l.take n, x < 256) := fun x hx => hb x (List.mem_of_mem_take hx)
  have hlt : Hid ((l.take n).length ≤ 8) := by show _ ≤ _; rw [List.length_take]; omega
  have hR : Hid (∀ w', Rq B w' g k (l.drop n) → Keeps [g] w w' → RetQn B g k (num (l.take n)) (l.drop n) w (.returned (.tuple #[.int .u64 (num (l.take n) : Nat), .int .i64 0])) w') := fun w' h h2 => ⟨rfl, h, h2⟩
  clear h hb hl hnl
  generalize RetQn B g k (num (l.take n)) (l.drop n) w = RX at *
  generalize l.take n = m at *
  go_enter Try.func39, Try.ntmps39
  go_wp2_with fail
  refine ht.out.mono ?_
  rintro e w1 ⟨v, rfl, sv, -, hr, hK⟩
  have hg := Lib.hid (rfnum_any v m w1 sv hbt.out hlt.out)
  obtain ⟨A, c, hv, -⟩ := id sv
  obtain ⟨nv, hnv⟩ : ∃ nv, nv = (bv m).length := ⟨_, rfl⟩
  rw [← hnv] at hv
  subst hv
  replace hr := Lib.hid hr
  replace hK := Lib.hid hK
  clear hnv sv ht
  generalize num m = X at *
  go_wp2_with fail
  refine hg.out.mono ?_
  rintro e w2 ⟨rfl, rfl⟩
  clear hg
  go_wp2
  exact hR.out _ hr.out hK.out
def RetQh (B g : Nat) (k : Option Nat) (s l : List Nat) (w : World) (e : Ending) (w' : World) : Prop :=
  e = .returned (.tuple #[.agg (bv s).toArray, .int .i64 0]) ∧ Rq B w' g k l ∧ Keeps [g] w w'
set_option maxRecDepth 100000 in
set_option maxHeartbeats 1000000 in
theorem qhash_any (h : Rq B w g k l) (hnl : 32 ≤ l.length) (hl : (l.length : Int) ≤ 1000000) :
    Calls Try.prog 40 #[.pointer (some ⟨g, 0, none⟩)] w (RetQh B g k (l.take 32) (l.drop 32) w) := by
  have hgs : g < w.heap.size := h.lt.2
  have htk : Hid (∀ w', Rq B w' g k l → Calls Try.prog 50 #[.pointer (some ⟨g, 0, none⟩), .int .i64 32] w' (RetRaw B g k (l.take 32) (l.drop 32) w')) := fun w' h => raw_ok h 32 (by decide) hnl hl
  have hml : Hid ((l.take 32).length = 32) := by show _ = _; rw [List.length_take]; omega
  have hkl : Hid (∀ b, k = some b → b < w.heap.size) := fun b hb => h.row_lt hb
  have q := Lib.hid (fun g w => wholeH g 0 w)
  have hz := Lib.hid (@zeros_hs)
  generalize l.take 32 = m at *
  generalize l.drop 32 = r at *
  have hzl : Hid ((bv (List.replicate 32 0)).length = 32) := by show _ = _; rw [bv_length, List.length_replicate]
  have hzo := Lib.hid (ones_bv (List.replicate 32 0))
  generalize bv (List.replicate 32 0) = Z at *
  have H := Lib.hid h
  clear h hnl hl
  go_enter Try.func40, Try.ntmps40
  go_wp2_with (refine wpList_allocA rfl 25 rfl Z hz.out ?_)
  intro w1 h1 hK1 hs1
  have H1 := H.out.keeps hK1 (by simp) (by simp)
  have hK1' := hK1.mono (G' := [g]) (by simp)
  obtain ⟨g2, hg2⟩ : ∃ g2, Hid (w.heap.size = g2) := ⟨_, rfl⟩
  have hg2' := hg2.out
  rw [hg2'] at h1 hkl hgs hs1 ⊢
  clear hg2' H hK1
  replace hs1 := Lib.hid hs1
  go_wp2_with (refine wpList_allocA rfl 25 rfl Z hz.out ?_)
  intro w2 h2 hK2 hs2
  replace hs1 := hs1.out
  have h1' := h1.keeps hK2 (by simp)
  have H2 := H1.keeps hK2 (by simp) (by simp)
  have hK2' := Lib.hid (hK1'.trans (hK2.mono (G' := [g]) (by simp)))
  obtain ⟨g4, hg4⟩ : ∃ g4, w1.heap.size = g4 := ⟨_, rfl⟩
  rw [hg4] at h2 hs2 ⊢
  have hgg := Lib.hid (show g ≠ g2 ∧ g ≠ g4 ∧ g2 ≠ g4 ∧ g2 < g4 by omega)
  have hwl := Lib.hid (show g4 < w2.heap.size by omega)
  have hc := Lib.hid (htk.out w2 H2)
  clear H1 H2 hK2 hK1' htk hs1 hs2 hg4 h1
  replace h1' := Lib.hid h1'
  replace h2 := Lib.hid h2
  replace hgs := Lib.hid hgs
  go_wp2_with fail
  refine hc.out.mono ?_
  rintro e w3 ⟨v, rfl, sv, hv, hr, hK3⟩
  have h1 := h1'.out.keeps hK3 (by have := hgg.out; simp; omega)
  have h3 := h2.out.keeps hK3 (by have := hgg.out; simp; omega)
  have hK3' := Lib.hid (hK2'.out.trans hK3)
  have q2 := q.out g4 w3
  obtain ⟨A, c, hve, -⟩ := id sv
  obtain ⟨nv, hnv⟩ : ∃ nv, nv = (bv m).length := ⟨_, rfl⟩
  rw [← hnv] at hve
  subst hve
  clear hnv hc hv hK3 h1' h2 hK2'
  replace hr := Lib.hid hr
  replace h1 := Lib.hid h1
  go_wp2_with (refine wpList_copySl rfl (.tmp 12) (.tmp 13) 35 35 rfl 5 Try.underlying35 (by kernel_rfl) g4 0 32 32 rfl _ (bv m) rfl sv 25 _ h3 ?_ (ones_bv _) ?_)
  · rw [hzl.out, bv_length, hml.out]; decide
  intro w4 h4 hK4
  have hr4 := Lib.hid (hr.out.keeps hK4 (by have := hgg.out; simp; omega) (fun b hb => by have := hkl.out b hb; have := hgg.out; simp; omega))
  have hK4' := Lib.hid (hK3'.out.fresh hK4 (by rw [hg2.out]; have := hgg.out; omega))
  have h1 := Lib.hid (h1.out.keeps hK4 (by have := hgg.out; simp; omega))
  have hput : putL Z 0 ((bv m).take 32) = bv m := by
    rw [List.take_of_length_le (by rw [bv_length, hml.out]; exact Nat.le_refl _)]
    exact putL_all (by rw [bv_length, hzl.out, hml.out])
  rw [hput] at h4
  have hbl := Lib.hid (show (bv m).length = 32 by rw [bv_length, hml.out])
  have hR : Hid (∀ w', Rq B w' g k r → Keeps [g] w w' → RetQh B g k m r w (.returned (.tuple #[.agg (bv m).toArray, .int .i64 0])) w') := fun w' h1 h2 => ⟨rfl, h1, h2⟩
  have hob := Lib.hid (ones_bv m)
  clear hput hK4 h3 hK3' sv hr q2 q
  replace h4 := Lib.hid h4
  generalize RetQh B g k m r w = RX at *
  generalize bv m = M at *
  generalize m.length.min 32 = n3 at *
  go_wp2_with (first
    | refine wpList_loadW rfl 25 (.tmp 4) rfl 32 arrHs g4 rfl 25 M h4.out hbl.out ?_
    | refine wpList_storeW rfl 25 (.tmp 2) (.tmp 15) rfl 32 arrHs g2 rfl M rfl 25 _ h1.out hbl.out hzl.out hob.out ?_)
  intro w5 h5 hK5
  have hr5 := hr4.out.keeps hK5 (by have := hgg.out; simp; omega) (fun b hb => by have := hkl.out b hb; simp; omega)
  have hK5' := hK4'.out.fresh hK5 (by rw [hg2.out]; exact Nat.le_refl _)
  go_wp2
  exact bodyPost_ret (v := .tuple #[.agg M.toArray, .int .i64 0]) (bres_cell2 Try.results40 _ _ _ 25 _ arrHs hbl.out _ rfl h5 rfl) rfl (hR.out _ hr5 hK5')
end
end Go.Proofs.Ytfhlenclnknnhaa
