/- codec.Reader: how it lies; take, Num, Hash, Left, Read; ptr.Get. -/
import Derived.Test.YtfhlenclnknnhaaCdA
import Derived.Test.YtfhlenclnknnhaaSlQ
import Derived.Test.YtfhlenclnknnhaaNumE
import Derived.Test.YtfhlenclnknnhaaCpS
import Derived.Laws.ResultCell
set_option linter.unusedVariables false
set_option linter.unusedSimpArgs false
namespace Go.Proofs.Ytfhlenclnknnhaa
open Go.RowKit
open Go.Proofs.PlainPtr Go.Proofs.PlainSha

/-- A reader in block g: what is left, in block k. -/
def Rd (B : Nat) (w : World) (g : Nat) (k : Option Nat) (l : List Nat) : Prop :=
  ∃ v, Blk w g 75 [v] ∧ Sl w v (bv l) ∧ v.ownBlock = k ∧ k ≠ some g ∧ B ≤ g ∧ ∀ b, k = some b → b < w.heap.size
section
variable {B : Nat} {w w' : World} {g : Nat} {k : Option Nat} {l : List Nat} {G : List Nat}
theorem Rd.keeps (h : Rd B w g k l) (hK : Keeps G w w') (hg : g ∉ G) (hk : ∀ b, k = some b → b ∉ G) : Rd B w' g k l := by
  obtain ⟨v, h1, h2, h3, h4, h5, h6⟩ := h
  exact ⟨v, h1.keeps hK hg, h2.keeps hK (fun A n c e => hk _ (by rw [← h3, e]; rfl)), h3, h4, h5, fun b hb => Nat.lt_of_lt_of_le (h6 b hb) hK.size⟩
theorem Rd.keep (h : Rd B w g k l) (hB : Below w.heap.size w w') : Rd B w' g k l := h.keeps (Keeps.of_below (G := []) hB) (by simp) (by simp)
theorem Rd.lt (h : Rd B w g k l) : B ≤ g ∧ g < w.heap.size := by
  obtain ⟨v, h1, h2, h3, h4, h5, h6⟩ := h
  exact ⟨h5, h1.lt⟩
end
theorem Rd.row_lt {B : Nat} {w : World} {g : Nat} {k : Option Nat} {l : List Nat} (h : Rd B w g k l) {b : Nat} (hk : k = some b) : b < w.heap.size := by
  obtain ⟨v, h1, h2, h3, h4, h5, h6⟩ := h
  exact h6 b hk
theorem Keeps.fresh {G : List Nat} {a w w' : World} {x : Nat} (h : Keeps G a w) (h2 : Keeps [x] w w') (hx : a.heap.size ≤ x) : Keeps G a w' :=
  ⟨h2.os.trans h.os, h2.tape.trans h.tape, h2.output.trans h.output, Nat.le_trans h.size h2.size,
    fun b hb hn => (h2.block b (Nat.lt_of_lt_of_le hb h.size) (by simp; omega)).trans (h.block b hb hn)⟩
/-- What a step of a reader answers. -/
def RetRd (B g : Nat) (k : Option Nat) (l : List Nat) (w w' : World) : Prop := Rd B w' g k l ∧ Keeps [g] w w'
def RetTk (B g : Nat) (k : Option Nat) (m l : List Nat) (w : World) (e : Ending) (w' : World) : Prop :=
  ∃ v, e = .returned (.tuple #[v, .int .i64 0]) ∧ Sl w' v (bv m) ∧ (∀ a n c, v = .slice (some a) n c → w.heap.size ≤ a.block) ∧ RetRd B g k l w w'
section
variable {B : Nat} {w : World} {g : Nat} {k : Option Nat} {l : List Nat}
set_option maxRecDepth 100000 in
set_option maxHeartbeats 1000000 in
theorem take_ok (h : Rd B w g k l) (n : Nat) (hn : 0 < n) (hnl : n ≤ l.length) (hl : (l.length : Int) ≤ 1000000) :
    Calls Try.prog 48 #[.pointer (some ⟨g, 0, none⟩), .int .i64 0, .int .i64 (n : Int)] w (RetTk B g k (l.take n) (l.drop n) w) := by
  obtain ⟨v, hb, hs, hk, hkg, hB, hkz⟩ := h
  obtain ⟨A, c, hv, hc1, hc2, hc3⟩ := id hs
  rw [bv_length] at hv hc1 hc3
  obtain ⟨b, o, rfl, -⟩ := hc3 (by omega)
  obtain ⟨N, hN⟩ : ∃ N, Hid (N = l.length) := ⟨_, rfl⟩
  rw [← hN.out] at hv hc1 hnl hl
  subst hv
  have c0 : w.cell? ⟨g, 0, none⟩ = some (.slice (some ⟨b, o, none⟩) N c) := (hb.cell 0).trans rfl
  have f0 := hb.frozen 0
  obtain ⟨A1, c1, e1, s1, k1⟩ := sl_part hs (l := 0) (k := n) (by omega) hnl
  obtain ⟨A2, c2, e2, s2, k2⟩ := sl_part hs (l := n) (k := N) hnl (Nat.le_refl _)
  rw [Nat.sub_zero] at e1 s1
  rw [List.drop_zero, bv_take] at s1
  rw [bv_drop, List.take_of_length_le (by rw [bv_length, List.length_drop, ← hN.out]; exact Nat.le_refl _)] at s2
  cases A1 with
  | none => cases k1
  | some a1 =>
  have q1 : (Instr.sliceAt 35 (.slice (some ⟨b, o, none⟩) N c) (some (.int .i64 0)) (some (.int .i64 (n : Int))) none).run Try.prog w = .ok (.slice (some a1) n c1) w := by
    rw [sliceAt_lh (some ⟨b, o, none⟩) N c 0 n 0 n rfl rfl (by omega) (by omega) w, e1]
  have q2 : Hid (∀ w, (Instr.sliceAt 35 (.slice (some ⟨b, o, none⟩) N c) (some (.int .i64 (n : Int))) none none).run Try.prog w = .ok (.slice A2 (N - n) c2) w) := Lib.hid (fun w => by
    rw [sliceAt_l (some ⟨b, o, none⟩) N c n hnl w, e2])
  have hcl := Lib.hid (clone_any a1 n c1 (l.take n) w s1 (by rw [List.length_take]; omega))
  have hbg : Hid (b ≠ g) := fun e => hkg (by rw [← hk, e]; rfl)
  have hk2 : Hid (A2.map (·.block) = some b) := k2
  have hR : Hid (∀ v w', Sl w' v (bv (l.take n)) → (∀ a n c, v = .slice (some a) n c → w.heap.size ≤ a.block) → Rd B w' g k (l.drop n) → Keeps [g] w w' → RetTk B g k (l.take n) (l.drop n) w (.returned (.tuple #[v, .int .i64 0])) w') := fun v w' h1 h2 h3 h4 => ⟨v, rfl, h1, h2, h3, h4⟩
  have hkb : Hid (k = some b ∧ k ≠ some g) := ⟨hk.symm, hkg⟩
  replace s2 := Lib.hid s2
  replace hkz := Lib.hid hkz
  replace hb := Lib.hid hb
  have hglt := Lib.hid hb.out.lt
  clear s1 k1 k2 e1 e2 hs hc3 hk hkg hc2
  generalize RetTk B g k (l.take n) (l.drop n) w = RX at *
  go_enter Try.func48, Try.ntmps48
  go_wp2_with fail
  refine hcl.out.mono ?_
  rintro e w1 ⟨v1, rfl, own1, B1⟩
  have hb1 := hb.out.keep B1
  have c1' : w1.cell? ⟨g, 0, none⟩ = some (.slice (some ⟨b, o, none⟩) N c) := (hb1.cell 0).trans rfl
  have f1 := hb1.frozen 0
  have q2' := q2.out w1
  have b3 := Lib.hid (hb1.set_ 0 (.slice A2 (N - n) c2))
  have hK3 := Lib.hid ((Keeps.refl [g] w1).setCell (p := ⟨g, 0, none⟩) (by simp) (.slice A2 (N - n) c2))
  have hK := Lib.hid ((Keeps.of_below (G := [g]) B1).trans hK3.out)
  have s3 := Lib.hid (s2.out.keep B1)
  have hv1 : Hid (∀ a n c, v1 = .slice (some a) n c → w.heap.size ≤ a.block) := fun a n c e => by subst e; exact (own1.lt _ rfl).1
  have sv1 := Lib.hid (Sl.of_own own1)
  clear B1 own1 hb1 c0 f0 q1 hcl
  obtain ⟨Av, nv, cv, hv⟩ : ∃ A n c, v1 = .slice A n c := by
    obtain ⟨A, c, e, -⟩ := sv1.out
    exact ⟨_, _, _, e⟩
  subst hv
  go_wp2
  refine hR.out _ _ (sv1.out.keeps hK3.out (fun a n c e => ?_)) hv1.out ⟨_, b3.out, s3.out.keeps hK3.out (fun a n c e => ?_), ?_, hkb.out.2, hB, fun b hb => Nat.lt_of_lt_of_le (hkz.out b hb) hK.out.size⟩ hK.out
  · simp only [List.mem_singleton]
    have := hv1.out a n c e
    have := hglt.out
    omega
  · injection e with e
    simp only [List.mem_singleton]
    have := hk2.out
    rw [e] at this
    have e3 : a.block = b := by simpa using this
    rw [e3]
    exact hbg.out
  · rw [hkb.out.1]
    have := hk2.out
    cases A2 with
    | none => cases this
    | some a => exact this
set_option maxRecDepth 100000 in
theorem take_short (h : Rd B w g k l) (n : Nat) (hnl : l.length < n) (hl : (n : Int) ≤ 1000000) :
    Calls Try.prog 48 #[.pointer (some ⟨g, 0, none⟩), .int .i64 0, .int .i64 (n : Int)] w fun e w' => e = .returned (.tuple #[.slice none 0 0, .int .i64 3]) ∧ w = w' := by
  obtain ⟨v, hb, hs, hk, hkg, hB, hkz⟩ := h
  obtain ⟨A, c, hv, hc1, hc2, hc3⟩ := id hs
  rw [bv_length] at hv hc1 hc3
  obtain ⟨N, hN⟩ : ∃ N, Hid (N = l.length) := ⟨_, rfl⟩
  rw [← hN.out] at hv hc1 hnl hc3
  subst hv
  have c0 : w.cell? ⟨g, 0, none⟩ = some (.slice A N c) := (hb.cell 0).trans rfl
  have f0 := hb.frozen 0
  clear hc3 hs hk hkg hb hkz
  go_enter Try.func48, Try.ntmps48
  go_wp2
  go_ret2
  exact ⟨rfl, rfl⟩
theorem left_any (h : Rd B w g k l) : Calls Try.prog 17 #[.pointer (some ⟨g, 0, none⟩)] w fun e w' => e = .returned (.int .i64 (l.length : Int)) ∧ w = w' := by
  obtain ⟨v, hb, hs, hk, hkg, hB, hkz⟩ := h
  obtain ⟨A, c, hv, hc1, hc2, hc3⟩ := id hs
  rw [bv_length] at hv hc1 hc3
  subst hv
  have c0 : w.cell? ⟨g, 0, none⟩ = some (.slice A l.length c) := (hb.cell 0).trans rfl
  clear hc3 hs hk hkg hb hkz
  generalize l.length = N at *
  go_enter Try.func17, Try.ntmps17
  go_wp2
  go_ret
  exact ⟨rfl, rfl⟩
def RetNm (B g : Nat) (k : Option Nat) (x : Nat) (l : List Nat) (w : World) (e : Ending) (w' : World) : Prop :=
  e = .returned (.tuple #[.int .u64 (x : Int), .int .i64 0]) ∧ RetRd B g k l w w'
set_option maxRecDepth 100000 in
theorem rnum_any (h : Rd B w g k l) (n : Nat) (hn : 0 < n) (hn8 : n ≤ 8) (hnl : n ≤ l.length) (hl : (l.length : Int) ≤ 1000000) (hb : ∀ x ∈ l, x < 256) :
    Calls Try.prog 37 #[.pointer (some ⟨g, 0, none⟩), .int .i64 (n : Int)] w (RetNm B g k (num (l.take n)) (l.drop n) w) := by
  have ht := Lib.hid (take_ok h n hn hnl hl)
  have hbt : Hid (∀ x ∈ l.take n, x < 256) := fun x hx => hb x (List.mem_of_mem_take hx)
  have hlt : Hid ((l.take n).length ≤ 8) := by show _ ≤ _; rw [List.length_take]; omega
  have hR : Hid (∀ w', RetRd B g k (l.drop n) w w' → RetNm B g k (num (l.take n)) (l.drop n) w (.returned (.tuple #[.int .u64 (num (l.take n) : Nat), .int .i64 0])) w') := fun w' h => ⟨rfl, h⟩
  clear h hb hl hnl
  generalize RetNm B g k (num (l.take n)) (l.drop n) w = RX at *
  generalize l.take n = m at *
  go_enter Try.func37, Try.ntmps37
  go_wp2_with fail
  refine ht.out.mono ?_
  rintro e w1 ⟨v, rfl, sv, -, hr⟩
  have hg := Lib.hid (get_ok v m w1 sv hbt.out hlt.out)
  obtain ⟨A, c, hv, -⟩ := id sv
  obtain ⟨nv, hnv⟩ : ∃ nv, nv = (bv m).length := ⟨_, rfl⟩
  rw [← hnv] at hv
  subst hv
  replace hr := Lib.hid hr
  clear hnv sv ht
  generalize num m = X at *
  go_wp2_with fail
  refine hg.out.mono ?_
  rintro e w2 ⟨rfl, rfl⟩
  clear hg
  go_wp2
  exact hR.out _ hr.out
def RetHs (B g : Nat) (k : Option Nat) (s l : List Nat) (w : World) (e : Ending) (w' : World) : Prop :=
  e = .returned (.tuple #[.agg (bv s).toArray, .int .i64 0]) ∧ Rd B w' g k l ∧ Keeps [g] w w'
theorem zeros_hs : (Try.prog.info? 25).bind (·.zero) = some (.agg (bv (List.replicate 32 0)).toArray) := by kernel_rfl
theorem bres_cell2 {P : Program} {fn : Func} {p u : Tmp} {ty n : Nat} (h : fn.results = #[.cell p ty, .tmp u]) (tmps : Array Value) (w : World) (g : Nat) (t : TypeId) (L : List Value) (hT : ArrTy P ty n) (hl : L.length = n) (b : Value)
    (hp : tmps.getD p undef = .pointer (some ⟨g, 0, none⟩)) (hb : Blk w g t L) (hu : tmps.getD u undef = b) : (results fn tmps).run P w = .ok (.tuple #[.agg L.toArray, b]) w := by
  obtain ⟨d, hd1, hd, hi⟩ := hT
  rw [results_cell_tmp h, hp, hu]
  simp [asAddr, run_loadVar_row w g t ty L.toArray (0, 0) d hb hd1 (by cases d <;> simp_all) (by simpa [hl] using hi), Result.andThen]
set_option maxRecDepth 100000 in
set_option maxHeartbeats 1000000 in
theorem rhash_any (h : Rd B w g k l) (hnl : 32 ≤ l.length) (hl : (l.length : Int) ≤ 1000000) :
    Calls Try.prog 38 #[.pointer (some ⟨g, 0, none⟩)] w (RetHs B g k (l.take 32) (l.drop 32) w) := by
  have hBs : B ≤ g ∧ g < w.heap.size := h.lt
  have htk : Hid (∀ w', Rd B w' g k l → Calls Try.prog 48 #[.pointer (some ⟨g, 0, none⟩), .int .i64 0, .int .i64 32] w' (RetTk B g k (l.take 32) (l.drop 32) w')) := fun w' h => take_ok h 32 (by decide) hnl hl
  have hml : Hid ((l.take 32).length = 32) := by show _ = _; rw [List.length_take]; omega
  have hkl : Hid (∀ b, k = some b → b < w.heap.size) := fun b hb => h.row_lt hb
  have q := Lib.hid (fun g w => wholeH g 0 w)
  have hz := Lib.hid (@zeros_hs)
  generalize l.take 32 = m at *
  generalize l.drop 32 = r at *
  have hzl : Hid ((bv (List.replicate 32 0)).length = 32) := by show _ = _; rw [bv_length, List.length_replicate]
  generalize bv (List.replicate 32 0) = Z at *
  have H := Lib.hid h
  clear h hnl hl
  go_enter Try.func38, Try.ntmps38
  go_wp2_with (refine wpList_allocA rfl 25 rfl Z hz.out ?_)
  intro w1 h1 hK1 hs1
  have H1 := H.out.keeps hK1 (by simp) (by simp)
  have hK1' := Lib.hid (hK1.mono (G' := [g]) (by simp))
  have hne : g ≠ w.heap.size := by omega
  have hc := Lib.hid (htk.out w1 H1)
  have hwl := Lib.hid (show w.heap.size < w1.heap.size by omega)
  clear H H1 hK1 htk hs1
  have hBs' := Lib.hid hBs
  clear hBs
  obtain ⟨g2, hg2⟩ : ∃ g2, Hid (w.heap.size = g2) := ⟨_, rfl⟩
  have hg2' := hg2.out
  rw [hg2'] at hne hwl h1 hBs' hkl ⊢
  clear hg2'
  replace h1 := Lib.hid h1
  go_wp2_with fail
  refine hc.out.mono ?_
  rintro e w2 ⟨v, rfl, sv, hv, hr, hK2⟩
  have h2 := h1.out.keeps hK2 (by simp; omega)
  have hK2' := Lib.hid (hK1'.out.trans (hK2))
  have q2 := q.out g2 w2
  obtain ⟨A, c, hve, -⟩ := id sv
  obtain ⟨nv, hnv⟩ : ∃ nv, nv = (bv m).length := ⟨_, rfl⟩
  rw [← hnv] at hve
  subst hve
  clear hnv hc hv hK2 h1
  replace hr := Lib.hid hr
  go_wp2_with (refine wpList_copySl rfl (.tmp 10) (.tmp 11) 35 35 rfl 5 Try.underlying35 (by kernel_rfl) g2 0 32 32 rfl _ (bv m) rfl sv 25 _ h2 ?_ (ones_bv _) ?_)
  · rw [hzl.out, bv_length, hml.out]; decide
  intro w3 h3 hK3
  have hr3 := Lib.hid (hr.out.keeps hK3 (by simp; omega) (fun b hb => by have := hkl.out b hb; simp; omega))
  have hK3' := Lib.hid (hK2'.out.fresh hK3 (by rw [hg2.out]; exact Nat.le_refl _))
  have hput : putL Z 0 ((bv m).take 32) = bv m := by
    rw [List.take_of_length_le (by rw [bv_length, hml.out]; exact Nat.le_refl _)]
    exact putL_all (by rw [bv_length, hzl.out, hml.out])
  rw [hput] at h3
  have hbl := Lib.hid (show (bv m).length = 32 by rw [bv_length, hml.out])
  have hR : Hid (∀ w', Rd B w' g k r → Keeps [g] w w' → RetHs B g k m r w (.returned (.tuple #[.agg (bv m).toArray, .int .i64 0])) w') := fun w' h1 h2 => ⟨rfl, h1, h2⟩
  have hob := Lib.hid (ones_bv m)
  clear hput hK3 h2 hK2' hK1' sv hr q2 q
  replace h3 := Lib.hid h3
  generalize RetHs B g k m r w = RX at *
  generalize bv m = M at *
  generalize m.length.min 32 = n3 at *
  go_wp2_with (first
    | refine wpList_loadW rfl 25 (.tmp 2) rfl 32 arrHs g2 rfl 25 M h3.out hbl.out ?_
    | refine wpList_storeW rfl 25 (.tmp 2) (.tmp 13) rfl 32 arrHs g2 rfl M rfl 25 _ h3.out hbl.out hbl.out hob.out ?_)
  intro w4 h4 hK4
  have hr4 := hr3.out.keeps hK4 (by simp; omega) (fun b hb => by have := hkl.out b hb; simp; omega)
  have hK4' := hK3'.out.fresh hK4 (by rw [hg2.out]; exact Nat.le_refl _)
  go_wp2
  exact bodyPost_ret (v := .tuple #[.agg M.toArray, .int .i64 0]) (bres_cell2 Try.results38 _ _ _ 25 _ arrHs hbl.out _ rfl h4 rfl) rfl (hR.out _ hr4 hK4')
def RetRead (l : List Nat) (w : World) (e : Ending) (w' : World) : Prop :=
  ∃ g k, e = .returned (.pointer (some ⟨g, 0, none⟩)) ∧ Rd w.heap.size w' g k l ∧ Below w.heap.size w w'
theorem read_any (v : Value) (l : List Nat) (w : World) (hc : Calls Try.prog 36 #[v] w (RetO l w)) :
    Calls Try.prog 15 #[v] w (RetRead l w) := by
  replace hc := Lib.hid hc
  go_enter Try.func15, Try.ntmps15
  go_wp2_with fail
  refine hc.out.mono ?_
  rintro e w1 ⟨v, rfl, own, B1⟩
  have sl1 := Sl.of_own own
  have hlt := own.lt
  obtain ⟨A, c, hv, -⟩ := id sl1
  obtain ⟨nv, hnv⟩ : ∃ nv, nv = (bv l).length := ⟨_, rfl⟩
  rw [← hnv] at hv
  subst hv
  have hb := Lib.hid (Blk.new_at (w := w1) (t := 75) (cs := #[.slice A nv c]) rfl rfl)
  have B2 := (Below.refl w1.heap.size w1).alloc (Nat.le_refl _) (.cells #[.slice A nv c] 75)
  have sl2 := Lib.hid (sl1.keep B2)
  have B3 := Lib.hid (B1.trans (B2.mono B1.size))
  have hs1 := Lib.hid B1.size
  replace hlt := Lib.hid hlt
  clear own sl1 hnv B1 B2 hc
  go_wp2
  go_ret
  refine ⟨_, _, rfl, ⟨_, hb.out, sl2.out, rfl, fun e => ?_, hs1.out, fun b e => ?_⟩, B3.out⟩
  · have := (hlt.out _ e).2
    omega
  · have := (hlt.out _ e).2
    simp
    omega
end
end Go.Proofs.Ytfhlenclnknnhaa
namespace Go.Proofs.PlainPtr
open Go.Proofs.PlainSha
/-- The pointer that these bytes start with. -/
def getP (l : List Nat) : PtrD := ⟨num (l.take 4), num ((l.drop 4).take 8), ((l.drop 4).drop 8).take 32⟩
theorem num_putB : ∀ (n x : Nat), x < 256 ^ n → num (putB x n) = x
  | 0, x, h => by have : x = 0 := by simpa using h
                  subst this; rfl
  | n + 1, x, h => by
    have e : putB x (n + 1) = putB (x / 256) n ++ [x % 256] := by
      unfold putB
      rw [List.range_succ, List.map_append]
      congr 1
      · refine List.map_congr_left fun i hi => ?_
        have hi := List.mem_range.1 hi
        rw [Nat.div_div_eq_div_mul, show n + 1 - 1 - i = (n - 1 - i) + 1 by omega, Nat.mul_add, Nat.pow_add, Nat.mul_comm 256]
      · simp
    rw [e, num_snoc, num_putB n (x / 256) (by rw [Nat.pow_succ] at h; omega)]
    omega
theorem getP_ptrB {p : PtrD} (h : PtOk p) (r : List Nat) : getP (ptrB p ++ r) = p := by
  obtain ⟨a, b, s⟩ := p
  have ha := h.a
  have hb := h.b
  have hs := h.s
  unfold getP ptrB
  simp only at ha hb hs ⊢
  have e1 : (putB a 4 ++ (putB b 8 ++ s) ++ r).take 4 = putB a 4 := by
    rw [List.append_assoc, List.take_left' (putB_length a 4)]
  have e2 : (putB a 4 ++ (putB b 8 ++ s) ++ r).drop 4 = putB b 8 ++ (s ++ r) := by
    rw [List.append_assoc, List.drop_left' (putB_length a 4), List.append_assoc]
  rw [e1, e2, List.take_left' (putB_length b 8), List.drop_left' (putB_length b 8), List.take_left' hs, num_putB 4 a (by rw [show (256 : Nat) ^ 4 = 4294967296 from rfl]; omega), num_putB 8 b (by rw [show (256 : Nat) ^ 8 = 18446744073709551616 from rfl]; omega)]
theorem getP_ok {l : List Nat} (h : 44 ≤ l.length) (hb : ∀ x ∈ l, x < 256) : PtOk (getP l) := by
  have e1 : (l.take 4).length = 4 := by rw [List.length_take]; omega
  have e2 : ((l.drop 4).take 8).length = 8 := by rw [List.length_take, List.length_drop]; omega
  have h1 := num_lt (l.take 4) (fun x hx => hb x (List.mem_of_mem_take hx))
  have h2 := num_lt ((l.drop 4).take 8) (fun x hx => hb x (List.mem_of_mem_drop (List.mem_of_mem_take hx)))
  rw [e1, show (256 : Nat) ^ 4 = 4294967296 from rfl] at h1
  rw [e2, show (256 : Nat) ^ 8 = 18446744073709551616 from rfl] at h2
  refine ⟨?_, ?_, ?_, fun x hx => hb x (List.mem_of_mem_drop (List.mem_of_mem_drop (List.mem_of_mem_take hx)))⟩
  · show ((num (l.take 4) : Nat) : Int) ≤ _; omega
  · show ((num ((l.drop 4).take 8) : Nat) : Int) ≤ _; omega
  · show (((l.drop 4).drop 8).take 32).length = 32
    rw [List.length_take, List.length_drop, List.length_drop]; omega
end Go.Proofs.PlainPtr
namespace Go.Proofs.Ytfhlenclnknnhaa
open Go.RowKit
open Go.Proofs.PlainPtr Go.Proofs.PlainSha
section
variable {B : Nat} {w : World} {g : Nat} {k : Option Nat} {l : List Nat}
def RetGt (B g : Nat) (k : Option Nat) (p : PtrD) (l : List Nat) (w : World) (e : Ending) (w' : World) : Prop :=
  e = .returned (.tuple #[.agg (pcl p).toArray, .int .i64 0]) ∧ Rd B w' g k l ∧ Keeps [g] w w'
theorem zero_pt : (Try.prog.info? 27).bind (·.zero) = some (.agg (pcl pz).toArray) := by kernel_rfl
set_option maxRecDepth 100000 in
set_option maxHeartbeats 1000000 in
theorem get_short (h : Rd B w g k l) (hnl : l.length < 44) :
    Calls Try.prog 16 #[.pointer (some ⟨g, 0, none⟩)] w fun e w' => e = .returned (.tuple #[.agg (pcl pz).toArray, .int .i64 3]) ∧ Below w.heap.size w w' := by
  have hl := Lib.hid (fun w' (h : Rd B w' g k l) => left_any h)
  have hz := Lib.hid (@zero_pt)
  have hzl := Lib.hid (pcl_len pz_ok)
  have hob := Lib.hid (pcl_ones pz)
  generalize pcl pz = Z at *
  have H := Lib.hid h
  have hg := Lib.hid h.lt
  clear h
  generalize l.length = n at *
  go_enter Try.func16, Try.ntmps16
  go_wp2_with (refine wpList_allocA rfl 27 rfl Z hz.out ?_)
  intro w1 h1 hK1 hs1
  have H1 := H.out.keeps hK1 (by simp) (by simp)
  have B1 := Lib.hid (hK1.below (B := w.heap.size) (Nat.le_refl _) (by simp))
  have hlc := Lib.hid (hl.out w1 H1)
  clear H H1 hl hK1
  obtain ⟨g2, hg2⟩ : ∃ g2, Hid (w.heap.size = g2) := ⟨_, rfl⟩
  have hg2' := hg2.out
  rw [hg2'] at h1 hs1 ⊢
  clear hg2'
  replace h1 := Lib.hid h1
  replace hs1 := Lib.hid hs1
  go_wp2_with fail
  refine hlc.out.mono ?_
  rintro e w2 ⟨rfl, rfl⟩
  go_wp2_with (first
    | refine wpList_loadW rfl 27 (.tmp 2) rfl 34 arrPt g2 rfl 27 Z h1.out hzl.out ?_
    | refine wpList_storeW rfl 27 (.tmp 2) (.tmp 14) rfl 34 arrPt g2 rfl Z rfl 27 _ h1.out hzl.out hzl.out hob.out ?_)
  intro w4 h4 hK4
  have B4 := B1.out.trans (hK4.below (B := w.heap.size) (by rw [hs1.out, hg2.out]; omega) (by simp; rw [hg2.out]; exact Nat.le_refl _))
  go_wp2
  exact bodyPost_ret (v := .tuple #[.agg Z.toArray, .int .i64 3]) (bres_cell2 Try.results16 _ _ _ 27 _ arrPt hzl.out _ rfl h4 rfl) rfl ⟨rfl, B4⟩
set_option maxRecDepth 100000 in
set_option maxHeartbeats 2000000 in
theorem get_any (h : Rd B w g k l) (hnl : 44 ≤ l.length) (hlm : (l.length : Int) ≤ 1000000) (hby : ∀ x ∈ l, x < 256) :
    Calls Try.prog 16 #[.pointer (some ⟨g, 0, none⟩)] w (RetGt B g k (getP l) (l.drop 44) w) := by
  have hl := Lib.hid (fun w' (h : Rd B w' g k l) => left_any h)
  have hz := Lib.hid (@zero_pt)
  have hzl := Lib.hid (pcl_len pz_ok)
  have hP := getP_ok hnl hby
  have hPl := Lib.hid (pcl_len hP)
  have hPob := Lib.hid (pcl_ones (getP l))
  have hsl := Lib.hid (show (bv (getP l).s).length = 32 by rw [bv_length]; exact hP.s)
  have hsob := Lib.hid (ones_bv (getP l).s)
  have hX := hP.a
  have hkl : Hid (∀ b, k = some b → b < w.heap.size) := fun b hb => h.row_lt hb
  have hn1 : Hid (∀ w', Rd B w' g k l → Calls Try.prog 37 #[.pointer (some ⟨g, 0, none⟩), .int .i64 4] w' (RetNm B g k (getP l).a (l.drop 4) w')) := fun w' h => rnum_any h 4 (by decide) (by decide) (by omega) hlm hby
  have hn2 : Hid (∀ w', Rd B w' g k (l.drop 4) → Calls Try.prog 37 #[.pointer (some ⟨g, 0, none⟩), .int .i64 8] w' (RetNm B g k (getP l).b ((l.drop 4).drop 8) w')) := fun w' h => rnum_any h 8 (by decide) (by decide) (by rw [List.length_drop]; omega) (by rw [List.length_drop]; omega) (fun x hx => hby x (List.mem_of_mem_drop hx))
  have hn3 : Hid (∀ w', Rd B w' g k ((l.drop 4).drop 8) → Calls Try.prog 38 #[.pointer (some ⟨g, 0, none⟩)] w' (RetHs B g k (getP l).s (l.drop 44) w')) := fun w' h => by
    have := rhash_any h (by rw [List.length_drop, List.length_drop]; omega) (by rw [List.length_drop, List.length_drop]; omega)
    rw [show ((l.drop 4).drop 8).drop 32 = l.drop 44 by rw [List.drop_drop, List.drop_drop]] at this
    exact this
  have hR : Hid (∀ w', Rd B w' g k (l.drop 44) → Keeps [g] w w' → RetGt B g k (getP l) (l.drop 44) w (.returned (.tuple #[.agg (pcl (getP l)).toArray, .int .i64 0])) w') := fun w' h1 h2 => ⟨rfl, h1, h2⟩
  have hset : Hid (putL (Value.int .u32 ((getP l).a : Int) :: Value.int .u64 ((getP l).b : Int) :: bv (List.replicate 32 0)) 2 (bv (getP l).s) = pcl (getP l)) := by
    show _ = _
    rw [putL]
    simp only [List.take_succ_cons, List.take_zero, pcl]
    rw [List.drop_of_length_le (by simp [hsl.out])]
    simp
  have hpz : pcl pz = Value.int .u32 0 :: Value.int .u64 0 :: bv (List.replicate 32 0) := rfl
  have H := Lib.hid h
  have hg := Lib.hid h.lt
  clear h hlm hby hP
  rw [hpz] at hz hzl
  clear hpz
  generalize RetGt B g k (getP l) (l.drop 44) w = RX at *
  generalize l.drop 44 = l4 at *
  generalize hl2 : (l.drop 4).drop 8 = l2 at *
  clear hl2
  generalize l.drop 4 = l1 at *
  generalize pcl (getP l) = P at *
  generalize (getP l).s = S at *
  generalize bv (List.replicate 32 0) = Z at *
  generalize (getP l).a = X at *
  generalize (getP l).b = Y at *
  have hnlI : (44 : Int) ≤ (l.length : Int) := by omega
  clear hnl
  generalize l.length = n at *
  go_enter Try.func16, Try.ntmps16
  go_wp2_with (refine wpList_allocA rfl 27 rfl _ hz.out ?_)
  intro w1 h1 hK1 hs1
  have H1 := H.out.keeps hK1 (by simp) (by simp)
  have K1 := Lib.hid (hK1.mono (G' := [g]) (by simp))
  have hlc := Lib.hid (hl.out w1 H1)
  have hn1c := Lib.hid (hn1.out w1 H1)
  obtain ⟨g2, hg2⟩ : ∃ g2, Hid (w.heap.size = g2) := ⟨_, rfl⟩
  have hg2' := hg2.out
  rw [hg2'] at h1 hkl hg ⊢
  have hgn := Lib.hid (show g ≠ g2 by have := hg.out; omega)
  have hgn2 := Lib.hid (show g2 ∉ [g] by have := hg.out; simp; omega)
  clear hg2' H H1 hl hK1 hs1 hn1
  replace h1 := Lib.hid h1
  go_wp2_with fail
  refine hlc.out.mono ?_
  rintro e w2 ⟨rfl, rfl⟩
  clear hlc
  go_wp2_with fail
  refine hn1c.out.mono ?_
  rintro e w2 ⟨rfl, hr2, hK2⟩
  have K2 := Lib.hid (K1.out.trans hK2)
  have h2 := h1.out.keeps hK2 hgn2.out
  have c2 : w2.cell? ⟨g2, 0, none⟩ = some (.int .u32 0) := (h2.cell 0).trans rfl
  have f2 := h2.frozen 0
  have h3 := Lib.hid (h2.set_ 0 (.int .u32 (X : Int)))
  have hK3 := (Keeps.refl [g2] w2).setCell (p := ⟨g2, 0, none⟩) (by simp) (.int .u32 (X : Int))
  have K3 := Lib.hid (K2.out.fresh hK3 (by rw [hg2.out]; exact Nat.le_refl _))
  have hr3 := hr2.keeps hK3 (by simp; exact hgn.out) (fun b hb => by have := hkl.out b hb; simp; omega)
  have hn2c := Lib.hid (hn2.out _ hr3)
  clear hr2 hK2 h2 hK3 hr3 hn1c K1 K2 h1 hn2
  go_wp2_with fail
  refine hn2c.out.mono ?_
  rintro e w4 ⟨rfl, hr4, hK4⟩
  have K4 := Lib.hid (K3.out.trans hK4)
  have h4 := h3.out.keeps hK4 hgn2.out
  have c4 : w4.cell? ⟨g2, 1, none⟩ = some (.int .u64 0) := (h4.cell 1).trans rfl
  have f4 := h4.frozen 1
  have h5 := Lib.hid (h4.set_ 1 (.int .u64 (Y : Int)))
  have hK5 := (Keeps.refl [g2] w4).setCell (p := ⟨g2, 1, none⟩) (by simp) (.int .u64 (Y : Int))
  have K5 := Lib.hid (K4.out.fresh hK5 (by rw [hg2.out]; exact Nat.le_refl _))
  have hr5 := hr4.keeps hK5 (by simp; exact hgn.out) (fun b hb => by have := hkl.out b hb; simp; omega)
  have hn3c := Lib.hid (hn3.out _ hr5)
  clear hr4 hK4 h4 hK5 hr5 hn2c K3 K4 h3 hn3 c2 f2
  go_wp2_with fail
  refine hn3c.out.mono ?_
  rintro e w6 ⟨rfl, hr6, hK6⟩
  have K6 := Lib.hid (K5.out.trans hK6)
  have h6 := Lib.hid (h5.out.keeps hK6 hgn2.out)
  replace hr6 := Lib.hid hr6
  clear hK6 h5 hn3c K5 c4 f4
  go_wp2_with (refine wpList_storeA rfl 25 (.tmp 34) (.tmp 32) rfl 32 arrHs g2 2 rfl (bv S) rfl 27 _ h6.out hsl.out ?_ hsob.out ?_)
  · have := hzl.out
    simp only [List.set_cons_zero, List.set_cons_succ, List.length_cons] at this ⊢
    omega
  intro w7 h7 hK7
  have h7' : Blk w7 g2 27 P := by rw [← hset.out]; exact h7
  have K7 := Lib.hid (K6.out.fresh hK7 (by rw [hg2.out]; exact Nat.le_refl _))
  have hr7 := Lib.hid (hr6.out.keeps hK7 (by simp; exact hgn.out) (fun b hb => by have := hkl.out b hb; simp; omega))
  clear h7 hK7 h6 hr6 K6
  replace h7' := Lib.hid h7'
  go_wp2_with (first
    | refine wpList_loadW rfl 27 (.tmp 2) rfl 34 arrPt g2 rfl 27 P h7'.out hPl.out ?_
    | refine wpList_storeW rfl 27 (.tmp 2) (.tmp 35) rfl 34 arrPt g2 rfl P rfl 27 _ h7'.out hPl.out hPl.out hPob.out ?_)
  intro w8 h8 hK8
  have hr8 := hr7.out.keeps hK8 (by simp; exact hgn.out) (fun b hb => by have := hkl.out b hb; simp; omega)
  have K8 := K7.out.fresh hK8 (by rw [hg2.out]; exact Nat.le_refl _)
  go_wp2
  exact bodyPost_ret (v := .tuple #[.agg P.toArray, .int .i64 0]) (bres_cell2 Try.results16 _ _ _ 27 _ arrPt hPl.out _ rfl h8 rfl) rfl (hR.out _ hr8 K8)
end
end Go.Proofs.Ytfhlenclnknnhaa
