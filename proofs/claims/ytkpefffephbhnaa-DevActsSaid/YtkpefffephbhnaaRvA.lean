/- The reference's device (banyanref06): how it lies; New, there, goes, SetLimit. -/
import Derived.Test.YtkpefffephbhnaaDevI
import Derived.Test.YtkpefffephbhnaaCpS
import Derived.Laws.MakeOwn
set_option linter.unusedVariables false
set_option linter.unusedSimpArgs false
namespace Go.Proofs.Ytkpefffephbhnaa
open Go.RowKit Go.Maps
open Go.Proofs.PlainDev

/-- Sectors, one behind the other, as cells. -/
def rcl (z : Nat) (F : Nat → List Nat) : List Value := (List.range z).flatMap fun a => bv (F a)
theorem rcl_succ (z : Nat) (F : Nat → List Nat) : rcl (z + 1) F = rcl z F ++ bv (F z) := by
  unfold rcl; rw [List.range_succ, List.flatMap_append]; simp
theorem rcl_length {z : Nat} {F : Nat → List Nat} (h : ∀ a, a < z → (F a).length = 512) : (rcl z F).length = z * 512 := by
  induction z with
  | zero => rfl
  | succ z ih => rw [rcl_succ, List.length_append, ih (fun a ha => h a (by omega)), bv_length, h z (by omega)]; omega
theorem rcl_ext {z : Nat} {F G : Nat → List Nat} (h : ∀ a, a < z → F a = G a) : rcl z F = rcl z G := by
  induction z with
  | zero => rfl
  | succ z ih => rw [rcl_succ, rcl_succ, ih (fun a ha => h a (by omega)), h z (by omega)]
theorem rcl_get {z : Nat} {F : Nat → List Nat} (h : ∀ a, a < z → (F a).length = 512) {a : Nat} (ha : a < z) : ((rcl z F).drop (a * 512)).take 512 = bv (F a) := by
  induction z with
  | zero => omega
  | succ z ih =>
    have hl := rcl_length (z := z) (F := F) (fun a ha => h a (by omega))
    have hz : (bv (F z)).length = 512 := by rw [bv_length]; exact h z (by omega)
    rw [rcl_succ]
    rcases Nat.lt_or_ge a z with h1 | h1
    · rw [List.drop_append_of_le_length (by rw [hl]; exact Nat.mul_le_mul_right _ (by omega)), List.take_append_of_le_length (by rw [List.length_drop, hl]; omega)]
      exact ih (fun a ha => h a (by omega)) h1
    · obtain rfl : a = z := by omega
      rw [List.drop_left' hl, List.take_of_length_le (by omega)]
/-- One sector's first bytes are laid anew. -/
def rset (F : Nat → List Nat) (a : Nat) (m : List Nat) : Nat → List Nat := fun x => if x = a then m ++ (F a).drop m.length else F x
theorem rset_length {F : Nat → List Nat} {a : Nat} {m : List Nat} (h : (F a).length = 512) (hm : m.length ≤ 512) (x : Nat) (hx : (F x).length = 512) : (rset F a m x).length = 512 := by
  unfold rset
  split
  · rw [List.length_append, List.length_drop, h]; omega
  · exact hx
theorem rcl_put {z : Nat} {F : Nat → List Nat} (h : ∀ a, a < z → (F a).length = 512) {a : Nat} (ha : a < z) {m : List Nat} (hm : m.length ≤ 512) : putL (rcl z F) (a * 512) (bv m) = rcl z (rset F a m) := by
  induction z with
  | zero => omega
  | succ z ih =>
    have hl := rcl_length (z := z) (F := F) (fun a ha => h a (by omega))
    have hz : (bv (F z)).length = 512 := by rw [bv_length]; exact h z (by omega)
    have hb : (bv m).length ≤ 512 := by rw [bv_length]; exact hm
    rw [rcl_succ, rcl_succ]
    rcases Nat.lt_or_ge a z with h1 | h1
    · rw [← ih (fun a ha => h a (by omega)) h1]
      have e : rset F a m z = F z := by unfold rset; rw [if_neg (by omega)]
      have k1 : a * 512 ≤ (rcl z F).length := by rw [hl]; exact Nat.mul_le_mul_right _ (by omega)
      have k2 : a * 512 + (bv m).length ≤ (rcl z F).length := by
        rw [hl]
        refine Nat.le_trans (Nat.add_le_add_left hb _) ?_
        rw [← Nat.succ_mul]
        exact Nat.mul_le_mul_right _ h1
      rw [e]
      clear hl hz hb
      generalize rcl z F = R at *
      generalize bv m = M at *
      generalize bv (F z) = N at *
      generalize a * 512 = o at *
      unfold putL
      rw [List.take_append_of_le_length k1, List.drop_append_of_le_length k2]
      simp only [List.append_assoc]
    · obtain rfl : a = z := by omega
      have e1 : rcl a (rset F a m) = rcl a F := rcl_ext fun x hx => by unfold rset; rw [if_neg (by omega)]
      have e2 : rset F a m a = m ++ (F a).drop m.length := by unfold rset; rw [if_pos rfl]
      rw [e1, e2]
      unfold putL
      rw [List.take_left' hl, ← List.drop_drop, List.drop_left' hl]
      simp [bv]
/-- The reference's device lies in block g, its sectors in gl, what waits in vw's row. -/
structure Rv (B : Nat) (w : World) (g gl : Nat) (vw : Value) (s : Dst) : Prop where
  ok : Okd s
  blk : Blk w g 64 [.slice (some ⟨gl, 0, none⟩) s.size s.size, vw, .int .i64 s.left, .bool s.down]
  lies : Blk w gl 65 (rcl s.size (liesL s))
  row : w.ownsRow B 80 513 vw s.waits.length (wcl s.waits)
  gB : B ≤ g
  glB : B ≤ gl
  ne : g ≠ gl
  ne4 : ∀ k, vw.ownBlock = some k → k ≠ g ∧ k ≠ gl
def rblk (g gl : Nat) (vw : Value) : List Nat := g :: gl :: vw.ownBlock.toList
theorem mem_rblk {g gl k : Nat} {vw : Value} : k ∈ rblk g gl vw ↔ k = g ∨ k = gl ∨ vw.ownBlock = some k := by
  unfold rblk
  cases h : vw.ownBlock with
  | none => simp
  | some j => simp; constructor <;> (rintro (h | h | h) <;> simp_all)
section
variable {B : Nat} {w w' : World} {g gl : Nat} {vw : Value} {s s' : Dst} {G : List Nat}
theorem Rv.keeps (h : Rv B w g gl vw s) (hK : Keeps G w w') (hG : ∀ k ∈ rblk g gl vw, k ∉ G) : Rv B w' g gl vw s :=
  ⟨h.ok, h.blk.keeps hK (hG g (mem_rblk.2 (.inl rfl))), h.lies.keeps hK (hG gl (mem_rblk.2 (.inr (.inl rfl)))), ownsRow_keeps h.row hK (fun k hk => hG k (mem_rblk.2 (.inr (.inr hk)))), h.gB, h.glB, h.ne, h.ne4⟩
theorem Rv.lt (h : Rv B w g gl vw s) : ∀ k ∈ rblk g gl vw, B ≤ k ∧ k < w.heap.size := by
  intro k hk
  rcases mem_rblk.1 hk with rfl | rfl | hk
  · exact ⟨h.gB, h.blk.lt⟩
  · exact ⟨h.glB, h.lies.lt⟩
  · exact h.row.lt k hk
theorem Rv.drew (h : Rv B w g gl vw s) : Rv B w.drew g gl vw s := ⟨h.ok, h.blk, h.lies, h.row, h.gB, h.glB, h.ne, h.ne4⟩
theorem Rv.c0 (h : Rv B w g gl vw s) : w.cell? ⟨g, 0, none⟩ = some (.slice (some ⟨gl, 0, none⟩) s.size s.size) := (h.blk.cell 0).trans rfl
theorem Rv.c1 (h : Rv B w g gl vw s) : w.cell? ⟨g, 1, none⟩ = some vw := (h.blk.cell 1).trans rfl
theorem Rv.c2 (h : Rv B w g gl vw s) : w.cell? ⟨g, 2, none⟩ = some (.int .i64 s.left) := (h.blk.cell 2).trans rfl
theorem Rv.c3 (h : Rv B w g gl vw s) : w.cell? ⟨g, 3, none⟩ = some (.bool s.down) := (h.blk.cell 3).trans rfl
/-- Its own cells are written. -/
theorem Rv.set (h : Rv B w g gl vw s) (hK : Keeps [g] w w') (hb : Blk w' g 64 [.slice (some ⟨gl, 0, none⟩) s'.size s'.size, vw, .int .i64 s'.left, .bool s'.down]) (hs : s'.size = s.size) (hl : s'.lies = s.lies) (hw : s'.waits = s.waits) (h1 : -1 ≤ s'.left ∧ s'.left ≤ 9223372036854775807) : Rv B w' g gl vw s' := by
  obtain ⟨z, l, ws, lf, dn⟩ := s'
  simp only at hs hl hw h1
  subst hs hl hw
  exact ⟨⟨h.ok.size, h.ok.lies, h.ok.waits, h1⟩, hb, h.lies.keeps hK (by simp; exact fun e => h.ne e.symm), ownsRow_keeps h.row hK (fun k hk => by simp; exact (h.ne4 k hk).1), h.gB, h.glB, h.ne, h.ne4⟩
end
/-- With its blocks. -/
def Rx (B : Nat) (w : World) (g : Nat) (L : List Nat) (s : Dst) : Prop := ∃ gl vw, Rv B w g gl vw s ∧ L = rblk g gl vw
section
variable {B g : Nat} {w w' : World} {L L' : List Nat} {s : Dst}
theorem Rx.lt (h : Rx B w g L s) : ∀ k ∈ L, B ≤ k ∧ k < w.heap.size := by
  obtain ⟨gl, vw, h, rfl⟩ := h
  exact h.lt
theorem Rx.keeps {G : List Nat} (h : Rx B w g L s) (hK : Keeps G w w') (hG : ∀ k ∈ L, k ∉ G) : Rx B w' g L s := by
  obtain ⟨gl, vw, h, rfl⟩ := h
  exact ⟨gl, vw, h.keeps hK hG, rfl⟩
theorem Rx.keep (h : Rx B w g L s) (hK : Below w.heap.size w w') : Rx B w' g L s := h.keeps (Keeps.of_below (G := []) hK) (by simp)
theorem Rx.drew (h : Rx B w g L s) : Rx B w.drew g L s := by
  obtain ⟨gl, vw, h, rfl⟩ := h
  exact ⟨gl, vw, h.drew, rfl⟩
theorem Rx.ok (h : Rx B w g L s) : Okd s := by obtain ⟨gl, vw, h, -⟩ := h; exact h.ok
end
theorem lies_len {s : Dst} (h : Okd s) : ∀ a, a < s.size → (liesL s a).length = 512 := fun a _ => (liesL_sec h a).1
theorem arr512 : ArrTy Try.prog 65 512 := ⟨_, Try.underlying65, rfl, by kernel_rfl⟩
theorem info512 : ∃ i, Try.prog.info? 65 = some i ∧ i.zero = some (.agg (bv (zeros 512)).toArray) ∧ i.size = 512 ∧ i.bytes = 512 := by
  have h1 : (Try.prog.info? 65).bind (·.zero) = some (.agg (bv (zeros 512)).toArray) := by kernel_rfl
  have h2 : (Try.prog.info? 65).map (fun i => (i.size, i.bytes)) = some (512, 512) := by kernel_rfl
  cases hi : Try.prog.info? 65 with
  | none => rw [hi] at h2; cases h2
  | some i =>
    rw [hi] at h1 h2
    simp only [Option.map_some, Option.some.injEq, Prod.mk.injEq] at h2
    exact ⟨i, rfl, h1, h2.1, h2.2⟩
theorem rep_bv (n : Nat) : bv (List.replicate n 0) = List.replicate n (.int .u8 0) := by simp [bv]
theorem made_rcl (z : Nat) : (madeCells (Value.agg (bv (zeros 512)).toArray).cells (z * 512)).toList = rcl z (fun _ => List.replicate 512 0) := by
  have e : rcl z (fun _ => List.replicate 512 0) = List.replicate (z * 512) (.int .u8 0) := by
    induction z with
    | zero => rfl
    | succ z ih => rw [rcl_succ, ih, rep_bv, List.replicate_append_replicate, Nat.succ_mul]
  rw [e]
  apply List.ext_getElem?
  intro i
  rw [List.getElem?_replicate]
  unfold madeCells
  rw [Array.toList_map, List.getElem?_map]
  by_cases hi : i < z * 512
  · rw [if_pos hi, Array.toList_range, List.getElem?_range hi]
    simp only [Value.cells, Option.map_some, Option.some.injEq]
    have hs : (bv (zeros 512)).toArray.size = 512 := by rw [List.size_toArray, bv_length, zeros_length]
    rw [hs]
    have hm : i % 512 < 512 := Nat.mod_lt _ (by decide)
    have hg : (bv (zeros 512))[i % 512]? = some (.int .u8 0) := by rw [bv_get, zeros_get hm]; rfl
    have : ((bv (zeros 512)).toArray)[i % 512]? = some (.int .u8 0) := by rw [List.getElem?_toArray]; exact hg
    rw [getElem!_def, this]
  · rw [if_neg hi, List.getElem?_eq_none (by simpa using hi)]; rfl
set_option maxRecDepth 100000 in
theorem there6 {B : Nat} {w : World} {g gl : Nat} {vw : Value} {s : Dst} (h : Rv B w g gl vw s) (a : Nat) (ha : (a : Int) ≤ 4294967295) :
    Calls Try.prog 39 #[.pointer (some ⟨g, 0, none⟩), .int .u32 (a : Int)] w fun e w' => e = .returned (.bool (decide (a < s.size))) ∧ w = w' := by
  have c0 := h.c0
  have hz : (s.size : Int) ≤ 4096 := by have := h.ok.size; omega
  generalize s.size = z at *
  clear h
  go_enter Try.func39, Try.ntmps39
  go_wp2
  go_ret
  exact ⟨rfl, rfl⟩
set_option maxRecDepth 100000 in
set_option maxHeartbeats 1000000 in
theorem goes6 {B : Nat} {w : World} {g gl : Nat} {vw : Value} {s : Dst} (h : Rv B w g gl vw s) (hd : s.down = false) :
    Calls Try.prog 38 #[.pointer (some ⟨g, 0, none⟩)] w fun e w' => e = .returned (.bool (!(stepS s).down)) ∧ Rv B w' g gl vw (stepS s) ∧ Keeps [g] w w' := by
  have c2 := h.c2
  have c3 := h.c3
  have f2 := h.blk.frozen 2
  have f3 := h.blk.frozen 3
  have hl := h.ok.left
  rw [hd] at c3
  have H := Lib.hid h
  obtain ⟨z, lies, ws, left, dn⟩ := s
  simp only at hd hl c2
  subst hd
  by_cases h0 : left = 0
  · have e : stepS ⟨z, lies, ws, left, false⟩ = ⟨z, lies, ws, 0, true⟩ := by subst h0; rfl
    rw [e]
    subst h0
    have hb := h.blk
    have b5 := Lib.hid (hb.set_ 3 (.bool true))
    have k5 := Lib.hid ((Keeps.refl [g] w).setCell (p := ⟨g, 3, none⟩) (by simp) (.bool true))
    clear h hb hl e
    go_enter Try.func38, Try.ntmps38
    go_wp2
    go_ret
    exact ⟨rfl, H.out.set k5.out b5.out rfl rfl rfl ⟨by show (-1 : Int) ≤ 0; decide, by show (0 : Int) ≤ _; decide⟩, k5.out⟩
  · have e0 : ((left : Int) == 0) = false := by simpa using h0
    by_cases h1 : 0 < left
    · have e : stepS ⟨z, lies, ws, left, false⟩ = ⟨z, lies, ws, left - 1, false⟩ := by unfold stepS; simp [h0, h1]
      rw [e]
      have hb := h.blk
      have b4 := Lib.hid (hb.set_ 2 (.int .i64 (left - 1)))
      have k5 := Lib.hid ((Keeps.refl [g] w).setCell (p := ⟨g, 2, none⟩) (by simp) (.int .i64 (left - 1)))
      clear h hb e
      go_enter Try.func38, Try.ntmps38
      go_wp2
      go_ret
      exact ⟨rfl, H.out.set k5.out b4.out rfl rfl rfl ⟨by show -1 ≤ left - 1; omega, by show left - 1 ≤ _; omega⟩, k5.out⟩
    · have e : stepS ⟨z, lies, ws, left, false⟩ = ⟨z, lies, ws, left, false⟩ := by unfold stepS; simp [h0, h1]
      rw [e]
      clear h e
      go_enter Try.func38, Try.ntmps38
      go_wp2
      go_ret
      exact ⟨rfl, H.out, Keeps.refl _ _⟩
set_option maxRecDepth 100000 in
theorem limit6 {B g : Nat} {w : World} {L : List Nat} {s : Dst} (h : Rx B w g L s) (n : Int) (h1 : n ≤ 9223372036854775807) :
    Calls Try.prog 27 #[.pointer (some ⟨g, 0, none⟩), .int .i64 n] w fun e w' => e = .returned (.tuple #[]) ∧ Rx B w' g L (limitS s n) ∧ Step L L w w' := by
  obtain ⟨gl, vw, h, rfl⟩ := h
  have c2 := h.c2
  have f2 := h.blk.frozen 2
  have hR : Hid (∀ m w', m = (if n < -1 then -1 else n) → Blk w' g 64 [.slice (some ⟨gl, 0, none⟩) s.size s.size, vw, .int .i64 m, .bool s.down] → Keeps [g] w w' → Rx B w' g (rblk g gl vw) (limitS s n) ∧ Step (rblk g gl vw) (rblk g gl vw) w w') := by
    rintro m w' rfl hb hK
    refine ⟨⟨gl, vw, h.set hK hb rfl rfl rfl ?_, rfl⟩, ⟨keeps_one hK (mem_rblk.2 (.inl rfl)), fun k hk => .inl hk⟩⟩
    show -1 ≤ (if n < -1 then -1 else n) ∧ (if n < -1 then -1 else n) ≤ _
    split <;> omega
  have hb := h.blk
  have b1 := Lib.hid (hb.set_ 2 (.int .i64 n))
  have b2 := Lib.hid (b1.out.set_ 2 (.int .i64 (-1)))
  have k1 := Lib.hid ((Keeps.refl [g] w).setCell (p := ⟨g, 2, none⟩) (by simp) (.int .i64 n))
  have k2 := Lib.hid (k1.out.setCell (p := ⟨g, 2, none⟩) (by simp) (.int .i64 (-1)))
  clear h hb
  by_cases hn : n < 0
  · have e : (-1 : Int) = if n < -1 then -1 else n := by split <;> omega
    replace e := Lib.hid e
    go_enter Try.func27, Try.ntmps27
    go_wp2
    go_returns
    exact ⟨rfl, hR.out _ _ e.out b2.out k2.out⟩
  · have e : n = if n < -1 then -1 else n := by rw [if_neg (by omega)]
    replace e := Lib.hid e
    go_enter Try.func27, Try.ntmps27
    go_wp2
    go_returns
    exact ⟨rfl, hR.out _ _ e.out b1.out k1.out⟩
set_option maxRecDepth 100000 in
theorem new6 (size : Nat) (w : World) (h1 : (16 : Int) ≤ size) (h2 : (size : Int) ≤ 4096) :
    Calls Try.prog 23 #[.int .i64 (size : Int)] w fun e w' => ∃ g L, e = .returned (.tuple #[.pointer (some ⟨g, 0, none⟩), .bool true]) ∧ Rx w.heap.size w' g L (new0 size) ∧ Below w.heap.size w w' := by
  have hok := Lib.hid (new0_ok (size := size) (by omega) (by omega))
  obtain ⟨i, hi, hz, hsz, hby⟩ := info512
  have hmk := run_makeSlice (P := Try.prog) w 61 65 i _ Try.underlying61 hi hz .i64 .i64 (size : Int) (size : Int) (by omega) (Int.le_refl _) (by rw [hsz]; omega) (by rw [hby]; omega) (by omega)
  rw [hsz, Int.toNat_natCast] at hmk
  obtain ⟨cs, hcs⟩ : ∃ cs, Hid (madeCells (Value.agg (bv (zeros 512)).toArray).cells (size * 512) = cs) := ⟨_, rfl⟩
  rw [hcs.out] at hmk
  have hrc := Lib.hid (made_rcl size)
  rw [hcs.out] at hrc
  clear hi hz hsz hby hcs
  go_enter Try.func23, Try.ntmps23
  go_wp2
  go_ret2
  have b1 : Below w.heap.size w (w.alloc (.cells cs 65)) := (Below.refl _ _).alloc (Nat.le_refl _) _
  have k1 := Blk.new_at (w := w) (t := 65) (cs := cs) rfl hrc.out
  generalize hW : w.alloc (.cells cs 65) = W1 at *
  have hs : W1.heap.size = w.heap.size + 1 := by rw [← hW]; simp
  have b2 : Below W1.heap.size W1 (W1.alloc (.cells #[.slice (some ⟨w.heap.size, 0, none⟩) size size, .slice none 0 0, .int .i64 (-1), .bool false] 64)) := (Below.refl _ _).alloc (Nat.le_refl _) _
  have k2 := Blk.new_at (w := W1) (n := w.heap.size + 1) (t := 64) (cs := #[.slice (some ⟨w.heap.size, 0, none⟩) size size, .slice none 0 0, .int .i64 (-1), .bool false]) hs rfl
  refine ⟨_, rblk (w.heap.size + 1) w.heap.size (.slice none 0 0), rfl, ⟨w.heap.size, .slice none 0 0, ⟨hok.out, k2, ?_, World.ownsRow_nil _ _ _ _, by omega, Nat.le_refl _, by omega, fun k hk => by cases hk⟩, rfl⟩, b1.trans (b2.mono b1.size)⟩
  exact k1.keep b2
end Go.Proofs.Ytkpefffephbhnaa
