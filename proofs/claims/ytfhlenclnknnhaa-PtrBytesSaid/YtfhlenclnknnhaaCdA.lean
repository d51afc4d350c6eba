/- codec.Writer: how it lies; add, Num, Hash, Bytes; cmp.Or of errors; ptr.Put. -/
import Derived.Test.YtfhlenclnknnhaaPtC
import Derived.Test.YtfhlenclnknnhaaOwn2
import Derived.Test.YtfhlenclnknnhaaNumD
import Derived.Test.YtfhlenclnknnhaaClo
import Derived.Test.YtfhlenclnknnhaaArrB
set_option linter.unusedVariables false
set_option linter.unusedSimpArgs false
namespace Go.Proofs.PlainPtr
open Go.Proofs.PlainSha
/-- A pointer's bytes. -/
def ptrB (p : PtrD) : List Nat := putB p.a 4 ++ (putB p.b 8 ++ p.s)
end Go.Proofs.PlainPtr
namespace Go.Proofs.Ytfhlenclnknnhaa
open Go.RowKit
open Go.Proofs.PlainPtr Go.Proofs.PlainSha

/-- A writer in block g, its bytes in v's row. -/
structure Wr (B : Nat) (w : World) (g : Nat) (v : Value) (l : List Nat) : Prop where
  blk : Blk w g 37 [v]
  row : w.ownsRow B 5 1 v l.length (bv l)
  gB : B ≤ g
  ne : v.ownBlock ≠ some g
def wbl (g : Nat) (v : Value) : List Nat := g :: v.ownBlock.toList
theorem mem_wbl {g k : Nat} {v : Value} : k ∈ wbl g v ↔ k = g ∨ v.ownBlock = some k := by
  unfold wbl
  cases h : v.ownBlock with
  | none => simp
  | some j => simp; constructor <;> (rintro (h | h) <;> simp_all)
section
variable {B : Nat} {w w' : World} {g : Nat} {v : Value} {l : List Nat} {G : List Nat}
theorem Wr.keeps (h : Wr B w g v l) (hK : Keeps G w w') (hG : ∀ k ∈ wbl g v, k ∉ G) : Wr B w' g v l :=
  ⟨h.blk.keeps hK (hG g (mem_wbl.2 (.inl rfl))), own_keeps h.row hK (fun k _ hk => hG k (mem_wbl.2 (.inr hk))), h.gB, h.ne⟩
theorem Wr.keep (h : Wr B w g v l) (hB : Below w.heap.size w w') : Wr B w' g v l := h.keeps (Keeps.of_below (G := []) hB) (by simp)
theorem Wr.lt (h : Wr B w g v l) : ∀ k ∈ wbl g v, B ≤ k ∧ k < w.heap.size := by
  intro k hk
  rcases mem_wbl.1 hk with rfl | hk
  · exact ⟨h.gB, h.blk.lt⟩
  · exact h.row.lt k hk
theorem Wr.c0 (h : Wr B w g v l) : w.cell? ⟨g, 0, none⟩ = some v := (h.blk.cell 0).trans rfl
end
/-- A new writer. -/
theorem Wr.made {w : World} {n : Nat} (hn : w.heap.size = n) : Wr n (w.alloc (.cells #[.slice none 0 0] 37)) n (.slice none 0 0) [] :=
  ⟨Blk.new_at hn rfl, World.ownsRow_nil _ _ _ _, Nat.le_refl _, fun h => by cases h⟩
/-- What laying bytes leaves. -/
def RetAdd (B : Nat) (g : Nat) (v : Value) (l : List Nat) (w : World) (e : Ending) (w' : World) : Prop :=
  ∃ v', e = .returned (.int .i64 0) ∧ Wr B w' g v' l ∧ Keeps (wbl g v) w w' ∧ Moved w.heap.size v.ownBlock v'.ownBlock
set_option maxRecDepth 100000 in
set_option maxHeartbeats 1000000 in
theorem add_any {B : Nat} {w : World} {g : Nat} {v : Value} {l : List Nat} (h : Wr B w g v l) (hB : B ≤ w.heap.size) (u : Value) (m : List Nat) (hs : Sl w u (bv m)) (hl : ((l.length + m.length : Nat) : Int) ≤ 1000000) :
    Calls Try.prog 47 #[.pointer (some ⟨g, 0, none⟩), u, .int .i64 0] w (RetAdd B g v (l ++ m) w) := by
  obtain ⟨i0, hi, hz0, hz1, hz2⟩ := info_parts (P := Try.prog) (e := 5) (z := .int .u8 0) (size := 1) (bytes := 1) (by kernel_rfl)
  have c0 := h.c0
  obtain ⟨Av, nv, cv, hv⟩ : ∃ A n c, v = .slice A n c := by
    rcases h.row.2 with ⟨e, _⟩ | ⟨g', cap, cur, e, _⟩
    · exact ⟨_, _, _, e⟩
    · exact ⟨_, _, _, e⟩
  subst hv
  obtain ⟨Au, cu, hu, -⟩ := id hs
  obtain ⟨nu, hnu⟩ : ∃ nu, Hid (nu = (bv m).length) := ⟨_, rfl⟩
  rw [← hnu.out] at hu
  have hrow := h.row
  have H := Lib.hid h
  clear h
  rw [hu] at hs ⊢
  go_enter Try.func47, Try.ntmps47
  go_wp2_with (at_builtin; refine wpList_append_sl2 rfl (.tmp 15) (.tmp 16) 35 rfl B 5 i0 (.int .u8 0) 1 Try.underlying35 hi hz0 hz1 hz2 rfl _ l.length (bv l) rfl hrow _ (bv m) rfl hs (bv_oneCell m) ?_ ?_ hB ?_)
  · rw [bv_length]; unfold maxLen; omega
  · rw [bv_length]; omega
  intro v2 w2 own2 gr2 mv2
  obtain ⟨A2, n2, c2', hv2⟩ : ∃ A n c, v2 = .slice A n c := by
    rcases own2.2 with ⟨e, _⟩ | ⟨g', cap, cur, e, _⟩
    · exact ⟨_, _, _, e⟩
    · exact ⟨_, _, _, e⟩
  subst hv2
  have hK2 := Keeps.grown gr2
  have hb2 := H.out.blk.keeps hK2 (fun hm => by rw [Option.mem_toList] at hm; exact H.out.ne hm)
  have c2 : w2.cell? ⟨g, 0, none⟩ = some (.slice Av nv cv) := (hb2.cell 0).trans rfl
  have f2 := hb2.frozen 0
  have b3 := Lib.hid (hb2.set_ 0 (.slice A2 n2 c2'))
  have hK3 := Lib.hid ((Keeps.refl [g] w2).setCell (p := ⟨g, 0, none⟩) (by simp) (.slice A2 n2 c2'))
  have hne2 : Hid ((Value.slice A2 n2 c2').ownBlock ≠ some g) := mv2.ne H.out.blk.lt H.out.ne
  have own3 : Hid ((w2.setCell ⟨g, 0, none⟩ (.slice A2 n2 c2')).ownsRow B 5 1 (.slice A2 n2 c2') (l ++ m).length (bv (l ++ m))) := by
    have h1 : w2.ownsRow B 5 1 (.slice A2 n2 c2') (l ++ m).length (bv (l ++ m)) := by
      have := own2
      try simp only [bv_length] at this
      rw [← List.length_append, show bv l ++ bv m = bv (l ++ m) from by simp [bv]] at this
      exact this
    exact own_keeps h1 hK3.out (fun k _ hk => by simp; rintro rfl; exact hne2.out hk)
  have hK23 := Lib.hid ((hK2.mono (G' := wbl g (.slice Av nv cv)) (fun k hk => by rw [Option.mem_toList] at hk; exact mem_wbl.2 (.inr hk))).trans (hK3.out.mono (fun k hk => by simp at hk; exact mem_wbl.2 (.inl hk))))
  have mv3 := Lib.hid mv2
  clear own2 gr2 mv2 hK2 hb2 c0 hs hrow
  go_wp2
  go_ret
  exact ⟨.slice A2 n2 c2', rfl, ⟨b3.out, own3.out, H.out.gB, hne2.out⟩, hK23.out, mv3.out⟩
set_option maxRecDepth 100000 in
theorem add_nil (w : World) (u : Value) (e : Int) : Calls Try.prog 47 #[.pointer none, u, .int .i64 e] w fun e w' => e = .returned (.int .i64 1) ∧ w = w' := by
  go_enter Try.func47, Try.ntmps47
  go_wp2
  go_ret
  exact ⟨rfl, rfl⟩
/-- A writer with all its blocks. -/
def Wx (B : Nat) (w : World) (g : Nat) (L : List Nat) (l : List Nat) : Prop := ∃ v, Wr B w g v l ∧ L = wbl g v
section
variable {B g : Nat} {w w' : World} {L L' : List Nat} {l : List Nat}
theorem Wx.lt (h : Wx B w g L l) : ∀ k ∈ L, B ≤ k ∧ k < w.heap.size := by obtain ⟨v, h, rfl⟩ := h; exact h.lt
theorem Wx.keeps {G : List Nat} (h : Wx B w g L l) (hK : Keeps G w w') (hG : ∀ k ∈ L, k ∉ G) : Wx B w' g L l := by
  obtain ⟨v, h, rfl⟩ := h
  exact ⟨v, h.keeps hK hG, rfl⟩
theorem Wx.keep (h : Wx B w g L l) (hK : Below w.heap.size w w') : Wx B w' g L l := h.keeps (Keeps.of_below (G := []) hK) (by simp)
theorem Wx.g_mem (h : Wx B w g L l) : g ∈ L := by obtain ⟨v, h, rfl⟩ := h; exact mem_wbl.2 (.inl rfl)
theorem Wx.hB (h : Wx B w g L l) : B ≤ w.heap.size := by have := h.lt g h.g_mem; omega
end
/-- A step of a writer keeps all but its own blocks, and its new ones are new. -/
structure WStep (L L' : List Nat) (w w' : World) : Prop where
  keeps : Keeps L w w'
  more : ∀ k ∈ L', k ∈ L ∨ w.heap.size ≤ k
theorem WStep.refl (L : List Nat) (w : World) : WStep L L w w := ⟨Keeps.refl _ _, fun k hk => .inl hk⟩
theorem WStep.of_below {L : List Nat} {w w' : World} (h : Below w.heap.size w w') : WStep L L w w' := ⟨Keeps.of_below h, fun k hk => .inl hk⟩
theorem WStep.trans {L L' L2 : List Nat} {w w1 w2 : World} (h : WStep L L' w w1) (h2 : WStep L' L2 w1 w2) : WStep L L2 w w2 :=
  ⟨⟨h2.keeps.os.trans h.keeps.os, h2.keeps.tape.trans h.keeps.tape, h2.keeps.output.trans h.keeps.output, Nat.le_trans h.keeps.size h2.keeps.size,
    fun b hb hn => (h2.keeps.block b (Nat.lt_of_lt_of_le hb h.keeps.size) (fun hm => by rcases h.more b hm with h3 | h3; exact hn h3; omega)).trans (h.keeps.block b hb hn)⟩,
   fun k hk => by rcases h2.more k hk with h3 | h3; exact h.more k h3; exact .inr (Nat.le_trans h.keeps.size h3)⟩
theorem WStep.below {L L' : List Nat} {B : Nat} {w w' : World} (h : WStep L L' w w') (hL : ∀ k ∈ L, B ≤ k) (hB : B ≤ w.heap.size) : Below B w w' :=
  ⟨h.keeps.os, h.keeps.tape, h.keeps.output, h.keeps.size, fun b hb => h.keeps.block b (by omega) (fun hm => by have := hL b hm; omega)⟩
theorem keeps_wstep {w w' : World} {g : Nat} {v v' : Value} (h : Keeps (wbl g v) w w') (hm : Moved w.heap.size v.ownBlock v'.ownBlock) : WStep (wbl g v) (wbl g v') w w' :=
  ⟨h, fun k hk => by
    rcases mem_wbl.1 hk with e | e
    · exact .inl (mem_wbl.2 (.inl e))
    · rcases hm with h2 | h2
      · exact .inl (mem_wbl.2 (.inr (h2 ▸ e)))
      · exact .inr (h2 k e)⟩
section
variable {B g : Nat} {w : World} {L : List Nat} {l : List Nat}
/-- What laying answers. -/
def RetWx (B g : Nat) (L l : List Nat) (w : World) (e : Ending) (w' : World) : Prop := ∃ L', e = .returned (.int .i64 0) ∧ Wx B w' g L' l ∧ WStep L L' w w'
theorem add_x (h : Wx B w g L l) (u : Value) (m : List Nat) (hs : Sl w u (bv m)) (hl : ((l.length + m.length : Nat) : Int) ≤ 1000000) :
    Calls Try.prog 47 #[.pointer (some ⟨g, 0, none⟩), u, .int .i64 0] w (RetWx B g L (l ++ m) w) := by
  have hB := h.hB
  obtain ⟨v, h, rfl⟩ := h
  refine (add_any h hB u m hs hl).mono ?_
  rintro e w' ⟨v', rfl, h', hK, hm⟩
  exact ⟨_, rfl, ⟨v', h', rfl⟩, keeps_wstep hK hm⟩
set_option maxRecDepth 100000 in
set_option maxHeartbeats 1000000 in
theorem num_x (h : Wx B w g L l) (x n : Nat) (hx : x < 18446744073709551616) (hn : n ≤ 8) (hf : x / 2 ^ (8 * n) = 0) (hl : ((l.length + n : Nat) : Int) ≤ 1000000) :
    Calls Try.prog 33 #[.pointer (some ⟨g, 0, none⟩), .int .u64 (x : Int), .int .i64 (n : Int)] w (RetWx B g L (l ++ putB x n) w) := by
  have hp := Lib.hid (put_ok x n w hx hn hf)
  have hpl := putB_length x n
  have hR : Hid (∀ e w', RetWx B g L (l ++ putB x n) w e w' → RetWx B g L (l ++ putB x n) w e w') := fun _ _ h => h
  have hadd := Lib.hid (fun w' u (h' : Wx B w' g L l) (hs : Sl w' u (bv (putB x n))) => add_x h' u (putB x n) hs (by rw [hpl]; exact hl))
  have H := Lib.hid h
  clear h hf hx hn hl hpl
  generalize putB x n = P at *
  go_enter Try.func33, Try.ntmps33
  go_wp2_with fail
  refine hp.out.mono ?_
  rintro e w1 ⟨v, rfl, sl, B1⟩
  have ha := Lib.hid (hadd.out w1 v (H.out.keep B1) sl)
  obtain ⟨A, c, hv, -⟩ := id sl
  obtain ⟨nv, hnv⟩ : ∃ nv, nv = (bv P).length := ⟨_, rfl⟩
  rw [← hnv] at hv
  subst hv
  clear hnv
  replace B1 := Lib.hid B1
  clear sl hp
  go_wp2_with fail
  refine ha.out.mono ?_
  rintro e w2 ⟨L', rfl, H2, S2⟩
  have S3 := Lib.hid ((WStep.of_below (L := L) B1.out).trans S2)
  replace H2 := Lib.hid H2
  clear S2 ha
  go_wp2
  go_ret
  exact ⟨L', rfl, H2.out, S3.out⟩
theorem wholeH (g off : Nat) (w : World) : (Instr.sliceAt 25 (.pointer (some ⟨g, off, none⟩)) none none none).run Try.prog w = .ok (.slice (some ⟨g, off, none⟩) 32 32) w := by kernel_rfl
set_option maxRecDepth 100000 in
set_option maxHeartbeats 1000000 in
theorem hash_x (h : Wx B w g L l) (s : List Nat) (hsl : s.length = 32) (hl : ((l.length + 32 : Nat) : Int) ≤ 1000000) :
    Calls Try.prog 34 #[.pointer (some ⟨g, 0, none⟩), .agg (bv s).toArray] w (RetWx B g L (l ++ s) w) := by
  have h0 := Blk.new_at (w := w) (t := 25) (cs := (bv s).toArray) rfl rfl
  have B0 : Below w.heap.size w (w.alloc (.cells (bv s).toArray 25)) := (Below.refl _ _).alloc (Nat.le_refl _) _
  have sl0 : Sl (w.alloc (.cells (bv s).toArray 25)) (.slice (some ⟨w.heap.size, 0, none⟩) 32 32) (bv s) := by
    have := Sl.of_blk (n := 32) (c := 32) h0 (Nat.le_refl _) (by rw [bv_length, hsl]; exact Nat.le_refl _) (by unfold maxLen; omega)
    rwa [List.take_of_length_le (by rw [bv_length, hsl]; exact Nat.le_refl _)] at this
  have ha := Lib.hid (add_x (h.keep B0) _ s sl0 (by rw [hsl]; exact hl))
  have S0 := Lib.hid (WStep.of_below (L := L) B0)
  have q := wholeH w.heap.size 0 (w.alloc (.cells (bv s).toArray 25))
  clear h h0 B0 sl0
  generalize (bv s).toArray = X at *
  go_enter Try.func34, Try.ntmps34
  go_wp2_with fail
  refine ha.out.mono ?_
  rintro e w2 ⟨L', rfl, H2, S2⟩
  have S3 := Lib.hid (S0.out.trans S2)
  replace H2 := Lib.hid H2
  clear S2 ha q
  go_wp2
  go_ret
  exact ⟨L', rfl, H2.out, S3.out⟩
set_option maxRecDepth 100000 in
theorem bytes_x (h : Wx B w g L l) (hl : (l.length : Int) ≤ 1000000) : Calls Try.prog 14 #[.pointer (some ⟨g, 0, none⟩)] w (RetO l w) := by
  obtain ⟨v, h, rfl⟩ := h
  have c0 := h.c0
  have hc := Lib.hid (clone_own v l w h.row (by omega))
  obtain ⟨Av, nv, cv, hv⟩ : ∃ A n c, v = .slice A n c := by
    rcases h.row.2 with ⟨e, _⟩ | ⟨g', cap, cur, e, _⟩
    · exact ⟨_, _, _, e⟩
    · exact ⟨_, _, _, e⟩
  subst hv
  have hR : Hid (∀ v w', w'.ownsRow w.heap.size 5 1 v l.length (bv l) → Below w.heap.size w w' → RetO l w (.returned v) w') := fun v w' h1 h2 => ⟨v, rfl, h1, h2⟩
  clear h
  go_enter Try.func14, Try.ntmps14
  go_wp2_with fail
  refine hc.out.mono ?_
  rintro e w1 ⟨v, rfl, own, B1⟩
  replace own := Lib.hid own
  replace B1 := Lib.hid B1
  clear c0 hc
  go_wp2
  go_ret
  exact hR.out _ _ own.out B1.out
end
/-- The first error of some. -/
def orL : List Int → Int
  | [] => 0
  | x :: r => if x ≠ 0 then x else orL r
def iv (l : List Int) : List Value := l.map (Value.int .i64)
theorem orL_drop (l : List Int) {k : Nat} {x : Int} (h : l[k]? = some x) : orL (l.drop k) = if x ≠ 0 then x else orL (l.drop (k + 1)) := by
  have e : l.drop k = x :: l.drop (k + 1) := by
    obtain ⟨hk, hx⟩ := List.getElem?_eq_some_iff.1 h
    rw [List.drop_eq_getElem_cons hk, hx]
  rw [e]; rfl
set_option maxRecDepth 100000 in
theorem or_any (A : Option Addr) (n c : Nat) (l : List Int) (hn : n = l.length) (hm : (n : Int) ≤ 100000) (w : World) (hs : Sl w (.slice A n c) (iv l)) : Calls Try.prog 35 #[.slice A n c] w fun e w' => e = .returned (.int .i64 (orL l)) ∧ w = w' := by
  have hn := Lib.hid hn
  replace hs := Lib.hid hs
  have h0 : Hid (orL (l.drop 0) = orL l) := rfl
  have hfin : Hid (∀ k, k = n → orL (l.drop k) = 0) := fun k hk => by rw [hk, hn.out, List.drop_length]; rfl
  go_enter Try.func35, Try.ntmps35
  go_wp2
  go_loop [8] (fun i => ∃ k : Nat, (k : Int) ≤ n ∧ i = .int .i64 (k : Int) ∧ Hid (orL (l.drop k) = orL l)) (fun i => n - (intOf i).toNat)
  case atStart => exact ⟨0, by omega, rfl, h0⟩
  case round =>
    obtain ⟨k, hk, rfl, ho⟩ := hrel
    by_cases hlt : (k : Int) < n
    · obtain ⟨x, hx⟩ : ∃ x, l[k]? = some x := ⟨_, List.getElem?_eq_getElem (by have := hn.out; omega)⟩
      obtain ⟨g, o, rfl, cx⟩ := hs.out.at_ (k := k) (u := .int .i64 x) (by unfold iv; rw [List.getElem?_map, hx]; rfl)
      have hst := Lib.hid (orL_drop l hx)
      clear hx
      by_cases h0 : x = 0
      · subst h0
        go_wp2
        go_round
        case rel => exact ⟨k + 1, by omega, by go_num, by show _ = _; rw [← ho.out, hst.out, if_neg (by simp)]⟩
        case measure => simp [intOf]; omega
      · have e0 : (x == 0) = false := by simpa using h0
        have hv : Hid (orL l = x) := by show _ = _; rw [← ho.out, hst.out, if_pos h0]
        go_wp2
        go_ret
        refine ⟨?_, rfl⟩
        rw [hv.out]
        rfl
    · have hv : Hid (orL l = 0) := by show _ = _; rw [← ho.out]; exact hfin.out k (by omega)
      go_wp2
      go_ret
      refine ⟨?_, rfl⟩
      rw [hv.out]
      rfl
section
variable {B g : Nat} {w : World} {L : List Nat} {l : List Nat}
theorem fits4 {a : Nat} (h : (a : Int) ≤ 4294967295) : a / 2 ^ (8 * 4) = 0 := by rw [show (2 : Nat) ^ (8 * 4) = 4294967296 from rfl]; omega
theorem fits8 {a : Nat} (h : (a : Int) ≤ 18446744073709551615) : a / 2 ^ (8 * 8) = 0 := by rw [show (2 : Nat) ^ (8 * 8) = 18446744073709551616 from rfl]; omega
set_option maxRecDepth 100000 in
set_option maxHeartbeats 1000000 in
theorem put_x (h : Wx B w g L l) (p : PtrD) (hp : PtOk p) (hl : ((l.length + 44 : Nat) : Int) ≤ 1000000) :
    Calls Try.prog 13 #[.pointer (some ⟨g, 0, none⟩), .agg (pcl p).toArray] w (RetWx B g L (l ++ ptrB p) w) := by
  have h0 := Blk.new_at (w := w) (t := 27) (cs := (pcl p).toArray) rfl rfl
  have B0 : Below w.heap.size w (w.alloc (.cells (pcl p).toArray 27)) := (Below.refl _ _).alloc (Nat.le_refl _) _
  have hlen := Lib.hid (pcl_len hp)
  have ha := hp.a
  have hb := hp.b
  have hz0 := Lib.hid (fits4 ha)
  have hz1 := Lib.hid (fits8 hb)
  have hps := Lib.hid hp.s
  have c0 : (w.alloc (.cells (pcl p).toArray 27)).cell? ⟨w.heap.size, 0, none⟩ = some (.int .u32 (p.a : Int)) := (h0.cell 0).trans rfl
  have hwA : w.heap.size ∉ L := fun hm => by have := (h.lt _ hm).2; omega
  have hn1 := Lib.hid (num_x (h.keep B0) p.a 4 (by omega) (by decide) hz0.out (by omega))
  have S0 := Lib.hid (WStep.of_below (L := L) B0)
  have hcat : Hid (((l ++ putB p.a 4) ++ putB p.b 8) ++ p.s = l ++ ptrB p) := by show _ = _; unfold ptrB; simp
  have hll : Hid ((l ++ putB p.a 4).length = l.length + 4 ∧ ((l ++ putB p.a 4) ++ putB p.b 8).length = l.length + 12) := by
    constructor
    · rw [List.length_append, putB_length]
    · rw [List.length_append, List.length_append, putB_length, putB_length]
  have hR : Hid (∀ L' w', Wx B w' g L' (l ++ ptrB p) → WStep L L' w w' → RetWx B g L (l ++ ptrB p) w (.returned (.int .i64 0)) w') := fun L' w' h1 h2 => ⟨L', rfl, h1, h2⟩
  have hdrop : Hid (((pcl p).drop 2).take 32 = bv p.s) := by
    show ((pcl p).drop 2).take 32 = _
    rw [show (pcl p).drop 2 = bv p.s from rfl, List.take_of_length_le (by rw [bv_length, hps.out]; exact Nat.le_refl _)]
  replace hwA := Lib.hid hwA
  replace h0 := Lib.hid h0
  clear h hp B0
  have hlI : (l.length : Int) + 44 ≤ 1000000 := by omega
  clear hl
  generalize RetWx B g L (l ++ ptrB p) w = RX at *
  go_enter Try.func13, Try.ntmps13
  go_wp2_with fail
  refine hn1.out.mono ?_
  rintro e w1 ⟨L1, rfl, H1, S1⟩
  have b1 := h0.out.keeps S1.keeps hwA.out
  have hwA1 : Hid (w.heap.size ∉ L1) := fun hm => by rcases S1.more _ hm with h | h; exact hwA.out h; have := h0.out.lt; omega
  have S1' := Lib.hid (S0.out.trans S1)
  have c1 : w1.cell? ⟨w.heap.size, 1, none⟩ = some (.int .u64 (p.b : Int)) := (b1.cell 1).trans rfl
  have hn2 := Lib.hid (num_x H1 p.b 8 (by omega) (by decide) hz1.out (by have := hll.out.1; omega))
  replace b1 := Lib.hid b1
  clear S1 H1 c0 hn1
  go_wp2_with fail
  refine hn2.out.mono ?_
  rintro e w2 ⟨L2, rfl, H2, S2⟩
  have b2 := b1.out.keeps S2.keeps hwA1.out
  have S2' := Lib.hid (S1'.out.trans S2)
  have hn3 := Lib.hid (hash_x H2 p.s hps.out (by have := hll.out.2; omega))
  clear S2 H2 c1 hn2 b1
  go_wp2_with (refine wpList_loadA rfl 25 (.tmp 20) rfl 32 arrHs w.heap.size 2 rfl 27 (pcl p) b2 (by have := hlen.out; omega) (bv p.s) hdrop.out ?_)
  refine hn3.out.mono ?_
  rintro e w3 ⟨L3, rfl, H3, S3⟩
  have S3' := S2'.out.trans S3
  rw [hcat.out] at H3
  have B4 : Below w3.heap.size w3 (w3.alloc (.cells #[.int .i64 0, .int .i64 0, .int .i64 0] 30)) := (Below.refl _ _).alloc (Nat.le_refl _) _
  have sl4 : Sl (w3.alloc (.cells #[.int .i64 0, .int .i64 0, .int .i64 0] 30)) (.slice (some ⟨w3.heap.size, 0, none⟩) 3 3) (iv [0, 0, 0]) := Sl.of_blk (n := 3) (c := 3) (Blk.new_at (w := w3) (t := 30) (cs := #[.int .i64 0, .int .i64 0, .int .i64 0]) rfl rfl) (Nat.le_refl _) (by simp) (by unfold maxLen; omega)
  have ho := Lib.hid (or_any _ 3 3 [0, 0, 0] rfl (by decide) _ sl4)
  rw [show orL [0, 0, 0] = 0 from rfl] at ho
  have H4 := Lib.hid (H3.keep B4)
  have S4 := Lib.hid (S3'.trans (WStep.of_below (L := L3) B4))
  clear S3 S3' H3 B4 sl4 hn3 b2
  go_wp2_with fail
  refine ho.out.mono ?_
  rintro e w4 ⟨rfl, rfl⟩
  clear ho
  go_wp2
  exact hR.out _ _ H4.out S4.out
end
end Go.Proofs.Ytfhlenclnknnhaa
