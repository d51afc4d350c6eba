/- Contracts of strings.Builder's WriteByte, and of sha.Hex. -/
import Derived.Test.YthlebobfbalknaaShH
import Derived.Test.YthlebobfbalknaaShelf
import Derived.Lib.Builder
set_option linter.unusedVariables false
set_option linter.unusedSimpArgs false
namespace Go.Proofs.Ythlebobfbalknaa
open Go.RowKit
open Go.Proofs.PlainAes
open Go.Proofs.PlainSha

set_option maxRecDepth 100000 in
set_option maxHeartbeats 1000000 in
theorem cc_used (b : Nat) (v : Value) (w : World) (h : Blk w b 64 [.pointer (some ⟨b, 0, none⟩), v]) :
    Calls Try.prog 40 #[.pointer (some ⟨b, 0, none⟩)] w fun e w' => (∃ r, e = .returned r) ∧ w = w' := by
  obtain ⟨j, hj, hjs⟩ := Option.map_eq_some_iff.1 (show (Try.prog.info? 64).map (·.size) = some 2 by kernel_rfl)
  have c0 : w.cell? ⟨b, 0, none⟩ = some (.pointer (some ⟨b, 0, none⟩)) := by have := h.cell 0; simpa using this
  go_enter Try.func40, Try.ntmps40
  go_wp2
  rw [Lib.run_neq_ptr_same w _ Try.underlying62 hj]
  go_wp2
  go_end0
  exact ⟨⟨_, rfl⟩, rfl⟩
set_option maxRecDepth 100000 in
set_option maxHeartbeats 1000000 in
theorem cc_fresh (b : Nat) (v : Value) (w : World) (h : Blk w b 64 [.pointer none, v]) :
    Calls Try.prog 40 #[.pointer (some ⟨b, 0, none⟩)] w fun e w' => (∃ r, e = .returned r) ∧ w' = w.setCell ⟨b, 0, none⟩ (.pointer (some ⟨b, 0, none⟩)) := by
  obtain ⟨j, hj, hjs⟩ := Option.map_eq_some_iff.1 (show (Try.prog.info? 64).map (·.size) = some 2 by kernel_rfl)
  have c0 : w.cell? ⟨b, 0, none⟩ = some (.pointer none) := by have := h.cell 0; simpa using this
  have f0 := h.frozen 0
  have hsh : w.shape? b = some (64, 2) := by
    unfold Blk at h
    simp [World.shape?, h]
  go_enter Try.func40, Try.ntmps40
  go_wp2
  rw [Lib.run_to_unsafe w ⟨b, 0, none⟩ Try.underlying62 Try.underlying102 hj (by rw [hjs]; decide) hsh (Nat.zero_lt_succ 1)]
  simp only [Result.andThen]
  rw [Oper.upon_value]
  go_wp2
  rw [run_callFunc_extern Try.func51 (by kernel_rfl) (by kernel_rfl) (by kernel_rfl) (e := Extern.AbiNoEscape.same) (by kernel_rfl)]
  rw [Lib.run_noEscape]
  simp only [Result.andThen]
  rw [Oper.upon_value]
  go_wp2
  rw [Lib.run_from_unsafe w ⟨b, 0, none⟩ Try.underlying102 Try.underlying62 hj hsh (by kernel_rfl)]
  simp only [Result.andThen]
  rw [Oper.upon_value]
  go_wp2
  go_end0
  exact ⟨⟨_, rfl⟩, rfl⟩

set_option maxRecDepth 100000 in
set_option maxHeartbeats 1000000 in
theorem wb_core (B b x : Nat) (p : Value) (bs : List Nat) (w : World) (h : Lib.BuilderAt 64 5 B b p (bv bs) w) (hl : (bs.length : Int) ≤ 1000) (hx : (x : Int) ≤ 255)
    (hcc : Hid (Calls Try.prog 40 #[.pointer (some ⟨b, 0, none⟩)] w fun e w' => (∃ r, e = .returned r) ∧ Lib.BuilderAt 64 5 B b (.pointer (some ⟨b, 0, none⟩)) (bv bs) w' ∧ Keeps [b] w w')) :
    Calls Try.prog 29 #[.pointer (some ⟨b, 0, none⟩), .int .u8 (x : Int)] w fun e w' => (∃ r, e = .returned r) ∧ Lib.BuilderAt 64 5 B b (.pointer (some ⟨b, 0, none⟩)) (bv (bs ++ [x])) w' ∧ Below B w w' := by
  obtain ⟨i0, hi, hz0, hz1, hz2⟩ := info_parts (P := Try.prog) (e := 5) (z := .int .u8 0) (size := 1) (bytes := 1) (by kernel_rfl)
  obtain ⟨hBb, v0, hb0, own0, hne0⟩ := h
  have hbl : b < w.heap.size := (Array.getElem?_eq_some_iff.1 hb0).1
  clear hb0 own0 hne0
  go_enter Try.func29, Try.ntmps29
  go_wp2_with fail
  refine hcc.out.mono ?_
  rintro e w1 ⟨⟨r, rfl⟩, ⟨-, v1, hb1, own1, hne1⟩, hK1⟩
  have hB1 := hK1.below (B := B) (by omega) (by simp; omega)
  have hbb1 : Blk w1 b 64 [.pointer (some ⟨b, 0, none⟩), v1] := hb1
  obtain ⟨A1, c1, hv1, -⟩ := own_shape own1
  subst hv1
  have c1' : w1.cell? ⟨b, 1, none⟩ = some (.slice A1 (bv bs).length c1) := by have := hbb1.cell 1; simpa using this
  clear hb1 hK1
  rw [bv_length] at own1 c1' hbb1 hne1
  go_wp2_with (at_builtin; refine wpList_append_sl2 rfl (.tmp 11) (.tmp 13) 22 rfl B 5 i0 (.int .u8 0) 1 Try.underlying22 hi hz0 hz1 hz2 rfl _ bs.length (bv bs) rfl (own1.alloc _) _ (bv [x]) rfl ?_ (bv_oneCell _) ?_ ?_ ?_ ?_)
  · exact (Sl.of_blk (n := 1) (c := 1) (Blk.new_at (w := w1) (t := 5) (cs := #[.int .u8 (x : Int)]) rfl rfl) (Nat.le_refl _) (by simp) (by unfold maxLen; omega))
  · simp [maxLen]; omega
  · simp; omega
  · have := hB1.size; simp; omega
  intro v2 w2 own2 gr mv
  have hbl1 := hbb1.lt
  have hne2 : v2.ownBlock ≠ some b := mv.ne (by first | omega | (simp; omega)) hne1
  have hK2 := Keeps.grown gr
  have hbb2 := (hbb1.alloc (.cells #[.int .u8 (x : Int)] 5)).keeps hK2 (fun h => by
    cases hA : (Value.slice A1 bs.length c1).ownBlock with
    | none => rw [hA] at h; simp at h
    | some k => rw [hA] at h; simp only [Option.toList_some, List.mem_cons, List.not_mem_nil, or_false] at h; subst h; exact hne1 hA)
  have hB2 := (hB1.alloc (by have := hB1.size; omega) (.cells #[.int .u8 (x : Int)] 5)).trans (hK2.below (by have := hB1.size; simp; omega) (fun k hk => by
    cases hA : (Value.slice A1 bs.length c1).ownBlock with
    | none => rw [hA] at hk; simp at hk
    | some k' => rw [hA] at hk; simp only [Option.toList_some, List.mem_cons, List.not_mem_nil, or_false] at hk; subst hk; exact (own1.lt _ hA).1))
  obtain ⟨A2, c2, hv2, -⟩ := own_shape own2
  have hbb3 := hbb2.set_ 1 v2
  have own3 := own_keeps own2 ((Keeps.refl [b] w2).setCell (p := ⟨b, 1, none⟩) (by simp) v2) (fun k hk hv => by simp; intro e; exact hne2 (by rw [hv, e]))
  have hB3 := hB2.setCell (p := ⟨b, 1, none⟩) hBb v2
  have hend := Lib.hid (show Lib.BuilderAt 64 5 B b (.pointer (some ⟨b, 0, none⟩)) (bv (bs ++ [x])) (w2.setCell ⟨b, 1, none⟩ v2) from ⟨hBb, v2, hbb3, by rw [bv_app]; simpa using own3, hne2⟩)
  have d1 : w2.cell? ⟨b, 1, none⟩ = some (.slice A1 bs.length c1) := by have := hbb2.cell 1; simpa using this
  have f1 := hbb2.frozen 1
  replace hB3 := Lib.hid hB3
  clear hbb3 own3 hB2 hbb2 hK2 own2 gr mv own1 hbb1 hne1 hB1 c1' hne2
  subst hv2
  go_wp2
  go_ret
  exact ⟨⟨_, rfl⟩, hend.out, hB3.out⟩
theorem wb_any (B b x : Nat) (bs : List Nat) (w : World) (h : Lib.IsBuilder 64 5 B b (bv bs) w) (hl : (bs.length : Int) ≤ 1000) (hx : (x : Int) ≤ 255) :
    Calls Try.prog 29 #[.pointer (some ⟨b, 0, none⟩), .int .u8 (x : Int)] w fun e w' => (∃ r, e = .returned r) ∧ Lib.IsBuilder 64 5 B b (bv (bs ++ [x])) w' ∧ Below B w w' := by
  rcases h with h | h
  · refine (wb_core B b x _ bs w h hl hx ?_).mono fun e w' h => ⟨h.1, .inr h.2.1, h.2.2⟩
    obtain ⟨hBb, v0, hb0, own0, hne0⟩ := h
    have hb : Blk w b 64 [.pointer none, v0] := hb0
    refine (cc_fresh b v0 w hb).mono ?_
    rintro e w' ⟨r, rfl⟩
    have hK : Keeps [b] w (w.setCell ⟨b, 0, none⟩ (.pointer (some ⟨b, 0, none⟩))) := (Keeps.refl _ _).setCell (by simp) _
    exact ⟨r, ⟨hBb, v0, hb.set_ 0 _, own_keeps own0 hK (fun k hk hv => by simp; intro e; exact hne0 (by rw [hv, e])), hne0⟩, hK⟩
  · refine (wb_core B b x _ bs w h hl hx ?_).mono fun e w' h => ⟨h.1, .inr h.2.1, h.2.2⟩
    obtain ⟨hBb, v0, hb0, own0, hne0⟩ := h
    have hb : Blk w b 64 [.pointer (some ⟨b, 0, none⟩), v0] := hb0
    refine (cc_used b v0 w hb).mono ?_
    rintro e w' ⟨r, rfl⟩
    exact ⟨r, ⟨hBb, v0, hb0, own0, hne0⟩, Keeps.refl _ _⟩

/-! ### Hex -/
/-- A digit by 16. -/
def hexd (n : Nat) : Nat := if n < 10 then 48 + n else 87 + n
def hexL (l : List Nat) : List Nat := l.flatMap (fun c => [hexd (c / 16), hexd (c % 16)])
theorem hexL_length : ∀ l, (hexL l).length = 2 * l.length
  | [] => rfl
  | c :: l => by
    have := hexL_length l
    simp only [hexL, List.flatMap_cons, List.length_append, List.length_cons, List.length_nil] at this ⊢
    omega
theorem hexd_lt {n : Nat} (h : n < 16) : hexd n < 256 := by unfold hexd; split <;> omega
theorem hexL_byt {l : List Nat} (h : Byt l) : Byt (hexL l) := by
  intro x hx
  simp only [hexL, List.mem_flatMap] at hx
  obtain ⟨c, hc, h2⟩ := hx
  have := h c hc
  simp only [List.mem_cons, List.not_mem_nil, or_false] at h2
  rcases h2 with rfl | rfl
  · exact hexd_lt (by omega)
  · exact hexd_lt (by omega)
theorem hexL_snoc (l : List Nat) (c : Nat) : hexL (l ++ [c]) = hexL l ++ [hexd (c / 16)] ++ [hexd (c % 16)] := by simp [hexL]
theorem cells_bv (l : List Nat) (h : Byt l) : bv l = Lib.byteCells (l.map UInt8.ofNat) := by
  unfold bv Lib.byteCells
  rw [List.map_map]
  apply List.map_congr_left
  intro b hb
  have := h b hb
  simp [Nat.mod_eq_of_lt this]
def digits : ByteArray := ⟨#[48, 49, 50, 51, 52, 53, 54, 55, 56, 57, 97, 98, 99, 100, 101, 102]⟩
theorem dig_get (n : Nat) (h : n < ({ data := #[48, 49, 50, 51, 52, 53, 54, 55, 56, 57, 97, 98, 99, 100, 101, 102] } : ByteArray).size) : (({ data := #[48, 49, 50, 51, 52, 53, 54, 55, 56, 57, 97, 98, 99, 100, 101, 102] } : ByteArray)[n]'h).toNat = hexd n := by
  have h16 : n < 16 := h
  rcases (by omega : n = 0 ∨ n = 1 ∨ n = 2 ∨ n = 3 ∨ n = 4 ∨ n = 5 ∨ n = 6 ∨ n = 7 ∨ n = 8 ∨ n = 9 ∨ n = 10 ∨ n = 11 ∨ n = 12 ∨ n = 13 ∨ n = 14 ∨ n = 15) with rfl | rfl | rfl | rfl | rfl | rfl | rfl | rfl | rfl | rfl | rfl | rfl | rfl | rfl | rfl | rfl
  all_goals rfl
theorem index_byte (L : List Nat) (k : Nat) (hL : L.length = 32) (hk : k < 32) (w : World) : (Instr.index 25 (.agg (bv L).toArray) (.int .i64 (k : Int))).run Try.prog w = .ok (.int .u8 ((gd L k : Nat) : Int)) w := by
  have hu : Try.prog.underlying 25 = some (.array 32 5) := Try.underlying25
  have hs : (sizeOf 5).run Try.prog w = .ok 1 w := by kernel_rfl
  have ha : (isAgg 5).run Try.prog w = .ok false w := by kernel_rfl
  have hg : (bv L)[k]? = some (.int .u8 ((gd L k : Nat) : Int)) := gd_bv (by omega)
  have hkI : (k : Int) < 32 := by omega
  simp [Instr.index, asIntOf, Sem.run_bind, run_underlying hu, hs, ha, part, hk, hg]
theorem and15 (c : Nat) (h : c < 256) : bits .and .u8 (c : Int) 15 = ((c % 16 : Nat) : Int) := by
  have := u8_and_nat c 15 h (by decide)
  rw [show c &&& 15 = c % 16 from Nat.and_two_pow_sub_one_eq_mod c 4] at this
  simpa using this
set_option maxRecDepth 100000 in
set_option maxHeartbeats 1000000 in
theorem hex_any (x : List Nat) (w : World) (hx : x.length = 32) (bx : Byt x) : Calls Try.prog 18 #[.agg (bv x).toArray] w fun e w' => e = .returned (.string (bstr (hexL x))) ∧ Below w.heap.size w w' := by
  have hxl := Lib.hid (show (bv x).length = 32 by simp [hx])
  have hwb := Lib.hid (fun B b y bs w h hl hy => wb_any B b y bs w h hl hy)
  have hst := Lib.hid (fun B b l w h hB => Try.Builder_String_any B b l w h hB)
  have hix := Lib.hid (fun k hk w => index_byte x k hx hk w)
  have Hx := Lib.hid hx
  have Bx := Lib.hid bx
  have hBx := Lib.hid (hexL_byt bx)
  have harr : ArrTy Try.prog 25 32 := arrH
  clear hx bx
  go_enter Try.func18, Try.ntmps18
  have b1 : Blk ((w.alloc (.cells (bv x).toArray 25)).alloc (.cells #[.pointer none, .slice none 0 0] 64)) w.heap.size 25 (bv x) := (Blk.new_at (w := w) (t := 25) (cs := (bv x).toArray) rfl rfl).alloc _
  have b2 : Blk ((w.alloc (.cells (bv x).toArray 25)).alloc (.cells #[.pointer none, .slice none 0 0] 64)) (w.heap.size + 1) 64 [.pointer none, .slice none 0 0] := Blk.new_at (by simp) rfl
  have hB0 : Below w.heap.size w ((w.alloc (.cells (bv x).toArray 25)).alloc (.cells #[.pointer none, .slice none 0 0] 64)) := ((Below.refl _ _).alloc (Nat.le_refl _) _).alloc (by simp) _
  have hib : Lib.IsBuilder 64 5 (w.heap.size + 1) (w.heap.size + 1) (bv (hexL (x.take 0))) ((w.alloc (.cells (bv x).toArray 25)).alloc (.cells #[.pointer none, .slice none 0 0] 64)) :=
    .inl ⟨Nat.le_refl _, _, b2, World.ownsRow_nil _ _ _ _, by simp [Value.ownBlock]⟩
  go_wp2_with (refine wpList_loadW rfl 25 (.tmp 1) rfl 32 harr w.heap.size rfl 25 _ b1 hxl.out ?_)
  go_loopw [7] (fun i wr => ∃ k : Nat, (k : Int) ≤ 32 ∧ i = .int .i64 (k : Int) ∧ Lib.IsBuilder 64 5 (w.heap.size + 1) (w.heap.size + 1) (bv (hexL (x.take k))) wr ∧ Below w.heap.size w wr) (fun i _ => 32 - (intOf i).toNat)
  case atStart => exact ⟨0, by omega, rfl, hib, hB0⟩
  case round =>
    clear hib hB0 b1 b2
    obtain ⟨k, hk, rfl, hib, hB⟩ := hrel
    by_cases hlt : (k : Int) < 32
    · have hi0 := hix.out k (by omega)
      have hc := gd_lt Bx.out k
      have ha15 := and15 _ hc
      have hsn : Hid (hexL (x.take (k + 1)) = hexL (x.take k) ++ [hexd (gd x k / 16)] ++ [hexd (gd x k % 16)]) := by
        show _ = _
        rw [← hexL_snoc, List.take_succ_eq_append_getElem (show k < x.length by have := Hx.out; omega)]
        have e : x[k]'(by have := Hx.out; omega) = gd x k := by simp [gd, show k < x.length by have := Hx.out; omega]
        rw [e]
      have hl1 := hexL_length (x.take k)
      have hl2 : (x.take k).length = k := by rw [List.length_take, Hx.out]; omega
      rw [hl2] at hl1
      have hl1 := Lib.hid hl1
      clear hl2
      generalize hexL (x.take k) = bs at *
      generalize gd x k = c at *
      have d1 := fun h => dig_get (c / 16) h
      have d2 := fun h => dig_get (c % 16) h
      have y1 : ((hexd (c / 16) : Nat) : Int) ≤ 255 := by have := hexd_lt (show c / 16 < 16 by omega); omega
      have y2 : ((hexd (c % 16) : Nat) : Int) ≤ 255 := by have := hexd_lt (show c % 16 < 16 by omega); omega
      generalize hexd (c / 16) = h1 at *
      generalize hexd (c % 16) = h2 at *
      have hcI : (c : Int) ≤ 255 := by omega
      have w1c := Lib.hid (hwb.out _ _ h1 bs wr hib (by have := hl1.out; omega) y1)
      go_wp2_with fail
      refine w1c.out.mono ?_
      rintro e w1 ⟨⟨r1, rfl⟩, hib1, hB1⟩
      have w2c := Lib.hid (hwb.out _ _ h2 (bs ++ [h1]) w1 hib1 (by have := hl1.out; simp; omega) y2)
      have hB1' := hB.trans (hB1.mono (by omega))
      clear hib hib1 hB hB1
      go_wp2_with fail
      refine w2c.out.mono ?_
      rintro e w2 ⟨⟨r2, rfl⟩, hib2, hB2⟩
      have hB2' := hB1'.trans (hB2.mono (by omega))
      clear hB1' hB2
      replace hib2 := Lib.hid hib2
      go_wp2
      go_roundw
      case rel => exact ⟨k + 1, by omega, by go_num, by rw [hsn.out]; exact hib2.out, hB2'⟩
      case measure => simp [intOf]; omega
    · obtain rfl : k = 32 := by omega
      rw [List.take_of_length_le (by have := Hx.out; omega), cells_bv _ hBx.out] at hib
      have hsz : w.heap.size + 1 ≤ wr.heap.size := by
        rcases hib with h | h
        · obtain ⟨_, v, hb, _⟩ := h
          have := (Array.getElem?_eq_some_iff.1 hb).1; omega
        · obtain ⟨_, v, hb, _⟩ := h
          have := (Array.getElem?_eq_some_iff.1 hb).1; omega
      have hstr := Lib.hid (hst.out _ _ _ wr hib hsz)
      clear hib
      go_wp2_with fail
      refine hstr.out.mono ?_
      rintro e w3 ⟨rfl, hB3⟩
      have hB3' := hB.trans (hB3.mono (by omega))
      go_wp2
      go_ret
      exact ⟨rfl, hB3'⟩
end Go.Proofs.Ythlebobfbalknaa
