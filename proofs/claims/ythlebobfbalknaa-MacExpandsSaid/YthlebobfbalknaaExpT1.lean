/- Several texts in one (written by mergetop.py): EqH ShX MacA MacB MacC MacD CatP ApZ MacE MacF RfM RfN RfO ApS. -/
import Derived.Test.YthlebobfbalknaaEqA
import Derived.Test.YthlebobfbalknaaShH
import Derived.Test.YthlebobfbalknaaShelf
import Derived.Lib.Builder
import Derived.Test.YthlebobfbalknaaCpS
import Derived.Test.YthlebobfbalknaaMacP
import Derived.Test.YthlebobfbalknaaShK
import Derived.Lib.SlBytesConst
import Derived.Test.YthlebobfbalknaaOwn2
import Derived.Test.YthlebobfbalknaaArrB
import Derived.Test.YthlebobfbalknaaShaP
import Derived.Lib.AppendZerosOnto
import Derived.Test.YthlebobfbalknaaShF
import Derived.Test.YthlebobfbalknaaClo
import Derived.Test.YthlebobfbalknaaSlC
import Derived.Laws.IdiomStrings
import Derived.Lib.SmallJoins
import Derived.Test.YthlebobfbalknaaScH
import Derived.Test.YthlebobfbalknaaRgx
import Derived.Lib.AppendZeros
import Derived.Deep.DeepCutAuto
import Derived.Lib.AppendStr
set_option linter.unusedVariables false
set_option linter.unusedSimpArgs false

/- Guarded operations on arrays of bytes, where the guard holds. -/
namespace Go.Proofs.Ythlebobfbalknaa
open Go.RowKit
section
variable {P : Program} {ops : Array Oper} {rest : List Oper} {o : Oper} {a : Act} {w : World} {Q : Exit → Act → World → Prop}
theorem wpList_loadG (hw : Region.wanted o (yielded ops a.tmps) = true) (ty : TypeId) (x : Operand) (ho : o.op = .load ty x) (n : Nat) (hT : ArrTy P ty n) (g : Nat) (hx : a.eval x = .pointer (some ⟨g, 0, none⟩)) (t : TypeId) (L : List Value) (hb : Blk w g t L)
    (hl : L.length = n) (h : wpList P ops Q rest (a.put o.dst (.agg L.toArray)) w) : wpList P ops Q (o :: rest) a w := by
  refine wpList_step fun K hK => ?_
  rw [if_pos hw]
  unfold Oper.wp execOp
  simp only [ho, hx, Sem.run_bind, run_loadA hb hT (show 0 + n ≤ L.length by omega), Result.andThen_ok, Sem.run_pure]
  refine hK _ _ ?_
  simpa [← hl] using h
theorem wpList_eqlG (hw : Region.wanted o (yielded ops a.tmps) = true) (t : TypeId) (x y : Operand) (u : Nat) (ho : o.op = .binOp .eql t x y u) (n : Nat) (hB : ByteArr P t n) (l m : List Nat) (hx : a.eval x = .agg (bv l).toArray) (hy : a.eval y = .agg (bv m).toArray) (hl : l.length = n) (hm : m.length = n)
    (h : wpList P ops Q rest (a.put o.dst (.bool (decide (l = m)))) w) : wpList P ops Q (o :: rest) a w := by
  obtain ⟨⟨e, hu, he, hs⟩, hg⟩ := hB
  refine wpList_step fun K hK => ?_
  rw [if_pos hw]
  unfold Oper.wp execOp
  simp only [ho, hx, hy, Sem.run_bind, run_eqGuard_agg w _ t x y _ _ hg, run_eql_bytes hu he hs hl hm, Result.andThen_ok, Sem.run_pure]
  exact hK _ _ h
end
end Go.Proofs.Ythlebobfbalknaa

/- Contracts of strings.Builder's WriteByte, and of sha.Hex. -/
namespace Go.Proofs.Ythlebobfbalknaa
open Go.RowKit
open Go.Proofs.PlainAes
open Go.Proofs.PlainSha

set_option maxRecDepth 100000 in
set_option maxHeartbeats 1000000 in
theorem cc_used (b : Nat) (v : Value) (w : World) (h : Blk w b 64 [.pointer (some ⟨b, 0, none⟩), v]) :
    Calls Try.prog 40 #[.pointer (some ⟨b, 0, none⟩)] w fun e w' => (∃ r, e = .returned r) ∧ w = w' := by
  obtain ⟨j, hj, hjs⟩ := Option.map_eq_some_iff.1 (show (Try.prog.info? 64).map (·.size) = some 2 by kernel_rfl)
  have c0 : w.cell? ⟨b, 0, none⟩ = some (.pointer (some ⟨b, 0, none⟩)) := by have := h.cell 0; simpa using this
  go_enter Try.func40, Try.ntmps40
  go_wp2
  rw [Lib.run_neq_ptr_same w _ Try.underlying62 hj]
  go_wp2
  go_end0
  exact ⟨⟨_, rfl⟩, rfl⟩
set_option maxRecDepth 100000 in
set_option maxHeartbeats 1000000 in
theorem cc_fresh (b : Nat) (v : Value) (w : World) (h : Blk w b 64 [.pointer none, v]) :
    Calls Try.prog 40 #[.pointer (some ⟨b, 0, none⟩)] w fun e w' => (∃ r, e = .returned r) ∧ w' = w.setCell ⟨b, 0, none⟩ (.pointer (some ⟨b, 0, none⟩)) := by
  obtain ⟨j, hj, hjs⟩ := Option.map_eq_some_iff.1 (show (Try.prog.info? 64).map (·.size) = some 2 by kernel_rfl)
  have c0 : w.cell? ⟨b, 0, none⟩ = some (.pointer none) := by have := h.cell 0; simpa using this
  have f0 := h.frozen 0
  have hsh : w.shape? b = some (64, 2) := by
    unfold Blk at h
    simp [World.shape?, h]
  go_enter Try.func40, Try.ntmps40
  go_wp2
  rw [Lib.run_to_unsafe w ⟨b, 0, none⟩ Try.underlying62 Try.underlying102 hj (by rw [hjs]; decide) hsh (Nat.zero_lt_succ 1)]
  simp only [Result.andThen]
  rw [Oper.upon_value]
  go_wp2
  rw [run_callFunc_extern Try.func51 (by kernel_rfl) (by kernel_rfl) (by kernel_rfl) (e := Extern.AbiNoEscape.same) (by kernel_rfl)]
  rw [Lib.run_noEscape]
  simp only [Result.andThen]
  rw [Oper.upon_value]
  go_wp2
  rw [Lib.run_from_unsafe w ⟨b, 0, none⟩ Try.underlying102 Try.underlying62 hj hsh (by kernel_rfl)]
  simp only [Result.andThen]
  rw [Oper.upon_value]
  go_wp2
  go_end0
  exact ⟨⟨_, rfl⟩, rfl⟩

set_option maxRecDepth 100000 in
set_option maxHeartbeats 1000000 in
theorem wb_core (B b x : Nat) (p : Value) (bs : List Nat) (w : World) (h : Lib.BuilderAt 64 5 B b p (bv bs) w) (hl : (bs.length : Int) ≤ 1000) (hx : (x : Int) ≤ 255)
    (hcc : Hid (Calls Try.prog 40 #[.pointer (some ⟨b, 0, none⟩)] w fun e w' => (∃ r, e = .returned r) ∧ Lib.BuilderAt 64 5 B b (.pointer (some ⟨b, 0, none⟩)) (bv bs) w' ∧ Keeps [b] w w')) :
    Calls Try.prog 29 #[.pointer (some ⟨b, 0, none⟩), .int .u8 (x : Int)] w fun e w' => (∃ r, e = .returned r) ∧ Lib.BuilderAt 64 5 B b (.pointer (some ⟨b, 0, none⟩)) (bv (bs ++ [x])) w' ∧ Below B w w' := by
  obtain ⟨i0, hi, hz0, hz1, hz2⟩ := info_parts (P := Try.prog) (e := 5) (z := .int .u8 0) (size := 1) (bytes := 1) (by kernel_rfl)
  obtain ⟨hBb, v0, hb0, own0, hne0⟩ := h
  have hbl : b < w.heap.size := (Array.getElem?_eq_some_iff.1 hb0).1
  clear hb0 own0 hne0
  go_enter Try.func29, Try.ntmps29
  go_wp2_with fail
  refine hcc.out.mono ?_
  rintro e w1 ⟨⟨r, rfl⟩, ⟨-, v1, hb1, own1, hne1⟩, hK1⟩
  have hB1 := hK1.below (B := B) (by omega) (by simp; omega)
  have hbb1 : Blk w1 b 64 [.pointer (some ⟨b, 0, none⟩), v1] := hb1
  obtain ⟨A1, c1, hv1, -⟩ := own_shape own1
  subst hv1
  have c1' : w1.cell? ⟨b, 1, none⟩ = some (.slice A1 (bv bs).length c1) := by have := hbb1.cell 1; simpa using this
  clear hb1 hK1
  rw [bv_length] at own1 c1' hbb1 hne1
  go_wp2_with (at_builtin; refine wpList_append_sl2 rfl (.tmp 11) (.tmp 13) 22 rfl B 5 i0 (.int .u8 0) 1 Try.underlying22 hi hz0 hz1 hz2 rfl _ bs.length (bv bs) rfl (own1.alloc _) _ (bv [x]) rfl ?_ (bv_oneCell _) ?_ ?_ ?_ ?_)
  · exact (Sl.of_blk (n := 1) (c := 1) (Blk.new_at (w := w1) (t := 5) (cs := #[.int .u8 (x : Int)]) rfl rfl) (Nat.le_refl _) (by simp) (by unfold maxLen; omega))
  · simp [maxLen]; omega
  · simp; omega
  · have := hB1.size; simp; omega
  intro v2 w2 own2 gr mv
  have hbl1 := hbb1.lt
  have hne2 : v2.ownBlock ≠ some b := mv.ne (by first | omega | (simp; omega)) hne1
  have hK2 := Keeps.grown gr
  have hbb2 := (hbb1.alloc (.cells #[.int .u8 (x : Int)] 5)).keeps hK2 (fun h => by
    cases hA : (Value.slice A1 bs.length c1).ownBlock with
    | none => rw [hA] at h; simp at h
    | some k => rw [hA] at h; simp only [Option.toList_some, List.mem_cons, List.not_mem_nil, or_false] at h; subst h; exact hne1 hA)
  have hB2 := (hB1.alloc (by have := hB1.size; omega) (.cells #[.int .u8 (x : Int)] 5)).trans (hK2.below (by have := hB1.size; simp; omega) (fun k hk => by
    cases hA : (Value.slice A1 bs.length c1).ownBlock with
    | none => rw [hA] at hk; simp at hk
    | some k' => rw [hA] at hk; simp only [Option.toList_some, List.mem_cons, List.not_mem_nil, or_false] at hk; subst hk; exact (own1.lt _ hA).1))
  obtain ⟨A2, c2, hv2, -⟩ := own_shape own2
  have hbb3 := hbb2.set_ 1 v2
  have own3 := own_keeps own2 ((Keeps.refl [b] w2).setCell (p := ⟨b, 1, none⟩) (by simp) v2) (fun k hk hv => by simp; intro e; exact hne2 (by rw [hv, e]))
  have hB3 := hB2.setCell (p := ⟨b, 1, none⟩) hBb v2
  have hend := Lib.hid (show Lib.BuilderAt 64 5 B b (.pointer (some ⟨b, 0, none⟩)) (bv (bs ++ [x])) (w2.setCell ⟨b, 1, none⟩ v2) from ⟨hBb, v2, hbb3, by rw [bv_app]; simpa using own3, hne2⟩)
  have d1 : w2.cell? ⟨b, 1, none⟩ = some (.slice A1 bs.length c1) := by have := hbb2.cell 1; simpa using this
  have f1 := hbb2.frozen 1
  replace hB3 := Lib.hid hB3
  clear hbb3 own3 hB2 hbb2 hK2 own2 gr mv own1 hbb1 hne1 hB1 c1' hne2
  subst hv2
  go_wp2
  go_ret
  exact ⟨⟨_, rfl⟩, hend.out, hB3.out⟩
theorem wb_any (B b x : Nat) (bs : List Nat) (w : World) (h : Lib.IsBuilder 64 5 B b (bv bs) w) (hl : (bs.length : Int) ≤ 1000) (hx : (x : Int) ≤ 255) :
    Calls Try.prog 29 #[.pointer (some ⟨b, 0, none⟩), .int .u8 (x : Int)] w fun e w' => (∃ r, e = .returned r) ∧ Lib.IsBuilder 64 5 B b (bv (bs ++ [x])) w' ∧ Below B w w' := by
  rcases h with h | h
  · refine (wb_core B b x _ bs w h hl hx ?_).mono fun e w' h => ⟨h.1, .inr h.2.1, h.2.2⟩
    obtain ⟨hBb, v0, hb0, own0, hne0⟩ := h
    have hb : Blk w b 64 [.pointer none, v0] := hb0
    refine (cc_fresh b v0 w hb).mono ?_
    rintro e w' ⟨r, rfl⟩
    have hK : Keeps [b] w (w.setCell ⟨b, 0, none⟩ (.pointer (some ⟨b, 0, none⟩))) := (Keeps.refl _ _).setCell (by simp) _
    exact ⟨r, ⟨hBb, v0, hb.set_ 0 _, own_keeps own0 hK (fun k hk hv => by simp; intro e; exact hne0 (by rw [hv, e])), hne0⟩, hK⟩
  · refine (wb_core B b x _ bs w h hl hx ?_).mono fun e w' h => ⟨h.1, .inr h.2.1, h.2.2⟩
    obtain ⟨hBb, v0, hb0, own0, hne0⟩ := h
    have hb : Blk w b 64 [.pointer (some ⟨b, 0, none⟩), v0] := hb0
    refine (cc_used b v0 w hb).mono ?_
    rintro e w' ⟨r, rfl⟩
    exact ⟨r, ⟨hBb, v0, hb0, own0, hne0⟩, Keeps.refl _ _⟩

/-! ### Hex -/
/-- A digit by 16. -/
def hexd (n : Nat) : Nat := if n < 10 then 48 + n else 87 + n
def hexL (l : List Nat) : List Nat := l.flatMap (fun c => [hexd (c / 16), hexd (c % 16)])
theorem hexL_length : ∀ l, (hexL l).length = 2 * l.length
  | [] => rfl
  | c :: l => by
    have := hexL_length l
    simp only [hexL, List.flatMap_cons, List.length_append, List.length_cons, List.length_nil] at this ⊢
    omega
theorem hexd_lt {n : Nat} (h : n < 16) : hexd n < 256 := by unfold hexd; split <;> omega
theorem hexL_byt {l : List Nat} (h : Byt l) : Byt (hexL l) := by
  intro x hx
  simp only [hexL, List.mem_flatMap] at hx
  obtain ⟨c, hc, h2⟩ := hx
  have := h c hc
  simp only [List.mem_cons, List.not_mem_nil, or_false] at h2
  rcases h2 with rfl | rfl
  · exact hexd_lt (by omega)
  · exact hexd_lt (by omega)
theorem hexL_snoc (l : List Nat) (c : Nat) : hexL (l ++ [c]) = hexL l ++ [hexd (c / 16)] ++ [hexd (c % 16)] := by simp [hexL]
theorem cells_bv (l : List Nat) (h : Byt l) : bv l = Lib.byteCells (l.map UInt8.ofNat) := by
  unfold bv Lib.byteCells
  rw [List.map_map]
  apply List.map_congr_left
  intro b hb
  have := h b hb
  simp [Nat.mod_eq_of_lt this]
def digits : ByteArray := ⟨#[48, 49, 50, 51, 52, 53, 54, 55, 56, 57, 97, 98, 99, 100, 101, 102]⟩
theorem dig_get (n : Nat) (h : n < ({ data := #[48, 49, 50, 51, 52, 53, 54, 55, 56, 57, 97, 98, 99, 100, 101, 102] } : ByteArray).size) : (({ data := #[48, 49, 50, 51, 52, 53, 54, 55, 56, 57, 97, 98, 99, 100, 101, 102] } : ByteArray)[n]'h).toNat = hexd n := by
  have h16 : n < 16 := h
  rcases (by omega : n = 0 ∨ n = 1 ∨ n = 2 ∨ n = 3 ∨ n = 4 ∨ n = 5 ∨ n = 6 ∨ n = 7 ∨ n = 8 ∨ n = 9 ∨ n = 10 ∨ n = 11 ∨ n = 12 ∨ n = 13 ∨ n = 14 ∨ n = 15) with rfl | rfl | rfl | rfl | rfl | rfl | rfl | rfl | rfl | rfl | rfl | rfl | rfl | rfl | rfl | rfl
  all_goals rfl
theorem index_byte (L : List Nat) (k : Nat) (hL : L.length = 32) (hk : k < 32) (w : World) : (Instr.index 25 (.agg (bv L).toArray) (.int .i64 (k : Int))).run Try.prog w = .ok (.int .u8 ((gd L k : Nat) : Int)) w := by
  have hu : Try.prog.underlying 25 = some (.array 32 5) := Try.underlying25
  have hs : (sizeOf 5).run Try.prog w = .ok 1 w := by kernel_rfl
  have ha : (isAgg 5).run Try.prog w = .ok false w := by kernel_rfl
  have hg : (bv L)[k]? = some (.int .u8 ((gd L k : Nat) : Int)) := gd_bv (by omega)
  have hkI : (k : Int) < 32 := by omega
  simp [Instr.index, asIntOf, Sem.run_bind, run_underlying hu, hs, ha, part, hk, hg]
theorem and15 (c : Nat) (h : c < 256) : bits .and .u8 (c : Int) 15 = ((c % 16 : Nat) : Int) := by
  have := u8_and_nat c 15 h (by decide)
  rw [show c &&& 15 = c % 16 from Nat.and_two_pow_sub_one_eq_mod c 4] at this
  simpa using this
set_option maxRecDepth 100000 in
set_option maxHeartbeats 1000000 in
theorem hex_any (x : List Nat) (w : World) (hx : x.length = 32) (bx : Byt x) : Calls Try.prog 18 #[.agg (bv x).toArray] w fun e w' => e = .returned (.string (bstr (hexL x))) ∧ Below w.heap.size w w' := by
  have hxl := Lib.hid (show (bv x).length = 32 by simp [hx])
  have hwb := Lib.hid (fun B b y bs w h hl hy => wb_any B b y bs w h hl hy)
  have hst := Lib.hid (fun B b l w h hB => Try.Builder_String_any B b l w h hB)
  have hix := Lib.hid (fun k hk w => index_byte x k hx hk w)
  have Hx := Lib.hid hx
  have Bx := Lib.hid bx
  have hBx := Lib.hid (hexL_byt bx)
  have harr : ArrTy Try.prog 25 32 := arrH
  clear hx bx
  go_enter Try.func18, Try.ntmps18
  have b1 : Blk ((w.alloc (.cells (bv x).toArray 25)).alloc (.cells #[.pointer none, .slice none 0 0] 64)) w.heap.size 25 (bv x) := (Blk.new_at (w := w) (t := 25) (cs := (bv x).toArray) rfl rfl).alloc _
  have b2 : Blk ((w.alloc (.cells (bv x).toArray 25)).alloc (.cells #[.pointer none, .slice none 0 0] 64)) (w.heap.size + 1) 64 [.pointer none, .slice none 0 0] := Blk.new_at (by simp) rfl
  have hB0 : Below w.heap.size w ((w.alloc (.cells (bv x).toArray 25)).alloc (.cells #[.pointer none, .slice none 0 0] 64)) := ((Below.refl _ _).alloc (Nat.le_refl _) _).alloc (by simp) _
  have hib : Lib.IsBuilder 64 5 (w.heap.size + 1) (w.heap.size + 1) (bv (hexL (x.take 0))) ((w.alloc (.cells (bv x).toArray 25)).alloc (.cells #[.pointer none, .slice none 0 0] 64)) :=
    .inl ⟨Nat.le_refl _, _, b2, World.ownsRow_nil _ _ _ _, by simp [Value.ownBlock]⟩
  go_wp2_with (refine wpList_loadW rfl 25 (.tmp 1) rfl 32 harr w.heap.size rfl 25 _ b1 hxl.out ?_)
  go_loopw [7] (fun i wr => ∃ k : Nat, (k : Int) ≤ 32 ∧ i = .int .i64 (k : Int) ∧ Lib.IsBuilder 64 5 (w.heap.size + 1) (w.heap.size + 1) (bv (hexL (x.take k))) wr ∧ Below w.heap.size w wr) (fun i _ => 32 - (intOf i).toNat)
  case atStart => exact ⟨0, by omega, rfl, hib, hB0⟩
  case round =>
    clear hib hB0 b1 b2
    obtain ⟨k, hk, rfl, hib, hB⟩ := hrel
    by_cases hlt : (k : Int) < 32
    · have hi0 := hix.out k (by omega)
      have hc := gd_lt Bx.out k
      have ha15 := and15 _ hc
      have hsn : Hid (hexL (x.take (k + 1)) = hexL (x.take k) ++ [hexd (gd x k / 16)] ++ [hexd (gd x k % 16)]) := by
        show _ = _
        rw [← hexL_snoc, List.take_succ_eq_append_getElem (show k < x.length by have := Hx.out; omega)]
        have e : x[k]'(by have := Hx.out; omega) = gd x k := by simp [gd, show k < x.length by have := Hx.out; omega]
        rw [e]
      have hl1 := hexL_length (x.take k)
      have hl2 : (x.take k).length = k := by rw [List.length_take, Hx.out]; omega
      rw [hl2] at hl1
      have hl1 := Lib.hid hl1
      clear hl2
      generalize hexL (x.take k) = bs at *
      generalize gd x k = c at *
      have d1 := fun h => dig_get (c / 16) h
      have d2 := fun h => dig_get (c % 16) h
      have y1 : ((hexd (c / 16) : Nat) : Int) ≤ 255 := by have := hexd_lt (show c / 16 < 16 by omega); omega
      have y2 : ((hexd (c % 16) : Nat) : Int) ≤ 255 := by have := hexd_lt (show c % 16 < 16 by omega); omega
      generalize hexd (c / 16) = h1 at *
      generalize hexd (c % 16) = h2 at *
      have hcI : (c : Int) ≤ 255 := by omega
      have w1c := Lib.hid (hwb.out _ _ h1 bs wr hib (by have := hl1.out; omega) y1)
      go_wp2_with fail
      refine w1c.out.mono ?_
      rintro e w1 ⟨⟨r1, rfl⟩, hib1, hB1⟩
      have w2c := Lib.hid (hwb.out _ _ h2 (bs ++ [h1]) w1 hib1 (by have := hl1.out; simp; omega) y2)
      have hB1' := hB.trans (hB1.mono (by omega))
      clear hib hib1 hB hB1
      go_wp2_with fail
      refine w2c.out.mono ?_
      rintro e w2 ⟨⟨r2, rfl⟩, hib2, hB2⟩
      have hB2' := hB1'.trans (hB2.mono (by omega))
      clear hB1' hB2
      replace hib2 := Lib.hid hib2
      go_wp2
      go_roundw
      case rel => exact ⟨k + 1, by omega, by go_num, by rw [hsn.out]; exact hib2.out, hB2'⟩
      case measure => simp [intOf]; omega
    · obtain rfl : k = 32 := by omega
      rw [List.take_of_length_le (by have := Hx.out; omega), cells_bv _ hBx.out] at hib
      have hsz : w.heap.size + 1 ≤ wr.heap.size := by
        rcases hib with h | h
        · obtain ⟨_, v, hb, _⟩ := h
          have := (Array.getElem?_eq_some_iff.1 hb).1; omega
        · obtain ⟨_, v, hb, _⟩ := h
          have := (Array.getElem?_eq_some_iff.1 hb).1; omega
      have hstr := Lib.hid (hst.out _ _ _ wr hib hsz)
      clear hib
      go_wp2_with fail
      refine hstr.out.mono ?_
      rintro e w3 ⟨rfl, hB3⟩
      have hB3' := hB.trans (hB3.mono (by omega))
      go_wp2
      go_ret
      exact ⟨rfl, hB3'⟩
end Go.Proofs.Ythlebobfbalknaa

/- Contracts of package mac: pads, pad. -/
namespace Go.Proofs.Ythlebobfbalknaa
open Go.RowKit
open Go.Proofs.PlainAes
open Go.Proofs.PlainSha
open Go.Proofs.PlainMac

theorem arr64b : ArrTy Try.prog 45 64 := ⟨_, Try.underlying45, rfl, by kernel_rfl⟩
theorem arr2b : ArrTy Try.prog 53 2 := ⟨_, Try.underlying53, rfl, by kernel_rfl⟩
theorem shaL_len (l : List Nat) : (shaL l).length = 32 := by simp [shaL, outL_length]
theorem shaL_byt (l : List Nat) : Byt (shaL l) := outL_byt _
theorem padK_len (k : List Nat) : (padK k).length = 64 := by
  unfold padK
  split
  · simp [shaL_len]
  · simp; omega
theorem padK_byt {k : List Nat} (h : Byt k) : Byt (padK k) := by
  intro x hx
  unfold padK at hx
  split at hx
  · simp only [List.mem_append, List.mem_replicate] at hx
    rcases hx with hx | hx
    · exact shaL_byt k x hx
    · omega
  · simp only [List.mem_append, List.mem_replicate] at hx
    rcases hx with hx | hx
    · exact h x hx
    · omega
theorem macL_len (k m : List Nat) : (macL k m).length = 32 := shaL_len _
theorem macL_byt (k m : List Nat) : Byt (macL k m) := shaL_byt _
theorem zeros_eq (n : Nat) : zeros n = List.replicate n 0 := rfl
theorem put_zeros {l : List Nat} (h : l.length ≤ 64) : putL (bv (zeros 64)) 0 ((bv l).take 64) = bv (l ++ List.replicate (64 - l.length) 0) := by
  rw [show (bv l).take 64 = bv l from List.take_of_length_le (by simpa using h), putL_bv, Nat.zero_add, zeros_eq, List.drop_replicate, List.take_zero, List.nil_append]

set_option maxRecDepth 100000 in
theorem pads_any (w : World) : Calls Try.prog 24 #[] w (fun e w' => e = .returned (.agg (bv [54, 92]).toArray) ∧ Below w.heap.size w w') := by
  go_enter Try.func24, Try.ntmps24
  go_wp2_with (refine wpList_allocA rfl 53 rfl (bv (zeros 2)) (by kernel_rfl) ?_)
  intro w1 h1 hK1 hz1
  have hB1 := (Below.refl w.heap.size w).trans (hK1.below (Nat.le_refl _) (by simp))
  clear hK1 hz1
  go_wp2_with (refine wpList_storeW rfl 53 (.tmp 0) (.tmp 1) rfl 2 arr2b w.heap.size rfl (bv [54, 92]) rfl 53 _ h1 rfl rfl (ones_bv _) ?_)
  intro w2 h2 hK2
  go_wp2
  exact bodyPost_ret (v := .agg (bv [54, 92]).toArray) (res_cell Try.results24 _ _ _ 53 _ arr2b rfl rfl h2) rfl ⟨rfl, hB1.trans (hK2.below hB1.size (by simp))⟩

set_option maxRecDepth 100000 in
set_option maxHeartbeats 1000000 in
theorem pad_core (A : Option Addr) (n c : Nat) (k : List Nat) (w : World) (hs : Sl w (.slice A n c) (bv k)) (bk : Byt k) (hlen : (k.length : Int) ≤ 549755813888) :
    Calls Try.prog 19 #[.slice A n c] w (RetH (padK k) w) := by
  have hsh := Lib.hid (fun v w hs => shasum_any k v w hs bk hlen)
  have hn : n = k.length := by obtain ⟨_, _, e, _⟩ := hs; injection e with _ e _; simpa using e
  subst hn
  have hK : Hid (padK k = (if 64 < k.length then shaL k else k) ++ List.replicate (64 - (if 64 < k.length then shaL k else k).length) 0) := rfl
  have hpl := Lib.hid (show (bv (padK k)).length = 64 by simp [padK_len])
  have hhl := Lib.hid (shaL_len k)
  generalize padK k = P at *
  replace hs := Lib.hid hs
  clear bk
  go_enter Try.func19, Try.ntmps19
  go_wp2_with (refine wpList_allocA rfl 45 rfl (bv (zeros 64)) (by kernel_rfl) ?_)
  intro w1 h1 hK1 hz1
  have hB1 := (Below.refl w.heap.size w).trans (hK1.below (Nat.le_refl _) (by simp))
  clear hK1 hz1
  by_cases hlt : (64 : Int) < (k.length : Int)
  · have hsh1 := Lib.hid (hsh.out _ w1 (hs.out.keep hB1))
    have hK2 : Hid (P = shaL k ++ List.replicate (64 - (shaL k).length) 0) := by
      show _ = _
      rw [hK.out, if_pos (by omega)]
    clear hK
    generalize shaL k = O at *
    go_wp2_with fail
    refine hsh1.out.mono ?_
    rintro e w2 ⟨rfl, hB2⟩
    have h2 := h1.keep hB2
    have hB2' := below_call hB1 hB1.size hB2
    clear h1 hB1 hB2 hsh1
    go_wp2_with (refine wpList_allocA rfl 25 rfl (bv (zeros 32)) (by kernel_rfl) ?_)
    intro w3 h3 hK3 hz3
    have hp3 := h2.keeps hK3 (by simp)
    have hB3 := hB2'.trans (hK3.below hB2'.size (by simp))
    have hg := h2.lt
    clear hK3 h2 hB2'
    generalize w2.heap.size = g3 at *
    have hOl := Lib.hid (show (bv O).length = 32 by simp [hhl.out])
    go_wp2_with (refine wpList_storeW rfl 25 (.tmp 3) (.tmp 8) rfl 32 arrH g3 rfl (bv O) rfl 25 _ h3 hOl.out (by simp) (ones_bv _) ?_)
    intro w4 h4 hK4
    have hp4 := hp3.keeps hK4 (by simp; omega)
    have hB4 := hB3.trans (hK4.below hB3.size (by simp; omega))
    clear hK4 h3 hp3 hB3 hz3
    have sl4 : Sl w4 (.slice (some ⟨g3, 0, none⟩) 32 32) (bv O) := by
      have h := Sl.of_blk h4 (show 32 ≤ 32 from Nat.le_refl _) (Nat.le_of_eq hOl.out.symm) (by unfold maxLen; omega)
      rw [List.take_of_length_le (Nat.le_of_eq hOl.out)] at h
      exact h
    go_wp2_with (refine wpList_copySl rfl (.tmp 10) (.tmp 11) 22 22 rfl 5 Try.underlying22 (by kernel_rfl) w.heap.size 0 64 64 rfl _ (bv O) rfl sl4 45 _ hp4 ?_ (ones_bv _) ?_)
    · rw [hOl.out]; simp
    intro w5 h5 hK5
    rw [put_zeros (by rw [hhl.out]; decide), ← hK2.out] at h5
    have hB5 := hB4.trans (hK5.below hB4.size (by simp))
    clear hK5 hp4 hB4 h4 sl4
    go_wp2_with (first | refine wpList_loadW rfl 45 (.tmp 2) rfl 64 arr64b _ rfl 45 _ h5 hpl.out ?_ | refine wpList_storeW rfl 45 (.tmp 2) (.tmp 13) rfl 64 arr64b _ rfl (bv P) rfl 45 _ h5 hpl.out hpl.out (ones_bv _) ?_)
    intro w6 h6 hK6
    go_wp2
    exact bodyPost_ret (v := .agg (bv P).toArray) (res_cell Try.results19 _ _ _ 45 _ arr64b hpl.out rfl h6) rfl ⟨rfl, hB5.trans (hK6.below hB5.size (by simp))⟩
  · have hK2 : Hid (P = k ++ List.replicate (64 - k.length) 0) := by
      show _ = _
      rw [hK.out, if_neg (by omega)]
    clear hK hsh hhl
    have sl1 := hs.out.keep hB1
    go_wp2_with (refine wpList_copySl rfl (.tmp 10) (.tmp 11) 22 22 rfl 5 Try.underlying22 (by kernel_rfl) w.heap.size 0 64 64 rfl _ (bv k) rfl sl1 45 _ h1 ?_ (ones_bv _) ?_)
    · have := Nat.min_le_right (bv k).length 64; simpa using this
    intro w5 h5 hK5
    rw [put_zeros (by omega), ← hK2.out] at h5
    have hB5 := hB1.trans (hK5.below hB1.size (by simp))
    clear hK5 h1 hB1 sl1
    go_wp2_with (first | refine wpList_loadW rfl 45 (.tmp 2) rfl 64 arr64b _ rfl 45 _ h5 hpl.out ?_ | refine wpList_storeW rfl 45 (.tmp 2) (.tmp 13) rfl 64 arr64b _ rfl (bv P) rfl 45 _ h5 hpl.out hpl.out (ones_bv _) ?_)
    intro w6 h6 hK6
    go_wp2
    exact bodyPost_ret (v := .agg (bv P).toArray) (res_cell Try.results19 _ _ _ 45 _ arr64b hpl.out rfl h6) rfl ⟨rfl, hB5.trans (hK6.below hB5.size (by simp))⟩
theorem pad_any (v : Value) (k : List Nat) (w : World) (hs : Sl w v (bv k)) (bk : Byt k) (hlen : (k.length : Int) ≤ 549755813888) : Calls Try.prog 19 #[v] w (RetH (padK k) w) := by
  obtain ⟨A, c, rfl, _⟩ := id hs
  exact pad_core A _ c k w hs bk hlen
end Go.Proofs.Ythlebobfbalknaa

/- Contracts of package mac: the closure of Mac. -/

namespace Go.Proofs.Ythlebobfbalknaa
open Go.RowKit
open Go.Proofs.PlainAes
open Go.Proofs.PlainSha
open Go.Proofs.PlainMac

theorem x8m {a b : Nat} (ha : a < 256) (hb : b < 256) : bits .xor .u8 (a : Int) (b : Int) = ((a ^^^ b : Nat) : Int) ∧ a ^^^ b < 256 := ⟨u8_xor_nat a b ha hb, xor_lt ha hb⟩
@[simp] theorem xk_len (K : List Nat) (b : Nat) : (xk K b).length = K.length := by simp [xk]
theorem xk_get {K : List Nat} {b k : Nat} (hk : k < K.length) : (xk K b)[k]? = some (gd K k ^^^ b) := by
  simp [xk, gd_get hk]
theorem xk_byt {K : List Nat} {b : Nat} (h : Byt K) (hb : b < 256) : Byt (xk K b) := by
  intro x hx
  simp only [xk, List.mem_map] at hx
  obtain ⟨a, ha, rfl⟩ := hx
  exact xor_lt (h a ha) hb

set_option maxRecDepth 100000 in
set_option maxHeartbeats 2000000 in
theorem under_core (by_ : Nat) (K m : List Nat) (g n c : Nat) (A : Option Addr) (w : World) (hk : Blk w g 45 (bv K)) (hKl : K.length = 64) (bK : Byt K) (hb8 : (by_ : Int) ≤ 255) (hs : Sl w (.slice A n c) (bv m)) (bm : Byt m) (hlen : (m.length : Int) ≤ 549755813888) :
    Calls Try.prog 20 #[.int .u8 (by_ : Int), .slice A n c, .pointer (some ⟨g, 0, none⟩)] w (RetH (shaL (xk K by_ ++ m)) w) := by
  have hnew := Lib.hid (fun w => new_any w)
  have hbx : Byt (xk K by_) := xk_byt bK (by omega)
  have hwr1 := Lib.hid (fun B g v w h a d => write_any [] (xk K by_) B g v none w h a (by intro x hx; simp at hx) hbx (by simp; omega) d)
  have hwr2 := Lib.hid (fun B g r v w h a d => write_any (xk K by_) m B g v r w h a hbx bm (by simp; omega) d)
  have hsm := Lib.hid (fun B g r w h => sum_any (xk K by_ ++ m) B g r w h (by intro x hx; rcases List.mem_append.1 hx with h | h; exact hbx x h; exact bm x h) (by simp; omega))
  have hsep : Hid (0 < m.length → ∀ a n' c', Value.slice A n c = .slice (some a) n' c' → a.block < w.heap.size) := fun hp a n' c' e => Sl.lt hs (by simpa using hp) e
  have Hs := Lib.hid hs
  have hgk := hk.lt
  have HKl := Lib.hid hKl
  have Hkl := Lib.hid (show (bv K).length = 64 by simp [hKl])
  have hXl := Lib.hid (show (xk K by_).length = K.length from xk_len K by_)
  have hXg := Lib.hid (fun k (hk : k < 64) => xk_get (b := by_) (show k < K.length by omega))
  have bKg := Lib.hid (fun k => gd_lt bK k)
  have hHl := Lib.hid (show (bv (shaL (xk K by_ ++ m))).length = 32 by simp [shaL_len])
  clear hs bm hKl bK hbx
  generalize hXe : xk K by_ = X at *
  clear hXe
  go_enter Try.func20, Try.ntmps20
  go_wp2_with (refine wpList_allocA rfl 25 rfl (bv (zeros 32)) (by kernel_rfl) ?_)
  intro w1 ho1 hK1 hz1
  have hB1 := hK1.below (Nat.le_refl _) (by simp)
  have hk1 := hk.keeps hK1 (by simp)
  clear hK1 hk
  go_wp2_with fail
  refine (hnew.out _).mono ?_
  rintro e w2 ⟨g6, rfl, hh, hB2⟩
  have hgl := hh.lt
  have ho2 := ho1.keep hB2
  have hk2 := hk1.keep hB2
  have hB2' := below_call hB1 hB1.size hB2
  have hol := ho2.lt
  have h16 : w1.heap.size = w.heap.size + 1 := by simpa using hz1
  clear hz1 ho1 hk1 hB1 hB2
  go_wp2_with (first
    | (refine wpList_loadW rfl 45 (.tmp 2) rfl 64 arr64b g rfl 45 _ hk2 Hkl.out ?_)
    | (refine wpList_allocA rfl 45 rfl (bv (zeros 64)) (by kernel_rfl) ?_))
  intro w3 h3 hK3 hz3
  have ho3 := ho2.keeps hK3 (by simp)
  have hh3 := hh.keeps hK3 (by simp) (by simp)
  have hB3 := hB2'.trans (hK3.below hB2'.size (by simp))
  have hg6 : g6 < w2.heap.size := hgl.2
  have hg1 := hgl.1
  clear hK3 ho2 hk2 hh hB2' hz3 hgl
  generalize w2.heap.size = g7 at *
  go_wp2_with (refine wpList_storeW rfl 45 (.tmp 7) (.tmp 12) rfl 64 arr64b g7 rfl (bv K) rfl 45 _ h3 Hkl.out (by simp) (ones_bv _) ?_)
  intro w4 h4 hK4
  have ho4 := ho3.keeps hK4 (by simp; omega)
  have hh4 := hh3.keeps hK4 (by simp; omega) (by simp)
  have hB4 := hB3.trans (hK4.below hB3.size (by simp; omega))
  have hg7 := h4.lt
  clear hK4 h3 ho3 hh3 hB3
  go_wp2
  go_loopw [13] (fun i wr => ∃ k : Nat, (k : Int) ≤ 64 ∧ i = .int .i64 (k : Int) ∧ Blk wr g7 45 (bv (upd X K k)) ∧ Keeps [g7] w4 wr) (fun i _ => 64 - (intOf i).toNat)
  case atStart => exact ⟨0, by omega, rfl, by rw [upd_zero]; exact h4, Keeps.refl _ _⟩
  case round =>
    clear h4
    obtain ⟨k, hk, rfl, hx, hK⟩ := hrel
    by_cases hlt : (k : Int) < 64
    · have c0 := hx.cell k
      rw [bv_get, upd_get (by rw [hXl.out]) (Nat.le_refl _) (by rw [HKl.out]; omega), gd_get (by rw [HKl.out]; omega)] at c0
      simp only [Option.map_some] at c0
      have f0 := hx.frozen k
      have HS := Lib.hid (upd_set (new := X) (old := K) (k := k) (by rw [hXl.out]) (by rw [HKl.out]; omega) (hXg.out k (by omega)))
      have l1 := bKg.out k
      have q1 := (x8m l1 (show by_ < 256 by omega)).1
      generalize gd K k = x at *
      clear l1
      go_wp2
      go_roundw
      case rel =>
        refine ⟨k + 1, by omega, by go_num, ?_, hK.setCell (by simp) _⟩
        rw [← HS.out, ← bv_set]
        exact hx.set_ k _
      case measure => simp [intOf]; omega
    · obtain rfl : k = 64 := by omega
      rw [upd_all (by rw [hXl.out, HKl.out]) HKl.out] at hx
      have ho5 := ho4.keeps hK (by simp; omega)
      have hh5 := hh4.keeps hK (by simp; omega) (by simp)
      have hB5 := hB4.trans (hK.below hB4.size (by simp; omega))
      have sl5 : Sl wr (.slice (some ⟨g7, 0, none⟩) 64 64) (bv X) := by
        have h := Sl.of_blk hx (show 64 ≤ 64 from Nat.le_refl _) (by rw [bv_length, hXl.out, HKl.out]; exact Nat.le_refl _) (by unfold maxLen; omega)
        rw [List.take_of_length_le (by rw [bv_length, hXl.out, HKl.out]; exact Nat.le_refl _)] at h
        exact h
      have hw1 := Lib.hid (hwr1.out _ _ _ wr hh5 sl5 (fun _ a n c e => ⟨by injection e with e; injection e with e; rw [← e]; show g7 ≠ g6; omega, by simp⟩))
      have hg7w : g7 < wr.heap.size := hx.lt
      clear ho4 hh4 hB4 hK hh5 sl5 hx
      go_wp2_with fail
      refine hw1.out.mono ?_
      rintro e w6 ⟨rfl, r6, hh6, hK6, hm6⟩
      have hr6 := hh6.row
      have ho6 := ho5.keeps hK6 (by simp; omega)
      have hB6 := hB5.trans (hK6.below hB5.size (by simp; omega))
      have hne : ∀ k, k < w.heap.size → r6 ≠ some k := fun k hk e => by have := (hr6 k e).1; omega
      have hno : r6 ≠ some w.heap.size := fun e => by have := (hr6 _ e).1; omega
      have hw2 := Lib.hid (hwr2.out _ _ _ _ w6 hh6 (Hs.out.keep hB6) (fun hp a n c e => ⟨by have := hsep.out hp a n c e; omega, hne _ (hsep.out hp a n c e)⟩))
      clear hw1 hK6 hm6 hh6 hB5 ho5
      go_wp2_with fail
      refine hw2.out.mono ?_
      rintro e w7 ⟨rfl, r7, hh7, hK7, hm7⟩
      have ho7 := ho6.keeps hK7 (by
        simp only [List.mem_cons, Option.mem_toList, not_or]
        exact ⟨by omega, hno⟩)
      have hB7 := hB6.trans (hK7.belowH hB6.size (by omega) (fun k hk => by have := (hr6 k hk).1; omega))
      have hsm7 := Lib.hid (hsm.out _ _ _ w7 hh7)
      clear hw2 hK7 hm7 hh7 hB6 ho6 hr6 hne hno
      go_wp2_with fail
      refine hsm7.out.mono ?_
      rintro e w8 ⟨rfl, hB8⟩
      have ho8 := ho7.keep hB8
      have hB8' := below_call hB7 hB7.size hB8
      clear hsm7 hB8 hB7 ho7
      generalize shaL (X ++ m) = O at *
      go_wp2_with (refine wpList_allocA rfl 25 rfl (bv (zeros 32)) (by kernel_rfl) ?_)
      intro w9 hx9 hK9 hz9
      have ho9 := ho8.keeps hK9 (by simp)
      have hB9 := hB8'.trans (hK9.below hB8'.size (by simp))
      have hg9 := ho8.lt
      clear hK9 ho8 hB8' hz9
      generalize w8.heap.size = g9 at *
      go_wp2_with (refine wpList_storeW rfl 25 (.tmp 9) (.tmp 32) rfl 32 arrH g9 rfl (bv O) rfl 25 _ hx9 hHl.out (by simp) (ones_bv _) ?_)
      intro w10 hx10 hK10
      have ho10 := ho9.keeps hK10 (by simp; omega)
      have hB10 := hB9.trans (hK10.below hB9.size (by simp; omega))
      clear hK10 hx9 ho9 hB9
      go_wp2_with (first | refine wpList_loadW rfl 25 (.tmp 9) rfl 32 arrH _ rfl 25 _ hx10 hHl.out ?_ | refine wpList_storeW rfl 25 (.tmp 5) (.tmp 34) rfl 32 arrH _ rfl (bv O) rfl 25 _ ho10 hHl.out (by simp) (ones_bv _) ?_)
      intro w11 ho11 hK11
      go_wp2
      exact bodyPost_ret (v := .agg (bv O).toArray) (res_cell Try.results20 _ _ _ 25 _ arrH hHl.out rfl ho11) rfl ⟨rfl, hB10.trans (hK11.below hB10.size (by simp))⟩
theorem under_any (by_ : Nat) (K m : List Nat) (g : Nat) (v : Value) (w : World) (hk : Blk w g 45 (bv K)) (hKl : K.length = 64) (bK : Byt K) (hb8 : (by_ : Int) ≤ 255) (hs : Sl w v (bv m)) (bm : Byt m) (hlen : (m.length : Int) ≤ 549755813888) :
    Calls Try.prog 20 #[.int .u8 (by_ : Int), v, .pointer (some ⟨g, 0, none⟩)] w (RetH (shaL (xk K by_ ++ m)) w) := by
  obtain ⟨A, c, rfl, _⟩ := id hs
  exact under_core by_ K m g _ c A w hk hKl bK hb8 hs bm hlen
end Go.Proofs.Ythlebobfbalknaa

/- Contracts of package mac: Mac, Fits, Derive. -/
namespace Go.Proofs.Ythlebobfbalknaa
open Go.RowKit
open Go.Proofs.PlainAes
open Go.Proofs.PlainSha
open Go.Proofs.PlainMac

theorem pads_eq : (bv [54, 92]).toArray = #[.int .u8 54, .int .u8 92] := rfl
theorem xk_shaL_len (K m : List Nat) (b : Nat) : (shaL (xk K b ++ m)).length = 32 := shaL_len _

theorem idx2a (w : World) : (Instr.index 53 (.agg #[.int .u8 54, .int .u8 92]) (.int .i64 0)).run Try.prog w = .ok (.int .u8 54) w := by
  have hu : Try.prog.underlying 53 = some (.array 2 5) := Try.underlying53
  have hs : (sizeOf 5).run Try.prog w = .ok 1 w := by kernel_rfl
  have ha : (isAgg 5).run Try.prog w = .ok false w := by kernel_rfl
  simp [Instr.index, asIntOf, Sem.run_bind, run_underlying hu, hs, ha, part]
theorem idx2b (w : World) : (Instr.index 53 (.agg #[.int .u8 54, .int .u8 92]) (.int .i64 1)).run Try.prog w = .ok (.int .u8 92) w := by
  have hu : Try.prog.underlying 53 = some (.array 2 5) := Try.underlying53
  have hs : (sizeOf 5).run Try.prog w = .ok 1 w := by kernel_rfl
  have ha : (isAgg 5).run Try.prog w = .ok false w := by kernel_rfl
  simp [Instr.index, asIntOf, Sem.run_bind, run_underlying hu, hs, ha, part]
set_option maxRecDepth 100000 in
set_option maxHeartbeats 2000000 in
theorem mac_core (A A2 : Option Addr) (n c n2 c2 : Nat) (k m : List Nat) (w : World) (hs : Sl w (.slice A n c) (bv k)) (hm : Sl w (.slice A2 n2 c2) (bv m)) (bk : Byt k) (bm : Byt m) (hlk : (k.length : Int) ≤ 549755813888) (hlm : (m.length : Int) ≤ 549755813888) :
    Calls Try.prog 9 #[.slice A n c, .slice A2 n2 c2] w (RetH (macL k m) w) := by
  have hpad := Lib.hid (fun w (h : Sl w (.slice A n c) (bv k)) => pad_any _ k w h bk hlk)
  have hp := Lib.hid (fun w => pads_any w)
  rw [pads_eq] at hp
  have hKl := padK_len k
  have hKb := padK_byt bk
  have hOe : Hid (macL k m = shaL (xk (padK k) 92 ++ shaL (xk (padK k) 54 ++ m))) := rfl
  have hOl := Lib.hid (show (bv (macL k m)).length = 32 by rw [bv_length, macL_len])
  have hu1 := Lib.hid (fun g w (h : Blk w g 45 (bv (padK k))) (h2 : Sl w (.slice A2 n2 c2) (bv m)) => under_any 54 (padK k) m g _ w h hKl hKb (by decide) h2 bm hlm)
  have hu2 := Lib.hid (fun g v w (h : Blk w g 45 (bv (padK k))) h2 => under_any 92 (padK k) (shaL (xk (padK k) 54 ++ m)) g v w h hKl hKb (by decide) h2 (shaL_byt _) (by rw [shaL_len]; decide))
  have hHl := Lib.hid (show (bv (shaL (xk (padK k) 54 ++ m))).length = 32 by rw [bv_length, shaL_len])
  rw [← hOe.out] at hu2
  change Hid (∀ g w, _ → _ → Calls _ _ #[.int .u8 54, _, _] _ _) at hu1
  change Hid (∀ g v w, _ → _ → Calls _ _ #[.int .u8 92, _, _] _ _) at hu2
  have hKl2 := Lib.hid (show (bv (padK k)).length = 64 by rw [bv_length, hKl])
  replace hs := Lib.hid hs
  replace hm := Lib.hid hm
  clear hOe hKl hKb bk bm hlk hlm
  generalize macL k m = O at *
  generalize padK k = K at *
  generalize shaL (xk K 54 ++ m) = H1 at *
  go_enter Try.func9, Try.ntmps9
  go_wp2_with (refine wpList_allocA rfl 25 rfl (bv (zeros 32)) (by kernel_rfl) ?_)
  intro w1 h1 hK1 hz1
  have hB1 := (Below.refl w.heap.size w).trans (hK1.below (Nat.le_refl _) (by simp))
  have hpad1 := Lib.hid (hpad.out w1 (hs.out.keep hB1))
  clear hK1 hz1
  go_wp2_with fail
  refine hpad1.out.mono ?_
  rintro e w2 ⟨rfl, hB2⟩
  have h2 := h1.keep hB2
  have hB2' := below_call hB1 hB1.size hB2
  clear h1 hB1 hB2 hpad1
  go_wp2_with (refine wpList_allocA rfl 45 rfl (bv (zeros 64)) (by kernel_rfl) ?_)
  intro w3 h3 hK3 hz3
  have hp3 := h2.keeps hK3 (by simp)
  have hB3 := hB2'.trans (hK3.below hB2'.size (by simp))
  have hg := h2.lt
  clear hK3 h2 hB2' hz3
  generalize w2.heap.size = g5 at *
  go_wp2_with (refine wpList_storeW rfl 45 (.tmp 5) (.tmp 11) rfl 64 arr64b g5 rfl (bv K) rfl 45 _ h3 hKl2.out (by simp) (ones_bv _) ?_)
  intro w4 h4 hK4
  have hp4 := hp3.keeps hK4 (by simp; omega)
  have hB4 := hB3.trans (hK4.below hB3.size (by simp; omega))
  clear hK4 h3 hp3 hB3
  go_wp2_with fail
  refine (hp.out _).mono ?_
  rintro e w5 ⟨rfl, hB5⟩
  have h5 := h4.keep hB5
  have hp5 := hp4.keep hB5
  have hB5' := below_call hB4 hB4.size hB5
  clear h4 hp4 hB4 hB5
  go_wp2
  go_loopw [7, 15] (fun r i wr => Blk wr g5 45 (bv K) ∧ Below w.heap.size w wr ∧ ((i = .int .i64 0 ∧ r = .slice A2 n2 c2 ∧ Blk wr w.heap.size 25 (bv (zeros 32))) ∨ (i = .int .i64 1 ∧ r = .slice (some ⟨w.heap.size, 0, none⟩) 32 32 ∧ Blk wr w.heap.size 25 (bv H1)) ∨ (i = .int .i64 2 ∧ Blk wr w.heap.size 25 (bv O)))) (fun _ i _ => 2 - (intOf i).toNat)
  case atStart => exact ⟨h5, hB5', .inl ⟨rfl, rfl, hp5⟩⟩
  case round =>
    clear h5 hp5 hB5'
    obtain ⟨hk, hB, hrel⟩ := hrel
    rcases hrel with ⟨rfl, rfl, hr⟩ | ⟨rfl, rfl, hr⟩ | ⟨rfl, hr⟩
    · have i0 := idx2a
      have hc := Lib.hid (hu1.out g5 wr hk (hm.out.keep hB))
      go_wp2_with fail
      refine hc.out.mono ?_
      rintro e w6 ⟨rfl, hB6⟩
      have hk6 := hk.keep hB6
      have hr6 := hr.keep hB6
      have hB6' := below_call hB hB.size hB6
      clear hk hr hB hB6 hc
      go_wp2_with (refine wpList_storeW rfl 25 (.tmp 4) (.tmp 21) rfl 32 arrH w.heap.size rfl (bv H1) rfl 25 _ hr6 hHl.out (by simp) (ones_bv _) ?_)
      intro w7 hr7 hK7
      have hk7 := hk6.keeps hK7 (by simp; omega)
      have hB7 := hB6'.trans (hK7.below hB6'.size (by simp))
      clear hK7 hr6 hk6 hB6'
      go_wp2
      go_roundw
      case rel => exact ⟨hk7, hB7, .inr (.inl ⟨by go_num, rfl, hr7⟩)⟩
      case measure => simp [intOf]
    · have hsl : Sl wr (.slice (some ⟨w.heap.size, 0, none⟩) 32 32) (bv H1) := by
        have h := Sl.of_blk hr (show 32 ≤ 32 from Nat.le_refl _) (Nat.le_of_eq hHl.out.symm) (by unfold maxLen; omega)
        rw [List.take_of_length_le (Nat.le_of_eq hHl.out)] at h
        exact h
      have i0 := idx2b
      have hc := Lib.hid (hu2.out g5 _ wr hk hsl)
      go_wp2_with fail
      refine hc.out.mono ?_
      rintro e w6 ⟨rfl, hB6⟩
      have hk6 := hk.keep hB6
      have hr6 := hr.keep hB6
      have hB6' := below_call hB hB.size hB6
      clear hk hr hB hB6 hc hsl
      go_wp2_with (refine wpList_storeW rfl 25 (.tmp 4) (.tmp 21) rfl 32 arrH w.heap.size rfl (bv O) rfl 25 _ hr6 hOl.out hHl.out (ones_bv _) ?_)
      intro w7 hr7 hK7
      have hk7 := hk6.keeps hK7 (by simp; omega)
      have hB7 := hB6'.trans (hK7.below hB6'.size (by simp))
      clear hK7 hr6 hk6 hB6'
      go_wp2
      go_roundw
      case rel => exact ⟨hk7, hB7, .inr (.inr ⟨by go_num, hr7⟩)⟩
      case measure => simp [intOf]
    · go_wp2_with (first | refine wpList_loadW rfl 25 (.tmp 4) rfl 32 arrH _ rfl 25 _ hr hOl.out ?_ | refine wpList_storeW rfl 25 (.tmp 4) (.tmp 24) rfl 32 arrH _ rfl (bv O) rfl 25 _ hr hOl.out hOl.out (ones_bv _) ?_)
      intro w6 h6 hK6
      go_wp2
      exact bodyPost_ret (v := .agg (bv O).toArray) (res_cell Try.results9 _ _ _ 25 _ arrH hOl.out rfl h6) rfl ⟨rfl, hB.trans (hK6.below hB.size (by simp))⟩
theorem mac_any (v v2 : Value) (k m : List Nat) (w : World) (hs : Sl w v (bv k)) (hm : Sl w v2 (bv m)) (bk : Byt k) (bm : Byt m) (hlk : (k.length : Int) ≤ 549755813888) (hlm : (m.length : Int) ≤ 549755813888) :
    Calls Try.prog 9 #[v, v2] w (RetH (macL k m) w) := by
  obtain ⟨A, c, rfl, _⟩ := id hs
  obtain ⟨A2, c2, rfl, _⟩ := id hm
  exact mac_core A A2 _ c _ c2 k m w hs hm bk bm hlk hlm
end Go.Proofs.Ythlebobfbalknaa

/- Contracts of package mac: Fits, and the statements' own example. -/
namespace Go.Proofs.Ythlebobfbalknaa
open Go.RowKit
open Go.Proofs.PlainAes
open Go.Proofs.PlainSha
open Go.Proofs.PlainMac

theorem or_zero8 {a b : Nat} : a ||| b = 0 ↔ a = 0 ∧ b = 0 := by
  constructor
  · intro h
    constructor
    · have := Nat.left_le_or (n := a) (m := b); omega
    · have := Nat.right_le_or (n := a) (m := b); omega
  · rintro ⟨rfl, rfl⟩; rfl
theorem xor_zero8 {a b : Nat} : a ^^^ b = 0 ↔ a = b := by
  constructor
  · intro h
    have := congrArg (· ^^^ b) h
    simpa [Nat.xor_assoc] using this
  · rintro rfl; simp
theorem o8m {a b : Nat} (ha : a < 256) (hb : b < 256) : bits .or .u8 (a : Int) (b : Int) = ((a ||| b : Nat) : Int) ∧ a ||| b < 256 := ⟨u8_or_nat a b ha hb, Nat.or_lt_two_pow (n := 8) ha hb⟩

set_option maxRecDepth 100000 in
set_option maxHeartbeats 2000000 in
theorem fits_core (A A2 : Option Addr) (n c n2 c2 : Nat) (k m x : List Nat) (w : World) (hs : Sl w (.slice A n c) (bv k)) (hm : Sl w (.slice A2 n2 c2) (bv m)) (bk : Byt k) (bm : Byt m) (hlk : (k.length : Int) ≤ 549755813888) (hlm : (m.length : Int) ≤ 549755813888) (hx : x.length = 32) (bx : Byt x) :
    Calls Try.prog 11 #[.slice A n c, .slice A2 n2 c2, .agg (bv x).toArray] w fun e w' => e = .returned (.bool (decide (macL k m = x))) ∧ Below w.heap.size w w' := by
  have hmac := Lib.hid (fun w (h : Sl w (.slice A n c) (bv k)) (h2 : Sl w (.slice A2 n2 c2) (bv m)) => mac_any _ _ k m w h h2 bk bm hlk hlm)
  have hOl := Lib.hid (macL_len k m)
  have hOb := Lib.hid (macL_byt k m)
  replace hs := Lib.hid hs
  replace hm := Lib.hid hm
  have Hx := Lib.hid hx
  have Bx := Lib.hid bx
  have hb0 := Blk.new w 25 (bv x).toArray
  have hB0 := (Below.refl w.heap.size w).alloc (Nat.le_refl _) (.cells (bv x).toArray 25)
  clear bk bm hlk hlm hx bx
  generalize macL k m = O at *
  go_enter Try.func11, Try.ntmps11
  have hm1 := Lib.hid (hmac.out _ (hs.out.keep hB0) (hm.out.keep hB0))
  go_wp2_with fail
  refine hm1.out.mono ?_
  rintro e w1 ⟨rfl, hB1⟩
  have hx1 := hb0.keep hB1
  have hB1' := below_call hB0 (by simp) hB1
  clear hb0 hB0 hB1 hm1
  go_wp2_with (refine wpList_allocA rfl 25 rfl (bv (zeros 32)) (by kernel_rfl) ?_)
  intro w2 h2 hK2 hz2
  have hx2 := hx1.keeps hK2 (by simp)
  have hB2 := hB1'.trans (hK2.below hB1'.size (by simp))
  have hg := hx1.lt
  clear hK2 hx1 hB1' hz2
  generalize w1.heap.size = g7 at *
  have hOl2 := Lib.hid (show (bv O).length = 32 by rw [bv_length, hOl.out])
  go_wp2_with (refine wpList_storeW rfl 25 (.tmp 7) (.tmp 12) rfl 32 arrH g7 rfl (bv O) rfl 25 _ h2 hOl2.out (by simp) (ones_bv _) ?_)
  intro w3 h3 hK3
  have hx3 := hx2.keeps hK3 (by simp; omega)
  have hB3 := hB2.trans (hK3.below hB2.size (by simp; omega))
  clear hK3 h2 hx2 hB2
  go_wp2
  go_loopw [8, 13] (fun d i wr => ∃ k a : Nat, (k : Int) ≤ 32 ∧ i = .int .i64 (k : Int) ∧ d = .int .u8 (a : Int) ∧ (a : Int) ≤ 255 ∧ Hid (a = 0 ↔ ∀ j, j < k → gd O j = gd x j) ∧ Blk wr g7 25 (bv O) ∧ Blk wr w.heap.size 25 (bv x) ∧ Below w.heap.size w wr) (fun _ i _ => 32 - (intOf i).toNat)
  case atStart => exact ⟨0, 0, by omega, rfl, rfl, by omega, ⟨fun _ j hj => by omega, fun _ => rfl⟩, h3, hx3, hB3⟩
  case round =>
    clear h3 hx3 hB3
    obtain ⟨k, a, hk, rfl, rfl, ha, hd, ho, hx, hB⟩ := hrel
    by_cases hlt : (k : Int) < 32
    · have c0 := ho.cell k
      have c1 := hx.cell k
      rw [gd_bv (by rw [hOl.out]; omega)] at c0
      rw [gd_bv (by rw [Hx.out]; omega)] at c1
      have l0 := gd_lt hOb.out k
      have l1 := gd_lt Bx.out k
      have hn : Hid ((a ||| (gd O k ^^^ gd x k)) = 0 ↔ ∀ j, j < k + 1 → gd O j = gd x j) := by
        show _ ↔ _
        rw [or_zero8, xor_zero8, hd.out]
        constructor
        · rintro ⟨h1, h2⟩ j hj
          rcases Nat.lt_or_ge j k with h | h
          · exact h1 j h
          · obtain rfl : j = k := by omega
            exact h2
        · intro h
          exact ⟨fun j hj => h j (by omega), h k (by omega)⟩
      generalize gd O k = p at *
      generalize gd x k = q at *
      have q1 := x8m l0 l1
      have q2 := o8m (show a < 256 by omega) q1.2
      have hle : ((a ||| (p ^^^ q) : Nat) : Int) ≤ 255 := by have := q2.2; omega
      replace q1 := q1.1
      replace q2 := q2.1
      clear l0 l1
      generalize hv : a ||| (p ^^^ q) = v at *
      generalize p ^^^ q = pq at *
      clear hv
      go_wp2
      go_quiet (fail)
      clear c0 c1
      replace ho := ho.drewN nq
      replace hx := hx.drewN nq
      replace hB := below_drewN hB nq
      generalize wr.drewN nq = wr at *
      go_wp2
      go_roundw
      case rel => exact ⟨k + 1, v, by omega, by go_num, rfl, hle, hn, ho, hx, hB⟩
      case measure => simp [intOf]; omega
    · obtain rfl : k = 32 := by omega
      have hfin : Hid (decide ((a : Int) = 0) = decide (O = x)) := by
        show _ = _
        refine decide_eq_decide.2 ⟨fun h => ?_, fun h => ?_⟩
        · exact ext_gd (by rw [hOl.out, Hx.out]) (fun i hi => hd.out.1 (by omega) i (by rw [hOl.out] at hi; omega))
        · have := hd.out.2 (fun j _ => by rw [h]); omega
      have hq : ((a : Int) == 0) = decide ((a : Int) = 0) := by rw [Bool.eq_iff_iff]; simp
      rw [hfin.out] at hq
      go_wp2
      go_ret
      exact ⟨rfl, hB⟩
theorem fits_any (v v2 : Value) (k m x : List Nat) (w : World) (hs : Sl w v (bv k)) (hm : Sl w v2 (bv m)) (bk : Byt k) (bm : Byt m) (hlk : (k.length : Int) ≤ 549755813888) (hlm : (m.length : Int) ≤ 549755813888) (hx : x.length = 32) (bx : Byt x) :
    Calls Try.prog 11 #[v, v2, .agg (bv x).toArray] w fun e w' => e = .returned (.bool (decide (macL k m = x))) ∧ Below w.heap.size w w' := by
  obtain ⟨A, c, rfl, _⟩ := id hs
  obtain ⟨A2, c2, rfl, _⟩ := id hm
  exact fits_core A A2 _ c _ c2 k m x w hs hm bk bm hlk hlm hx bx
theorem jefe_byt : Byt jefe := by
  intro x hx
  simp only [jefe, List.mem_cons, List.not_mem_nil, or_false] at hx
  omega
theorem what_byt : Byt what := by
  intro x hx
  simp only [what, List.mem_cons, List.not_mem_nil, or_false] at hx
  omega
def jeS : ByteArray := bstr (hexL (macL jefe what))
theorem jeS_eq : jeS = ⟨#[53, 98, 100, 99, 99, 49, 52, 54, 98, 102, 54, 48, 55, 53, 52, 101, 54, 97, 48, 52, 50, 52, 50, 54, 48, 56, 57, 53, 55, 53, 99, 55, 53, 97, 48, 48, 51, 102, 48, 56, 57, 100, 50, 55, 51, 57, 56, 51, 57, 100, 101, 99, 53, 56, 98, 57, 54, 52, 101, 99, 51, 56, 52, 51]⟩ := by
  unfold jeS
  rw [macL_jefe]
  decide +kernel
theorem jw_sl (w : World) : Sl ((w.alloc (.cells #[.int .u8 74, .int .u8 101, .int .u8 102, .int .u8 101] 5 (4, 5))).alloc (.cells (bv what).toArray 5 (28, 29))) (.slice (some ⟨w.heap.size, 0, none⟩) 4 4) (bv jefe) ∧
    Sl ((w.alloc (.cells #[.int .u8 74, .int .u8 101, .int .u8 102, .int .u8 101] 5 (4, 5))).alloc (.cells (bv what).toArray 5 (28, 29))) (.slice (some ⟨w.heap.size + 1, 0, none⟩) 28 28) (bv what) := by
  have h1 : Sl (w.alloc (.cells #[.int .u8 74, .int .u8 101, .int .u8 102, .int .u8 101] 5 (4, 5))) (.slice (some ⟨w.heap.size, 0, none⟩) 4 4) (bv jefe) := Sl.of_new w #[.int .u8 74, .int .u8 101, .int .u8 102, .int .u8 101] 5 (4, 5) (by simp [maxLen])
  have h2 := Sl.of_new (w.alloc (.cells #[.int .u8 74, .int .u8 101, .int .u8 102, .int .u8 101] 5 (4, 5))) (bv what).toArray 5 (28, 29) (by simp [maxLen, what])
  refine ⟨h1.keep ((Below.refl _ _).alloc (Nat.le_refl _) _), ?_⟩
  have e : (w.alloc (.cells #[.int .u8 74, .int .u8 101, .int .u8 102, .int .u8 101] 5 (4, 5))).heap.size = w.heap.size + 1 := by simp
  rw [e] at h2
  exact h2
set_option maxRecDepth 100000 in
set_option maxHeartbeats 1000000 in
theorem alive_any (w : World) : Calls Try.prog 8 #[] w fun e w' => e = .returned (.bool true) ∧ Below w.heap.size w w' := by
  have hmac := Lib.hid (fun v v2 w h1 h2 => mac_any v v2 jefe what w h1 h2 jefe_byt what_byt (by decide) (by decide))
  have hfit := Lib.hid (fun v v2 w h1 h2 => fits_any v v2 jefe what (macL jefe what) w h1 h2 jefe_byt what_byt (by decide) (by decide) (macL_len _ _) (macL_byt _ _))
  rw [show decide (macL jefe what = macL jefe what) = true from decide_eq_true rfl] at hfit
  have hhex : Hid (∀ w, Calls Try.prog 18 #[.agg (bv (macL jefe what)).toArray] w fun e w' => e = .returned (.string jeS) ∧ Below w.heap.size w w') := Lib.hid (fun w => hex_any (macL jefe what) w (macL_len _ _) (macL_byt _ _))
  have hXl := Lib.hid (show (bv (macL jefe what)).length = 32 by rw [bv_length, macL_len])
  have hs : (jeS.toList == [53, 98, 100, 99, 99, 49, 52, 54, 98, 102, 54, 48, 55, 53, 52, 101, 54, 97, 48, 52, 50, 52, 50, 54, 48, 56, 57, 53, 55, 53, 99, 55, 53, 97, 48, 48, 51, 102, 48, 56, 57, 100, 50, 55, 51, 57, 56, 51, 57, 100, 101, 99, 53, 56, 98, 57, 54, 52, 101, 99, 51, 56, 52, 51]) = true := by rw [jeS_eq, ByteArray.toList_eq]; decide
  replace hs := Lib.hid hs
  have kc := fun (w : World) (C : Array Value) (n c : Nat) => Lib.run_convert_bytes_const (P := Try.prog) w 22 5 C n c Try.underlying22 Try.underlying5
  have kc2 : ∀ (w : World) (O : Obj) (C : Array Value) (n c : Nat), (convert 22 22 (.slice (some ⟨w.heap.size + 1, 0, none⟩) n c)).run Try.prog ((w.alloc O).alloc (.cells C 5)) = .ok (.slice (some ⟨w.heap.size + 1, 0, none⟩) n c) ((w.alloc O).alloc (.cells C 5 (C.size, C.size + 1))) := fun w O C n c => by
    have h := kc (w.alloc O) C n c
    rw [show (w.alloc O).heap.size = w.heap.size + 1 by simp] at h
    exact h
  change Hid (∀ v v2 w, _ → _ → Calls _ _ _ w (RetH (macL jefe what) w)) at hmac
  generalize macL jefe what = X at *
  generalize jeS = S at *
  go_enter Try.func8, Try.ntmps8
  have hj1 := Lib.hid (hmac.out _ _ _ (jw_sl w).1 (jw_sl w).2)
  have hB0 : Below w.heap.size w ((w.alloc (.cells #[.int .u8 74, .int .u8 101, .int .u8 102, .int .u8 101] 5 (4, 5))).alloc (.cells (bv what).toArray 5 (28, 29))) := ((Below.refl _ w).alloc (Nat.le_refl _) _).alloc (by simp) _
  go_wp2_with fail
  refine hj1.out.mono ?_
  rintro e w1 ⟨rfl, hB1⟩
  have hB1' := below_call hB0 (by simp; omega) hB1
  clear hB1 hB0 hj1
  go_wp2_with (refine wpList_allocA rfl 25 rfl (bv (zeros 32)) (by kernel_rfl) ?_)
  intro w2 h2 hK2 hz2
  have hB2 := hB1'.trans (hK2.below hB1'.size (by simp))
  have hg2 : w.heap.size ≤ w1.heap.size := hB1'.size
  clear hK2 hB1' hz2
  generalize w1.heap.size = g2 at *
  go_wp2_with (refine wpList_storeW rfl 25 (.tmp 1) (.tmp 6) rfl 32 arrH g2 rfl (bv X) rfl 25 _ h2 hXl.out (by simp) (ones_bv _) ?_)
  intro w3 h3 hK3
  have hB3 := hB2.trans (hK3.below hB2.size (by simp; omega))
  clear hK3 h2 hB2
  go_wp2_with (refine wpList_loadW rfl 25 (.tmp 1) rfl 32 arrH g2 rfl 25 _ h3 hXl.out ?_)
  refine (hhex.out _).mono ?_
  rintro e w4 ⟨rfl, hB4⟩
  have h4 := h3.keep hB4
  have hB4' := below_call hB3 hB3.size hB4
  clear h3 hB3 hB4
  have hs := hs.out
  have hf1 := Lib.hid (hfit.out _ _ _ (jw_sl w4).1 (jw_sl w4).2)
  have hB5 : Below w.heap.size w ((w4.alloc (.cells #[.int .u8 74, .int .u8 101, .int .u8 102, .int .u8 101] 5 (4, 5))).alloc (.cells (bv what).toArray 5 (28, 29))) := (hB4'.alloc hB4'.size _).alloc (by have := hB4'.size; simp; omega) _
  have h5 := (h4.alloc (.cells #[.int .u8 74, .int .u8 101, .int .u8 102, .int .u8 101] 5 (4, 5))).alloc (.cells (bv what).toArray 5 (28, 29))
  go_wp2_with (refine wpList_loadG rfl 25 (.tmp 1) rfl 32 arrH g2 rfl 25 (bv X) h5 hXl.out ?_)
  refine hf1.out.mono ?_
  rintro e w6 ⟨rfl, hB6⟩
  have hB6' := below_call hB5 (by have := hB4'.size; simp; omega) hB6
  go_wp2
  go_ret
  exact ⟨rfl, hB6'⟩
end Go.Proofs.Ythlebobfbalknaa

/- Rows, one behind the other. -/
namespace Go.Proofs.Ythlebobfbalknaa
open Go.RowKit
open Go.Proofs.PlainAes

/-- The first rows, one behind the other. -/
def cat (ls : List (List Nat)) (k : Nat) : List Nat := (ls.take k).flatten
theorem cat_succ {ls : List (List Nat)} {k : Nat} {l : List Nat} (h : ls[k]? = some l) : cat ls (k + 1) = cat ls k ++ l := by
  unfold cat
  rw [List.take_add_one, h]
  simp
theorem cat_le (ls : List (List Nat)) (k : Nat) : (cat ls k).length ≤ (cat ls ls.length).length := by
  have e : cat ls ls.length = cat ls k ++ (ls.drop k).flatten := by
    unfold cat
    rw [List.take_length, ← List.flatten_append, List.take_append_drop]
  rw [e, List.length_append]
  exact Nat.le_add_right _ _
theorem cat_byt {ls : List (List Nat)} (h : ∀ l ∈ ls, Byt l) (k : Nat) : Byt (cat ls k) := by
  intro x hx
  unfold cat at hx
  obtain ⟨l, hl, hx⟩ := List.mem_flatten.1 hx
  exact h l (List.mem_of_mem_take hl) x hx
theorem cat_bound {ls : List (List Nat)} (h : ∀ l ∈ ls, l.length ≤ 140737488351232) : ∀ k, (cat ls k).length ≤ k * 140737488351232
  | 0 => by simp [cat]
  | k + 1 => by
    cases hk : ls[k]? with
    | none =>
      have e : cat ls (k + 1) = cat ls k := by
        unfold cat
        rw [List.take_add_one, hk]
        simp
      rw [e]
      exact Nat.le_trans (cat_bound h k) (Nat.mul_le_mul_right _ (Nat.le_succ k))
    | some l =>
      rw [cat_succ hk, List.length_append, Nat.succ_mul]
      exact Nat.add_le_add (cat_bound h k) (h l (List.mem_of_getElem? hk))

theorem cat_all (ls : List (List Nat)) : cat ls ls.length = ls.flatten := by
  unfold cat
  rw [List.take_length]
end Go.Proofs.Ythlebobfbalknaa

/- append of made zeros onto a row of the call's own. -/
namespace Go.Proofs.Ythlebobfbalknaa
open Go.RowKit

theorem zeroCells_u8 (k : Nat) : Builtin.zeroCells (Value.int .u8 0).cells k = (List.replicate k (Value.int .u8 0)).toArray := by
  apply Array.ext
  · simp [Builtin.zeroCells, Value.cells]
  · intro i h1 h2
    simp [Builtin.zeroCells, Value.cells, Nat.mod_one]
theorem run_append_zeros {P : Program} (w : World) (base : Nat) (t tn ty e : TypeId) (i : TypeInfo) (kq kn : IntKind) (ht : P.underlying t = some (.slice e)) (htn : P.underlying tn = some (.int kn)) (hi : P.info? e = some i) (hz : i.zero = some (.int .u8 0))
    (hsize : i.size = 1) (hby : i.bytes = 1) (v : Value) (n : Nat) (xs : List Value) (hown : w.ownsRow base e 1 v n xs) (k : Nat) (h63 : n + k ≤ maxLen) (hbytes : n + k ≤ 140737488355328) (hbase : base ≤ w.heap.size) :
    ∃ v' w', (Builtin.append_ #[t, tn] ty #[v, .int kq (k : Int)]).run P w = .ok v' w' ∧ w'.ownsRow base e 1 v' (n + k) (xs ++ List.replicate k (.int .u8 0)) ∧ w.grownBy w' v.ownBlock := by
  have hl : xs.length = n := by simpa using hown.1
  have hlen : (xs ++ List.replicate k (Value.int .u8 0)).length = (n + k) * 1 := by simp [hl]
  have grown : ∀ (old : Nat), old < n + k → ∀ (row : Option Nat),
      (w.drew.alloc (.cells (xs.toArray ++ Builtin.zeroCells (Value.int .u8 0).cells k ++ Builtin.zeroCells (Value.int .u8 0).cells (grownCap w (n + k) old e - (n + k))) e)).ownsRow base e 1
        (.slice (some ⟨w.heap.size, 0, none⟩) (n + k) (grownCap w (n + k) old e)) (n + k) (xs ++ List.replicate k (.int .u8 0)) ∧
      w.grownBy (w.drew.alloc (.cells (xs.toArray ++ Builtin.zeroCells (Value.int .u8 0).cells k ++ Builtin.zeroCells (Value.int .u8 0).cells (grownCap w (n + k) old e - (n + k))) e)) row := by
    intro old ho row
    have hge := grownCap_ge w (n + k) old e
    have hcm : grownCap w (n + k) old e ≤ maxLen := grownCap_le_maxLen w (n + k) old e h63
    refine ⟨⟨hlen, .inr ⟨w.heap.size, _, _, rfl, hbase, heap_alloc_new w.drew _, hge, hcm, ?_, ?_⟩⟩, ⟨rfl, rfl, rfl, by simp, fun j hj hr => (World.grownBy_alloc w.drew _ row).block j hj hr⟩⟩
    · rw [zeroCells_u8, zeroCells_u8]
      simp [hl]
      omega
    · rw [zeroCells_u8, zeroCells_u8]
      simp only [Array.toList_append]
      rw [← hlen]
      exact List.take_left
  rcases hown.2 with ⟨rfl, rfl⟩ | ⟨g, cap, cur, rfl, hbg, hg, hnc, hcm, hcs, htake⟩
  · have hx : xs = [] := List.eq_nil_of_length_eq_zero (by simpa using hown.1)
    subst hx
    by_cases hm : k = 0
    · subst hm
      have hw : IntKind.i64.wrap (0 : Int) = 0 := by rw [IntKind.wrap_i64]; rfl
      refine ⟨.slice none 0 0, w, ?_, by simpa using World.ownsRow_nil w base e 1, ⟨rfl, rfl, rfl, Nat.le_refl _, fun _ _ _ => rfl⟩⟩
      simp [Builtin.append_, run_underlying ht, run_underlying htn, sizeOf, typeInfo, hi, asInt, asIntOf, hw]
    · have hr := Lib.run_append_nil_zeros (P := P) w t tn ty e i (.int .u8 0) kq kn ht htn hi hz k (by omega) (by omega) (by simp only [maxLen] at h63; omega) (by rw [hby]; omega)
      have hgr := grown 0 (by omega) (Value.ownBlock (.slice none 0 0))
      simp only [Nat.zero_add, List.nil_append, Array.empty_append] at hgr ⊢
      exact ⟨_, _, hr, hgr.1, hgr.2⟩
  · by_cases hm : k = 0
    · subst hm
      have hst : (storeCells (⟨g, n, none⟩ : Addr) []).run P w = .ok () w := by simp [storeCells]
      have hw0 : IntKind.i64.wrap (0 : Int) = 0 := by rw [IntKind.wrap_i64]; rfl
      refine ⟨_, w, ?_, by simpa using hown, ⟨rfl, rfl, rfl, Nat.le_refl _, fun _ _ _ => rfl⟩⟩
      simp [Builtin.append_, run_underlying ht, run_underlying htn, sizeOf, typeInfo, hi, asInt, asIntOf, hw0, hsize, hnc, Addr.add_lit, hst]
    by_cases hroom : n + k ≤ cap
    · have hfit : n * 1 + (List.replicate k (Value.int .u8 0)).length ≤ cur.size := by rw [hcs, List.length_replicate]; omega
      have hst := run_storeCells_at P g (n * 1) e (List.replicate k (Value.int .u8 0)) 0 cur w hg (by simpa using hfit) (by intro u hu; rw [List.eq_of_mem_replicate hu]; rfl)
      simp only [Nat.add_zero, Nat.mul_one] at hst
      have hw : IntKind.i64.wrap (k : Int) = k := by rw [IntKind.wrap_i64]; simp only [maxLen] at h63; omega
      have hneg : ¬ ((k : Int) < 0) := by omega
      have h48i : ¬ (281474976710656 < (k : Int) * (i.bytes : Int)) := by rw [hby]; omega
      have hr : (Builtin.append_ #[t, tn] ty #[.slice (some ⟨g, 0, none⟩) n cap, .int kq (k : Int)]).run P w = .ok (.slice (some ⟨g, 0, none⟩) (n + k) cap) (w.setRow g (cur.toList.take n ++ List.replicate k (Value.int .u8 0) ++ cur.toList.drop (n + k)).toArray) := by
        have hz2 := zeroCells_u8 k
        simp [Builtin.append_, run_underlying ht, run_underlying htn, sizeOf, typeInfo, zeroValue, hi, hz, asInt, asIntOf, hw, hneg, h48i, hsize, hm, hroom, Addr.add_lit, hz2, hst]
      refine ⟨_, _, hr, ⟨hlen, .inr ⟨g, cap, _, rfl, hbg, setRow_heap w g cur _ e _ hg, hroom, hcm, ?_, ?_⟩⟩, ⟨rfl, rfl, rfl, by simp, fun k hk _ => setRow_other w g k _ (fun e => by simp_all [Value.ownBlock])⟩⟩
      · simp only [List.size_toArray, List.length_append, List.length_take, List.length_drop, Array.length_toList, List.length_replicate]
        omega
      · rw [show cur.toList.take n = xs by rw [← htake, Nat.mul_one], ← hlen]
        exact List.take_left
    · have holds : ∀ j u, xs[j]? = some u → w.cell? ((⟨g, 0, none⟩ : Addr).add j) = some u := hown.cells (g := g) rfl
      have hf := run_firstCells_some (P := P) w.drew i.size n ⟨g, 0, none⟩ n cap xs (by rw [hsize, hl, Nat.mul_one]) (by simpa using holds)
      have hr := Lib.run_append_grow_zeros (P := P) w t tn ty e i (.int .u8 0) kq kn ht htn hi hz (some ⟨g, 0, none⟩) n cap xs hf k (by omega) (by omega) (by omega) (by simp only [maxLen] at h63; omega) (by rw [hby]; omega) (growslice_fits (by omega) (by rw [hby]; omega))
      have hgr := grown cap (by omega) (Value.ownBlock (.slice (some ⟨g, 0, none⟩) n cap))
      exact ⟨_, _, hr, hgr.1, hgr.2⟩
end Go.Proofs.Ythlebobfbalknaa

/- Contracts of slices.Grow (of none), slices.Concat. -/
namespace Go.Proofs.Ythlebobfbalknaa
open Go.RowKit
open Go.Proofs.PlainAes

set_option maxRecDepth 100000 in
set_option maxHeartbeats 1000000 in
theorem grow_nil (k : Nat) (w : World) (hk : (k : Int) ≤ 1099511627776) :
    Calls Try.prog 39 #[.slice none 0 0, .int .i64 (k : Int)] w fun e w' => ∃ v, e = .returned v ∧ w'.ownsRow w.heap.size 5 1 v 0 [] ∧ Below w.heap.size w w' := by
  obtain ⟨i0, hi, hz0, hz1, hz2⟩ := info_parts (P := Try.prog) (e := 5) (z := .int .u8 0) (size := 1) (bytes := 1) (by kernel_rfl)
  by_cases h0 : (0 : Int) < (k : Int)
  · have own0 := World.ownsRow_nil w w.heap.size 5 1
    obtain ⟨v', w', hr, own, gr⟩ := run_append_zeros (P := Try.prog) w w.heap.size 22 3 22 5 i0 .i64 .i64 Try.underlying22 Try.underlying3 hi hz0 hz1 hz2 _ 0 [] own0 k (by simp [maxLen]; omega) (by omega) (Nat.le_refl _)
    have hB := own_below (Below.refl _ w) gr own0 (Nat.le_refl _)
    obtain ⟨A, c, rfl, h1, h2, h3⟩ := own_shape own
    obtain ⟨g, rfl, hg⟩ := h3 (by omega)
    have ownE : w'.ownsRow w.heap.size 5 1 (.slice (some ⟨g, 0, none⟩) 0 c) 0 [] := by
      obtain ⟨_, ⟨e, _⟩ | ⟨g', cap, cur, e, hb, hgg, hn, hm, hcs, htk⟩⟩ := own
      · cases e
      · injection e with e1 e2 e3
        injection e1 with e1
        injection e1 with e1
        subst e1 e3
        exact ⟨rfl, .inr ⟨g, c, cur, rfl, hb, hgg, Nat.zero_le _, hm, hcs, by simp⟩⟩
    replace own := Lib.hid own
    replace ownE := Lib.hid ownE
    replace gr := Lib.hid gr
    clear own0
    have hc0 : (0 : Int) ≤ c := by omega
    go_enter Try.func39, Try.ntmps39
    go_wp2_with (at_builtin; refine Lib.wpList_append_run _ rfl _ _ _ _ rfl _ _ rfl rfl _ _ hr ?_)
    go_wp2
    go_ret
    exact ⟨_, rfl, ownE.out, hB⟩
  · obtain rfl : k = 0 := by omega
    go_enter Try.func39, Try.ntmps39
    go_wp2
    go_ret
    exact ⟨_, rfl, World.ownsRow_nil w w.heap.size 5 1, Below.refl _ _⟩

set_option maxRecDepth 100000 in
set_option maxHeartbeats 2000000 in
theorem concat_core (A : Option Addr) (n c : Nat) (vs : List Value) (ls : List (List Nat)) (w : World) (hs : Sl w (.slice A n c) vs) (hn : n = ls.length) (hrow : ∀ (i : Nat) (l : List Nat), ls[i]? = some l → ∃ u, vs[i]? = some u ∧ Sl w u (bv l)) (ht : (ls.flatten.length : Int) ≤ 1099511627776) :
    Calls Try.prog 27 #[.slice A n c] w fun e w' => ∃ v, e = .returned v ∧ w'.ownsRow w.heap.size 5 1 v ls.flatten.length (bv ls.flatten) ∧ Below w.heap.size w w' := by
  have hgr := Lib.hid (fun k w h => grow_nil k w h)
  obtain ⟨i0, hi, hz0, hz1, hz2⟩ := info_parts (P := Try.prog) (e := 5) (z := .int .u8 0) (size := 1) (bytes := 1) (by kernel_rfl)
  have hnI : (n : Int) ≤ 9223372036854775807 := by have := hs.cap; unfold maxLen at this; omega
  have Hn := Lib.hid hn
  have hget : Hid (∀ (k : Nat), k < n → ∃ (ga oa : Nat) (Au : Option Addr) (nl cu : Nat) (l : List Nat), A = some ⟨ga, oa, none⟩ ∧ (∀ w', Below w.heap.size w w' → w'.cell? ⟨ga, oa + k, none⟩ = some (.slice Au nl cu)) ∧ (∀ w', Below w.heap.size w w' → Sl w' (.slice Au nl cu) (bv l)) ∧ nl = l.length ∧ ls[k]? = some l) := fun k hk => by
    obtain ⟨l, hl⟩ := get_lt (l := ls) (k := k) (by rw [← Hn.out]; exact hk)
    obtain ⟨u, hu, hsl⟩ := hrow k l hl
    obtain ⟨ga, oa, hA, hc⟩ := hs.at_ hu
    obtain ⟨Au, cu, rfl, -⟩ := id hsl
    refine ⟨ga, oa, Au, (bv l).length, cu, l, hA, fun w' hB => ?_, fun w' hB => hsl.keep hB, by simp, hl⟩
    rw [(bcell hB).1 _ _ (cell_lt hc)]; exact hc
  have hcs : Hid (∀ k l, ls[k]? = some l → cat ls (k + 1) = cat ls k ++ l) := fun k l h => cat_succ h
  have hall := Lib.hid (cat_all ls)
  rw [← Hn.out] at hall
  have hle : Hid (∀ k, ((cat ls k).length : Int) ≤ 1099511627776) := fun k => by have h := cat_le ls k; rw [cat_all] at h; omega
  have hc0 : Hid (cat ls 0 = []) := rfl
  clear hs hn hrow ht
  rw [← hall.out]
  clear hall
  generalize cat ls = C at *
  go_enter Try.func27, Try.ntmps27
  go_wp2
  go_loop [3, 11] (fun s i => ∃ (k x : Nat), (k : Int) ≤ n ∧ i = .int .i64 (k : Int) ∧ s = .int .i64 (x : Int) ∧ Hid (x = (C k).length)) (fun _ i => n - (intOf i).toNat)
  case atStart => exact ⟨0, 0, by omega, rfl, rfl, by rw [hc0.out]; rfl⟩
  case round =>
    obtain ⟨k, x, hk, rfl, rfl, hx⟩ := hrel
    by_cases hlt : (k : Int) < n
    · obtain ⟨ga, oa, Au, nl, cu, l, rfl, hc, -, hnl2, hlk⟩ := hget.out k (by omega)
      have hc1 := hc _ (Below.refl _ _)
      have hx2 : Hid (x + nl = (C (k + 1)).length) := by show _ = _; rw [hcs.out k l hlk, List.length_append, hx.out, hnl2]
      have hxb : ((x + nl : Nat) : Int) ≤ 1099511627776 := by rw [hx2.out]; exact hle.out _
      clear hc hlk hnl2 hx
      have hxn : (x : Int) + nl ≤ 1099511627776 := by omega
      have hx0 : (0 : Int) ≤ (x : Int) + nl := by omega
      go_wp2
      go_round
      case rel => exact ⟨k + 1, x + nl, by omega, by go_num, by go_num, hx2⟩
      case measure => simp [intOf]; omega
    · obtain rfl : n = k := by omega
      have hxb : (x : Int) ≤ 1099511627776 := by rw [hx.out]; exact hle.out _
      have hg1 := Lib.hid (hgr.out x w hxb)
      clear hx
      go_wp2_with fail
      refine hg1.out.mono ?_
      rintro e w1 ⟨v1, rfl, own1, hB1⟩
      have own1' : w1.ownsRow w.heap.size 5 1 v1 (C 0).length (bv (C 0)) := by rw [hc0.out]; exact own1
      clear own1 hg1
      go_wp2
      go_loopw [6, 27] (fun va i wr' => ∃ (k : Nat), (k : Int) ≤ n ∧ i = .int .i64 (k : Int) ∧ wr'.ownsRow w.heap.size 5 1 va (C k).length (bv (C k)) ∧ Below w.heap.size w wr') (fun _ i _ => n - (intOf i).toNat)
      case atStart => exact ⟨0, by omega, rfl, own1', hB1⟩
      case round =>
        clear own1' hB1
        obtain ⟨k, hk, rfl, own, hB⟩ := hrel
        by_cases hlt2 : (k : Int) < n
        · obtain ⟨ga, oa, Au, nl, cu, l, rfl, hc, hslu, hnl2, hlk⟩ := hget.out k (by omega)
          have hc1 := hc _ hB
          have hsl := hslu _ hB
          have hcat := Lib.hid (hcs.out k l hlk)
          have hlen : Hid ((C k).length + l.length ≤ 1099511627776) := by have := hle.out (k + 1); rw [hcat.out, List.length_append] at this; show _ ≤ _; omega
          clear hc hslu hnl2 hlk
          go_wp2_with (at_builtin; refine wpList_append_sl rfl (.tmp 31) (.tmp 32) 22 rfl w.heap.size 5 i0 (.int .u8 0) 1 Try.underlying22 hi hz0 hz1 hz2 rfl _ (C k).length (bv (C k)) rfl own _ (bv l) rfl hsl (bv_oneCell l) ?_ ?_ ?_ ?_)
          · have := hlen.out; simp [maxLen]; omega
          · have := hlen.out; simp; omega
          · exact hB.size
          intro v2 w2 own2 gr2
          have hB2 := own_below hB gr2 own hB.size
          rw [← bv_app, ← List.length_append, ← hcat.out] at own2
          clear gr2 own hB hsl hc1
          go_wp2
          go_roundw
          case rel => exact ⟨k + 1, by omega, by go_num, own2, hB2⟩
          case measure => simp [intOf]; omega
        · obtain rfl : n = k := by omega
          go_wp2
          go_ret
          exact ⟨_, rfl, own, hB⟩
end Go.Proofs.Ythlebobfbalknaa

/- Contract of package mac: Expand. -/
namespace Go.Proofs.Ythlebobfbalknaa
open Go.RowKit
open Go.Proofs.PlainAes
open Go.Proofs.PlainSha
open Go.Proofs.PlainMac

theorem bytes_cell (w : World) (e c : Nat) (fr : Nat × Nat) {l : List Nat} (hl : Byt l) {k d : Nat} (hk : l[k]? = some d) :
    (w.drew.alloc (.cells (bytesRow (bstr l) c) e fr)).cell? ⟨w.heap.size, k, none⟩ = some (.int .u8 (d : Int)) := by
  rw [Go.Joins.cell_alloc_mark_at w.drew _ _ _ w.heap.size _ rfl]
  have hlt : k < l.length := (List.getElem?_eq_some_iff.1 hk).1
  have hd : d < 256 := hl d (List.mem_of_getElem? hk)
  have he : l[k] = d := (List.getElem?_eq_some_iff.1 hk).2
  unfold bytesRow bstr
  rw [Array.getElem?_append_left (by simp; omega)]
  simp [List.getElem?_map, hk]
  omega
theorem bstr_size (l : List Nat) : (bstr l).size = l.length := by simp [bstr, ByteArray.size]
/-- The bytes of a string, in new memory. -/
theorem sl_string (w : World) (fr : Nat × Nat) {l : List Nat} (hl : Byt l) (hn : (l.length : Int) ≤ 140737488355328) :
    Sl (w.drew.alloc (.cells (bytesRow (bstr l) (grownCap w l.length 0 5)) 5 fr)) (.slice (some ⟨w.heap.size, 0, none⟩) l.length (grownCap w l.length 0 5)) (bv l) := by
  refine ⟨some ⟨w.heap.size, 0, none⟩, grownCap w l.length 0 5, by simp, ?_, ?_, fun _ => ⟨w.heap.size, 0, rfl, fun i u hu => ?_⟩⟩
  · rw [bv_length]; exact grownCap_ge _ _ _ _
  · exact grownCap_le_maxLen _ _ _ _ (by unfold maxLen; omega)
  · rw [bv_get, Option.map_eq_some_iff] at hu
    obtain ⟨d, hd, rfl⟩ := hu
    rw [Nat.zero_add]
    exact bytes_cell w 5 _ fr hl hd
theorem expB_len {k l : List Nat} (j : Nat) : (expB k l j).length = if j = 0 then 0 else 32 := by
  cases j with
  | zero => rfl
  | succ j => exact macL_len _ _
theorem expB_byt {k l : List Nat} : ∀ j, Byt (expB k l j)
  | 0 => by intro x hx; simp [expB] at hx
  | j + 1 => macL_byt _ _
theorem expL_len (k l : List Nat) : ∀ j, (expL k l j).length = 32 * j
  | 0 => rfl
  | j + 1 => by rw [expL, List.length_append, expL_len k l j, expB, macL_len]; omega
theorem expL_byt (k l : List Nat) : ∀ j, Byt (expL k l j)
  | 0 => by intro x hx; simp [expL] at hx
  | j + 1 => fun x hx => (List.mem_append.1 hx).elim (expL_byt k l j x) (expB_byt (j + 1) x)
/-- The world ahead of Concat: a string's bytes, a row of one, a row of three. -/
theorem cargs (wr : World) (C : Array Value) (fr : Nat × Nat) (x : Int) (v1 v2 : Value) (W : World) (hW : W = (((wr.alloc (.cells C 5 fr)).alloc (.cells #[.int .u8 x] 5)).alloc (.cells #[v1, v2, .slice (some ⟨wr.heap.size + 1, 0, none⟩) 1 1] 22)).drew) :
    Sl W (.slice (some ⟨wr.heap.size + 1 + 1, 0, none⟩) 3 3) [v1, v2, .slice (some ⟨wr.heap.size + 1, 0, none⟩) 1 1] ∧ Sl W (.slice (some ⟨wr.heap.size + 1, 0, none⟩) 1 1) [.int .u8 x] ∧ Below wr.heap.size wr W ∧ (∀ v xs, Sl (wr.alloc (.cells C 5 fr)) v xs → Sl W v xs) := by
  subst hW
  have e1 : (wr.alloc (.cells C 5 fr)).heap.size = wr.heap.size + 1 := by simp
  have e2 : ((wr.alloc (.cells C 5 fr)).alloc (.cells #[.int .u8 x] 5)).heap.size = wr.heap.size + 1 + 1 := by simp
  have k1 : Blk ((wr.alloc (.cells C 5 fr)).alloc (.cells #[.int .u8 x] 5)) (wr.heap.size + 1) 5 [.int .u8 x] := Blk.new_at e1 rfl
  have k2 := (k1.alloc (.cells #[v1, v2, .slice (some ⟨wr.heap.size + 1, 0, none⟩) 1 1] 22)).drew
  have k3 : Blk (((wr.alloc (.cells C 5 fr)).alloc (.cells #[.int .u8 x] 5)).alloc (.cells #[v1, v2, .slice (some ⟨wr.heap.size + 1, 0, none⟩) 1 1] 22)) (wr.heap.size + 1 + 1) 22 [v1, v2, .slice (some ⟨wr.heap.size + 1, 0, none⟩) 1 1] := Blk.new_at e2 rfl
  have b1 : Below (wr.heap.size + 1) (wr.alloc (.cells C 5 fr)) (((wr.alloc (.cells C 5 fr)).alloc (.cells #[.int .u8 x] 5)).alloc (.cells #[v1, v2, .slice (some ⟨wr.heap.size + 1, 0, none⟩) 1 1] 22)).drew := (((Below.refl _ _).alloc (by simp) _).alloc (by simp) _).drew
  refine ⟨Sl.of_blk (n := 3) (c := 3) k3.drew (Nat.le_refl _) (by simp) (by unfold maxLen; omega), Sl.of_blk (n := 1) (c := 1) k2 (Nat.le_refl _) (by simp) (by unfold maxLen; omega), ((((Below.refl _ _).alloc (Nat.le_refl _) _).alloc (by simp) _).alloc (by simp; omega) _).drew, fun v xs h => h.keep (by rw [e1]; exact b1)⟩
theorem concat3 (w : World) (g : Nat) (v1 v2 v3 : Value) (a b d : List Nat) (hs : Sl w (.slice (some ⟨g, 0, none⟩) 3 3) [v1, v2, v3]) (h1 : Sl w v1 (bv a)) (h2 : Sl w v2 (bv b)) (h3 : Sl w v3 (bv d)) (ht : ((a ++ b ++ d).length : Int) ≤ 1099511627776) :
    Calls Try.prog 27 #[.slice (some ⟨g, 0, none⟩) 3 3] w fun e w' => ∃ v, e = .returned v ∧ w'.ownsRow w.heap.size 5 1 v (a ++ b ++ d).length (bv (a ++ b ++ d)) ∧ Below w.heap.size w w' := by
  have e : [a, b, d].flatten = a ++ b ++ d := by simp
  have h := concat_core (some ⟨g, 0, none⟩) 3 3 [v1, v2, v3] [a, b, d] w hs rfl (fun i l hi => by
    rcases (by omega : i = 0 ∨ i = 1 ∨ i = 2 ∨ 3 ≤ i) with rfl | rfl | rfl | h
    · injection hi with hi; subst hi; exact ⟨v1, rfl, h1⟩
    · injection hi with hi; subst hi; exact ⟨v2, rfl, h2⟩
    · injection hi with hi; subst hi; exact ⟨v3, rfl, h3⟩
    · rw [List.getElem?_eq_none (by simpa using h)] at hi; cases hi) (by rw [e]; exact ht)
  rw [e] at h
  exact h
/-- What Expand answers. -/
def RetX (k l : List Nat) (m : Nat) (w : World) (e : Ending) (w' : World) : Prop := ∃ v, e = .returned (.tuple #[v, .int .i64 0]) ∧ Sl w' v (bv ((expL k l ((m + 31) / 32)).take m)) ∧ Below w.heap.size w w'

set_option maxRecDepth 100000 in
set_option maxHeartbeats 4000000 in
theorem expand_core (A : Option Addr) (n c m : Nat) (k l : List Nat) (w : World) (hs : Sl w (.slice A n c) (bv k)) (bk : Byt k) (hlk : (k.length : Int) ≤ 549755813888) (bl : Byt l) (hll : (l.length : Int) ≤ 274877906944) (hm : (m : Int) ≤ 8160) :
    Calls Try.prog 15 #[.slice A n c, .string (bstr l), .int .i64 (m : Int)] w (RetX k l m w) := by
  obtain ⟨i0, hi, hz0, hz1, hz2⟩ := info_parts (P := Try.prog) (e := 5) (z := .int .u8 0) (size := 1) (bytes := 1) (by kernel_rfl)
  have hmac := Lib.hid (fun msg v2 w (h : Sl w (.slice A n c) (bv k)) h2 bm hl => mac_any _ v2 k msg w h h2 bk bm hlk hl)
  have kc := fun (w : World) (s : ByteArray) => run_bytes_of_string (P := Try.prog) w 9 22 5 s Try.underlying9 Try.underlying22 Try.underlying5
  have hsz := bstr_size l
  obtain ⟨q, hq⟩ : ∃ q, q = (m + 31) / 32 := ⟨_, rfl⟩
  have Hq := Lib.hid hq
  have hstep : Hid (∀ j, expB k l (j + 1) = macL k (expB k l j ++ l ++ [(j + 1) % 256])) := fun j => rfl
  have hB0 : Hid (expB k l 0 = [] ∧ expL k l 0 = []) := ⟨rfl, rfl⟩
  have hL1 : Hid (∀ j, expL k l (j + 1) = expL k l j ++ expB k l (j + 1)) := fun j => rfl
  have hBb : Hid (∀ j, Byt (expB k l j)) := fun j => expB_byt j
  have hBl : Hid (∀ j, (expB k l j).length ≤ 32 ∧ (expB k l (j + 1)).length = 32) := fun j => ⟨by rw [expB_len]; split <;> omega, macL_len _ _⟩
  have hLl : Hid (∀ j, (expL k l j).length = 32 * j) := fun j => expL_len k l j
  replace hs := Lib.hid hs
  have hlb := Lib.hid bl
  have hsl2 := Lib.hid (fun w fr => sl_string w fr bl (by omega))
  have hR : Hid (∀ w e w', (∃ v, e = .returned (.tuple #[v, .int .i64 0]) ∧ Sl w' v (bv ((expL k l q).take m)) ∧ Below w.heap.size w w') → RetX k l m w e w') := fun w e w' h => by rw [hq] at h; exact h
  clear bk bl hlk hq
  generalize RetX k l m = RX at *
  go_enter Try.func15, Try.ntmps15
  go_wp2
  go_loopg [8, 9, 10] q (fun gk out last i wr => ∃ j, Hid (gk + j = q) ∧ i = .int .u8 (((j + 1) % 256 : Nat) : Int) ∧ wr.ownsRow w.heap.size 5 1 out (32 * j) (bv (expL k l j)) ∧ Sl wr last (bv (expB k l j)) ∧ (∀ a n c, last = .slice (some a) n c → out.ownBlock ≠ some a.block) ∧ Below w.heap.size w wr)
  case atStart => exact ⟨0, rfl, rfl, by rw [hB0.out.2]; exact World.ownsRow_nil _ _ _ _, by rw [hB0.out.1]; exact Sl.nil_ _, by intro a n c e; simp [Value.ownBlock], Below.refl _ _⟩
  case round =>
    obtain ⟨j, hgk, rfl, own, hsl, hne, hB⟩ := hrel
    obtain ⟨Ao, co, rfl, hco, hcm, hao⟩ := own_shape own
    obtain ⟨Al, cl, rfl, -⟩ := id hsl
    obtain ⟨nl, hnl⟩ : ∃ nl, Hid (nl = (expB k l j).length) := ⟨_, rfl⟩
    rw [bv_length, ← hnl.out] at hsl hne ⊢
    replace own := Lib.hid own
    replace hsl := Lib.hid hsl
    replace hne := Lib.hid hne
    replace hao := Lib.hid hao
    by_cases hj : j < q
    · have ht : (32 * (j : Int)) < (m : Int) := by have := Hq.out; omega
      go_wp2_with fail
      obtain ⟨q1, q2, q3, q4⟩ := cargs wr (bytesRow (bstr l) (grownCap wr l.length 0 5)) ((bytesRow (bstr l) (grownCap wr l.length 0 5)).size, (bytesRow (bstr l) (grownCap wr l.length 0 5)).size + 1) (((j : Int) + 1) % 256) (.slice Al nl cl) (.slice (some ⟨wr.heap.size, 0, none⟩) l.length (grownCap wr l.length 0 5)) _ rfl
      have s1 := hsl.out.keep q3
      have s2 := q4 _ _ (hsl2.out wr ((bytesRow (bstr l) (grownCap wr l.length 0 5)).size, (bytesRow (bstr l) (grownCap wr l.length 0 5)).size + 1))
      have s3 : Sl _ (.slice (some ⟨wr.heap.size + 1, 0, none⟩) 1 1) (bv [(j + 1) % 256]) := q2
      have hlen3 : (((expB k l j) ++ l ++ [(j + 1) % 256]).length : Int) ≤ 274877906977 := by have := (hBl.out j).1; simp; omega
      refine (concat3 _ _ _ _ _ (expB k l j) l [(j + 1) % 256] q1 s1 s2 s3 (by omega)).mono ?_
      rintro e w2 ⟨v2, rfl, own2, hB2⟩
      have hb2 := below_call q3 q3.size hB2
      have sl2 := Lib.hid (Sl.of_own own2)
      clear own2 hB2 q1 q2 q3 q4 s1 s2 s3
      have hm2 := Lib.hid (hmac.out _ v2 w2 (hs.out.keep (below_call hB hB.size hb2)) sl2.out (by
        intro x hx
        rcases List.mem_append.1 hx with hx | hx
        · exact (List.mem_append.1 hx).elim (hBb.out j x) (hlb.out x)
        · simp only [List.mem_cons, List.not_mem_nil, or_false] at hx; omega) (by omega))
      rw [← hstep.out] at hm2
      have hXl := Lib.hid (show (bv (expB k l (j + 1))).length = 32 by rw [bv_length]; exact (hBl.out j).2)
      have hL := Lib.hid (hL1.out j)
      clear hlen3
      go_wp2_with fail
      refine hm2.out.mono ?_
      rintro e w3 ⟨rfl, hB3⟩
      have hb3 := below_call hb2 hb2.size hB3
      clear hb2 hB3 sl2 hm2
      go_wp2_with (refine wpList_allocA rfl 25 rfl (bv (zeros 32)) (by kernel_rfl) ?_)
      intro w4 h4 hK4 hz4
      have hb4 := hb3.trans (hK4.below hb3.size (by simp))
      have hg11 := hb3.size
      clear hK4 hb3 hz4
      generalize w3.heap.size = g11 at *
      go_wp2_with (refine wpList_storeW rfl 25 (.tmp 11) (.tmp 32) rfl 32 arrH g11 rfl (bv (expB k l (j + 1))) rfl 25 _ h4 hXl.out (by simp) (ones_bv _) ?_)
      intro w5 h5 hK5
      have hb5 := hb4.trans (hK5.below hb4.size (by simp; omega))
      have own5 := own_keep own.out hb5
      have sl5 : Sl w5 (.slice (some ⟨g11, 0, none⟩) 32 32) (bv (expB k l (j + 1))) := by
        have h := Sl.of_blk h5 (show 32 ≤ 32 from Nat.le_refl _) (Nat.le_of_eq hXl.out.symm) (by unfold maxLen; omega)
        rw [List.take_of_length_le (Nat.le_of_eq hXl.out)] at h
        exact h
      have hB5 := below_call hB hB.size hb5
      have hne5 : Hid ((Value.slice Ao (32 * j) co).ownBlock ≠ some g11) := fun e => by have := (own.out.lt _ e).2; omega
      clear hK5 h4 hb4 hb5
      have hjI : (j : Int) ≤ 255 := by omega
      go_wp2_with (at_builtin; refine wpList_append_sl2 rfl (.tmp 34) (.tmp 35) 22 rfl w.heap.size 5 i0 (.int .u8 0) 1 Try.underlying22 hi hz0 hz1 hz2 rfl _ (32 * j) (bv (expL k l j)) rfl own5 _ (bv (expB k l (j + 1))) rfl sl5 (bv_oneCell _) ?_ ?_ ?_ ?_)
      · rw [hXl.out]; simp [maxLen]; omega
      · rw [hXl.out]; omega
      · exact hB5.size
      intro v6 w6 own6 gr6 mv6
      have own6' : w6.ownsRow w.heap.size 5 1 v6 (32 * (j + 1)) (bv (expL k l (j + 1))) := by
        rw [hL.out, bv_app, show 32 * (j + 1) = 32 * j + (bv (expB k l (j + 1))).length by rw [hXl.out]; omega]
        first | exact own6 | (rw [bv_length]; exact own6)
      have h6 : Blk w6 g11 25 (bv (expB k l (j + 1))) := h5.keeps (Keeps.grown gr6) (by simp only [Option.mem_toList]; exact hne5.out)
      have sl6 : Sl w6 (.slice (some ⟨g11, 0, none⟩) 32 32) (bv (expB k l (j + 1))) := by
        have h := Sl.of_blk h6 (show 32 ≤ 32 from Nat.le_refl _) (Nat.le_of_eq hXl.out.symm) (by unfold maxLen; omega)
        rw [List.take_of_length_le (Nat.le_of_eq hXl.out)] at h
        exact h
      have hB6 := own_below hB5 gr6 own5 hB5.size
      have hne6 : ∀ (a : Addr) (n c : Nat), Value.slice (some ⟨g11, 0, none⟩) 32 32 = .slice (some a) n c → v6.ownBlock ≠ some a.block := fun a n c e => by
        injection e with e
        injection e with e
        subst e
        exact mv6.ne h5.lt hne5.out
      replace own6' := Lib.hid own6'
      replace sl6 := Lib.hid sl6
      replace hne6 := Lib.hid hne6
      clear own6 gr6 mv6 own5 sl5 h5 h6 hB5 hne5
      go_wp2
      go_roundg (gk - 1)
      case measure => have := hgk.out; omega
      case rel => exact ⟨j + 1, by show _ = _; have := hgk.out; omega, by congr 1; omega, own6'.out, sl6.out, hne6.out, hB6⟩
    · have hjq : j = q := by have := hgk.out; omega
      have hm32 : Hid (m ≤ 32 * j ∧ (m = 0 ↔ j = 0)) := by show _ ∧ _; have := Hq.out; omega
      have ht : ¬ (32 * (j : Int)) < (m : Int) := by have := hm32.out.1; omega
      have hBl2 := Lib.hid (hLl.out j)
      rw [← hjq] at hR
      have hmj : (m : Int) ≤ 32 * (j : Int) := by omega
      clear hsl hne hnl hgk hjq hao
      rcases own.out.2 with ⟨e, -⟩ | ⟨g, cap, cur, e, hb2, hg, h3, h4, -, -⟩
      · injection e with e1 e2 e3
        have hj0 : j = 0 := by omega
        have hm0 : m = 0 := by have := hm32.out.2; omega
        subst e1 e3 hj0 hm0
        clear own e2
        go_wp2_with fail
        refine (clone_nil _).mono ?_
        rintro e w2 ⟨rfl, rfl⟩
        go_wp2
        exact hR.out _ _ _ ⟨_, rfl, by rw [List.take_zero]; exact Sl.nil_ _, hB⟩
      · injection e with e1 e2 e3
        subst e1 e3
        have hcI : (m : Int) ≤ co := by omega
        have hc1 : (co : Int) ≤ 9223372036854775807 := by unfold maxLen at h4; omega
        have slo : Sl wr (.slice (some ⟨g, 0, none⟩) (32 * j) co) (bv (expL k l j)) := Sl.of_own own.out
        have slh := slo.head (i := m) (by rw [bv_length, hBl2.out]) hm32.out.1
        rw [show (bv (expL k l j)).take m = bv ((expL k l j).take m) from by simp [bv]] at slh
        have hcl := Lib.hid (clone_any ⟨g, 0, none⟩ m co ((expL k l j).take m) wr slh (by have := (expL k l j).length_take_le m; omega))
        clear slo slh own hg
        go_wp2_with fail
        refine hcl.out.mono ?_
        rintro e w2 ⟨v2, rfl, own2, hB2⟩
        have sl2 := Lib.hid (Sl.of_own own2)
        have hB2' := below_call hB hB.size hB2
        clear own2 hB2 hcl
        go_wp2
        exact hR.out _ _ _ ⟨_, rfl, sl2.out, hB2'⟩
theorem expand_any (v : Value) (m : Nat) (k l : List Nat) (w : World) (hs : Sl w v (bv k)) (bk : Byt k) (hlk : (k.length : Int) ≤ 549755813888) (bl : Byt l) (hll : (l.length : Int) ≤ 274877906944) (hm : (m : Int) ≤ 8160) :
    Calls Try.prog 15 #[v, .string (bstr l), .int .i64 (m : Int)] w (RetX k l m w) := by
  obtain ⟨A, c, rfl, -⟩ := id hs
  exact expand_core A _ c m k l w hs bk hlk bl hll hm
end Go.Proofs.Ythlebobfbalknaa

/- Contracts of banyanref03: padded, turned. -/
namespace Go.Proofs.Ythlebobfbalknaa
open Go.RowKit
open Go.Proofs.PlainAes
open Go.Proofs.PlainSha
open Go.Proofs.PlainMac

theorem made_bytes (w : World) (n : Nat) : Blk (w.alloc (.cells (madeCells #[.int .u8 0] n) 5)) w.heap.size 5 (bv (zeros n)) := by
  have := Blk.new w 5 (madeCells #[.int .u8 0] n)
  rw [toList_madeCells_one] at this
  simpa [bv, zeros] using this
theorem hash_sl {w : World} {g t : Nat} {O : List Nat} (h : Blk w g t (bv O)) (hl : (bv O).length = 32) : Sl w (.slice (some ⟨g, 0, none⟩) 32 32) (bv O) := by
  have h := Sl.of_blk h (show 32 ≤ 32 from Nat.le_refl _) (Nat.le_of_eq hl.symm) (by unfold maxLen; omega)
  rw [List.take_of_length_le (Nat.le_of_eq hl)] at h
  exact h
set_option maxRecDepth 100000 in
set_option maxHeartbeats 1000000 in
theorem rpadded_core (AH AK A : Option Addr) (cH cK n c : Nat) (k : List Nat) (w : World) (sH : Sl w (.slice AH 8 cH) (wv H0)) (sK : Sl w (.slice AK 64 cK) (wv K0)) (hs : Sl w (.slice A n c) (bv k)) (bk : Byt k) (hlk : (k.length : Int) ≤ 549755813888) :
    Calls Try.prog 35 #[.agg #[.slice AH 8 cH, .slice AK 64 cK], .slice A n c] w fun e w' => ∃ g, e = .returned (.slice (some ⟨g, 0, none⟩) 64 64) ∧ Blk w' g 5 (bv (padK k)) ∧ Below w.heap.size w w' := by
  have hw := Lib.hid (fun w (a : Sl w (.slice AH 8 cH) (wv H0)) (b : Sl w (.slice AK 64 cK) (wv K0)) (d : Sl w (.slice A n c) (bv k)) => with_any _ _ _ k w a b d bk hlk)
  have hmk : ∀ w, (Instr.makeSlice 22 (.int .i64 64) (.int .i64 64)).run Try.prog w = .ok (.slice (some ⟨w.heap.size, 0, none⟩) 64 64) (w.alloc (.cells (madeCells #[.int .u8 0] 64) 5)) :=
    run_make_row' (P := Try.prog) 22 5 (.int .u8 0) 1 Try.underlying22 (by kernel_rfl) rfl .i64 .i64 64 (by omega) (by omega)
  have hn : n = k.length := by obtain ⟨_, _, e, _⟩ := hs; injection e with _ e _; simpa using e
  subst hn
  have hK : Hid (padK k = (if 64 < k.length then shaL k else k) ++ List.replicate (64 - (if 64 < k.length then shaL k else k).length) 0) := rfl
  have hhl := Lib.hid (shaL_len k)
  generalize padK k = P at *
  have hc0 := Blk.new w 58 #[.slice AH 8 cH, .slice AK 64 cK]
  have hB0 := (Below.refl w.heap.size w).alloc (Nat.le_refl _) (.cells #[.slice AH 8 cH, .slice AK 64 cK] 58)
  replace hs := Lib.hid hs
  replace sH := Lib.hid sH
  replace sK := Lib.hid sK
  clear bk
  by_cases hlt : (64 : Int) < (k.length : Int)
  · have hw1 := Lib.hid (hw.out _ (sH.out.keep hB0) (sK.out.keep hB0) (hs.out.keep hB0))
    have hK2 : Hid (P = shaL k ++ List.replicate (64 - (shaL k).length) 0) := by
      show _ = _
      rw [hK.out, if_pos (by omega)]
    clear hK hw
    have hOl := Lib.hid (show (bv (shaL k)).length = 32 by rw [bv_length, hhl.out])
    go_enter Try.func35, Try.ntmps35
    go_wp2_with (refine wpList_loadW rfl 58 (.tmp 2) rfl 2 arrC w.heap.size rfl 58 _ hc0 rfl ?_)
    refine hw1.out.mono ?_
    rintro e w2 ⟨rfl, hB2⟩
    generalize shaL k = O at *
    have hB2' := below_call hB0 (by simp) hB2
    clear hB0 hB2 hw1 hc0
    go_wp2_with (refine wpList_allocA rfl 25 rfl (bv (zeros 32)) (by kernel_rfl) ?_)
    intro w3 h3 hK3 hz3
    have hB3 := hB2'.trans (hK3.below hB2'.size (by simp))
    have hg5 := hB2'.size
    clear hK3 hB2' hz3
    generalize w2.heap.size = g5 at *
    go_wp2_with (refine wpList_storeW rfl 25 (.tmp 5) (.tmp 12) rfl 32 arrH g5 rfl (bv O) rfl 25 _ h3 hOl.out (by simp) (ones_bv _) ?_)
    intro w4 h4 hK4
    have hB4 := hB3.trans (hK4.below hB3.size (by simp; omega))
    have sl4 := (hash_sl h4 hOl.out).keep ((Below.refl w4.heap.size w4).alloc (Nat.le_refl _) (.cells (madeCells #[.int .u8 0] 64) 5))
    have h6 := made_bytes w4 64
    have hB6 := hB4.alloc hB4.size (.cells (madeCells #[.int .u8 0] 64) 5)
    have hg := hB4.size
    clear hK4 h3 hB3 h4 hB4
    go_wp2_with (refine wpList_copySl rfl (.tmp 15) (.tmp 16) 22 22 rfl 5 Try.underlying22 (by kernel_rfl) w4.heap.size 0 64 64 rfl _ (bv O) rfl sl4 5 _ h6 ?_ (ones_bv _) ?_)
    · rw [hOl.out]; simp
    intro w7 h7 hK7
    rw [put_zeros (by rw [hhl.out]; decide), ← hK2.out] at h7
    have hB7 := hB6.trans (hK7.below hB6.size (by simp; omega))
    clear hK7 hB6 h6 sl4
    go_wp2
    go_ret
    exact ⟨_, rfl, h7, hB7⟩
  · have hK2 : Hid (P = k ++ List.replicate (64 - k.length) 0) := by
      show _ = _
      rw [hK.out, if_neg (by omega)]
    clear hK hw hhl
    have sl4 := (hs.out.keep hB0).keep ((Below.refl _ _).alloc (Nat.le_refl _) (.cells (madeCells #[.int .u8 0] 64) 5))
    have h6 := made_bytes (w.alloc (.cells #[.slice AH 8 cH, .slice AK 64 cK] 58)) 64
    have hB6 := hB0.alloc hB0.size (.cells (madeCells #[.int .u8 0] 64) 5)
    clear hB0 hc0
    go_enter Try.func35, Try.ntmps35
    go_wp2_with (refine wpList_copySl rfl (.tmp 15) (.tmp 16) 22 22 rfl 5 Try.underlying22 (by kernel_rfl) (w.heap.size + 1) 0 64 64 rfl _ (bv k) rfl sl4 5 _ (by simpa using h6) ?_ (ones_bv _) ?_)
    · first | exact Nat.min_le_right _ _ | (simp; exact Nat.min_le_right _ _)
    intro w7 h7 hK7
    rw [put_zeros (by omega), ← hK2.out] at h7
    have hB7 := hB6.trans (hK7.below hB6.size (by simp))
    clear hK7 hB6 h6 sl4
    go_wp2
    go_ret
    exact ⟨_, rfl, h7, hB7⟩

set_option maxRecDepth 100000 in
set_option maxHeartbeats 1000000 in
theorem rturned_any (A : Option Addr) (c x : Nat) (K : List Nat) (w : World) (hs : Sl w (.slice A 64 c) (bv K)) (hKl : K.length = 64) (bK : Byt K) (hx : (x : Int) ≤ 255) :
    Calls Try.prog 37 #[.slice A 64 c, .int .u8 (x : Int)] w fun e w' => ∃ g, e = .returned (.slice (some ⟨g, 0, none⟩) 64 64) ∧ w.heap.size ≤ g ∧ Blk w' g 5 (bv (xk K x)) ∧ Below w.heap.size w w' := by
  have hmk : ∀ w, (Instr.makeSlice 22 (.int .i64 64) (.int .i64 64)).run Try.prog w = .ok (.slice (some ⟨w.heap.size, 0, none⟩) 64 64) (w.alloc (.cells (madeCells #[.int .u8 0] 64) 5)) :=
    run_make_row' (P := Try.prog) 22 5 (.int .u8 0) 1 Try.underlying22 (by kernel_rfl) rfl .i64 .i64 64 (by omega) (by omega)
  have HKl := Lib.hid hKl
  have hXl := Lib.hid (show (xk K x).length = 64 by rw [xk_len, hKl])
  have hXg := Lib.hid (fun k (hk : k < 64) => xk_get (b := x) (show k < K.length by omega))
  have bKg := Lib.hid (fun k => gd_lt bK k)
  have Hs := Lib.hid hs
  have h6 := made_bytes w 64
  have hB6 := (Below.refl w.heap.size w).alloc (Nat.le_refl _) (.cells (madeCells #[.int .u8 0] 64) 5)
  clear hs hKl bK
  generalize hXe : xk K x = X at *
  clear hXe
  go_enter Try.func37, Try.ntmps37
  go_wp2
  go_loopw [12] (fun i wr => ∃ k : Nat, (k : Int) ≤ 64 ∧ i = .int .i64 (k : Int) ∧ Blk wr w.heap.size 5 (bv (upd X (zeros 64) k)) ∧ Below w.heap.size w wr) (fun i _ => 64 - (intOf i).toNat)
  case atStart => exact ⟨0, by omega, rfl, by rw [upd_zero]; exact h6, hB6⟩
  case round =>
    clear h6 hB6
    obtain ⟨k, hk, rfl, hb, hB⟩ := hrel
    by_cases hlt : (k : Int) < 64
    · obtain ⟨gk, ok, rfl, hkc⟩ := (Hs.out.keep hB).at_ (k := k) (u := .int .u8 ((gd K k : Nat) : Int)) (by rw [bv_get, gd_get (by rw [HKl.out]; omega)]; rfl)
      have c0 := hb.cell k
      rw [bv_get, upd_get (by rw [hXl.out]; simp) (Nat.le_refl _) (by simp; omega), zeros_get (by omega)] at c0
      simp only [Option.map_some] at c0
      have f0 := hb.frozen k
      have HS := Lib.hid (upd_set (new := X) (old := zeros 64) (k := k) (by rw [hXl.out]; simp) (by simp; omega) (hXg.out k (by omega)))
      have q1 := (x8m (bKg.out k) (show x < 256 by omega)).1
      generalize gd K k = y at *
      go_wp2
      go_roundw
      case rel =>
        refine ⟨k + 1, by omega, by go_num, ?_, hB.setCell (by simp) _⟩
        rw [← HS.out, ← bv_set]
        exact hb.set_ k _
      case measure => simp [intOf]; omega
    · obtain rfl : k = 64 := by omega
      rw [upd_all hXl.out (by simp)] at hb
      go_wp2
      go_ret
      exact ⟨_, rfl, Nat.le_refl _, hb, hB⟩
end Go.Proofs.Ythlebobfbalknaa

/- Contracts of banyanref03: With. -/
namespace Go.Proofs.Ythlebobfbalknaa
open Go.RowKit
open Go.Proofs.PlainAes
open Go.Proofs.PlainSha
open Go.Proofs.PlainMac

theorem own_of_blk {w : World} {g base n : Nat} {e : TypeId} {xs : List Value} (hb : Blk w g e xs) (hg : base ≤ g) (hl : xs.length = n) (hn : n ≤ maxLen) : w.ownsRow base e 1 (.slice (some ⟨g, 0, none⟩) n n) n xs :=
  ⟨by omega, .inr ⟨g, n, xs.toArray, rfl, hg, hb, Nat.le_refl _, hn, by simp [hl], by simp [← hl]⟩⟩
set_option maxRecDepth 100000 in
set_option maxHeartbeats 4000000 in
theorem rwith_core (AH AK A A2 : Option Addr) (cH cK n c n2 c2 : Nat) (k m : List Nat) (w : World) (sH : Sl w (.slice AH 8 cH) (wv H0)) (sK : Sl w (.slice AK 64 cK) (wv K0)) (hs : Sl w (.slice A n c) (bv k)) (hm : Sl w (.slice A2 n2 c2) (bv m)) (bk : Byt k) (bm : Byt m) (hlk : (k.length : Int) ≤ 549755813888) (hlm : (m.length : Int) ≤ 274877906944) :
    Calls Try.prog 25 #[.agg #[.slice AH 8 cH, .slice AK 64 cK], .slice A n c, .slice A2 n2 c2] w (RetH (macL k m) w) := by
  obtain ⟨i0, hi, hz0, hz1, hz2⟩ := info_parts (P := Try.prog) (e := 5) (z := .int .u8 0) (size := 1) (bytes := 1) (by kernel_rfl)
  have hpd := Lib.hid (fun w (a : Sl w (.slice AH 8 cH) (wv H0)) (b : Sl w (.slice AK 64 cK) (wv K0)) (d : Sl w (.slice A n c) (bv k)) => rpadded_core AH AK A cH cK n c k w a b d bk hlk)
  have hPl := padK_len k
  have hPb := padK_byt bk
  have htu := Lib.hid (fun gk x w (h : Sl w (.slice (some ⟨gk, 0, none⟩) 64 64) (bv (padK k))) hx => rturned_any (some ⟨gk, 0, none⟩) 64 x (padK k) w h hPl hPb hx)
  have hb1 : Byt (xk (padK k) 54 ++ m) := fun x hx => (List.mem_append.1 hx).elim (xk_byt hPb (by decide) x) (bm x)
  have hb2 : Byt (xk (padK k) 92 ++ shaL (xk (padK k) 54 ++ m)) := fun x hx => (List.mem_append.1 hx).elim (xk_byt hPb (by decide) x) (shaL_byt _ x)
  have hw1 := Lib.hid (fun v w (a : Sl w (.slice AH 8 cH) (wv H0)) (b : Sl w (.slice AK 64 cK) (wv K0)) d => with_any _ _ v (xk (padK k) 54 ++ m) w a b d hb1 (by rw [List.length_append, xk_len, hPl]; omega))
  have hw2 := Lib.hid (fun v w (a : Sl w (.slice AH 8 cH) (wv H0)) (b : Sl w (.slice AK 64 cK) (wv K0)) d => with_any _ _ v (xk (padK k) 92 ++ shaL (xk (padK k) 54 ++ m)) w a b d hb2 (by rw [List.length_append, xk_len, hPl, shaL_len]; decide))
  have hOe : Hid (macL k m = shaL (xk (padK k) 92 ++ shaL (xk (padK k) 54 ++ m))) := rfl
  rw [← hOe.out] at hw2
  have hX1 := Lib.hid (show (bv (xk (padK k) 54)).length = 64 by rw [bv_length, xk_len, hPl])
  have hX2 := Lib.hid (show (bv (xk (padK k) 92)).length = 64 by rw [bv_length, xk_len, hPl])
  have hHl := Lib.hid (show (bv (shaL (xk (padK k) 54 ++ m))).length = 32 by rw [bv_length, shaL_len])
  have hOl := Lib.hid (show (bv (macL k m)).length = 32 by rw [bv_length, macL_len])
  have hP64 := Lib.hid (show (bv (padK k)).length = 64 by rw [bv_length, hPl])
  clear hb1 hb2 hPb hPl hOe bk bm hlk
  generalize macL k m = O at *
  generalize shaL (xk (padK k) 54 ++ m) = H1 at *
  generalize padK k = P at *
  have hk0 := Blk.new w 58 #[.slice AH 8 cH, .slice AK 64 cK]
  have hB0 := (Below.refl w.heap.size w).alloc (Nat.le_refl _) (.cells #[.slice AH 8 cH, .slice AK 64 cK] 58)
  replace hs := Lib.hid hs
  replace hm := Lib.hid hm
  replace sH := Lib.hid sH
  replace sK := Lib.hid sK
  go_enter Try.func25, Try.ntmps25
  go_wp2_with (refine wpList_allocA rfl 25 rfl (bv (zeros 32)) (by kernel_rfl) ?_)
  intro w1 ho1 hK1 hz1'
  have hc0 := hk0.keeps hK1 (by simp)
  have hB1 := hB0.trans (hK1.below (by simp) (by simp))
  replace ho1 : Blk w1 (w.heap.size + 1) 25 (bv (zeros 32)) := by simpa using ho1
  have hpd1 := Lib.hid (hpd.out w1 (sH.out.keep hB1) (sK.out.keep hB1) (hs.out.keep hB1))
  clear hK1 hz1' hk0 hB0 hpd
  go_wp2_with (refine wpList_loadW rfl 58 (.tmp 3) rfl 2 arrC w.heap.size rfl 58 _ hc0 rfl ?_)
  refine hpd1.out.mono ?_
  rintro e wr ⟨gk, rfl, hbk, hB2⟩
  have hc1 := hc0.keep hB2
  have ho2 := ho1.keep hB2
  have hB := below_call hB1 hB1.size hB2
  have sH2 := Lib.hid (sH.out.keep hB)
  have sK2 := Lib.hid (sK.out.keep hB)
  have slm := Lib.hid (hm.out.keep hB)
  have slk : Hid (Sl wr (.slice (some ⟨gk, 0, none⟩) 64 64) (bv P)) := by
    have h := Sl.of_blk hbk (show 64 ≤ 64 from Nat.le_refl _) (Nat.le_of_eq hP64.out.symm) (by unfold maxLen; omega)
    rw [List.take_of_length_le (Nat.le_of_eq hP64.out)] at h
    exact h
  replace htu := Lib.hid (htu.out gk)
  clear hpd1 hc0 ho1 hB1 hB2 hbk sH sK hm hs
  have sH := sH2
  have sK := sK2
  go_upto_region 2 with fail
  go_cut [8] (fun s8 wx => ∃ g8 : Nat, s8 = .pointer (some ⟨g8, 0, none⟩) ∧ Blk wx g8 25 (bv H1) ∧ Below wr.heap.size wr wx)
  case first =>
    refine wp_region_held_drew (S := fun w' => Below wr.heap.size wr w') (by kernel_rfl) ((Below.refl _ _).drew) (fun hH => ?_)
    refine takeH_load (o := ⟨some 12, _, _, _, _, _⟩) (i := 0) rfl (by kernel_rfl) (by kernel_rfl) (by kernel_rfl) (fun _ _ _ _ h => h) rfl 58 (.tmp 3) rfl 2 arrC w.heap.size 0 rfl [.slice AH 8 cH, .slice AK 64 cK] rfl (fun w h => hSS (hc1.keep h) rfl) hH ?_
    simp only [Act.put, List.setIfInBounds_toArray, List.set_cons_zero, List.set_cons_succ, Nat.zero_add, decide_true, beq_self_eq_true]
    refine takeH_move (o := ⟨some 13, _, _, _, _, _⟩) (i := 1) rfl (by kernel_rfl) (by kernel_rfl) (by kernel_rfl) (fun _ _ _ _ h => h) rfl (.tmp 7) rfl (.slice (some ⟨gk, 0, none⟩) 64 64) rfl hH ?_
    simp only [Act.put, List.setIfInBounds_toArray, List.set_cons_zero, List.set_cons_succ, Nat.zero_add, decide_true, beq_self_eq_true]
    refine takeH_move (o := ⟨some 15, _, _, _, _, _⟩) (i := 3) rfl (by kernel_rfl) (by kernel_rfl) (by kernel_rfl) (fun _ _ _ _ h => h) rfl (.tmp 2) rfl (.slice A2 n2 c2) rfl hH ?_
    simp only [Act.put, List.setIfInBounds_toArray, List.set_cons_zero, List.set_cons_succ, Nat.zero_add, decide_true, beq_self_eq_true]
    refine wpAnyH_ready (rs := [2, 6]) (by kernel_rfl) (by simp) ?_
    refine AllReadyH.cons rfl (fun K1 hK1 => ?_) (AllReadyH.cons rfl (fun K1 hK1 => ?_) AllReadyH.nil)
    · rw [if_pos (by rfl)]
      go_wp2_with fail
      refine (htu.out 54 _ (slk.out.keep hH) (by decide)).mono ?_
      rintro e wa1 ⟨gt2, rfl, hgt, hbt, hBa⟩
      have own3 : wa1.ownsRow wr.heap.size 5 1 (.slice (some ⟨gt2, 0, none⟩) 64 64) 64 (bv (xk P 54)) := own_of_blk hbt (Nat.le_trans hH.size hgt) hX1.out (by decide)
      refine hK1.out _ _ (below_call hH hH.size hBa) (fun hH => ?_)
      clear hK1 K1 hBa hbt
      refine wpAnyH_ready (rs := [4, 6]) (by kernel_rfl) (by simp) ?_
      refine AllReadyH.cons rfl (fun K1 hK1 => ?_) (AllReadyH.cons rfl (fun K1 hK1 => ?_) AllReadyH.nil)
      · rw [if_pos (by rfl)]
        obtain ⟨v5, wb6, hr, own7, gr9⟩ := run_append_sl (P := Try.prog) wa1 wr.heap.size 22 22 5 i0 (.int .u8 0) 1 Try.underlying22 hi hz0 hz1 hz2 rfl _ 64 (bv (xk P 54)) own3 _ (bv m) (slm.out.keep hH) (bv_oneCell m) (by rw [bv_length]; simp [maxLen]; omega) (by rw [bv_length]; omega) hH.size
        refine Lib.wp_append_run _ (.tmp 14) (.tmp 15) 22 22 rfl _ _ rfl rfl v5 wb6 hr ?_
        have hH' := own_below hH gr9 own3 hH.size
        rw [← bv_app] at own7
        have own7s := Lib.hid (Sl.of_own own7)
        go_simp
        refine hK1.out _ _ hH' (fun hH => ?_)
        clear hK1 K1 hr gr9 own7 hH'
        refine wpAnyH_ready (rs := [5, 6]) (by kernel_rfl) (by simp) ?_
        refine AllReadyH.cons rfl (fun K1 hK1 => ?_) (AllReadyH.cons rfl (fun K1 hK1 => ?_) AllReadyH.nil)
        · rw [if_pos (by rfl)]
          go_wp2_with fail
          refine (hw1.out _ _ (sH.out.keep hH) (sK.out.keep hH) own7s.out).mono ?_
          rintro e wc10 ⟨rfl, hBa⟩
          refine hK1.out _ _ (below_call hH hH.size hBa) (fun hH => ?_)
          clear hK1 K1 hBa
          refine wpAnyH_ready (rs := [6]) (by kernel_rfl) (by simp) ?_
          refine AllReadyH.cons rfl (fun K1 hK1 => ?_) AllReadyH.nil
          · go_simp
            have hb13 : Blk (wc10.alloc (.cells (bv (zeros 32)).toArray 25)) wc10.heap.size 25 (bv (zeros 32)) := Blk.new_at rfl rfl
            have hGE : Hid (wr.heap.size ≤ wc10.heap.size) := hH.size
            refine hK1.out _ _ (hH.alloc hH.size _) (fun hH => ?_)
            clear hK1 K1
            refine wpAnyH_ready (rs := [7]) (by kernel_rfl) (by simp) ?_
            refine AllReadyH.cons rfl (fun K1 hK1 => ?_) AllReadyH.nil
            · rw [if_pos (by rfl)]
              refine wp_storeA 25 (.tmp 8) (.tmp 17) rfl 32 arrH _ _ rfl (bv H1) rfl 25 _ hb13 hHl.out (by simp) (ones_bv _) ?_
              intro wd14 hb15 hKb
              rw [putL_all (by rw [hHl.out]; simp)] at hb15
              refine hK1.out _ _ (hH.trans (hKb.below hH.size (by intro b hb; simp only [List.mem_singleton] at hb; subst hb; exact hGE.out))) (fun hH => ?_)
              clear hK1 K1 hKb
              refine wpAnyH_done (by kernel_rfl) ?_ _
              go_wp2_with fail
              go_meet
              exact ⟨_, rfl, hb15, hH⟩
        · go_simp
          have own16 := Lib.hid (own7s.out.keep ((Below.refl _ wb6).alloc (Nat.le_refl _) (.cells (bv (zeros 32)).toArray 25)))
          have hb17 : Blk (wb6.alloc (.cells (bv (zeros 32)).toArray 25)) wb6.heap.size 25 (bv (zeros 32)) := Blk.new_at rfl rfl
          have hGE : Hid (wr.heap.size ≤ wb6.heap.size) := hH.size
          refine hK1.out _ _ (hH.alloc hH.size _) (fun hH => ?_)
          clear hK1 K1
          refine wpAnyH_ready (rs := [5]) (by kernel_rfl) (by simp) ?_
          refine AllReadyH.cons rfl (fun K1 hK1 => ?_) AllReadyH.nil
          · rw [if_pos (by rfl)]
            go_wp2_with fail
            refine (hw1.out _ _ (sH.out.keep hH) (sK.out.keep hH) own16.out).mono ?_
            rintro e wc18 ⟨rfl, hBa⟩
            have hb19 := hb17.keep hBa
            refine hK1.out _ _ (below_call hH hH.size hBa) (fun hH => ?_)
            clear hK1 K1 hBa
            refine wpAnyH_ready (rs := [7]) (by kernel_rfl) (by simp) ?_
            refine AllReadyH.cons rfl (fun K1 hK1 => ?_) AllReadyH.nil
            · rw [if_pos (by rfl)]
              refine wp_storeA 25 (.tmp 8) (.tmp 17) rfl 32 arrH _ _ rfl (bv H1) rfl 25 _ hb19 hHl.out (by simp) (ones_bv _) ?_
              intro wd20 hb21 hKb
              rw [putL_all (by rw [hHl.out]; simp)] at hb21
              refine hK1.out _ _ (hH.trans (hKb.below hH.size (by intro b hb; simp only [List.mem_singleton] at hb; subst hb; exact hGE.out))) (fun hH => ?_)
              clear hK1 K1 hKb
              refine wpAnyH_done (by kernel_rfl) ?_ _
              go_wp2_with fail
              go_meet
              exact ⟨_, rfl, hb21, hH⟩
      · go_simp
        have own22 := own3.alloc (.cells (bv (zeros 32)).toArray 25)
        have hb23 : Blk (wa1.alloc (.cells (bv (zeros 32)).toArray 25)) wa1.heap.size 25 (bv (zeros 32)) := Blk.new_at rfl rfl
        have hGE : Hid (wr.heap.size ≤ wa1.heap.size) := hH.size
        have hb23n : Hid (wa1.heap.size ≠ gt2) := fun e => by have h9 : gt2 < wa1.heap.size := (own3.lt _ rfl).2; omega
        refine hK1.out _ _ (hH.alloc hH.size _) (fun hH => ?_)
        clear hK1 K1
        refine wpAnyH_ready (rs := [4]) (by kernel_rfl) (by simp) ?_
        refine AllReadyH.cons rfl (fun K1 hK1 => ?_) AllReadyH.nil
        · rw [if_pos (by rfl)]
          obtain ⟨v24, wb25, hr, own26, gr28⟩ := run_append_sl (P := Try.prog) (wa1.alloc (.cells (bv (zeros 32)).toArray 25)) wr.heap.size 22 22 5 i0 (.int .u8 0) 1 Try.underlying22 hi hz0 hz1 hz2 rfl _ 64 (bv (xk P 54)) own22 _ (bv m) (slm.out.keep hH) (bv_oneCell m) (by rw [bv_length]; simp [maxLen]; omega) (by rw [bv_length]; omega) hH.size
          refine Lib.wp_append_run _ (.tmp 14) (.tmp 15) 22 22 rfl _ _ rfl rfl v24 wb25 hr ?_
          have hH' := own_below hH gr28 own22 hH.size
          rw [← bv_app] at own26
          have own26s := Lib.hid (Sl.of_own own26)
          have hb27 := hb23.keeps (Keeps.grown gr28) (by simp only [Value.ownBlock, Option.mem_toList, Option.some.injEq]; exact fun e => hb23n.out e.symm)
          go_simp
          refine hK1.out _ _ hH' (fun hH => ?_)
          clear hK1 K1 hr gr28 own26 hH'
          refine wpAnyH_ready (rs := [5]) (by kernel_rfl) (by simp) ?_
          refine AllReadyH.cons rfl (fun K1 hK1 => ?_) AllReadyH.nil
          · rw [if_pos (by rfl)]
            go_wp2_with fail
            refine (hw1.out _ _ (sH.out.keep hH) (sK.out.keep hH) own26s.out).mono ?_
            rintro e wc29 ⟨rfl, hBa⟩
            have hb30 := hb27.keep hBa
            refine hK1.out _ _ (below_call hH hH.size hBa) (fun hH => ?_)
            clear hK1 K1 hBa
            refine wpAnyH_ready (rs := [7]) (by kernel_rfl) (by simp) ?_
            refine AllReadyH.cons rfl (fun K1 hK1 => ?_) AllReadyH.nil
            · rw [if_pos (by rfl)]
              refine wp_storeA 25 (.tmp 8) (.tmp 17) rfl 32 arrH _ _ rfl (bv H1) rfl 25 _ hb30 hHl.out (by simp) (ones_bv _) ?_
              intro wd31 hb32 hKb
              rw [putL_all (by rw [hHl.out]; simp)] at hb32
              refine hK1.out _ _ (hH.trans (hKb.below hH.size (by intro b hb; simp only [List.mem_singleton] at hb; subst hb; exact hGE.out))) (fun hH => ?_)
              clear hK1 K1 hKb
              refine wpAnyH_done (by kernel_rfl) ?_ _
              go_wp2_with fail
              go_meet
              exact ⟨_, rfl, hb32, hH⟩
    · go_simp
      have hb34 : Blk (wr.drew.alloc (.cells (bv (zeros 32)).toArray 25)) wr.drew.heap.size 25 (bv (zeros 32)) := Blk.new_at rfl rfl
      have hGE : Hid (wr.heap.size ≤ wr.drew.heap.size) := hH.size
      refine hK1.out _ _ (hH.alloc hH.size _) (fun hH => ?_)
      clear hK1 K1
      refine wpAnyH_ready (rs := [2]) (by kernel_rfl) (by simp) ?_
      refine AllReadyH.cons rfl (fun K1 hK1 => ?_) AllReadyH.nil
      · rw [if_pos (by rfl)]
        go_wp2_with fail
        refine (htu.out 54 _ (slk.out.keep hH) (by decide)).mono ?_
        rintro e wa35 ⟨gt36, rfl, hgt, hbt, hBa⟩
        have own37 : wa35.ownsRow wr.heap.size 5 1 (.slice (some ⟨gt36, 0, none⟩) 64 64) 64 (bv (xk P 54)) := own_of_blk hbt (Nat.le_trans hH.size hgt) hX1.out (by decide)
        have hb38 := hb34.keep hBa
        have hb38n : Hid (wr.drew.heap.size ≠ gt36) := Nat.ne_of_lt (Nat.lt_of_lt_of_le hb34.lt hgt)
        refine hK1.out _ _ (below_call hH hH.size hBa) (fun hH => ?_)
        clear hK1 K1 hBa hbt
        refine wpAnyH_ready (rs := [4]) (by kernel_rfl) (by simp) ?_
        refine AllReadyH.cons rfl (fun K1 hK1 => ?_) AllReadyH.nil
        · rw [if_pos (by rfl)]
          obtain ⟨v39, wb40, hr, own41, gr43⟩ := run_append_sl (P := Try.prog) wa35 wr.heap.size 22 22 5 i0 (.int .u8 0) 1 Try.underlying22 hi hz0 hz1 hz2 rfl _ 64 (bv (xk P 54)) own37 _ (bv m) (slm.out.keep hH) (bv_oneCell m) (by rw [bv_length]; simp [maxLen]; omega) (by rw [bv_length]; omega) hH.size
          refine Lib.wp_append_run _ (.tmp 14) (.tmp 15) 22 22 rfl _ _ rfl rfl v39 wb40 hr ?_
          have hH' := own_below hH gr43 own37 hH.size
          rw [← bv_app] at own41
          have own41s := Lib.hid (Sl.of_own own41)
          have hb42 := hb38.keeps (Keeps.grown gr43) (by simp only [Value.ownBlock, Option.mem_toList, Option.some.injEq]; exact fun e => hb38n.out e.symm)
          go_simp
          refine hK1.out _ _ hH' (fun hH => ?_)
          clear hK1 K1 hr gr43 own41 hH'
          refine wpAnyH_ready (rs := [5]) (by kernel_rfl) (by simp) ?_
          refine AllReadyH.cons rfl (fun K1 hK1 => ?_) AllReadyH.nil
          · rw [if_pos (by rfl)]
            go_wp2_with fail
            refine (hw1.out _ _ (sH.out.keep hH) (sK.out.keep hH) own41s.out).mono ?_
            rintro e wc44 ⟨rfl, hBa⟩
            have hb45 := hb42.keep hBa
            refine hK1.out _ _ (below_call hH hH.size hBa) (fun hH => ?_)
            clear hK1 K1 hBa
            refine wpAnyH_ready (rs := [7]) (by kernel_rfl) (by simp) ?_
            refine AllReadyH.cons rfl (fun K1 hK1 => ?_) AllReadyH.nil
            · rw [if_pos (by rfl)]
              refine wp_storeA 25 (.tmp 8) (.tmp 17) rfl 32 arrH _ _ rfl (bv H1) rfl 25 _ hb45 hHl.out (by simp) (ones_bv _) ?_
              intro wd46 hb47 hKb
              rw [putL_all (by rw [hHl.out]; simp)] at hb47
              refine hK1.out _ _ (hH.trans (hKb.below hH.size (by intro b hb; simp only [List.mem_singleton] at hb; subst hb; exact hGE.out))) (fun hH => ?_)
              clear hK1 K1 hKb
              refine wpAnyH_done (by kernel_rfl) ?_ _
              go_wp2_with fail
              go_meet
              exact ⟨_, rfl, hb47, hH⟩
  case rest =>
    obtain ⟨g8, rfl, hb8, hBx⟩ := hcut
    have hB3 := below_call hB hB.size hBx
    have hc1 := hc1.keep hBx
    have ho3 := ho2.keep hBx
    have sH3 := Lib.hid (sH.out.keep hBx)
    have sK3 := Lib.hid (sK.out.keep hBx)
    have slk3 := Lib.hid (slk.out.keep hBx)
    have sl8 := Lib.hid (hash_sl hb8 hHl.out)
    have hwc : w.heap.size + 1 ≤ wc.heap.size := Nat.le_of_lt ho3.lt
    have hwc0 : w.heap.size ≤ wc.heap.size := hB3.size
    have hZ : Below wc.heap.size wc wc.drew := (Below.refl _ _).drew
    clear hB hBx hb8 ho2 sH sK slk sH2 sK2 slm hw1
    go_wp2
    refine wp_region_held_drew (S := fun w' => Below (w.heap.size + 1) wc w') (by kernel_rfl) (hZ.mono hwc) (fun hH => ?_)
    refine takeH_load (o := ⟨some 18, _, _, _, _, _⟩) (i := 0) rfl (by kernel_rfl) (by kernel_rfl) (by kernel_rfl) (fun _ _ _ _ h => h) rfl 58 (.tmp 3) rfl 2 arrC w.heap.size 0 rfl [.slice AH 8 cH, .slice AK 64 cK] rfl (fun w h => hSS (hc1.below h (Nat.lt_succ_self _)) rfl) hH ?_
    simp only [Act.put, List.setIfInBounds_toArray, List.set_cons_zero, List.set_cons_succ, Nat.zero_add, decide_true, beq_self_eq_true]
    refine takeH_move (o := ⟨some 19, _, _, _, _, _⟩) (i := 1) rfl (by kernel_rfl) (by kernel_rfl) (by kernel_rfl) (fun _ _ _ _ h => h) rfl (.tmp 7) rfl (.slice (some ⟨gk, 0, none⟩) 64 64) rfl hH ?_
    simp only [Act.put, List.setIfInBounds_toArray, List.set_cons_zero, List.set_cons_succ, Nat.zero_add, decide_true, beq_self_eq_true]
    refine takeH_S (o := ⟨some 21, _, _, _, _, _⟩) (i := 3) rfl (by kernel_rfl) (by kernel_rfl) (by kernel_rfl) (fun _ _ _ _ h => h) rfl (.slice (some ⟨g8, 0, none⟩) 32 32) (fun w _ => by go_simp) hH ?_
    simp only [Act.put, List.setIfInBounds_toArray, List.set_cons_zero, List.set_cons_succ, Nat.zero_add, decide_true, beq_self_eq_true]
    refine wpAnyH_ready (rs := [2]) (by kernel_rfl) (by simp) ?_
    refine AllReadyH.cons rfl (fun K1 hK1 => ?_) AllReadyH.nil
    rw [if_pos (by rfl)]
    go_wp2_with fail
    refine (htu.out 92 _ (slk3.out.keep hZ) (by decide)).mono ?_
    rintro e wa ⟨gt, rfl, hgt, hbt, hBa⟩
    have own1 : wa.ownsRow wc.heap.size 5 1 (.slice (some ⟨gt, 0, none⟩) 64 64) 64 (bv (xk P 92)) := own_of_blk hbt (Nat.le_trans hZ.size hgt) hX2.out (by decide)
    have hZ1 := below_call hZ hZ.size hBa
    refine hK1.out _ _ (hZ1.mono hwc) (fun hH => ?_)
    clear hK1 K1 hBa hbt hZ
    refine wpAnyH_ready (rs := [4]) (by kernel_rfl) (by simp) ?_
    refine AllReadyH.cons rfl (fun K1 hK1 => ?_) AllReadyH.nil
    rw [if_pos (by rfl)]
    obtain ⟨v2, wb, hr, own2, gr2⟩ := run_append_sl (P := Try.prog) wa wc.heap.size 22 22 5 i0 (.int .u8 0) 1 Try.underlying22 hi hz0 hz1 hz2 rfl _ 64 (bv (xk P 92)) own1 _ (bv H1) (sl8.out.keep hZ1) (bv_oneCell H1) (by rw [hHl.out]; simp [maxLen]) (by rw [hHl.out]; decide) hZ1.size
    refine Lib.wp_append_run _ (.tmp 20) (.tmp 21) 22 22 rfl _ _ rfl rfl v2 wb hr ?_
    have hZ2 := own_below hZ1 gr2 own1 hZ1.size
    rw [← bv_app] at own2
    have sl2 := Lib.hid (Sl.of_own own2)
    go_simp
    refine hK1.out _ _ (hZ2.mono hwc) (fun hH => ?_)
    clear hK1 K1 hr gr2 own1 own2 hZ1
    refine wpAnyH_ready (rs := [5]) (by kernel_rfl) (by simp) ?_
    refine AllReadyH.cons rfl (fun K1 hK1 => ?_) AllReadyH.nil
    rw [if_pos (by rfl)]
    go_wp2_with fail
    refine (hw2.out _ _ (sH3.out.keep hZ2) (sK3.out.keep hZ2) sl2.out).mono ?_
    rintro e wd ⟨rfl, hBd⟩
    have hZ3 := below_call hZ2 hZ2.size hBd
    refine hK1.out _ _ (hZ3.mono hwc) (fun hH => ?_)
    clear hK1 K1 hBd hZ2 sl2
    have hres := ho3.keep hZ3
    have hZ4 := hZ3.mono hwc
    refine wpAnyH_ready (rs := [6]) (by kernel_rfl) (by simp) ?_
    refine AllReadyH.cons rfl (fun K1 hK1 => ?_) AllReadyH.nil
    rw [if_pos (by rfl)]
    refine wp_storeA 25 (.tmp 6) (.tmp 23) rfl 32 arrH _ _ rfl (bv O) rfl 25 _ hres hOl.out (by simp) (ones_bv _) ?_
    intro we hbe hKe
    rw [putL_all (by rw [hOl.out]; simp)] at hbe
    have hZ5 := hZ4.trans (hKe.below (Nat.le_trans hwc hZ4.size) (by simp))
    have hB5 := hB3.trans ((hZ3.mono hwc0).trans (hKe.below (Nat.le_trans hwc0 hZ3.size) (by simp)))
    refine hK1.out _ _ hZ5 (fun hH => ?_)
    clear hK1 K1
    refine wpAnyH_done (by kernel_rfl) ?_ _
    go_wp2
    exact bodyPost_ret (v := .agg (bv O).toArray) (res_cell Try.results25 _ _ _ 25 _ arrH hOl.out rfl hbe) rfl ⟨rfl, hB5⟩
end Go.Proofs.Ythlebobfbalknaa

/- Contracts: Derive of mac; Mac and Derive of banyanref03. -/
namespace Go.Proofs.Ythlebobfbalknaa
open Go.RowKit
open Go.Proofs.PlainAes
open Go.Proofs.PlainSha
open Go.Proofs.PlainMac

theorem rwith_any (vH vK v v2 : Value) (k m : List Nat) (w : World) (sH : Sl w vH (wv H0)) (sK : Sl w vK (wv K0)) (hs : Sl w v (bv k)) (hm : Sl w v2 (bv m)) (bk : Byt k) (bm : Byt m) (hlk : (k.length : Int) ≤ 549755813888) (hlm : (m.length : Int) ≤ 274877906944) :
    Calls Try.prog 25 #[.agg #[vH, vK], v, v2] w (RetH (macL k m) w) := by
  obtain ⟨AH, cH, rfl, _⟩ := id sH
  obtain ⟨AK, cK, rfl, _⟩ := id sK
  obtain ⟨A, c, rfl, _⟩ := id hs
  obtain ⟨A2, c2, rfl, _⟩ := id hm
  rw [wv_length, H0_length] at sH ⊢
  rw [wv_length, K0_length] at sK ⊢
  exact rwith_core AH AK A A2 cH cK _ c _ c2 k m w sH sK hs hm bk bm hlk hlm
set_option maxRecDepth 100000 in
set_option maxHeartbeats 1000000 in
theorem rmac_core (A A2 : Option Addr) (n c n2 c2 : Nat) (k m : List Nat) (w : World) (hs : Sl w (.slice A n c) (bv k)) (hm : Sl w (.slice A2 n2 c2) (bv m)) (bk : Byt k) (bm : Byt m) (hlk : (k.length : Int) ≤ 549755813888) (hlm : (m.length : Int) ≤ 274877906944) :
    Calls Try.prog 12 #[.slice A n c, .slice A2 n2 c2] w (RetH (macL k m) w) := by
  have hmd := Lib.hid (fun w => made_any w)
  have hw := Lib.hid (fun vH vK w a b (c1 : Sl w (.slice A n c) (bv k)) (d : Sl w (.slice A2 n2 c2) (bv m)) => rwith_any vH vK _ _ k m w a b c1 d bk bm hlk hlm)
  have hol := Lib.hid (show (bv (macL k m)).length = 32 by rw [bv_length, macL_len])
  replace hs := Lib.hid hs
  replace hm := Lib.hid hm
  clear hlk hlm bk bm
  generalize macL k m = O at *
  go_enter Try.func12, Try.ntmps12
  go_wp2_with (refine wpList_allocA rfl 25 rfl (bv (zeros 32)) (by kernel_rfl) ?_)
  intro w1 h1 hK1 hz1
  have hB1 := (Below.refl w.heap.size w).trans (hK1.below (Nat.le_refl _) (by simp))
  clear hK1 hz1
  go_wp2_with fail
  refine (hmd.out _).mono ?_
  rintro e w2 ⟨vH, vK, rfl, sH, sK, hB2⟩
  have h2 := h1.keep hB2
  have hB2' := below_call hB1 hB1.size hB2
  have hw2 := Lib.hid (hw.out vH vK w2 sH sK (hs.out.keep hB2') (hm.out.keep hB2'))
  clear h1 hB1 hB2 sH sK
  go_wp2_with fail
  refine hw2.out.mono ?_
  rintro e w3 ⟨rfl, hB3⟩
  have h3 := h2.keep hB3
  have hB3' := below_call hB2' hB2'.size hB3
  clear h2 hB2' hB3 hw2
  go_wp2_with (refine wpList_storeW rfl 25 (.tmp 4) (.tmp 8) rfl 32 arrH _ rfl (bv O) rfl 25 _ h3 hol.out (by simp) (ones_bv _) ?_)
  intro w4 h4 hK4
  go_wp2
  exact bodyPost_ret (v := .agg (bv O).toArray) (res_cell Try.results12 _ _ _ 25 _ arrH hol.out rfl h4) rfl ⟨rfl, hB3'.trans (hK4.below hB3'.size (by simp))⟩
theorem rmac_any (v v2 : Value) (k m : List Nat) (w : World) (hs : Sl w v (bv k)) (hm : Sl w v2 (bv m)) (bk : Byt k) (bm : Byt m) (hlk : (k.length : Int) ≤ 549755813888) (hlm : (m.length : Int) ≤ 274877906944) :
    Calls Try.prog 12 #[v, v2] w (RetH (macL k m) w) := by
  obtain ⟨A, c, rfl, _⟩ := id hs
  obtain ⟨A2, c2, rfl, _⟩ := id hm
  exact rmac_core A A2 _ c _ c2 k m w hs hm bk bm hlk hlm
set_option maxRecDepth 100000 in
set_option maxHeartbeats 1000000 in
theorem derive_core (A : Option Addr) (n c : Nat) (k l : List Nat) (w : World) (hs : Sl w (.slice A n c) (bv k)) (bk : Byt k) (bl : Byt l) (hlk : (k.length : Int) ≤ 549755813888) (hll : (l.length : Int) ≤ 274877906944) :
    Calls Try.prog 13 #[.slice A n c, .string (bstr l)] w (RetH (macL k l) w) := by
  have hmac := Lib.hid (fun v2 w (h : Sl w (.slice A n c) (bv k)) (d : Sl w v2 (bv l)) => mac_any _ v2 k l w h d bk bl hlk (by omega))
  have hol := Lib.hid (show (bv (macL k l)).length = 32 by rw [bv_length, macL_len])
  have kc := fun (w : World) (s : ByteArray) => run_bytes_of_string (P := Try.prog) w 9 22 5 s Try.underlying9 Try.underlying22 Try.underlying5
  have hsz := bstr_size l
  have hsl2 := Lib.hid (fun w fr => sl_string w fr bl (by omega))
  replace hs := Lib.hid hs
  clear hlk bk bl
  generalize macL k l = O at *
  go_enter Try.func13, Try.ntmps13
  go_wp2_with (refine wpList_allocA rfl 25 rfl (bv (zeros 32)) (by kernel_rfl) ?_)
  intro w1 h1 hK1 hz1
  have hB1 := (Below.refl w.heap.size w).trans (hK1.below (Nat.le_refl _) (by simp))
  clear hK1 hz1
  go_wp2_with fail
  have q3 : Below w1.heap.size w1 (w1.alloc (.cells (bytesRow (bstr l) (grownCap w1 l.length 0 5)) 5 ((bytesRow (bstr l) (grownCap w1 l.length 0 5)).size, (bytesRow (bstr l) (grownCap w1 l.length 0 5)).size + 1))).drew := ((Below.refl _ _).alloc (Nat.le_refl _) _).drew
  refine (hmac.out _ _ (hs.out.keep (below_call hB1 hB1.size q3)) (hsl2.out w1 ((bytesRow (bstr l) (grownCap w1 l.length 0 5)).size, (bytesRow (bstr l) (grownCap w1 l.length 0 5)).size + 1))).mono ?_
  rintro e w3 ⟨rfl, hB3⟩
  have hB2 := below_call q3 q3.size hB3
  have h3 := h1.keep hB2
  have hB3' := below_call hB1 hB1.size hB2
  clear h1 hB1 hB2 hB3 q3
  go_wp2_with (refine wpList_storeW rfl 25 (.tmp 4) (.tmp 8) rfl 32 arrH _ rfl (bv O) rfl 25 _ h3 hol.out (by simp) (ones_bv _) ?_)
  intro w4 h4 hK4
  go_wp2
  exact bodyPost_ret (v := .agg (bv O).toArray) (res_cell Try.results13 _ _ _ 25 _ arrH hol.out rfl h4) rfl ⟨rfl, hB3'.trans (hK4.below hB3'.size (by simp))⟩
theorem derive_any (v : Value) (k l : List Nat) (w : World) (hs : Sl w v (bv k)) (bk : Byt k) (bl : Byt l) (hlk : (k.length : Int) ≤ 549755813888) (hll : (l.length : Int) ≤ 274877906944) :
    Calls Try.prog 13 #[v, .string (bstr l)] w (RetH (macL k l) w) := by
  obtain ⟨A, c, rfl, _⟩ := id hs
  exact derive_core A _ c k l w hs bk bl hlk hll
set_option maxRecDepth 100000 in
set_option maxHeartbeats 1000000 in
theorem rderive_core (A : Option Addr) (n c : Nat) (k l : List Nat) (w : World) (hs : Sl w (.slice A n c) (bv k)) (bk : Byt k) (bl : Byt l) (hlk : (k.length : Int) ≤ 549755813888) (hll : (l.length : Int) ≤ 274877906944) :
    Calls Try.prog 14 #[.slice A n c, .string (bstr l)] w (RetH (macL k l) w) := by
  have hmac := Lib.hid (fun v2 w (h : Sl w (.slice A n c) (bv k)) (d : Sl w v2 (bv l)) => rmac_any _ v2 k l w h d bk bl hlk (by omega))
  have hol := Lib.hid (show (bv (macL k l)).length = 32 by rw [bv_length, macL_len])
  have kc := fun (w : World) (s : ByteArray) => run_bytes_of_string (P := Try.prog) w 9 22 5 s Try.underlying9 Try.underlying22 Try.underlying5
  have hsz := bstr_size l
  have hsl2 := Lib.hid (fun w fr => sl_string w fr bl (by omega))
  replace hs := Lib.hid hs
  clear hlk bk bl
  generalize macL k l = O at *
  go_enter Try.func14, Try.ntmps14
  go_wp2_with (refine wpList_allocA rfl 25 rfl (bv (zeros 32)) (by kernel_rfl) ?_)
  intro w1 h1 hK1 hz1
  have hB1 := (Below.refl w.heap.size w).trans (hK1.below (Nat.le_refl _) (by simp))
  clear hK1 hz1
  go_wp2_with fail
  have q3 : Below w1.heap.size w1 (w1.alloc (.cells (bytesRow (bstr l) (grownCap w1 l.length 0 5)) 5 ((bytesRow (bstr l) (grownCap w1 l.length 0 5)).size, (bytesRow (bstr l) (grownCap w1 l.length 0 5)).size + 1))).drew := ((Below.refl _ _).alloc (Nat.le_refl _) _).drew
  refine (hmac.out _ _ (hs.out.keep (below_call hB1 hB1.size q3)) (hsl2.out w1 ((bytesRow (bstr l) (grownCap w1 l.length 0 5)).size, (bytesRow (bstr l) (grownCap w1 l.length 0 5)).size + 1))).mono ?_
  rintro e w3 ⟨rfl, hB3⟩
  have hB2 := below_call q3 q3.size hB3
  have h3 := h1.keep hB2
  have hB3' := below_call hB1 hB1.size hB2
  clear h1 hB1 hB2 hB3 q3
  go_wp2_with (refine wpList_storeW rfl 25 (.tmp 4) (.tmp 8) rfl 32 arrH _ rfl (bv O) rfl 25 _ h3 hol.out (by simp) (ones_bv _) ?_)
  intro w4 h4 hK4
  go_wp2
  exact bodyPost_ret (v := .agg (bv O).toArray) (res_cell Try.results14 _ _ _ 25 _ arrH hol.out rfl h4) rfl ⟨rfl, hB3'.trans (hK4.below hB3'.size (by simp))⟩
theorem rderive_any (v : Value) (k l : List Nat) (w : World) (hs : Sl w v (bv k)) (bk : Byt k) (bl : Byt l) (hlk : (k.length : Int) ≤ 549755813888) (hll : (l.length : Int) ≤ 274877906944) :
    Calls Try.prog 14 #[v, .string (bstr l)] w (RetH (macL k l) w) := by
  obtain ⟨A, c, rfl, _⟩ := id hs
  exact rderive_core A _ c k l w hs bk bl hlk hll
end Go.Proofs.Ythlebobfbalknaa

/- append of a string's bytes onto a row of the call's own: the row stays where it lies, or a new one is made. -/
namespace Go.Proofs.Ythlebobfbalknaa
open Go.RowKit

theorem run_append_str2 {P : Program} (w : World) (base : Nat) (t u ty e : TypeId) (i : TypeInfo) (ht : P.underlying t = some (.slice e)) (hu : P.underlying u = some .string) (hi : P.info? e = some i) (hz : i.zero = some (.int .u8 0))
    (hsize : i.size = 1) (hby : i.bytes = 1) (v : Value) (n : Nat) (xs : List Value) (hown : w.ownsRow base e 1 v n xs) (s : ByteArray)
    (h63 : n + s.size ≤ maxLen) (hbytes : n + s.size ≤ 140737488355328) (hbase : base ≤ w.heap.size) :
    ∃ v' w', (Builtin.append_ #[t, u] ty #[v, .string s]).run P w = .ok v' w' ∧ w'.ownsRow base e 1 v' (n + s.size) (xs ++ Lib.strCells s) ∧ w.grownBy w' v.ownBlock ∧ Moved w.heap.size v.ownBlock v'.ownBlock := by
  obtain ⟨v', w', hr, h2, h3, -⟩ := Lib.run_append_own_string (P := P) w base t u ty e i ht hu hi hz hsize hby v n xs hown s h63 hbytes hbase
  refine ⟨v', w', hr, h2, h3, ?_⟩
  have hxl : xs.length = n := by simpa using hown.1
  rcases hown.2 with ⟨rfl, rfl⟩ | ⟨g, cap, cur, rfl, hbg, hg, hnc, hcm, hcs, htake⟩
  · have own0 : w.ownsRow w.heap.size e 1 (.slice none 0 0) 0 xs := ⟨hown.1, .inl ⟨rfl, rfl⟩⟩
    obtain ⟨v2, w2, hr2, k2, -⟩ := Lib.run_append_own_string (P := P) w w.heap.size t u ty e i ht hu hi hz hsize hby _ 0 xs own0 s h63 hbytes (Nat.le_refl _)
    rw [hr] at hr2
    injection hr2 with e1 e2
    subst e1 e2
    exact .inr fun k hk => (k2.lt k hk).1
  · by_cases hroom : n + s.size ≤ cap
    · have hcs' : cur.size = cap := by simpa using hcs
      have hr2 := Lib.run_append_room_string (P := P) w t u ty e i ht hu hi hsize g n cap cur hg s hroom (by omega)
      rw [hr] at hr2
      injection hr2 with e1 e2
      exact .inl (by rw [e1]; rfl)
    · have holds : ∀ j u, xs[j]? = some u → w.cell? ((⟨g, 0, none⟩ : Addr).add j) = some u := hown.cells (g := g) rfl
      have hr2 := Lib.run_append_grow_string (P := P) w t u ty e i (.int .u8 0) ht hu hi hz ⟨g, 0, none⟩ n cap xs (by rw [hsize]; simpa using hxl) holds s (by omega) (by simp only [maxLen] at h63; omega) (by rw [hby]; exact growslice_fits (by omega) (by omega))
      rw [hr] at hr2
      injection hr2 with e1 e2
      refine .inr fun k hk => ?_
      rw [e1] at hk
      simp only [Value.ownBlock, Option.some.injEq] at hk
      omega
end Go.Proofs.Ythlebobfbalknaa
