/- Several texts in one (written by mergetop.py): Bld CvB MadeA SealA SealB SealC SealD SealF SealH SealG. -/
import Derived.Test.YtlifpmglaoppoaaArr
import Derived.Great.FillDense
import Derived.Laws.Tables
import Derived.Test.YtlifpmglaoppoaaNonP
import Derived.Test.YtlifpmglaoppoaaQ12P2
import Derived.Test.YtlifpmglaoppoaaSealP
import Derived.Test.YtlifpmglaoppoaaQ12P3
import Derived.Test.YtlifpmglaoppoaaRgx
import Derived.Test.YtlifpmglaoppoaaArrB
import Derived.Test.YtlifpmglaoppoaaOwn2
import Derived.Test.YtlifpmglaoppoaaClo
import Derived.Deep.OwnRows
import Derived.Deep.DeepCutAuto
set_option linter.unusedVariables false
set_option linter.unusedSimpArgs false

/- A struct built of its fields, arrays among them. -/
namespace Go.Proofs.Ytlifpmglaoppoaa
open Go.RowKit

theorem fold_putL (off : Nat) (vs cells : List Value) (hc : off + vs.length ≤ cells.length) :
    (vs.zipIdx 0).foldl (fun cs (x : Value × Nat) => cs.setIfInBounds (off + x.2) x.1) cells.toArray = (putL cells off vs).toArray := by
  obtain ⟨h1, h2⟩ := Go.Great.foldl_set off vs 0 cells.toArray
  apply Array.ext_getElem?
  intro k
  rw [h2 k]
  simp only [Nat.add_zero, List.size_toArray, List.getElem?_toArray]
  unfold putL
  by_cases hk : off ≤ k
  · by_cases hk2 : k < off + vs.length
    · rw [if_pos ⟨hk, hk2, by omega⟩, List.getElem?_append_left (by simp; omega), List.getElem?_append_right (by simp; omega)]
      congr 1
      simp; omega
    · rw [if_neg (by omega), List.getElem?_append_right (by simp; omega), List.getElem?_drop]
      congr 1
      simp; omega
  · rw [if_neg (by omega), List.append_assoc, List.getElem?_append_left (by simp; omega), List.getElem?_take, if_pos (by omega)]
theorem fill_agg {place : Nat → Option (Nat × Nat)} {i off size : Nat} (hp : place i = some (off, size)) (cells vs : List Value) (hv : vs.length = size) (hc : off + size ≤ cells.length) (rest : List (Nat × Value)) :
    Instr.fill place cells.toArray ((i, .agg vs.toArray) :: rest) = Instr.fill place (putL cells off vs).toArray rest := by
  conv => lhs; unfold Instr.fill
  simp only [hp, Value.cells, List.size_toArray, hv]
  rw [if_neg (by simp; omega), ← fold_putL off vs cells (by omega), ← Array.foldl_toList, Array.toList_zipIdx]
theorem fill_one {place : Nat → Option (Nat × Nat)} {i off : Nat} (hp : place i = some (off, 1)) (cells : List Value) (v : Value) (hv : v.cells = #[v]) (hc : off + 1 ≤ cells.length) (rest : List (Nat × Value)) :
    Instr.fill place cells.toArray ((i, v) :: rest) = Instr.fill place (putL cells off [v]).toArray rest := by
  conv => lhs; unfold Instr.fill
  simp only [hp, hv]
  rw [if_neg (by simp; omega), ← fold_putL off [v] cells (by simpa using hc), ← Array.foldl_toList, Array.toList_zipIdx]
/-- A struct of two arrays of bytes. -/
theorem built_two {P : Program} {t : TypeId} {fs : Array Field} {it : TypeInfo} {n m : Nat} {z : List Value} (hi : P.info? t = some it) (hu : P.underlying t = some (.struct fs)) (hz : it.zero = some (.agg z.toArray)) (hzl : z.length = n + m)
    (hp : fs.toList.mapM (fun f => (P.info? f.type).map fun i => (f.offset, i.size)) = some [(0, n), (n, m)]) (x y : List Value) (hx : x.length = n) (hy : y.length = m) :
    P.built t [(0, .agg x.toArray), (1, .agg y.toArray)] = some (x ++ y).toArray := by
  unfold Program.built
  simp only [hi, hu, hz, hp]
  show Instr.fill _ z.toArray _ = _
  rw [fill_agg (off := 0) (size := n) (by rfl) z x hx (by omega), fill_agg (off := n) (size := m) (by rfl) _ y hy (by rw [putL_length _ _ _ (by omega)]; omega)]
  show some _ = some _
  congr 2
  have e1 : putL z 0 x = x ++ z.drop n := by simp [putL, hx]
  rw [e1]
  unfold putL
  rw [List.take_left' hx, List.drop_of_length_le (by simp; omega), List.append_nil]
/-- Of its first alone. -/
theorem built_fst {P : Program} {t : TypeId} {fs : Array Field} {it : TypeInfo} {n : Nat} {r : List (Nat × Nat)} {z z2 : List Value} (hi : P.info? t = some it) (hu : P.underlying t = some (.struct fs)) (hz : it.zero = some (.agg z.toArray)) (hz2 : z.drop n = z2) (hzl : n ≤ z.length)
    (hp : fs.toList.mapM (fun f => (P.info? f.type).map fun i => (f.offset, i.size)) = some ((0, n) :: r)) (x : List Value) (hx : x.length = n) :
    P.built t [(0, .agg x.toArray)] = some (x ++ z2).toArray := by
  subst hz2
  unfold Program.built
  simp only [hi, hu, hz, hp]
  show Instr.fill _ z.toArray _ = _
  rw [fill_agg (off := 0) (size := n) (by rfl) z x hx (by omega)]
  show some _ = some _
  congr 2
  simp [putL, hx]
/-- Of two single fields and an array. -/
theorem built_three {P : Program} {t : TypeId} {fs : Array Field} {it : TypeInfo} {n : Nat} {z : List Value} (hi : P.info? t = some it) (hu : P.underlying t = some (.struct fs)) (hz : it.zero = some (.agg z.toArray)) (hzl : z.length = 2 + n)
    (hp : fs.toList.mapM (fun f => (P.info? f.type).map fun i => (f.offset, i.size)) = some [(0, 1), (1, 1), (2, n)]) (a b : Value) (ha : a.cells = #[a]) (hb : b.cells = #[b]) (x : List Value) (hx : x.length = n) :
    P.built t [(0, a), (1, b), (2, .agg x.toArray)] = some (a :: b :: x).toArray := by
  unfold Program.built
  simp only [hi, hu, hz, hp]
  show Instr.fill _ z.toArray _ = _
  have l1 : (putL z 0 [a]).length = z.length := putL_length _ _ _ (by simp; omega)
  have l2 : (putL (putL z 0 [a]) 1 [b]).length = z.length := by rw [putL_length _ _ _ (by simp; omega), l1]
  rw [fill_one (off := 0) (by rfl) z a ha (by omega), fill_one (off := 1) (by rfl) _ b hb (by omega), fill_agg (off := 2) (size := n) (by rfl) _ x hx (by omega)]
  show some _ = some _
  congr 2
  obtain ⟨u, v, z', rfl⟩ : ∃ u v z', z = u :: v :: z' := by
    match z, hzl with
    | u :: v :: z', _ => exact ⟨u, v, z', rfl⟩
    | [u], h => simp at h; omega
    | [], h => simp at h; omega
  have h9 : z'.length = n := by simp at hzl; omega
  simp [putL, hx, h9]
  omega
/-- A struct built, its value known. -/
theorem wpList_buildV {P : Program} {ops : Array Oper} {rest : List Oper} {o : Oper} {a : Act} {w : World} {Q : Exit → Act → World → Prop} (hg : o.guard = none) (t : TypeId) (parts : Array (Nat × Operand)) (ho : o.op = .build t parts) (ps : List (Nat × Value)) (hps : parts.toList.map (fun x => (x.1, a.eval x.2)) = ps) (L : List Value)
    (hb : P.built t ps = some L.toArray) (h : wpList P ops Q rest (a.put o.dst (.agg L.toArray)) w) : wpList P ops Q (o :: rest) a w := by
  have e : P.built t (parts.map fun (i, x) => (i, a.eval x)).toList = some L.toArray := by
    rw [Array.toList_map, ← hb, ← hps]
  exact Go.wpList_build hg t parts ho (by rw [e]; rfl) (by rw [e]; exact h)
end Go.Proofs.Ytlifpmglaoppoaa

/- The bytes of a constant string: a new row, marked. -/
namespace Go.Proofs.Ytlifpmglaoppoaa
open Go.RowKit

section
variable {P : Program}
theorem conv_const {w : World} {g n c : Nat} {t e : TypeId} {L : List Value} (ht : P.underlying t = some (.slice e)) (he : P.underlying e = some (.int .u8)) (hb : Blk w g e L) (hn : n = L.length) (hc : n ≤ c) (hm : c ≤ maxLen) :
    ∃ w', (convert t t (.slice (some ⟨g, 0, none⟩) n c)).run P w = .ok (.slice (some ⟨g, 0, none⟩) n c) w' ∧ Sl w' (.slice (some ⟨g, 0, none⟩) n c) L ∧ Keeps [g] w w' ∧ w'.heap.size = w.heap.size := by
  subst hn
  have hg : g < w.heap.size := hb.lt
  have hsh : w.shape? g = some (e, L.length) := by
    unfold World.shape?
    rw [hb]
    simp
  have hf : (w.freeze ⟨g, L.length, none⟩ 1).heap[g]? = some (.cells L.toArray e (L.length, L.length + 1)) := by
    unfold World.freeze
    rw [if_neg (by decide)]
    show (w.heap.modify g _)[g]? = _
    rw [Array.getElem?_modify, if_pos rfl, show w.heap[g]? = _ from hb]
    rfl
  refine ⟨w.freeze ⟨g, L.length, none⟩ 1, ?_, ⟨some ⟨g, 0, none⟩, c, rfl, hc, hm, fun _ => ⟨g, 0, rfl, fun i u hu => ?_⟩⟩, ⟨?_, ?_, ?_, ?_, fun b hb2 hG => ?_⟩, ?_⟩
  · simp [convert, run_underlying ht, run_underlying he, markStringish, hsh]
  · unfold World.cell?
    simp only [hf, Nat.zero_add]
    simpa using hu
  · unfold World.freeze; rw [if_neg (by decide)]
  · unfold World.freeze; rw [if_neg (by decide)]
  · unfold World.freeze; rw [if_neg (by decide)]
  · unfold World.freeze; rw [if_neg (by decide)]; simp
  · unfold World.freeze
    rw [if_neg (by decide)]
    show (w.heap.modify g _)[b]? = _
    rw [Array.getElem?_modify, if_neg (by intro h; exact hG (by simp [h]))]
  · unfold World.freeze; rw [if_neg (by decide)]; simp
theorem wp_convert_run {w : World} {o : Oper} {a : Act} {K : Act → World → Prop} {Q : Exit → Act → World → Prop} (x : Operand) (t : TypeId) (ho : o.op = .convert t t x) (v : Value) (hx : a.eval x = v) {v' : Value} {w' : World}
    (hr : (convert t t v).run P w = .ok v' w') (h : K (a.put o.dst v') w') : o.wp P a w K Q := by
  unfold Oper.wp execOp
  simp only [ho, hx, hr, Sem.run_bind, Sem.run_pure, Result.andThen_ok]
  exact h
theorem wpList_convert_run {w : World} {ops : Array Oper} {rest : List Oper} {o : Oper} {a : Act} {Q : Exit → Act → World → Prop} (hgd : o.guard = none) (x : Operand) (t : TypeId) (ho : o.op = .convert t t x) (v : Value) (hx : a.eval x = v) {v' : Value} {w' : World}
    (hr : (convert t t v).run P w = .ok v' w') (h : wpList P ops Q rest (a.put o.dst v') w') : wpList P ops Q (o :: rest) a w :=
  wpList_plain hgd fun _ hK => wp_convert_run x t ho v hx hr (hK _ _ h)
theorem wp_conv_run {w : World} {o : Oper} {a : Act} {K : Act → World → Prop} {Q : Exit → Act → World → Prop} (x : Operand) (t u : TypeId) (ho : o.op = .convert t u x) (v : Value) (hx : a.eval x = v) {v' : Value} {w' : World}
    (hr : (convert t u v).run P w = .ok v' w') (h : K (a.put o.dst v') w') : o.wp P a w K Q := by
  unfold Oper.wp execOp
  simp only [ho, hx, hr, Sem.run_bind, Sem.run_pure, Result.andThen_ok]
  exact h
end
end Go.Proofs.Ytlifpmglaoppoaa

/- Contracts of layer 12: the nonce's maker. -/
namespace Go.Proofs.Ytlifpmglaoppoaa
open Go.RowKit
open Go.Proofs.PlainAes
open Go.Proofs.PlainSeal

theorem shr32 (b : Nat) : (b : Int) / 4294967296 = ((b / 4294967296 : Nat) : Int) := by omega
theorem put_n0 (x : Nat) : (zeros 12).take 0 ++ be4 x ++ (zeros 12).drop (0 + 4) = be4 x ++ zeros 8 := rfl
theorem put_n1 (x y : Nat) : (be4 x ++ zeros 8).take 4 ++ be4 y ++ (be4 x ++ zeros 8).drop (4 + 4) = be4 x ++ be4 y ++ zeros 4 := rfl
theorem put_n2 (x y z : Nat) : (be4 x ++ be4 y ++ zeros 4).take 8 ++ be4 z ++ (be4 x ++ be4 y ++ zeros 4).drop (8 + 4) = be4 x ++ (be4 y ++ be4 z) := rfl
set_option maxRecDepth 100000 in
set_option maxHeartbeats 1000000 in
theorem made_ctr (b a : Nat) (w : World) (hb : (b : Int) ≤ 18446744073709551615) (ha : (a : Int) ≤ 4294967295) :
    Calls Try.prog 24 #[.int .u64 (b : Int), .int .u32 (a : Int)] w (RetA (nonceL b a) w) := by
  have q1 : (b : Int) / 4294967296 = ((b / 4294967296 : Nat) : Int) := by omega
  have q2 : IntKind.u32.wrap ((b / 4294967296 : Nat) : Int) = ((b / 4294967296 : Nat) : Int) := by rw [IntKind.wrap_u32]; omega
  have q3 : IntKind.u32.wrap (b : Int) = ((b % 4294967296 : Nat) : Int) := by rw [IntKind.wrap_u32]; omega
  obtain ⟨O, hO⟩ : ∃ O, O = nonceL b a := ⟨_, rfl⟩
  rw [← hO]
  have hnl := Lib.hid (show (bv O).length = 12 by rw [hO]; simp)
  have hH : ((b / 4294967296 : Nat) : Int) ≤ 4294967295 := by omega
  have hL : ((b % 4294967296 : Nat) : Int) ≤ 4294967295 := by omega
  unfold nonceL at hO
  generalize b / 4294967296 = H at *
  generalize b % 4294967296 = L at *
  have hp0 := Lib.hid (fun g w h => put32_at g 65 0 12 (zeros 12) H w 12 (by decide) h (by decide) hH)
  have hp1 := Lib.hid (fun g w h => put32_at g 65 4 8 (be4 H ++ zeros 8) L w 8 (by decide) h (by simp) hL)
  have hp2 := Lib.hid (fun g w h => put32_at g 65 8 4 (be4 H ++ be4 L ++ zeros 4) a w 4 (by decide) h (by simp) ha)
  simp only [put_n0] at hp0
  simp only [put_n1] at hp1
  simp only [put_n2, ← hO] at hp2
  clear hO hH hL
  generalize be4 H ++ zeros 8 = B1 at *
  generalize be4 H ++ be4 L ++ zeros 4 = B2 at *
  go_enter Try.func24, Try.ntmps24
  go_wp2_with (refine wpList_allocA rfl 65 rfl (bv (zeros 12)) (by kernel_rfl) ?_)
  intro w1 h1 hK1 hz1
  have hB := (Below.refl w.heap.size w).trans (hK1.below (Nat.le_refl _) (by simp))
  clear hK1 hz1
  go_wp2_with fail
  refine (hp0.out _ _ h1).mono ?_
  rintro e w2 ⟨⟨r, rfl⟩, h2, hK2⟩
  have hB2 := hB.trans (hK2.below hB.size (by simp))
  clear h1 hB hK2
  go_wp2_with fail
  refine (hp1.out _ _ h2).mono ?_
  rintro e w3 ⟨⟨r3, rfl⟩, h3, hK3⟩
  have hB3 := hB2.trans (hK3.below hB2.size (by simp))
  clear h2 hB2 hK3
  go_wp2_with fail
  refine (hp2.out _ _ h3).mono ?_
  rintro e w4 ⟨⟨r4, rfl⟩, h4, hK4⟩
  have hB4 := hB3.trans (hK4.below hB3.size (by simp))
  clear h3 hB3 hK4
  go_wp2_with (first
    | refine wpList_loadW rfl 65 (.tmp 4) rfl 12 arrN _ rfl 65 _ h4 hnl.out ?_
    | refine wpList_storeW rfl 65 (.tmp 4) (.tmp 17) rfl 12 arrN _ rfl (bv O) rfl 65 _ h4 hnl.out hnl.out (ones_bv _) ?_)
  intro w5 h5 hK5
  go_wp2
  exact bodyPost_ret (v := .agg (bv O).toArray) (res_cell Try.results24 _ _ _ 65 _ arrN hnl.out rfl h5) rfl ⟨rfl, hB4.trans (hK5.below hB4.size (by simp))⟩
end Go.Proofs.Ytlifpmglaoppoaa

/- Layer 12: the nonce's maker, the plain laws. -/

/- Contracts of layer 12: Derive. -/
namespace Go.Proofs.Ytlifpmglaoppoaa
open Go.RowKit
open Go.Proofs.PlainAes
open Go.Proofs.PlainSha
open Go.Proofs.PlainMac
open Go.Proofs.PlainSeal

theorem arrKs : ArrTy Try.prog 28 64 := ⟨_, Try.underlying28, rfl, by kernel_rfl⟩
theorem ks_zero : (Try.prog.info? 28).bind (·.zero) = some (.agg (bv (zeros 64)).toArray) := by kernel_rfl
theorem built_keys (x y : List Nat) (hx : x.length = 32) (hy : y.length = 32) : Try.prog.built 28 [(0, .agg (bv x).toArray), (1, .agg (bv y).toArray)] = some (bv (x ++ y)).toArray := by
  have hz := ks_zero
  cases hi : Try.prog.info? 28 with
  | none => rw [hi] at hz; cases hz
  | some it =>
    rw [hi] at hz
    rw [built_two (n := 32) (m := 32) hi Try.underlying28 hz (by simp) (by kernel_rfl) (bv x) (bv y) (by simp [hx]) (by simp [hy]), bv_app]
theorem enc_str : (⟨#[101, 110, 99]⟩ : ByteArray) = bstr encL := rfl
theorem mac_str : (⟨#[109, 97, 99]⟩ : ByteArray) = bstr macS := rfl
set_option maxRecDepth 100000 in
set_option maxHeartbeats 1000000 in
theorem derive_keys (v : Value) (k : List Nat) (w : World) (hs : Sl w v (bv k)) (bk : Byt k) (hlk : (k.length : Int) ≤ 549755813888) :
    Calls Try.prog 11 #[v] w (RetA (keyE k ++ keyM k) w) := by
  have h1 := Lib.hid (fun w (h : Sl w v (bv k)) => derive_any v k encL w h bk encL_byt hlk (by decide))
  have h2 := Lib.hid (fun w (h : Sl w v (bv k)) => derive_any v k macS w h bk macS_byt hlk (by decide))
  change Hid (∀ w h, Calls _ _ _ w (RetH (keyE k) w)) at h1
  change Hid (∀ w h, Calls _ _ _ w (RetH (keyM k) w)) at h2
  have hb := Lib.hid (built_keys (keyE k) (keyM k) (by simp) (by simp))
  have hl := Lib.hid (show (bv (keyE k ++ keyM k)).length = 64 by simp)
  replace hs := Lib.hid hs
  rw [← enc_str] at h1
  rw [← mac_str] at h2
  clear bk hlk
  generalize keyE k = E at *
  generalize keyM k = M at *
  go_enter Try.func11, Try.ntmps11
  go_wp2_with (refine wpList_allocA rfl 28 rfl (bv (zeros 64)) ks_zero ?_)
  intro w1 hb1 hK1 hz1
  have hB1 := (Below.refl w.heap.size w).trans (hK1.below (Nat.le_refl _) (by simp))
  clear hK1 hz1
  go_wp2_with fail
  refine (h1.out _ (hs.out.keep hB1)).mono ?_
  rintro e w2 ⟨rfl, hB2⟩
  have hB2' := below_call hB1 hB1.size hB2
  have hb2 := hb1.keep hB2
  clear hb1 hB1 hB2
  go_wp2_with fail
  refine (h2.out _ (hs.out.keep hB2')).mono ?_
  rintro e w3 ⟨rfl, hB3⟩
  have hB3' := below_call hB2' hB2'.size hB3
  have hb3 := hb2.keep hB3
  clear hb2 hB2' hB3
  go_wp2_with (first
    | refine wpList_buildV rfl 28 _ rfl _ rfl (bv (E ++ M)) hb.out ?_
    | refine wpList_storeW rfl 28 (.tmp 2) (.tmp 7) rfl 64 arrKs _ rfl (bv (E ++ M)) rfl 28 _ hb3 hl.out (by simp) (ones_bv _) ?_)
  intro w4 hb4 hK4
  go_wp2
  exact bodyPost_ret (v := .agg (bv (E ++ M)).toArray) (res_cell Try.results11 _ _ _ 28 _ arrKs hl.out rfl hb4) rfl ⟨rfl, hB3'.trans (hK4.below hB3'.size (by simp))⟩
end Go.Proofs.Ytlifpmglaoppoaa

/- Contracts of layer 12: Seal. -/
namespace Go.Proofs.Ytlifpmglaoppoaa
open Go.RowKit
open Go.Proofs.PlainAes
open Go.Proofs.PlainSha
open Go.Proofs.PlainMac
open Go.Proofs.PlainSeal

/-- A pointer's cells. -/
def pcells (a b : Nat) (s : List Nat) : List Value := .int .u32 (a : Int) :: .int .u64 (b : Int) :: bv s
@[simp] theorem pcells_length (a b : Nat) (s : List Nat) : (pcells a b s).length = 2 + s.length := by simp [pcells]; omega
theorem pcells_ones (a b : Nat) (s : List Nat) : Ones (pcells a b s) := by
  intro v hv
  simp only [pcells, List.mem_cons] at hv
  rcases hv with rfl | rfl | hv
  · rfl
  · rfl
  · exact ones_bv _ v hv
theorem arrPt : ArrTy Try.prog 41 34 := ⟨_, Try.underlying41, rfl, by kernel_rfl⟩
theorem pt_zero : (Try.prog.info? 41).bind (·.zero) = some (.agg (pcells 0 0 (zeros 32)).toArray) := by kernel_rfl
theorem built_ptr (a b : Nat) (s : List Nat) (hs : s.length = 32) : Try.prog.built 41 [(0, .int .u32 (a : Int)), (1, .int .u64 (b : Int)), (2, .agg (bv s).toArray)] = some (pcells a b s).toArray := by
  have hz := pt_zero
  cases hi : Try.prog.info? 41 with
  | none => rw [hi] at hz; cases hz
  | some it =>
    rw [hi] at hz
    rw [built_three (n := 32) hi Try.underlying41 hz (by simp) (by kernel_rfl) _ _ rfl rfl (bv s) (by simp [hs])]
    rfl
theorem fldK0 (g : Nat) (w : World) : (Instr.fieldAt 28 (.pointer (some ⟨g, 0, none⟩)) 0).run Try.prog w = .ok (.pointer (some ⟨g, 0, none⟩)) w := by kernel_rfl
theorem fldP0 (g : Nat) (w : World) : (Instr.fieldAt 41 (.pointer (some ⟨g, 0, none⟩)) 0).run Try.prog w = .ok (.pointer (some ⟨g, 0, none⟩)) w := by kernel_rfl
theorem fldP1 (g : Nat) (w : World) : (Instr.fieldAt 41 (.pointer (some ⟨g, 0, none⟩)) 1).run Try.prog w = .ok (.pointer (some ⟨g, 1, none⟩)) w := by kernel_rfl
theorem fldP2 (g : Nat) (w : World) : (Instr.fieldAt 41 (.pointer (some ⟨g, 0, none⟩)) 2).run Try.prog w = .ok (.pointer (some ⟨g, 2, none⟩)) w := by kernel_rfl
theorem SK0 {w : World} {g t : Nat} {E M : List Nat} (hE : (bv E).length = 32) (h : Blk w g t (bv (E ++ M))) : w.rangeAt g 0 (bv E) := by
  have e : bv (E ++ M) = bv E ++ bv M := by rw [bv_app]
  intro j v hv
  rw [h.cell, Nat.zero_add, e, List.getElem?_append_left (List.getElem?_eq_some_iff.1 hv).1, hv]
theorem SP2 {w : World} {g t a b : Nat} {s : List Nat} (h : Blk w g t (pcells a b s)) : w.rangeAt g 2 (bv s) := by
  intro j v hv
  rw [h.cell, ← hv, Nat.add_comm 2 j]
  rfl
/-- What a function answers: a place, a variable of many cells, a place. -/
theorem res_tct {P : Program} {fn : Func} {t p u : Tmp} {ty n : Nat} (h : fn.results = #[.tmp t, .cell p ty, .tmp u]) (tmps : Array Value) (w : World) (g : Nat) (tt : TypeId) (L : List Value) (hT : ArrTy P ty n) (hl : L.length = n)
    (hp : tmps.getD p undef = .pointer (some ⟨g, 0, none⟩)) (hb : Blk w g tt L) : (results fn tmps).run P w = .ok (.tuple #[tmps.getD t undef, .agg L.toArray, tmps.getD u undef]) w := by
  obtain ⟨d, hu, hd, hi⟩ := hT
  have hp' : tmps[p]?.getD undef = .pointer (some ⟨g, 0, none⟩) := by simpa using hp
  have hr := run_loadVar_row (P := P) w g tt ty L.toArray (0, 0) d hb hu (by cases d <;> simp_all) (by simpa [hl] using hi)
  simp [results, h, hp', asAddr, hr]
def RetS (k : List Nat) (b a : Nat) (l : List Nat) (w : World) (e : Ending) (w' : World) : Prop :=
  ∃ v, e = .returned (.tuple #[v, .agg (pcells a b (shaL (sealL k b a l))).toArray, .int .i64 0]) ∧ w'.ownsRow w.heap.size 5 1 v l.length (bv (sealL k b a l)) ∧ Below w.heap.size w w'
set_option maxRecDepth 100000 in
set_option maxHeartbeats 2000000 in
theorem seal_core (A : Option Addr) (n c : Nat) (E M l : List Nat) (b a : Nat) (w : World) (hn : n = 512) (hs : Sl w (.slice A n c) (bv l)) (hE : E.length = 32) (hM : M.length = 32) (bE : Byt E) (bl : Byt l) (hl : l.length = 512) (hb : (b : Int) ≤ 18446744073709551615) (hb0 : 1 ≤ (b : Int)) (ha : (a : Int) ≤ 4095) (ha2 : 2 ≤ (a : Int)) :
    Calls Try.prog 14 #[.agg (bv (E ++ M)).toArray, .int .u64 (b : Int), .int .u32 (a : Int), .slice A n c] w (RetS E b a l w) := by
  have hmade := Lib.hid (fun w => made_ctr b a w hb (by omega))
  have hcr0 := fun v w (h : Sl w v (bv l)) => crypt_any E (nonceL b a) l v w hE bE (nonceL_length b a) (nonceL_byt b a) bl (by omega) h
  have hcr := Lib.hid hcr0
  change Hid (∀ v w h, Calls _ _ _ w (RetOK (sealL E b a l) w)) at hcr
  have hsum := Lib.hid (fun v w (h : Sl w v (bv (sealL E b a l))) => shasum_any (sealL E b a l) v w h (sealL_byt bE b a bl) (by simp [hl]))
  have hbl := Lib.hid (built_ptr a b (shaL (sealL E b a l)) (shaL_len _))
  have hpl := Lib.hid (show (pcells a b (shaL (sealL E b a l))).length = 34 by simp)
  have hEl := Lib.hid (show (bv E).length = 32 by simp [hE])
  have hKl := Lib.hid (show (bv (E ++ M)).length = 64 by simp [hE, hM])
  have hcl : Hid ((sealL E b a l).length = 512) := by show _ = _; simp [hl]
  have hR : Hid (∀ e w', (∃ v, e = .returned (.tuple #[v, .agg (pcells a b (shaL (sealL E b a l))).toArray, .int .i64 0]) ∧ w'.ownsRow w.heap.size 5 1 v l.length (bv (sealL E b a l)) ∧ Below w.heap.size w w') → RetS E b a l w e w') := fun e w' h => h
  have sl := Lib.hid hs
  have hll := Lib.hid hl
  have n1 : ((b : Int) == 0) = false := by simp; omega
  have n2 : decide ((a : Int) < 2) = false := by simp; omega
  have n3 : decide ((4096 : Int) ≤ (a : Int)) = false := by simp; omega
  have hn' : (n : Int) = 512 := by omega
  clear hcr0 hs hE hM bE bl hl hb hb0 ha ha2 hn
  generalize RetS E b a l w = RX at *
  generalize shaL (sealL E b a l) = S at *
  generalize sealL E b a l = C at *
  generalize nonceL b a = N at *
  go_enter Try.func14, Try.ntmps14
  go_wp2_with (refine wpList_allocA rfl 41 rfl (pcells 0 0 (zeros 32)) pt_zero ?_)
  intro w1 h9 hK1 hz1
  have h4 := (Blk.new_at (w := w) (t := 28) (cs := (bv (E ++ M)).toArray) rfl rfl).keeps hK1 (by simp)
  have hB : Below w.heap.size w w1 := ((Below.refl _ _).alloc (Nat.le_refl _) _).trans (hK1.below (by simp) (by simp))
  try simp only [World.size_alloc] at h9
  have hB0 := Lib.hid hB.size
  clear hK1 hz1
  replace sl := Lib.hid (sl.out.keep hB)
  go_upto_region 3 with fail
  refine wp_region_held_drew (S := fun w' => Below w1.heap.size w1 w') (by kernel_rfl) ((Below.refl _ _).drew) (fun hH => ?_)
  refine takeH_field (o := ⟨some 30, _, _, _, _, _⟩) (i := 0) rfl (by kernel_rfl) (by kernel_rfl) (by kernel_rfl) (fun _ _ _ _ h => h) rfl 28 (.tmp 4) 0 rfl w.heap.size 0 rfl (fun w => fldK0 _ w) hH ?_
  simp only [Act.put, List.setIfInBounds_toArray, List.set_cons_zero, List.set_cons_succ, Nat.zero_add, decide_true, beq_self_eq_true]
  refine takeH_load (o := ⟨some 31, _, _, _, _, _⟩) (i := 1) rfl (by kernel_rfl) (by kernel_rfl) (by kernel_rfl) (fun _ _ _ _ h => h) rfl 25 (.tmp 30) rfl 32 arrK w.heap.size 0 rfl (bv E) hEl.out (fun w h => SK0 hEl.out (h4.keep h)) hH ?_
  simp only [Act.put, List.setIfInBounds_toArray, List.set_cons_zero, List.set_cons_succ, Nat.zero_add, decide_true, beq_self_eq_true]
  refine takeH_move (o := ⟨some 32, _, _, _, _, _⟩) (i := 2) rfl (by kernel_rfl) (by kernel_rfl) (by kernel_rfl) (fun _ _ _ _ h => h) rfl (.tmp 1) rfl (.int .u64 (b : Int)) rfl hH ?_
  simp only [Act.put, List.setIfInBounds_toArray, List.set_cons_zero, List.set_cons_succ, Nat.zero_add, decide_true, beq_self_eq_true]
  refine takeH_move (o := ⟨some 33, _, _, _, _, _⟩) (i := 3) rfl (by kernel_rfl) (by kernel_rfl) (by kernel_rfl) (fun _ _ _ _ h => h) rfl (.tmp 2) rfl (.int .u32 (a : Int)) rfl hH ?_
  simp only [Act.put, List.setIfInBounds_toArray, List.set_cons_zero, List.set_cons_succ, Nat.zero_add, decide_true, beq_self_eq_true]
  refine takeH_move (o := ⟨some 35, _, _, _, _, _⟩) (i := 5) rfl (by kernel_rfl) (by kernel_rfl) (by kernel_rfl) (fun _ _ _ _ h => h) rfl (.tmp 3) rfl (.slice A n c) rfl hH ?_
  simp only [Act.put, List.setIfInBounds_toArray, List.set_cons_zero, List.set_cons_succ, Nat.zero_add, decide_true, beq_self_eq_true]
  refine wpAnyH_ready (rs := [4]) (by kernel_rfl) (by simp) ?_
  refine AllReadyH.cons rfl (fun K1 hK1 => ?_) AllReadyH.nil
  rw [if_pos (by rfl)]
  go_wp2_with fail
  refine (hmade.out _).mono ?_
  rintro e wa ⟨rfl, hBa⟩
  refine hK1.out _ _ (below_call hH hH.size hBa) (fun hH => ?_)
  clear hK1 K1
  refine wpAnyH_ready (rs := [6]) (by kernel_rfl) (by simp) ?_
  refine AllReadyH.cons rfl (fun K1 hK1 => ?_) AllReadyH.nil
  rw [if_pos (by rfl)]
  go_wp2_with fail
  refine (hcr.out _ _ (sl.out.keep hH)).mono ?_
  rintro e wa ⟨v, rfl, oc, hBa⟩
  replace oc := Lib.hid (ownsRow_mono oc hH.size)
  refine hK1.out _ _ (below_call hH hH.size hBa) (fun hH => ?_)
  clear hK1 K1
  refine takeH_move (o := ⟨some 29, _, _, _, _, _⟩) (i := 7) rfl (by kernel_rfl) (by kernel_rfl) (by kernel_rfl) (fun _ _ _ _ h => h) rfl (.tmp 36) rfl (.tuple #[v, .int .i64 0]) rfl hH ?_
  simp only [Act.put, List.setIfInBounds_toArray, List.set_cons_zero, List.set_cons_succ, Nat.zero_add, decide_true, beq_self_eq_true]
  refine takeH_S (o := ⟨some 37, _, _, _, _, _⟩) (i := 8) rfl (by kernel_rfl) (by kernel_rfl) (by kernel_rfl) (fun _ _ _ _ h => h) rfl v (fun w _ => by go_simp) hH ?_
  simp only [Act.put, List.setIfInBounds_toArray, List.set_cons_zero, List.set_cons_succ, Nat.zero_add, decide_true, beq_self_eq_true]
  refine takeH_S (o := ⟨some 38, _, _, _, _, _⟩) (i := 9) rfl (by kernel_rfl) (by kernel_rfl) (by kernel_rfl) (fun _ _ _ _ h => h) rfl (.int .i64 0) (fun w _ => by go_simp) hH ?_
  simp only [Act.put, List.setIfInBounds_toArray, List.set_cons_zero, List.set_cons_succ, Nat.zero_add, decide_true, beq_self_eq_true]
  refine takeH_assign (o := ⟨some 11, _, _, _, _, _⟩) (i := 10) rfl (by kernel_rfl) (by kernel_rfl) (by kernel_rfl) (fun _ _ _ _ h => h) rfl (.tmp 37) rfl v rfl hH ?_
  simp only [Act.put, List.setIfInBounds_toArray, List.set_cons_zero, List.set_cons_succ, Nat.zero_add, decide_true, beq_self_eq_true]
  refine takeH_assign (o := ⟨some 12, _, _, _, _, _⟩) (i := 11) rfl (by kernel_rfl) (by kernel_rfl) (by kernel_rfl) (fun _ _ _ _ h => h) rfl (.tmp 38) rfl (.int .i64 0) rfl hH ?_
  simp only [Act.put, List.setIfInBounds_toArray, List.set_cons_zero, List.set_cons_succ, Nat.zero_add, decide_true, beq_self_eq_true]
  refine wpAnyH_done (by kernel_rfl) ?_ _
  have oc1 := oc.out
  obtain ⟨Av, cv, rfl, -⟩ := own_shape oc1
  have sv := Lib.hid (Sl.of_own oc1)
  have h9' := h9.keep hH
  replace hB := below_call hB hB.size hH
  have hocb := Lib.hid oc1
  have hg9 := Lib.hid h9.lt
  clear oc oc1 h4 h9 hH
  go_wp2_with fail
  refine (hsum.out _ _ sv.out).mono ?_
  rintro e w5 ⟨rfl, hB5⟩
  have h95 := h9'.keep hB5
  have hB5' := below_call hB hB.size hB5
  have oc5 := Lib.hid (own_keep hocb.out hB5)
  clear h9' hB hB5 hocb sv
  go_wp2_with (first
    | refine wpList_buildV rfl 41 _ rfl _ rfl (pcells a b S) hbl.out ?_
    | refine wpList_storeW rfl 41 (.tmp 9) (.tmp 48) rfl 34 arrPt _ rfl (pcells a b S) rfl 41 _ h95 hpl.out (by simp) (pcells_ones _ _ _) ?_)
  intro w6 h6 hK6
  have hB6 := hB5'.trans (hK6.below hB5'.size (by simp))
  have oc6 := Lib.hid (ownsRow_mono (own_keeps oc5.out hK6 (fun k hk _ hm => by simp only [List.mem_singleton] at hm; have := hg9.out; omega)) hB0.out)
  rw [hcl.out, ← hll.out] at oc6
  go_wp2
  exact bodyPost_ret (res_tct Try.results14 _ _ _ 41 _ arrPt hpl.out rfl h6) rfl (hR.out _ _ ⟨_, rfl, by rw [hcl.out]; simpa [hll.out] using oc6.out, hB6⟩)
theorem sealed_any (v : Value) (E M l : List Nat) (b a : Nat) (w : World) (hs : Sl w v (bv l)) (hE : E.length = 32) (hM : M.length = 32) (bE : Byt E) (bl : Byt l) (hl : l.length = 512) (hb : (b : Int) ≤ 18446744073709551615) (hb0 : 1 ≤ (b : Int)) (ha : (a : Int) ≤ 4095) (ha2 : 2 ≤ (a : Int)) :
    Calls Try.prog 14 #[.agg (bv (E ++ M)).toArray, .int .u64 (b : Int), .int .u32 (a : Int), v] w (RetS E b a l w) := by
  obtain ⟨A, c, rfl, -⟩ := id hs
  exact seal_core A _ c E M l b a w (by simp [hl]) hs hE hM bE bl hl hb hb0 ha ha2
end Go.Proofs.Ytlifpmglaoppoaa

/- Contracts of layer 12: Fits, Open. -/
namespace Go.Proofs.Ytlifpmglaoppoaa
open Go.RowKit
open Go.Proofs.PlainAes
open Go.Proofs.PlainSha
open Go.Proofs.PlainMac
open Go.Proofs.PlainSeal

def RetF (l s : List Nat) (w : World) (e : Ending) (w' : World) : Prop := e = .returned (.bool (decide (shaL l = s))) ∧ Below w.heap.size w w'
set_option maxRecDepth 100000 in
set_option maxHeartbeats 2000000 in
theorem fits_core (A : Option Addr) (n c : Nat) (l s : List Nat) (b a : Nat) (w : World) (hn : n = 512) (hs : Sl w (.slice A n c) (bv l)) (bl : Byt l) (hl : l.length = 512) (hsl : s.length = 32) :
    Calls Try.prog 20 #[.agg (pcells a b s).toArray, .slice A n c] w (RetF l s w) := by
  have hsum := Lib.hid (fun w (h : Sl w (.slice A n c) (bv l)) => shasum_any l _ w h bl (by omega))
  have hS1 := Lib.hid (shaL_len l)
  have hs1 := Lib.hid hsl
  have sl := Lib.hid hs
  replace hsl := Lib.hid (show (bv s).length = 32 by simp [hsl])
  have hn' : (n : Int) = 512 := by omega
  have hR : Hid (∀ w', Below w.heap.size w w' → RetF l s w (.returned (.bool (decide (shaL l = s)))) w') := fun w' h => ⟨rfl, h⟩
  clear hs bl hl hn
  generalize RetF l s w = RX at *
  generalize shaL l = S at *
  go_enter Try.func20, Try.ntmps20
  go_upto_region 1 with fail
  have h2 : Blk (w.alloc (.cells (pcells a b s).toArray 41)) w.heap.size 41 (pcells a b s) := Blk.new_at rfl rfl
  have hB : Below w.heap.size w (w.alloc (.cells (pcells a b s).toArray 41)) := (Below.refl _ _).alloc (Nat.le_refl _) _
  replace sl := Lib.hid (sl.out.keep hB)
  generalize w.alloc (.cells (pcells a b s).toArray 41) = w1 at *
  refine wp_region_held_drew (S := fun w' => Below w1.heap.size w1 w') (by kernel_rfl) ((Below.refl _ _).drew) (fun hH => ?_)
  refine takeH_move (o := ⟨some 5, _, _, _, _, _⟩) (i := 0) rfl (by kernel_rfl) (by kernel_rfl) (by kernel_rfl) (fun _ _ _ _ h => h) rfl (.tmp 1) rfl (.slice A n c) rfl hH ?_
  simp only [Act.put, List.setIfInBounds_toArray, List.set_cons_zero, List.set_cons_succ, Nat.zero_add, decide_true, beq_self_eq_true]
  refine takeH_len (o := ⟨some 6, _, _, _, _, _⟩) (i := 1) rfl (by kernel_rfl) (by kernel_rfl) (by kernel_rfl) (fun _ _ _ _ h => h) rfl 22 5 (.tmp 5) rfl Try.underlying22 _ _ _ rfl hH ?_
  simp only [Act.put, List.setIfInBounds_toArray, List.set_cons_zero, List.set_cons_succ, Nat.zero_add, decide_true, beq_self_eq_true]
  refine takeH_eqInt (o := ⟨some 7, _, _, _, _, _⟩) (i := 2) rfl (by kernel_rfl) (by kernel_rfl) (by kernel_rfl) (fun _ _ _ _ h => h) rfl 3 3 .i64 (.tmp 6) (.const (.int .i64 512)) rfl Try.underlying3 _ _ rfl rfl (hn') hH ?_
  simp only [Act.put, List.setIfInBounds_toArray, List.set_cons_zero, List.set_cons_succ, Nat.zero_add, decide_true, beq_self_eq_true]
  refine takeH_move (o := ⟨some 8, _, _, _, _, _⟩) (i := 3) rfl (by kernel_rfl) (by kernel_rfl) (by kernel_rfl) (fun _ _ _ _ h => h) rfl (.tmp 7) rfl (.bool true) rfl hH ?_
  simp only [Act.put, List.setIfInBounds_toArray, List.set_cons_zero, List.set_cons_succ, Nat.zero_add, decide_true, beq_self_eq_true]
  refine takeH_move (o := ⟨some 9, _, _, _, _, _⟩) (i := 4) rfl (by kernel_rfl) (by kernel_rfl) (by kernel_rfl) (fun _ _ _ _ h => h) rfl (.tmp 1) rfl (.slice A n c) rfl hH ?_
  simp only [Act.put, List.setIfInBounds_toArray, List.set_cons_zero, List.set_cons_succ, Nat.zero_add, decide_true, beq_self_eq_true]
  refine takeH_field (o := ⟨some 11, _, _, _, _, _⟩) (i := 6) rfl (by kernel_rfl) (by kernel_rfl) (by kernel_rfl) (fun _ _ _ _ h => h) rfl 41 (.tmp 2) 2 rfl w.heap.size 2 rfl (fun w => fldP2 _ w) hH ?_
  simp only [Act.put, List.setIfInBounds_toArray, List.set_cons_zero, List.set_cons_succ, Nat.zero_add, decide_true, beq_self_eq_true]
  refine takeH_load (o := ⟨some 12, _, _, _, _, _⟩) (i := 7) rfl (by kernel_rfl) (by kernel_rfl) (by kernel_rfl) (fun _ _ _ _ h => h) rfl 26 (.tmp 11) rfl 32 arrH w.heap.size 2 rfl (bv s) hsl.out (fun w h => SP2 (h2.keep h)) hH ?_
  simp only [Act.put, List.setIfInBounds_toArray, List.set_cons_zero, List.set_cons_succ, Nat.zero_add, decide_true, beq_self_eq_true]
  refine wpAnyH_ready (rs := [5]) (by kernel_rfl) (by simp) ?_
  refine AllReadyH.cons rfl (fun K1 hK1 => ?_) AllReadyH.nil
  rw [if_pos (by rfl)]
  go_wp2_with fail
  refine (hsum.out _ (sl.out.keep hH)).mono ?_
  rintro e wa ⟨rfl, hBa⟩
  refine hK1.out _ _ (below_call hH hH.size hBa) (fun hH => ?_)
  clear hK1 K1
  refine takeH_eqlB (o := ⟨some 13, _, _, _, _, _⟩) (i := 8) rfl (by kernel_rfl) (by kernel_rfl) (by kernel_rfl) (fun _ _ _ _ h => h) rfl 26 (.tmp 10) (.tmp 12) 26 rfl 32 bytH S s rfl rfl hS1.out hs1.out hH ?_
  simp only [Act.put, List.setIfInBounds_toArray, List.set_cons_zero, List.set_cons_succ, Nat.zero_add, decide_true, beq_self_eq_true]
  refine takeH_pick (o := ⟨some 14, _, _, _, _, _⟩) (i := 9) rfl (by kernel_rfl) (by kernel_rfl) (by kernel_rfl) (fun _ _ _ _ h => h) rfl (.tmp 8) (.tmp 13) (.const (.bool false)) rfl true rfl (.bool (decide (S = s))) rfl hH ?_
  simp only [Act.put, List.setIfInBounds_toArray, List.set_cons_zero, List.set_cons_succ, Nat.zero_add, decide_true, beq_self_eq_true]
  refine takeH_assign (o := ⟨some 4, _, _, _, _, _⟩) (i := 10) rfl (by kernel_rfl) (by kernel_rfl) (by kernel_rfl) (fun _ _ _ _ h => h) rfl (.tmp 14) rfl (.bool (decide (S = s))) rfl hH ?_
  simp only [Act.put, List.setIfInBounds_toArray, List.set_cons_zero, List.set_cons_succ, Nat.zero_add, decide_true, beq_self_eq_true]
  refine wpAnyH_done (by kernel_rfl) ?_ _
  replace hB := below_call hB hB.size hH
  clear hH h2
  go_wp2
  exact hR.out _ hB
theorem fits12 (v : Value) (l s : List Nat) (b a : Nat) (w : World) (hs : Sl w v (bv l)) (bl : Byt l) (hl : l.length = 512) (hsl : s.length = 32) :
    Calls Try.prog 20 #[.agg (pcells a b s).toArray, v] w (RetF l s w) := by
  obtain ⟨A, c, rfl, -⟩ := id hs
  exact fits_core A _ c l s b a w (by simp [hl]) hs bl hl hsl
def RetOp (k : List Nat) (b a : Nat) (l s : List Nat) (w : World) (e : Ending) (w' : World) : Prop :=
  (shaL l = s → RetOK (sealL k b a l) w e w') ∧ (shaL l ≠ s → e = .returned (.tuple #[.slice none 0 0, .int .i64 5]) ∧ Below w.heap.size w w')
set_option maxRecDepth 100000 in
set_option maxHeartbeats 2000000 in
theorem openS_core (A : Option Addr) (n c : Nat) (E M l s : List Nat) (b a : Nat) (w : World) (hn : n = 512) (hs : Sl w (.slice A n c) (bv l)) (hE : E.length = 32) (hM : M.length = 32) (bE : Byt E) (bl : Byt l) (hl : l.length = 512) (hsl : s.length = 32) (hb : (b : Int) ≤ 18446744073709551615) (ha : (a : Int) ≤ 4294967295) :
    Calls Try.prog 17 #[.agg (bv (E ++ M)).toArray, .agg (pcells a b s).toArray, .slice A n c] w (RetOp E b a l s w) := by
  have hmade := Lib.hid (fun w => made_ctr b a w hb ha)
  have hcr0 := fun v w (h : Sl w v (bv l)) => crypt_any E (nonceL b a) l v w hE bE (nonceL_length b a) (nonceL_byt b a) bl (by omega) h
  have hcr := Lib.hid hcr0
  change Hid (∀ v w h, Calls _ _ _ w (RetOK (sealL E b a l) w)) at hcr
  have hfit := Lib.hid (fun w (h : Sl w (.slice A n c) (bv l)) => fits12 _ l s b a w h bl hl hsl)
  unfold RetF at hfit
  have hEl := Lib.hid (show (bv E).length = 32 by simp [hE])
  have hcl : Hid ((sealL E b a l).length = 512) := by show _ = _; simp [hl]
  have hR1 : Hid (∀ e w', shaL l = s → (∃ v, e = .returned (.tuple #[v, .int .i64 0]) ∧ w'.ownsRow w.heap.size 5 1 v (sealL E b a l).length (bv (sealL E b a l)) ∧ Below w.heap.size w w') → RetOp E b a l s w e w') := fun e w' h1 h => ⟨fun _ => h, fun h2 => absurd h1 h2⟩
  have hR2 : Hid (∀ e w', shaL l ≠ s → e = .returned (.tuple #[.slice none 0 0, .int .i64 5]) ∧ Below w.heap.size w w' → RetOp E b a l s w e w') := fun e w' h1 h => ⟨fun h2 => absurd h2 h1, fun _ => h⟩
  have hpl := Lib.hid (show (pcells a b s).length = 34 by simp [hsl])
  have sl := Lib.hid hs
  have hn' : (n : Int) = 512 := by omega
  clear hcr0 hs hE hM bE bl hl hb ha hn hsl
  generalize RetOp E b a l s w = RX at *
  generalize shaL l = S at *
  generalize sealL E b a l = C at *
  generalize nonceL b a = N at *
  by_cases hSs : S = s
  · rw [decide_eq_true hSs] at hfit
    replace hSs := Lib.hid hSs
    go_enter Try.func17, Try.ntmps17
    have h3 : Blk ((w.alloc (.cells (bv (E ++ M)).toArray 28)).alloc (.cells (pcells a b s).toArray 41)) w.heap.size 28 (bv (E ++ M)) := (Blk.new_at rfl rfl).alloc _
    have h4 : Blk ((w.alloc (.cells (bv (E ++ M)).toArray 28)).alloc (.cells (pcells a b s).toArray 41)) (w.heap.size + 1) 41 (pcells a b s) := Blk.new_at (by simp) rfl
    have hB : Below w.heap.size w ((w.alloc (.cells (bv (E ++ M)).toArray 28)).alloc (.cells (pcells a b s).toArray 41)) := ((Below.refl _ _).alloc (Nat.le_refl _) _).alloc (by simp) _
    replace sl := Lib.hid (sl.out.keep hB)
    go_wp2_with (first
      | refine wpList_loadW rfl 41 (.tmp 4) rfl 34 arrPt _ rfl 41 _ h4 hpl.out ?_)
    refine (hfit.out _ sl.out).mono ?_
    rintro e w2 ⟨rfl, hB2⟩
    replace h3 := h3.keep hB2
    replace h4 := h4.keep hB2
    replace sl := Lib.hid (sl.out.keep hB2)
    replace hB := below_call hB hB.size hB2
    clear hB2
    go_upto_region 5 with fail
    refine wp_region_held_drew (S := fun w' => Below w2.heap.size w2 w') (by kernel_rfl) ((Below.refl _ _).drew) (fun hH => ?_)
    refine takeH_field (o := ⟨some 17, _, _, _, _, _⟩) (i := 0) rfl (by kernel_rfl) (by kernel_rfl) (by kernel_rfl) (fun _ _ _ _ h => h) rfl 28 (.tmp 3) 0 rfl w.heap.size 0 rfl (fun w => fldK0 _ w) hH ?_
    simp only [Act.put, List.setIfInBounds_toArray, List.set_cons_zero, List.set_cons_succ, Nat.zero_add, decide_true, beq_self_eq_true]
    refine takeH_load (o := ⟨some 18, _, _, _, _, _⟩) (i := 1) rfl (by kernel_rfl) (by kernel_rfl) (by kernel_rfl) (fun _ _ _ _ h => h) rfl 25 (.tmp 17) rfl 32 arrK w.heap.size 0 rfl (bv E) hEl.out (fun w h => SK0 hEl.out (h3.keep h)) hH ?_
    simp only [Act.put, List.setIfInBounds_toArray, List.set_cons_zero, List.set_cons_succ, Nat.zero_add, decide_true, beq_self_eq_true]
    refine takeH_field (o := ⟨some 19, _, _, _, _, _⟩) (i := 2) rfl (by kernel_rfl) (by kernel_rfl) (by kernel_rfl) (fun _ _ _ _ h => h) rfl 41 (.tmp 4) 1 rfl (w.heap.size + 1) 1 rfl (fun w => fldP1 _ w) hH ?_
    simp only [Act.put, List.setIfInBounds_toArray, List.set_cons_zero, List.set_cons_succ, Nat.zero_add, decide_true, beq_self_eq_true]
    refine takeH_cell (o := ⟨some 20, _, _, _, _, _⟩) (i := 3) rfl (by kernel_rfl) (by kernel_rfl) (by kernel_rfl) (fun _ _ _ _ h => h) rfl 34 (.tmp 19) rfl Try.underlying34 rfl (w.heap.size + 1) 1 rfl (.int .u64 (b : Int)) (fun w h => (h4.keep h).cell 1) hH ?_
    simp only [Act.put, List.setIfInBounds_toArray, List.set_cons_zero, List.set_cons_succ, Nat.zero_add, decide_true, beq_self_eq_true]
    refine takeH_field (o := ⟨some 21, _, _, _, _, _⟩) (i := 4) rfl (by kernel_rfl) (by kernel_rfl) (by kernel_rfl) (fun _ _ _ _ h => h) rfl 41 (.tmp 4) 0 rfl (w.heap.size + 1) 0 rfl (fun w => fldP0 _ w) hH ?_
    simp only [Act.put, List.setIfInBounds_toArray, List.set_cons_zero, List.set_cons_succ, Nat.zero_add, decide_true, beq_self_eq_true]
    refine takeH_cell (o := ⟨some 22, _, _, _, _, _⟩) (i := 5) rfl (by kernel_rfl) (by kernel_rfl) (by kernel_rfl) (fun _ _ _ _ h => h) rfl 35 (.tmp 21) rfl Try.underlying35 rfl (w.heap.size + 1) 0 rfl (.int .u32 (a : Int)) (fun w h => (h4.keep h).cell 0) hH ?_
    simp only [Act.put, List.setIfInBounds_toArray, List.set_cons_zero, List.set_cons_succ, Nat.zero_add, decide_true, beq_self_eq_true]
    refine takeH_move (o := ⟨some 24, _, _, _, _, _⟩) (i := 7) rfl (by kernel_rfl) (by kernel_rfl) (by kernel_rfl) (fun _ _ _ _ h => h) rfl (.tmp 2) rfl (.slice A n c) rfl hH ?_
    simp only [Act.put, List.setIfInBounds_toArray, List.set_cons_zero, List.set_cons_succ, Nat.zero_add, decide_true, beq_self_eq_true]
    refine wpAnyH_ready (rs := [6]) (by kernel_rfl) (by simp) ?_
    refine AllReadyH.cons rfl (fun K1 hK1 => ?_) AllReadyH.nil
    rw [if_pos (by rfl)]
    go_wp2_with fail
    refine (hmade.out _).mono ?_
    rintro e wa ⟨rfl, hBa⟩
    refine hK1.out _ _ (below_call hH hH.size hBa) (fun hH => ?_)
    clear hK1 K1
    refine wpAnyH_ready (rs := [8]) (by kernel_rfl) (by simp) ?_
    refine AllReadyH.cons rfl (fun K1 hK1 => ?_) AllReadyH.nil
    rw [if_pos (by rfl)]
    go_wp2_with fail
    refine (hcr.out _ _ (sl.out.keep hH)).mono ?_
    rintro e wa ⟨v, rfl, oc, hBa⟩
    replace oc := Lib.hid (ownsRow_mono oc hH.size)
    refine hK1.out _ _ (below_call hH hH.size hBa) (fun hH => ?_)
    clear hK1 K1
    refine takeH_S (o := ⟨some 26, _, _, _, _, _⟩) (i := 9) rfl (by kernel_rfl) (by kernel_rfl) (by kernel_rfl) (fun _ _ _ _ h => h) rfl v (fun w _ => by go_simp) hH ?_
    simp only [Act.put, List.setIfInBounds_toArray, List.set_cons_zero, List.set_cons_succ, Nat.zero_add, decide_true, beq_self_eq_true]
    refine takeH_S (o := ⟨some 27, _, _, _, _, _⟩) (i := 10) rfl (by kernel_rfl) (by kernel_rfl) (by kernel_rfl) (fun _ _ _ _ h => h) rfl (.int .i64 0) (fun w _ => by go_simp) hH ?_
    simp only [Act.put, List.setIfInBounds_toArray, List.set_cons_zero, List.set_cons_succ, Nat.zero_add, decide_true, beq_self_eq_true]
    refine takeH_assign (o := ⟨some 6, _, _, _, _, _⟩) (i := 11) rfl (by kernel_rfl) (by kernel_rfl) (by kernel_rfl) (fun _ _ _ _ h => h) rfl (.tmp 26) rfl v rfl hH ?_
    simp only [Act.put, List.setIfInBounds_toArray, List.set_cons_zero, List.set_cons_succ, Nat.zero_add, decide_true, beq_self_eq_true]
    refine takeH_assign (o := ⟨some 7, _, _, _, _, _⟩) (i := 12) rfl (by kernel_rfl) (by kernel_rfl) (by kernel_rfl) (fun _ _ _ _ h => h) rfl (.tmp 27) rfl (.int .i64 0) rfl hH ?_
    simp only [Act.put, List.setIfInBounds_toArray, List.set_cons_zero, List.set_cons_succ, Nat.zero_add, decide_true, beq_self_eq_true]
    refine wpAnyH_done (by kernel_rfl) ?_ _
    have oc6 := Lib.hid (ownsRow_mono oc.out hB.size)
    replace hB := below_call hB hB.size hH
    clear hH h3 h4 oc
    go_wp2
    exact hR1.out _ _ hSs.out ⟨_, rfl, oc6.out, hB⟩
  · rw [decide_eq_false hSs] at hfit
    replace hSs := Lib.hid hSs
    go_enter Try.func17, Try.ntmps17
    have h4 : Blk ((w.alloc (.cells (bv (E ++ M)).toArray 28)).alloc (.cells (pcells a b s).toArray 41)) (w.heap.size + 1) 41 (pcells a b s) := Blk.new_at (by simp) rfl
    have hB : Below w.heap.size w ((w.alloc (.cells (bv (E ++ M)).toArray 28)).alloc (.cells (pcells a b s).toArray 41)) := ((Below.refl _ _).alloc (Nat.le_refl _) _).alloc (by simp) _
    replace sl := Lib.hid (sl.out.keep hB)
    go_wp2_with (first
      | refine wpList_loadW rfl 41 (.tmp 4) rfl 34 arrPt _ rfl 41 _ h4 hpl.out ?_)
    refine (hfit.out _ sl.out).mono ?_
    rintro e w2 ⟨rfl, hB2⟩
    replace hB := below_call hB hB.size hB2
    clear hB2 h4
    go_wp2
    exact hR2.out _ _ hSs.out ⟨rfl, hB⟩
theorem opened_any (v : Value) (E M l s : List Nat) (b a : Nat) (w : World) (hs : Sl w v (bv l)) (hE : E.length = 32) (hM : M.length = 32) (bE : Byt E) (bl : Byt l) (hl : l.length = 512) (hsl : s.length = 32) (hb : (b : Int) ≤ 18446744073709551615) (ha : (a : Int) ≤ 4294967295) :
    Calls Try.prog 17 #[.agg (bv (E ++ M)).toArray, .agg (pcells a b s).toArray, v] w (RetOp E b a l s w) := by
  obtain ⟨A, c, rfl, -⟩ := id hs
  exact openS_core A _ c E M l s b a w (by simp [hl]) hs hE hM bE bl hl hsl hb ha
end Go.Proofs.Ytlifpmglaoppoaa

/- Contracts of layer 12's statements: block. -/
namespace Go.Proofs.Ytlifpmglaoppoaa
open Go.RowKit
open Go.Proofs.PlainAes
open Go.Proofs.PlainSeal

theorem made_bytes12 (w : World) (n : Nat) : Blk (w.alloc (.cells (madeCells #[.int .u8 0] n) 5)) w.heap.size 5 (bv (zeros n)) := by
  have := Blk.new w 5 (madeCells #[.int .u8 0] n)
  rw [toList_madeCells_one] at this
  unfold zeros bv
  rw [List.map_replicate]
  exact this
def RetK (l : List Nat) (w : World) (e : Ending) (w' : World) : Prop := ∃ g, e = .returned (.slice (some ⟨g, 0, none⟩) 512 512) ∧ w.heap.size ≤ g ∧ Blk w' g 5 (bv (blkL l)) ∧ Below w.heap.size w w'
set_option maxRecDepth 100000 in
set_option maxHeartbeats 1000000 in
theorem block_core (A : Option Addr) (n c : Nat) (l : List Nat) (w : World) (hn : n = l.length) (hs : Sl w (.slice A n c) (bv l)) (bl : Byt l) (hl : (l.length : Int) ≤ 549755813888) :
    Calls Try.prog 22 #[.slice A n c] w (RetK l w) := by
  have hmk : ∀ w, (Instr.makeSlice 22 (.int .i64 512) (.int .i64 512)).run Try.prog w = .ok (.slice (some ⟨w.heap.size, 0, none⟩) 512 512) (w.alloc (.cells (madeCells #[.int .u8 0] 512) 5)) :=
    run_make_row' (P := Try.prog) 22 5 (.int .u8 0) 1 Try.underlying22 (by kernel_rfl) rfl .i64 .i64 512 (by omega) (by omega)
  have hXl := Lib.hid (blkL_length l)
  have hXg : Hid (∀ k, k < 512 → 0 < n → (blkL l)[k]? = some (gd l (k % n))) := fun k hk h0 => by
    unfold blkL; rw [mk_get _ hk, if_pos (by omega), hn]
  have hX0 : Hid (n = 0 → bv (blkL l) = bv (zeros 512)) := fun h0 => by
    have : l = [] := List.length_eq_zero_iff.1 (by omega)
    subst this; rw [blkL_nil]; rfl
  have Hs := Lib.hid hs
  have hnl := Lib.hid hn
  have hnI : (n : Int) ≤ 549755813888 := by omega
  have hR : Hid (∀ w', Blk w' w.heap.size 5 (bv (blkL l)) → Below w.heap.size w w' → RetK l w (.returned (.slice (some ⟨w.heap.size, 0, none⟩) 512 512)) w') := fun w' h1 h2 => ⟨_, rfl, Nat.le_refl _, h1, h2⟩
  have h6 := made_bytes12 w 512
  have hB6 := (Below.refl w.heap.size w).alloc (Nat.le_refl _) (.cells (madeCells #[.int .u8 0] 512) 5)
  clear hs hn hl
  generalize RetK l w = RX at *
  generalize hXe : blkL l = X at *
  clear hXe
  by_cases h0 : 0 < n
  · have h0I : 0 < (n : Int) := by omega
    have hgt : decide (0 < (n : Int)) = true := by simp; omega
    clear hX0
    go_enter Try.func22, Try.ntmps22
    go_wp2
    go_loopw [8] (fun i wr => ∃ k : Nat, (k : Int) ≤ 512 ∧ i = .int .i64 (k : Int) ∧ Blk wr w.heap.size 5 (bv (upd X (zeros 512) k)) ∧ Below w.heap.size w wr) (fun i _ => 512 - (intOf i).toNat)
    case atStart => exact ⟨0, by omega, rfl, by rw [upd_zero]; exact h6, hB6⟩
    case round =>
      clear h6 hB6
      obtain ⟨k, hk, rfl, hb, hB⟩ := hrel
      by_cases hlt : (k : Int) < 512
      · have hm : k % n < n := Nat.mod_lt _ h0
        have q : Int.tmod (k : Int) (n : Int) = ((k % n : Nat) : Int) := by rw [Int.tmod_eq_emod_of_nonneg (by omega)]; rfl
        have q0 : (0 : Int) ≤ ((k % n : Nat) : Int) := by omega
        have q1 : ((k % n : Nat) : Int) < (n : Int) := by omega
        have hl1 := Lib.hid (hXg.out k (by omega) h0)
        have hkn := (gd_get (l := l) (i := k % n) (by rw [← hnl.out]; exact hm))
        generalize gd l (k % n) = y at *
        generalize k % n = m at *
        obtain ⟨gk, ok, rfl, hkc⟩ := (Hs.out.keep hB).at_ (k := m) (u := .int .u8 (y : Int)) (by rw [bv_get, hkn]; rfl)
        have c0 := hb.cell k
        rw [bv_get, upd_get (by rw [hXl.out]; simp) (Nat.le_refl _) (by simp; omega), zeros_get (by omega)] at c0
        simp only [Option.map_some] at c0
        have f0 := hb.frozen k
        have HS := Lib.hid (upd_set (new := X) (old := zeros 512) (k := k) (by rw [hXl.out]; simp) (by simp; omega) hl1.out)
        clear hkn hm
        go_wp2_with fail
        go_roundw
        case rel =>
          refine ⟨k + 1, by omega, by go_num, ?_, hB.setCell (by simp) _⟩
          rw [← HS.out, ← bv_set]
          exact hb.set_ k _
        case measure => simp [intOf]; omega
      · obtain rfl : k = 512 := by omega
        rw [upd_all hXl.out (by simp)] at hb
        go_wp2
        exact hR.out _ hb hB
  · obtain rfl : n = 0 := by omega
    have hX := Lib.hid (hX0.out rfl)
    clear hX0 hXg h0
    rw [← hX.out] at h6
    go_enter Try.func22, Try.ntmps22
    go_wp2
    go_loopw [8] (fun i wr => ∃ k : Nat, (k : Int) ≤ 512 ∧ i = .int .i64 (k : Int) ∧ Blk wr w.heap.size 5 (bv X) ∧ Below w.heap.size w wr) (fun i _ => 512 - (intOf i).toNat)
    case atStart => exact ⟨0, by omega, rfl, h6, hB6⟩
    case round =>
      clear h6 hB6
      obtain ⟨k, hk, rfl, hb, hB⟩ := hrel
      by_cases hlt : (k : Int) < 512
      · go_wp2
        go_roundw
        case rel => exact ⟨k + 1, by omega, by go_num, hb, hB⟩
        case measure => simp [intOf]; omega
      · go_wp2
        exact hR.out _ hb hB
theorem block12 (v : Value) (l : List Nat) (w : World) (hs : Sl w v (bv l)) (bl : Byt l) (hl : (l.length : Int) ≤ 549755813888) :
    Calls Try.prog 22 #[v] w (RetK l w) := by
  obtain ⟨A, c, rfl, -⟩ := id hs
  exact block_core A _ c l w (by simp) hs bl hl
end Go.Proofs.Ytlifpmglaoppoaa

/- Layer 12's statements: what they all need of their parts. -/
namespace Go.Proofs.Ytlifpmglaoppoaa
open Go.RowKit
open Go.Proofs.PlainAes
open Go.Proofs.PlainSha
open Go.Proofs.PlainMac
open Go.Proofs.PlainSeal

theorem blk_sl {w : World} {g t : Nat} {l : List Nat} (h : Blk w g t (bv l)) (hl : l.length = 512) : Sl w (.slice (some ⟨g, 0, none⟩) 512 512) (bv l) := by
  have := Sl.of_blk (n := 512) (c := 512) h (Nat.le_refl _) (by simp [hl]) (by unfold maxLen; omega)
  rwa [List.take_of_length_le (by simp [hl])] at this
/-- What Seal answers, its parts by name. -/
def RetT (C S : List Nat) (a b : Nat) (w : World) (e : Ending) (w' : World) : Prop :=
  ∃ A c, e = .returned (.tuple #[.slice A 512 c, .agg (pcells a b S).toArray, .int .i64 0]) ∧ w'.ownsRow w.heap.size 5 1 (.slice A 512 c) 512 (bv C) ∧ Below w.heap.size w w'
theorem sealed_blk (v : Value) (E M l : List Nat) (b a : Nat) (w : World) (hs : Sl w v (bv (blkL l))) (hE : E.length = 32) (hM : M.length = 32) (bE : Byt E) (bl : Byt l) (hb : (b : Int) ≤ 18446744073709551615) (hb0 : 1 ≤ (b : Int)) (ha : (a : Int) ≤ 4095) (ha2 : 2 ≤ (a : Int)) :
    Calls Try.prog 14 #[.agg (bv (E ++ M)).toArray, .int .u64 (b : Int), .int .u32 (a : Int), v] w (RetT (sealL E b a (blkL l)) (shaL (sealL E b a (blkL l))) a b w) :=
  (sealed_any v E M (blkL l) b a w hs hE hM bE (blkL_byt bl) (blkL_length l) hb hb0 ha ha2).mono (by
    rintro e w' ⟨v, rfl, oc, hB⟩
    rw [blkL_length] at oc
    obtain ⟨A, c, rfl, -⟩ := own_shape oc
    exact ⟨A, c, rfl, oc, hB⟩)
/-- Keys of the first field alone. -/
theorem built_key1 (x : List Nat) (hx : x.length = 32) : Try.prog.built 28 [(0, .agg (bv x).toArray)] = some (bv (x ++ zeros 32)).toArray := by
  have hz := ks_zero
  cases hi : Try.prog.info? 28 with
  | none => rw [hi] at hz; cases hz
  | some it =>
    rw [hi] at hz
    rw [built_fst (n := 32) (z := bv (zeros 64)) (z2 := bv (zeros 32)) (r := [(32, 32)]) hi Try.underlying28 hz (by rfl) (by simp) (by kernel_rfl) (bv x) (by simp [hx]), bv_app]
/-- The own row's block is none that was there. -/
theorem own_ne {w : World} {B n c : Nat} {A : Option Addr} {xs : List Value} (h : w.ownsRow B 5 1 (.slice A n c) n xs) {g : Nat} (hg : g < B) : ∀ k, (Value.slice A n c).ownBlock = some k → k ≠ g := fun k hk e => by
  have := (h.lt k hk).1
  omega
theorem own_ne2 {w : World} {B n c : Nat} {A : Option Addr} {xs : List Value} (h : w.ownsRow B 5 1 (.slice A n c) n xs) {g : Nat} (hg : w.heap.size ≤ g) : ∀ k, (Value.slice A n c).ownBlock = some k → k ≠ g := fun k hk e => by
  have := (h.lt k hk).2
  omega
end Go.Proofs.Ytlifpmglaoppoaa

/- Contract of layer 12's alive. -/
namespace Go.Proofs.Ytlifpmglaoppoaa
open Go.RowKit
open Go.Proofs.PlainAes
open Go.Proofs.PlainSha
open Go.Proofs.PlainMac
open Go.Proofs.PlainSeal

theorem masterL_byt : Byt masterL := by
  show ∀ x ∈ masterL, x < 256
  decide
theorem abc_byt : Byt [97, 98, 99] := by
  show ∀ x ∈ [97, 98, 99], x < 256
  decide
def RetX12 (X : List Nat) (w : World) (e : Ending) (w' : World) : Prop := ∃ g, e = .returned (.slice (some ⟨g, 0, none⟩) 512 512) ∧ w.heap.size ≤ g ∧ Blk w' g 5 (bv X) ∧ Below w.heap.size w w'
theorem ke_ex : keyE masterL = exKE := ex_key
set_option maxRecDepth 100000 in
set_option maxHeartbeats 4000000 in
theorem alive12 (w : World) : Calls Try.prog 10 #[] w fun e w' => e = .returned (.bool true) ∧ Below w.heap.size w w' := by
  have hder := Lib.hid (fun v w h => derive_keys v masterL w h masterL_byt (by decide))
  have hblk := Lib.hid (fun v w (h : Sl w v (bv [97, 98, 99])) => block12 v _ w h abc_byt (by decide))
  have hKb : Byt exKE := ke_ex ▸ macL_byt _ _
  have hseal := Lib.hid (fun v w h => sealed_blk v exKE (keyM masterL) [97, 98, 99] 1 2 w h (ke_ex ▸ keyE_length masterL) (keyM_length masterL) hKb abc_byt (by decide) (by decide) (by decide) (by decide))
  have hx : sealL exKE 1 2 (blkL [97, 98, 99]) = exC := by rw [← ke_ex]; exact ex_crypt
  rw [hx, ex_sum] at hseal
  have hCl : exC.length = 512 := by rw [← hx]; simp
  have bC : Byt exC := by rw [← hx]; exact sealL_byt hKb _ _ (blkL_byt abc_byt)
  have hop := Lib.hid (fun v w (h : Sl w v (bv exC)) => (opened_any v exKE (keyM masterL) exC exH 1 2 w h (ke_ex ▸ keyE_length masterL) (keyM_length masterL) hKb bC hCl (by rw [← ex_sum]; exact shaL_len _) (by decide) (by decide)).mono (fun e w' h => h.1 ex_sum))
  have hback : sealL exKE 1 2 exC = blkL [97, 98, 99] := by rw [← hx]; exact crypt_twice _ _ _
  rw [hback] at hop
  have hop2 := Lib.hid (fun v w (h : Sl w v (bv (exC.set 100 (gd exC 100 ^^^ 1)))) => (opened_any v exKE (keyM masterL) (exC.set 100 (gd exC 100 ^^^ 1)) exH 1 2 w h (ke_ex ▸ keyE_length masterL) (keyM_length masterL) hKb (by
    intro x hx
    rcases List.mem_or_eq_of_mem_set hx with h | rfl
    · exact bC x h
    · exact xor_lt (gd_lt bC _) (by decide)) (by simp [hCl]) (by rw [← ex_sum]; exact shaL_len _) (by decide) (by decide)).mono (fun e w' h => h.2 (by rw [← ex_sum]; exact ex_turned)))
  rw [ke_ex] at hder
  have hKl := Lib.hid (show (bv (exKE ++ keyM masterL)).length = 64 by simp [← ke_ex])
  have hpl := Lib.hid (show (pcells 2 1 exH).length = 34 by rw [← ex_sum]; simp)
  have hx8 := x8m (gd_lt bC 100) (show 1 < 256 by decide)
  have hc100 := Lib.hid (gd_get (l := exC) (i := 100) (by rw [hCl]; decide))
  have HCl := Lib.hid hCl
  clear hx hback hKb hCl bC
  generalize gd exC 100 = y at *
  generalize hD : exC.set 100 (y ^^^ 1) = D at *
  generalize exKE = E at *
  generalize keyM masterL = M at *
  generalize exH = S at *
  generalize exC = C at *
  have hXl : Hid ((blkL [97, 98, 99]).length = 512) := blkL_length _
  have hblk2 : Hid (∀ (v : Value) (w : World), Sl w v (bv [97, 98, 99]) → Calls Try.prog 22 #[v] w (RetX12 (blkL [97, 98, 99]) w)) := hblk
  replace hblk := hblk2
  clear hblk2
  generalize blkL [97, 98, 99] = X at *
  replace hD := Lib.hid hD
  go_enter Try.func10, Try.ntmps10
  have hm0 : Blk (w.alloc (.cells #[.int .u8 109, .int .u8 97, .int .u8 115, .int .u8 116, .int .u8 101, .int .u8 114] 5)) w.heap.size 5 (bv masterL) := Blk.new_at rfl rfl
  have hB0 : Below w.heap.size w (w.alloc (.cells #[.int .u8 109, .int .u8 97, .int .u8 115, .int .u8 116, .int .u8 101, .int .u8 114] 5)) := (Below.refl _ _).alloc (Nat.le_refl _) _
  obtain ⟨w1, hr, sl1, hK1, -⟩ := conv_const (n := 6) (c := 6) (t := 22) Try.underlying22 Try.underlying5 hm0 rfl (Nat.le_refl _) (by unfold maxLen; omega)
  have hB1 := hB0.trans (hK1.below hB0.size (by simp))
  clear hm0 hB0 hK1
  go_wp2_with (refine wpList_convert_run rfl (.tmp 9) 22 rfl _ rfl hr ?_)
  refine (hder.out _ _ sl1).mono ?_
  rintro e w2 ⟨rfl, hB2⟩
  replace hB2 := below_call hB1 hB1.size hB2
  clear hB1 sl1 hr hder
  have hg1 := Lib.hid hB2.size
  go_wp2_with (first
    | refine wpList_allocA rfl 28 rfl (bv (zeros 64)) ks_zero ?_)
  intro w3 h3 hK3 hz3
  replace hB2 := hB2.trans (hK3.below hB2.size (by simp))
  clear hK3 hz3
  generalize w2.heap.size = g1 at *
  go_wp2_with (refine wpList_storeW rfl 28 (.tmp 1) (.tmp 11) rfl 64 arrKs g1 rfl (bv (E ++ M)) rfl 28 _ h3 hKl.out (by simp) (ones_bv _) ?_)
  intro wr h1 hKs
  replace hB2 := hB2.trans (hKs.below hB2.size (by intro b hb; simp only [List.mem_singleton] at hb; subst hb; exact hg1.out))
  have hw1 := Lib.hid h1.lt
  have hw2 := Lib.hid hB2.size
  clear hKs h3
  go_upto_region 2 with fail
  go_cut [2, 3, 4] (fun s2 s3 s4 wx => ∃ (Av : Option Addr) (cv g3 : Nat), s2 = .slice Av 512 cv ∧ s3 = .pointer (some ⟨g3, 0, none⟩) ∧ s4 = .int .i64 0 ∧ Blk wx g3 41 (pcells 2 1 S) ∧ wx.ownsRow wr.heap.size 5 1 (.slice Av 512 cv) 512 (bv C) ∧ Below wr.heap.size wr wx ∧ wr.heap.size ≤ g3 ∧ ∀ k, (Value.slice Av 512 cv).ownBlock = some k → k ≠ g3)
  case first =>
    refine wp_region_held_drew (S := fun w' => Below wr.heap.size wr w') (by kernel_rfl) ((Below.refl _ _).drew) (fun hH => ?_)
    refine takeH_load (o := ⟨some 13, _, _, _, _, _⟩) (i := 0) rfl (by kernel_rfl) (by kernel_rfl) (by kernel_rfl) (fun _ _ _ _ h => h) rfl 28 (.tmp 1) rfl 64 arrKs g1 0 rfl (bv (E ++ M)) hKl.out (fun w h => hSS (h1.keep h) hKl.out) hH ?_
    simp only [Act.put, List.setIfInBounds_toArray, List.set_cons_zero, List.set_cons_succ, Nat.zero_add, decide_true, beq_self_eq_true]
    refine wpAnyH_ready (rs := [1, 9]) (by kernel_rfl) (by simp) ?_
    refine AllReadyH.cons rfl (fun K1 hK1 => ?_) (AllReadyH.cons rfl (fun K1 hK1 => ?_) AllReadyH.nil)
    · go_simp
      have q0 : wr.heap.size = wr.heap.size := by rfl
      have q : wr.drew.heap.size = wr.heap.size := q0
      have hb1 : Blk (wr.alloc (.cells #[.int .u8 97, .int .u8 98, .int .u8 99] 5)).drew wr.heap.size 5 (bv [97, 98, 99]) := by rw [← q0]; exact Blk.new_at (w := wr) rfl rfl
      refine hK1.out _ _ (hH.alloc hH.size (.cells #[.int .u8 97, .int .u8 98, .int .u8 99] 5)) (fun hH => ?_)
      clear hK1 K1 q q0
      refine wpAnyH_ready (rs := [2, 9]) (by kernel_rfl) (by simp) ?_
      refine AllReadyH.cons rfl (fun K1 hK1 => ?_) (AllReadyH.cons rfl (fun K1 hK1 => ?_) AllReadyH.nil)
      · rw [if_pos (by rfl)]
        obtain ⟨w2, hr, sl3, hKb, -⟩ := conv_const (n := 3) (c := 3) (t := 22) Try.underlying22 Try.underlying5 hb1 rfl (Nat.le_refl _) (by unfold maxLen; omega)
        refine wp_convert_run (.tmp 14) 22 rfl _ rfl hr ?_
        simp only [Act.put, List.getElem_toArray, List.getElem_cons_succ, List.getElem_cons_zero, List.setIfInBounds_toArray, List.set_cons_zero, List.set_cons_succ, Nat.zero_add]
        refine hK1.out _ _ (hH.trans (hKb.below hH.size (by intro b hb; simp only [List.mem_singleton] at hb; subst hb; omega))) (fun hH => ?_)
        clear hK1 K1 hKb hr
        refine wpAnyH_ready (rs := [3, 9]) (by kernel_rfl) (by simp) ?_
        refine AllReadyH.cons rfl (fun K1 hK1 => ?_) (AllReadyH.cons rfl (fun K1 hK1 => ?_) AllReadyH.nil)
        · rw [if_pos (by rfl)]
          go_wp2_with fail
          refine (hblk.out _ _ sl3).mono ?_
          rintro e w4 ⟨gb5, rfl, -, hk6, hBa⟩
          refine hK1.out _ _ (below_call hH hH.size hBa) (fun hH => ?_)
          clear hK1 K1 hBa
          refine wpAnyH_ready (rs := [4, 9]) (by kernel_rfl) (by simp) ?_
          refine AllReadyH.cons rfl (fun K1 hK1 => ?_) (AllReadyH.cons rfl (fun K1 hK1 => ?_) AllReadyH.nil)
          · rw [if_pos (by rfl)]
            go_wp2_with fail
            refine (hseal.out _ _ (blk_sl hk6 hXl.out)).mono ?_
            rintro e w7 ⟨A10, c11, rfl, oc9, hBa⟩
            have oc8 := Lib.hid (ownsRow_mono oc9 hH.size)
            refine hK1.out _ _ (below_call hH hH.size hBa) (fun hH => ?_)
            clear hK1 K1 hBa oc9
            refine takeH_move (o := ⟨some 12, _, _, _, _, _⟩) (i := 5) rfl (by kernel_rfl) (by kernel_rfl) (by kernel_rfl) (fun _ _ _ _ h => h) rfl (.tmp 17) rfl (.tuple #[(.slice A10 512 c11), .agg (pcells 2 1 S).toArray, .int .i64 0]) rfl hH ?_
            simp only [Act.put, List.setIfInBounds_toArray, List.set_cons_zero, List.set_cons_succ, Nat.zero_add, decide_true, beq_self_eq_true]
            refine takeH_S (o := ⟨some 18, _, _, _, _, _⟩) (i := 6) rfl (by kernel_rfl) (by kernel_rfl) (by kernel_rfl) (fun _ _ _ _ h => h) rfl (.slice A10 512 c11) (fun w _ => by go_simp) hH ?_
            simp only [Act.put, List.setIfInBounds_toArray, List.set_cons_zero, List.set_cons_succ, Nat.zero_add, decide_true, beq_self_eq_true]
            refine takeH_S (o := ⟨some 19, _, _, _, _, _⟩) (i := 7) rfl (by kernel_rfl) (by kernel_rfl) (by kernel_rfl) (fun _ _ _ _ h => h) rfl (.agg (pcells 2 1 S).toArray) (fun w _ => by go_simp) hH ?_
            simp only [Act.put, List.setIfInBounds_toArray, List.set_cons_zero, List.set_cons_succ, Nat.zero_add, decide_true, beq_self_eq_true]
            refine takeH_S (o := ⟨some 20, _, _, _, _, _⟩) (i := 8) rfl (by kernel_rfl) (by kernel_rfl) (by kernel_rfl) (fun _ _ _ _ h => h) rfl (.int .i64 0) (fun w _ => by go_simp) hH ?_
            simp only [Act.put, List.setIfInBounds_toArray, List.set_cons_zero, List.set_cons_succ, Nat.zero_add, decide_true, beq_self_eq_true]
            refine wpAnyH_ready (rs := [9]) (by kernel_rfl) (by simp) ?_
            refine AllReadyH.cons rfl (fun K1 hK1 => ?_) AllReadyH.nil
            · go_simp
              have q0 : w7.heap.size = w7.heap.size := by rfl
              have q : w7.heap.size = w7.heap.size := q0
              have hb12 : Blk (w7.alloc (.cells (pcells 0 0 (zeros 32)).toArray 41)) w7.heap.size 41 (pcells 0 0 (zeros 32)) := by rw [← q0]; exact Blk.new_at (w := w7) rfl rfl
              have ne14 := Lib.hid (own_ne2 oc8.out (g := w7.heap.size) (by rw [← q]; exact Nat.le_refl _))
              have oc13 := Lib.hid (oc8.out.alloc (.cells (pcells 0 0 (zeros 32)).toArray 41))
              have ge15 : Hid (wr.heap.size ≤ w7.heap.size) := by show _ ≤ _; rw [← q]; exact hH.size
              refine hK1.out _ _ (hH.alloc hH.size (.cells (pcells 0 0 (zeros 32)).toArray 41)) (fun hH => ?_)
              clear hK1 K1 q q0
              refine takeH_assign (o := ⟨some 2, _, _, _, _, _⟩) (i := 10) rfl (by kernel_rfl) (by kernel_rfl) (by kernel_rfl) (fun _ _ _ _ h => h) rfl (.tmp 18) rfl (.slice A10 512 c11) rfl hH ?_
              simp only [Act.put, List.setIfInBounds_toArray, List.set_cons_zero, List.set_cons_succ, Nat.zero_add, decide_true, beq_self_eq_true]
              refine wpAnyH_ready (rs := [11]) (by kernel_rfl) (by simp) ?_
              refine AllReadyH.cons rfl (fun K1 hK1 => ?_) AllReadyH.nil
              · rw [if_pos (by rfl)]
                refine wp_storeA 41 (.tmp 3) (.tmp 19) rfl 34 arrPt _ _ rfl (pcells 2 1 S) rfl 41 _ hb12 hpl.out (by simp) (pcells_ones _ _ _) ?_
                intro w16 hb17 hKb
                simp only [Act.put, List.getElem_toArray, List.getElem_cons_succ, List.getElem_cons_zero, List.setIfInBounds_toArray, List.set_cons_zero, List.set_cons_succ, Nat.zero_add]
                rw [putL_all (by rw [hpl.out]; simp)] at hb17
                have oc18 := Lib.hid (own_keeps oc13.out hKb (fun k _ hk hm => ne14.out k hk (by simpa using hm)))
                refine hK1.out _ _ (hH.trans (hKb.below hH.size (by intro b hb; simp only [List.mem_singleton] at hb; subst hb; exact ge15.out))) (fun hH => ?_)
                clear hK1 K1 hKb
                refine takeH_assign (o := ⟨some 4, _, _, _, _, _⟩) (i := 12) rfl (by kernel_rfl) (by kernel_rfl) (by kernel_rfl) (fun _ _ _ _ h => h) rfl (.tmp 20) rfl (.int .i64 0) rfl hH ?_
                simp only [Act.put, List.setIfInBounds_toArray, List.set_cons_zero, List.set_cons_succ, Nat.zero_add, decide_true, beq_self_eq_true]
                refine wpAnyH_done (by kernel_rfl) ?_ _
                go_wp2_with fail
                go_meet
                exact ⟨_, _, _, rfl, rfl, rfl, hb17, oc18.out, hH, ge15.out, ne14.out⟩
          · go_simp
            have q0 : w4.heap.size = w4.heap.size := by rfl
            have q : w4.heap.size = w4.heap.size := q0
            have hb19 : Blk (w4.alloc (.cells (pcells 0 0 (zeros 32)).toArray 41)) w4.heap.size 41 (pcells 0 0 (zeros 32)) := by rw [← q0]; exact Blk.new_at (w := w4) rfl rfl
            have hb20 := hk6.alloc (.cells (pcells 0 0 (zeros 32)).toArray 41)
            have ge21 : Hid (wr.heap.size ≤ w4.heap.size) := by show _ ≤ _; rw [← q]; exact hH.size
            refine hK1.out _ _ (hH.alloc hH.size (.cells (pcells 0 0 (zeros 32)).toArray 41)) (fun hH => ?_)
            clear hK1 K1 q q0
            refine wpAnyH_ready (rs := [4]) (by kernel_rfl) (by simp) ?_
            refine AllReadyH.cons rfl (fun K1 hK1 => ?_) AllReadyH.nil
            · rw [if_pos (by rfl)]
              go_wp2_with fail
              refine (hseal.out _ _ (blk_sl hb20 hXl.out)).mono ?_
              rintro e w22 ⟨A25, c26, rfl, oc24, hBa⟩
              have ne28 := Lib.hid (own_ne oc24 hb19.lt)
              have hb27 := hb19.keep hBa
              have oc23 := Lib.hid (ownsRow_mono oc24 hH.size)
              refine hK1.out _ _ (below_call hH hH.size hBa) (fun hH => ?_)
              clear hK1 K1 hBa oc24
              refine takeH_move (o := ⟨some 12, _, _, _, _, _⟩) (i := 5) rfl (by kernel_rfl) (by kernel_rfl) (by kernel_rfl) (fun _ _ _ _ h => h) rfl (.tmp 17) rfl (.tuple #[(.slice A25 512 c26), .agg (pcells 2 1 S).toArray, .int .i64 0]) rfl hH ?_
              simp only [Act.put, List.setIfInBounds_toArray, List.set_cons_zero, List.set_cons_succ, Nat.zero_add, decide_true, beq_self_eq_true]
              refine takeH_S (o := ⟨some 18, _, _, _, _, _⟩) (i := 6) rfl (by kernel_rfl) (by kernel_rfl) (by kernel_rfl) (fun _ _ _ _ h => h) rfl (.slice A25 512 c26) (fun w _ => by go_simp) hH ?_
              simp only [Act.put, List.setIfInBounds_toArray, List.set_cons_zero, List.set_cons_succ, Nat.zero_add, decide_true, beq_self_eq_true]
              refine takeH_S (o := ⟨some 19, _, _, _, _, _⟩) (i := 7) rfl (by kernel_rfl) (by kernel_rfl) (by kernel_rfl) (fun _ _ _ _ h => h) rfl (.agg (pcells 2 1 S).toArray) (fun w _ => by go_simp) hH ?_
              simp only [Act.put, List.setIfInBounds_toArray, List.set_cons_zero, List.set_cons_succ, Nat.zero_add, decide_true, beq_self_eq_true]
              refine takeH_S (o := ⟨some 20, _, _, _, _, _⟩) (i := 8) rfl (by kernel_rfl) (by kernel_rfl) (by kernel_rfl) (fun _ _ _ _ h => h) rfl (.int .i64 0) (fun w _ => by go_simp) hH ?_
              simp only [Act.put, List.setIfInBounds_toArray, List.set_cons_zero, List.set_cons_succ, Nat.zero_add, decide_true, beq_self_eq_true]
              refine takeH_assign (o := ⟨some 2, _, _, _, _, _⟩) (i := 10) rfl (by kernel_rfl) (by kernel_rfl) (by kernel_rfl) (fun _ _ _ _ h => h) rfl (.tmp 18) rfl (.slice A25 512 c26) rfl hH ?_
              simp only [Act.put, List.setIfInBounds_toArray, List.set_cons_zero, List.set_cons_succ, Nat.zero_add, decide_true, beq_self_eq_true]
              refine wpAnyH_ready (rs := [11]) (by kernel_rfl) (by simp) ?_
              refine AllReadyH.cons rfl (fun K1 hK1 => ?_) AllReadyH.nil
              · rw [if_pos (by rfl)]
                refine wp_storeA 41 (.tmp 3) (.tmp 19) rfl 34 arrPt _ _ rfl (pcells 2 1 S) rfl 41 _ hb27 hpl.out (by simp) (pcells_ones _ _ _) ?_
                intro w29 hb30 hKb
                simp only [Act.put, List.getElem_toArray, List.getElem_cons_succ, List.getElem_cons_zero, List.setIfInBounds_toArray, List.set_cons_zero, List.set_cons_succ, Nat.zero_add]
                rw [putL_all (by rw [hpl.out]; simp)] at hb30
                have oc31 := Lib.hid (own_keeps oc23.out hKb (fun k _ hk hm => ne28.out k hk (by simpa using hm)))
                refine hK1.out _ _ (hH.trans (hKb.below hH.size (by intro b hb; simp only [List.mem_singleton] at hb; subst hb; exact ge21.out))) (fun hH => ?_)
                clear hK1 K1 hKb
                refine takeH_assign (o := ⟨some 4, _, _, _, _, _⟩) (i := 12) rfl (by kernel_rfl) (by kernel_rfl) (by kernel_rfl) (fun _ _ _ _ h => h) rfl (.tmp 20) rfl (.int .i64 0) rfl hH ?_
                simp only [Act.put, List.setIfInBounds_toArray, List.set_cons_zero, List.set_cons_succ, Nat.zero_add, decide_true, beq_self_eq_true]
                refine wpAnyH_done (by kernel_rfl) ?_ _
                go_wp2_with fail
                go_meet
                exact ⟨_, _, _, rfl, rfl, rfl, hb30, oc31.out, hH, ge21.out, ne28.out⟩
        · go_simp
          have q0 : w2.heap.size = w2.heap.size := by rfl
          have q : w2.heap.size = w2.heap.size := q0
          have hb32 : Blk (w2.alloc (.cells (pcells 0 0 (zeros 32)).toArray 41)) w2.heap.size 41 (pcells 0 0 (zeros 32)) := by rw [← q0]; exact Blk.new_at (w := w2) rfl rfl
          have sl33 := sl3.keep ((Below.refl _ w2).alloc (Nat.le_refl _) (.cells (pcells 0 0 (zeros 32)).toArray 41))
          have ge34 : Hid (wr.heap.size ≤ w2.heap.size) := by show _ ≤ _; rw [← q]; exact hH.size
          refine hK1.out _ _ (hH.alloc hH.size (.cells (pcells 0 0 (zeros 32)).toArray 41)) (fun hH => ?_)
          clear hK1 K1 q q0
          refine wpAnyH_ready (rs := [3]) (by kernel_rfl) (by simp) ?_
          refine AllReadyH.cons rfl (fun K1 hK1 => ?_) AllReadyH.nil
          · rw [if_pos (by rfl)]
            go_wp2_with fail
            refine (hblk.out _ _ sl33).mono ?_
            rintro e w35 ⟨gb36, rfl, -, hk37, hBa⟩
            have hb38 := hb32.keep hBa
            refine hK1.out _ _ (below_call hH hH.size hBa) (fun hH => ?_)
            clear hK1 K1 hBa
            refine wpAnyH_ready (rs := [4]) (by kernel_rfl) (by simp) ?_
            refine AllReadyH.cons rfl (fun K1 hK1 => ?_) AllReadyH.nil
            · rw [if_pos (by rfl)]
              go_wp2_with fail
              refine (hseal.out _ _ (blk_sl hk37 hXl.out)).mono ?_
              rintro e w39 ⟨A42, c43, rfl, oc41, hBa⟩
              have ne45 := Lib.hid (own_ne oc41 hb38.lt)
              have hb44 := hb38.keep hBa
              have oc40 := Lib.hid (ownsRow_mono oc41 hH.size)
              refine hK1.out _ _ (below_call hH hH.size hBa) (fun hH => ?_)
              clear hK1 K1 hBa oc41
              refine takeH_move (o := ⟨some 12, _, _, _, _, _⟩) (i := 5) rfl (by kernel_rfl) (by kernel_rfl) (by kernel_rfl) (fun _ _ _ _ h => h) rfl (.tmp 17) rfl (.tuple #[(.slice A42 512 c43), .agg (pcells 2 1 S).toArray, .int .i64 0]) rfl hH ?_
              simp only [Act.put, List.setIfInBounds_toArray, List.set_cons_zero, List.set_cons_succ, Nat.zero_add, decide_true, beq_self_eq_true]
              refine takeH_S (o := ⟨some 18, _, _, _, _, _⟩) (i := 6) rfl (by kernel_rfl) (by kernel_rfl) (by kernel_rfl) (fun _ _ _ _ h => h) rfl (.slice A42 512 c43) (fun w _ => by go_simp) hH ?_
              simp only [Act.put, List.setIfInBounds_toArray, List.set_cons_zero, List.set_cons_succ, Nat.zero_add, decide_true, beq_self_eq_true]
              refine takeH_S (o := ⟨some 19, _, _, _, _, _⟩) (i := 7) rfl (by kernel_rfl) (by kernel_rfl) (by kernel_rfl) (fun _ _ _ _ h => h) rfl (.agg (pcells 2 1 S).toArray) (fun w _ => by go_simp) hH ?_
              simp only [Act.put, List.setIfInBounds_toArray, List.set_cons_zero, List.set_cons_succ, Nat.zero_add, decide_true, beq_self_eq_true]
              refine takeH_S (o := ⟨some 20, _, _, _, _, _⟩) (i := 8) rfl (by kernel_rfl) (by kernel_rfl) (by kernel_rfl) (fun _ _ _ _ h => h) rfl (.int .i64 0) (fun w _ => by go_simp) hH ?_
              simp only [Act.put, List.setIfInBounds_toArray, List.set_cons_zero, List.set_cons_succ, Nat.zero_add, decide_true, beq_self_eq_true]
              refine takeH_assign (o := ⟨some 2, _, _, _, _, _⟩) (i := 10) rfl (by kernel_rfl) (by kernel_rfl) (by kernel_rfl) (fun _ _ _ _ h => h) rfl (.tmp 18) rfl (.slice A42 512 c43) rfl hH ?_
              simp only [Act.put, List.setIfInBounds_toArray, List.set_cons_zero, List.set_cons_succ, Nat.zero_add, decide_true, beq_self_eq_true]
              refine wpAnyH_ready (rs := [11]) (by kernel_rfl) (by simp) ?_
              refine AllReadyH.cons rfl (fun K1 hK1 => ?_) AllReadyH.nil
              · rw [if_pos (by rfl)]
                refine wp_storeA 41 (.tmp 3) (.tmp 19) rfl 34 arrPt _ _ rfl (pcells 2 1 S) rfl 41 _ hb44 hpl.out (by simp) (pcells_ones _ _ _) ?_
                intro w46 hb47 hKb
                simp only [Act.put, List.getElem_toArray, List.getElem_cons_succ, List.getElem_cons_zero, List.setIfInBounds_toArray, List.set_cons_zero, List.set_cons_succ, Nat.zero_add]
                rw [putL_all (by rw [hpl.out]; simp)] at hb47
                have oc48 := Lib.hid (own_keeps oc40.out hKb (fun k _ hk hm => ne45.out k hk (by simpa using hm)))
                refine hK1.out _ _ (hH.trans (hKb.below hH.size (by intro b hb; simp only [List.mem_singleton] at hb; subst hb; exact ge34.out))) (fun hH => ?_)
                clear hK1 K1 hKb
                refine takeH_assign (o := ⟨some 4, _, _, _, _, _⟩) (i := 12) rfl (by kernel_rfl) (by kernel_rfl) (by kernel_rfl) (fun _ _ _ _ h => h) rfl (.tmp 20) rfl (.int .i64 0) rfl hH ?_
                simp only [Act.put, List.setIfInBounds_toArray, List.set_cons_zero, List.set_cons_succ, Nat.zero_add, decide_true, beq_self_eq_true]
                refine wpAnyH_done (by kernel_rfl) ?_ _
                go_wp2_with fail
                go_meet
                exact ⟨_, _, _, rfl, rfl, rfl, hb47, oc48.out, hH, ge34.out, ne45.out⟩
      · go_simp
        have q0 : (wr.alloc (.cells #[.int .u8 97, .int .u8 98, .int .u8 99] 5)).heap.size = (wr.heap.size + 1) := by go_simp
        have q : (wr.alloc (.cells #[.int .u8 97, .int .u8 98, .int .u8 99] 5)).drew.heap.size = (wr.heap.size + 1) := q0
        have hb49 : Blk ((wr.alloc (.cells #[.int .u8 97, .int .u8 98, .int .u8 99] 5)).alloc (.cells (pcells 0 0 (zeros 32)).toArray 41)).drew (wr.heap.size + 1) 41 (pcells 0 0 (zeros 32)) := by rw [← q0]; exact Blk.new_at (w := (wr.alloc (.cells #[.int .u8 97, .int .u8 98, .int .u8 99] 5))) rfl rfl
        have hb50 := hb1.alloc (.cells (pcells 0 0 (zeros 32)).toArray 41)
        have ge51 : Hid (wr.heap.size ≤ (wr.heap.size + 1)) := by show _ ≤ _; rw [← q]; exact hH.size
        refine hK1.out _ _ (hH.alloc hH.size (.cells (pcells 0 0 (zeros 32)).toArray 41)) (fun hH => ?_)
        clear hK1 K1 q q0
        refine wpAnyH_ready (rs := [2]) (by kernel_rfl) (by simp) ?_
        refine AllReadyH.cons rfl (fun K1 hK1 => ?_) AllReadyH.nil
        · rw [if_pos (by rfl)]
          obtain ⟨w52, hr, sl53, hKb, -⟩ := conv_const (n := 3) (c := 3) (t := 22) Try.underlying22 Try.underlying5 hb50 rfl (Nat.le_refl _) (by unfold maxLen; omega)
          refine wp_convert_run (.tmp 14) 22 rfl _ rfl hr ?_
          simp only [Act.put, List.getElem_toArray, List.getElem_cons_succ, List.getElem_cons_zero, List.setIfInBounds_toArray, List.set_cons_zero, List.set_cons_succ, Nat.zero_add]
          have hb54 := hb49.keeps hKb (by simp)
          refine hK1.out _ _ (hH.trans (hKb.below hH.size (by intro b hb; simp only [List.mem_singleton] at hb; subst hb; omega))) (fun hH => ?_)
          clear hK1 K1 hKb hr
          refine wpAnyH_ready (rs := [3]) (by kernel_rfl) (by simp) ?_
          refine AllReadyH.cons rfl (fun K1 hK1 => ?_) AllReadyH.nil
          · rw [if_pos (by rfl)]
            go_wp2_with fail
            refine (hblk.out _ _ sl53).mono ?_
            rintro e w55 ⟨gb56, rfl, -, hk57, hBa⟩
            have hb58 := hb54.keep hBa
            refine hK1.out _ _ (below_call hH hH.size hBa) (fun hH => ?_)
            clear hK1 K1 hBa
            refine wpAnyH_ready (rs := [4]) (by kernel_rfl) (by simp) ?_
            refine AllReadyH.cons rfl (fun K1 hK1 => ?_) AllReadyH.nil
            · rw [if_pos (by rfl)]
              go_wp2_with fail
              refine (hseal.out _ _ (blk_sl hk57 hXl.out)).mono ?_
              rintro e w59 ⟨A62, c63, rfl, oc61, hBa⟩
              have ne65 := Lib.hid (own_ne oc61 hb58.lt)
              have hb64 := hb58.keep hBa
              have oc60 := Lib.hid (ownsRow_mono oc61 hH.size)
              refine hK1.out _ _ (below_call hH hH.size hBa) (fun hH => ?_)
              clear hK1 K1 hBa oc61
              refine takeH_move (o := ⟨some 12, _, _, _, _, _⟩) (i := 5) rfl (by kernel_rfl) (by kernel_rfl) (by kernel_rfl) (fun _ _ _ _ h => h) rfl (.tmp 17) rfl (.tuple #[(.slice A62 512 c63), .agg (pcells 2 1 S).toArray, .int .i64 0]) rfl hH ?_
              simp only [Act.put, List.setIfInBounds_toArray, List.set_cons_zero, List.set_cons_succ, Nat.zero_add, decide_true, beq_self_eq_true]
              refine takeH_S (o := ⟨some 18, _, _, _, _, _⟩) (i := 6) rfl (by kernel_rfl) (by kernel_rfl) (by kernel_rfl) (fun _ _ _ _ h => h) rfl (.slice A62 512 c63) (fun w _ => by go_simp) hH ?_
              simp only [Act.put, List.setIfInBounds_toArray, List.set_cons_zero, List.set_cons_succ, Nat.zero_add, decide_true, beq_self_eq_true]
              refine takeH_S (o := ⟨some 19, _, _, _, _, _⟩) (i := 7) rfl (by kernel_rfl) (by kernel_rfl) (by kernel_rfl) (fun _ _ _ _ h => h) rfl (.agg (pcells 2 1 S).toArray) (fun w _ => by go_simp) hH ?_
              simp only [Act.put, List.setIfInBounds_toArray, List.set_cons_zero, List.set_cons_succ, Nat.zero_add, decide_true, beq_self_eq_true]
              refine takeH_S (o := ⟨some 20, _, _, _, _, _⟩) (i := 8) rfl (by kernel_rfl) (by kernel_rfl) (by kernel_rfl) (fun _ _ _ _ h => h) rfl (.int .i64 0) (fun w _ => by go_simp) hH ?_
              simp only [Act.put, List.setIfInBounds_toArray, List.set_cons_zero, List.set_cons_succ, Nat.zero_add, decide_true, beq_self_eq_true]
              refine takeH_assign (o := ⟨some 2, _, _, _, _, _⟩) (i := 10) rfl (by kernel_rfl) (by kernel_rfl) (by kernel_rfl) (fun _ _ _ _ h => h) rfl (.tmp 18) rfl (.slice A62 512 c63) rfl hH ?_
              simp only [Act.put, List.setIfInBounds_toArray, List.set_cons_zero, List.set_cons_succ, Nat.zero_add, decide_true, beq_self_eq_true]
              refine wpAnyH_ready (rs := [11]) (by kernel_rfl) (by simp) ?_
              refine AllReadyH.cons rfl (fun K1 hK1 => ?_) AllReadyH.nil
              · rw [if_pos (by rfl)]
                refine wp_storeA 41 (.tmp 3) (.tmp 19) rfl 34 arrPt _ _ rfl (pcells 2 1 S) rfl 41 _ hb64 hpl.out (by simp) (pcells_ones _ _ _) ?_
                intro w66 hb67 hKb
                simp only [Act.put, List.getElem_toArray, List.getElem_cons_succ, List.getElem_cons_zero, List.setIfInBounds_toArray, List.set_cons_zero, List.set_cons_succ, Nat.zero_add]
                rw [putL_all (by rw [hpl.out]; simp)] at hb67
                have oc68 := Lib.hid (own_keeps oc60.out hKb (fun k _ hk hm => ne65.out k hk (by simpa using hm)))
                refine hK1.out _ _ (hH.trans (hKb.below hH.size (by intro b hb; simp only [List.mem_singleton] at hb; subst hb; exact ge51.out))) (fun hH => ?_)
                clear hK1 K1 hKb
                refine takeH_assign (o := ⟨some 4, _, _, _, _, _⟩) (i := 12) rfl (by kernel_rfl) (by kernel_rfl) (by kernel_rfl) (fun _ _ _ _ h => h) rfl (.tmp 20) rfl (.int .i64 0) rfl hH ?_
                simp only [Act.put, List.setIfInBounds_toArray, List.set_cons_zero, List.set_cons_succ, Nat.zero_add, decide_true, beq_self_eq_true]
                refine wpAnyH_done (by kernel_rfl) ?_ _
                go_wp2_with fail
                go_meet
                exact ⟨_, _, _, rfl, rfl, rfl, hb67, oc68.out, hH, ge51.out, ne65.out⟩
    · go_simp
      have q0 : wr.heap.size = wr.heap.size := by rfl
      have q : wr.drew.heap.size = wr.heap.size := q0
      have hb69 : Blk (wr.alloc (.cells (pcells 0 0 (zeros 32)).toArray 41)).drew wr.heap.size 41 (pcells 0 0 (zeros 32)) := by rw [← q0]; exact Blk.new_at (w := wr) rfl rfl
      have ge70 : Hid (wr.heap.size ≤ wr.heap.size) := by show _ ≤ _; rw [← q]; exact hH.size
      refine hK1.out _ _ (hH.alloc hH.size (.cells (pcells 0 0 (zeros 32)).toArray 41)) (fun hH => ?_)
      clear hK1 K1 q q0
      refine wpAnyH_ready (rs := [1]) (by kernel_rfl) (by simp) ?_
      refine AllReadyH.cons rfl (fun K1 hK1 => ?_) AllReadyH.nil
      · go_simp
        have q0 : (wr.alloc (.cells (pcells 0 0 (zeros 32)).toArray 41)).heap.size = (wr.heap.size + 1) := by go_simp
        have q : (wr.alloc (.cells (pcells 0 0 (zeros 32)).toArray 41)).drew.heap.size = (wr.heap.size + 1) := q0
        have hb71 : Blk ((wr.alloc (.cells (pcells 0 0 (zeros 32)).toArray 41)).alloc (.cells #[.int .u8 97, .int .u8 98, .int .u8 99] 5)).drew (wr.heap.size + 1) 5 (bv [97, 98, 99]) := by rw [← q0]; exact Blk.new_at (w := (wr.alloc (.cells (pcells 0 0 (zeros 32)).toArray 41))) rfl rfl
        have hb72 := hb69.alloc (.cells #[.int .u8 97, .int .u8 98, .int .u8 99] 5)
        refine hK1.out _ _ (hH.alloc hH.size (.cells #[.int .u8 97, .int .u8 98, .int .u8 99] 5)) (fun hH => ?_)
        clear hK1 K1 q q0
        refine wpAnyH_ready (rs := [2]) (by kernel_rfl) (by simp) ?_
        refine AllReadyH.cons rfl (fun K1 hK1 => ?_) AllReadyH.nil
        · rw [if_pos (by rfl)]
          obtain ⟨w73, hr, sl74, hKb, -⟩ := conv_const (n := 3) (c := 3) (t := 22) Try.underlying22 Try.underlying5 hb71 rfl (Nat.le_refl _) (by unfold maxLen; omega)
          refine wp_convert_run (.tmp 14) 22 rfl _ rfl hr ?_
          simp only [Act.put, List.getElem_toArray, List.getElem_cons_succ, List.getElem_cons_zero, List.setIfInBounds_toArray, List.set_cons_zero, List.set_cons_succ, Nat.zero_add]
          have hb75 := hb72.keeps hKb (by simp)
          refine hK1.out _ _ (hH.trans (hKb.below hH.size (by intro b hb; simp only [List.mem_singleton] at hb; subst hb; omega))) (fun hH => ?_)
          clear hK1 K1 hKb hr
          refine wpAnyH_ready (rs := [3]) (by kernel_rfl) (by simp) ?_
          refine AllReadyH.cons rfl (fun K1 hK1 => ?_) AllReadyH.nil
          · rw [if_pos (by rfl)]
            go_wp2_with fail
            refine (hblk.out _ _ sl74).mono ?_
            rintro e w76 ⟨gb77, rfl, -, hk78, hBa⟩
            have hb79 := hb75.keep hBa
            refine hK1.out _ _ (below_call hH hH.size hBa) (fun hH => ?_)
            clear hK1 K1 hBa
            refine wpAnyH_ready (rs := [4]) (by kernel_rfl) (by simp) ?_
            refine AllReadyH.cons rfl (fun K1 hK1 => ?_) AllReadyH.nil
            · rw [if_pos (by rfl)]
              go_wp2_with fail
              refine (hseal.out _ _ (blk_sl hk78 hXl.out)).mono ?_
              rintro e w80 ⟨A83, c84, rfl, oc82, hBa⟩
              have ne86 := Lib.hid (own_ne oc82 hb79.lt)
              have hb85 := hb79.keep hBa
              have oc81 := Lib.hid (ownsRow_mono oc82 hH.size)
              refine hK1.out _ _ (below_call hH hH.size hBa) (fun hH => ?_)
              clear hK1 K1 hBa oc82
              refine takeH_move (o := ⟨some 12, _, _, _, _, _⟩) (i := 5) rfl (by kernel_rfl) (by kernel_rfl) (by kernel_rfl) (fun _ _ _ _ h => h) rfl (.tmp 17) rfl (.tuple #[(.slice A83 512 c84), .agg (pcells 2 1 S).toArray, .int .i64 0]) rfl hH ?_
              simp only [Act.put, List.setIfInBounds_toArray, List.set_cons_zero, List.set_cons_succ, Nat.zero_add, decide_true, beq_self_eq_true]
              refine takeH_S (o := ⟨some 18, _, _, _, _, _⟩) (i := 6) rfl (by kernel_rfl) (by kernel_rfl) (by kernel_rfl) (fun _ _ _ _ h => h) rfl (.slice A83 512 c84) (fun w _ => by go_simp) hH ?_
              simp only [Act.put, List.setIfInBounds_toArray, List.set_cons_zero, List.set_cons_succ, Nat.zero_add, decide_true, beq_self_eq_true]
              refine takeH_S (o := ⟨some 19, _, _, _, _, _⟩) (i := 7) rfl (by kernel_rfl) (by kernel_rfl) (by kernel_rfl) (fun _ _ _ _ h => h) rfl (.agg (pcells 2 1 S).toArray) (fun w _ => by go_simp) hH ?_
              simp only [Act.put, List.setIfInBounds_toArray, List.set_cons_zero, List.set_cons_succ, Nat.zero_add, decide_true, beq_self_eq_true]
              refine takeH_S (o := ⟨some 20, _, _, _, _, _⟩) (i := 8) rfl (by kernel_rfl) (by kernel_rfl) (by kernel_rfl) (fun _ _ _ _ h => h) rfl (.int .i64 0) (fun w _ => by go_simp) hH ?_
              simp only [Act.put, List.setIfInBounds_toArray, List.set_cons_zero, List.set_cons_succ, Nat.zero_add, decide_true, beq_self_eq_true]
              refine takeH_assign (o := ⟨some 2, _, _, _, _, _⟩) (i := 10) rfl (by kernel_rfl) (by kernel_rfl) (by kernel_rfl) (fun _ _ _ _ h => h) rfl (.tmp 18) rfl (.slice A83 512 c84) rfl hH ?_
              simp only [Act.put, List.setIfInBounds_toArray, List.set_cons_zero, List.set_cons_succ, Nat.zero_add, decide_true, beq_self_eq_true]
              refine wpAnyH_ready (rs := [11]) (by kernel_rfl) (by simp) ?_
              refine AllReadyH.cons rfl (fun K1 hK1 => ?_) AllReadyH.nil
              · rw [if_pos (by rfl)]
                refine wp_storeA 41 (.tmp 3) (.tmp 19) rfl 34 arrPt _ _ rfl (pcells 2 1 S) rfl 41 _ hb85 hpl.out (by simp) (pcells_ones _ _ _) ?_
                intro w87 hb88 hKb
                simp only [Act.put, List.getElem_toArray, List.getElem_cons_succ, List.getElem_cons_zero, List.setIfInBounds_toArray, List.set_cons_zero, List.set_cons_succ, Nat.zero_add]
                rw [putL_all (by rw [hpl.out]; simp)] at hb88
                have oc89 := Lib.hid (own_keeps oc81.out hKb (fun k _ hk hm => ne86.out k hk (by simpa using hm)))
                refine hK1.out _ _ (hH.trans (hKb.below hH.size (by intro b hb; simp only [List.mem_singleton] at hb; subst hb; exact ge70.out))) (fun hH => ?_)
                clear hK1 K1 hKb
                refine takeH_assign (o := ⟨some 4, _, _, _, _, _⟩) (i := 12) rfl (by kernel_rfl) (by kernel_rfl) (by kernel_rfl) (fun _ _ _ _ h => h) rfl (.tmp 20) rfl (.int .i64 0) rfl hH ?_
                simp only [Act.put, List.setIfInBounds_toArray, List.set_cons_zero, List.set_cons_succ, Nat.zero_add, decide_true, beq_self_eq_true]
                refine wpAnyH_done (by kernel_rfl) ?_ _
                go_wp2_with fail
                go_meet
                exact ⟨_, _, _, rfl, rfl, rfl, hb88, oc89.out, hH, ge70.out, ne86.out⟩
  case rest =>
    obtain ⟨Av, cv, g3, rfl, rfl, rfl, hp, oc, hB, hg3, hne⟩ := hcut
    replace hB2 := below_call hB2 hB2.size hB
    replace h1 := h1.keep hB
    have hgo := Lib.hid (own_ne oc hw1.out)
    have slc := Sl.of_own oc
    replace oc := Lib.hid oc
    clear hB hg3
    go_wp2_with (first
      | refine wpList_loadW rfl 28 (.tmp 1) rfl 64 arrKs _ rfl 28 _ h1 hKl.out ?_
      | refine wpList_loadW rfl 41 (.tmp 3) rfl 34 arrPt _ rfl 41 _ hp hpl.out ?_)
    refine (hop.out _ _ slc).mono ?_
    rintro e w5 ⟨vb, rfl, ob, hB5⟩
    rw [hXl.out] at ob
    obtain ⟨Ab, cb, rfl, -⟩ := own_shape ob
    have sb := Lib.hid (Sl.of_own ob)
    replace hB2 := below_call hB2 hB2.size hB5
    replace h1 := h1.keep hB5
    replace hp := hp.keep hB5
    replace oc := Lib.hid (own_keep oc.out hB5)
    clear hB5 ob slc
    go_upto_region 4 with fail
    refine wp_region_held_drew (S := fun w' => Below w5.heap.size w5 w') (by kernel_rfl) ((Below.refl _ _).drew) (fun hH => ?_)
    refine takeH_move (o := ⟨some 28, _, _, _, _, _⟩) (i := 0) rfl (by kernel_rfl) (by kernel_rfl) (by kernel_rfl) (fun _ _ _ _ h => h) rfl (.tmp 4) rfl (.int .i64 0) rfl hH ?_
    simp only [Act.put, List.setIfInBounds_toArray, List.set_cons_zero, List.set_cons_succ, Nat.zero_add, decide_true, beq_self_eq_true]
    refine takeH_S (o := ⟨some 29, _, _, _, _, _⟩) (i := 1) rfl (by kernel_rfl) (by kernel_rfl) (by kernel_rfl) (fun _ _ _ _ h => h) rfl (.bool false) (fun w _ => by go_simp) hH ?_
    simp only [Act.put, List.setIfInBounds_toArray, List.set_cons_zero, List.set_cons_succ, Nat.zero_add, decide_true, beq_self_eq_true]
    refine takeH_move (o := ⟨some 30, _, _, _, _, _⟩) (i := 2) rfl (by kernel_rfl) (by kernel_rfl) (by kernel_rfl) (fun _ _ _ _ h => h) rfl (.tmp 29) rfl (.bool false) rfl hH ?_
    simp only [Act.put, List.setIfInBounds_toArray, List.set_cons_zero, List.set_cons_succ, Nat.zero_add, decide_true, beq_self_eq_true]
    refine takeH_move (o := ⟨some 31, _, _, _, _, _⟩) (i := 3) rfl (by kernel_rfl) (by kernel_rfl) (by kernel_rfl) (fun _ _ _ _ h => h) rfl (.tmp 6) rfl (.int .i64 0) rfl hH ?_
    simp only [Act.put, List.setIfInBounds_toArray, List.set_cons_zero, List.set_cons_succ, Nat.zero_add, decide_true, beq_self_eq_true]
    refine takeH_S (o := ⟨some 32, _, _, _, _, _⟩) (i := 4) rfl (by kernel_rfl) (by kernel_rfl) (by kernel_rfl) (fun _ _ _ _ h => h) rfl (.bool false) (fun w _ => by go_simp) hH ?_
    simp only [Act.put, List.setIfInBounds_toArray, List.set_cons_zero, List.set_cons_succ, Nat.zero_add, decide_true, beq_self_eq_true]
    refine takeH_pick (o := ⟨some 33, _, _, _, _, _⟩) (i := 5) rfl (by kernel_rfl) (by kernel_rfl) (by kernel_rfl) (fun _ _ _ _ h => h) rfl (.tmp 30) (.const (.bool true)) (.tmp 32) rfl false rfl (.bool false) rfl hH ?_
    simp only [Act.put, List.setIfInBounds_toArray, List.set_cons_zero, List.set_cons_succ, Nat.zero_add, decide_true, beq_self_eq_true]
    refine takeH_move (o := ⟨some 34, _, _, _, _, _⟩) (i := 6) rfl (by kernel_rfl) (by kernel_rfl) (by kernel_rfl) (fun _ _ _ _ h => h) rfl (.tmp 33) rfl (.bool false) rfl hH ?_
    simp only [Act.put, List.setIfInBounds_toArray, List.set_cons_zero, List.set_cons_succ, Nat.zero_add, decide_true, beq_self_eq_true]
    refine takeH_move (o := ⟨some 35, _, _, _, _, _⟩) (i := 7) rfl (by kernel_rfl) (by kernel_rfl) (by kernel_rfl) (fun _ _ _ _ h => h) rfl (.tmp 5) rfl (.slice Ab 512 cb) rfl hH ?_
    simp only [Act.put, List.setIfInBounds_toArray, List.set_cons_zero, List.set_cons_succ, Nat.zero_add, decide_true, beq_self_eq_true]
    refine takeH_S (o := ⟨some 36, _, _, _, _, _⟩) (i := 8) rfl (by kernel_rfl) (by kernel_rfl) (by kernel_rfl) (fun _ _ _ _ h => h) rfl (.string (bstr X)) (fun w h => by have e := run_conv w _ X (sb.out.keep h); go_simp) hH ?_
    simp only [Act.put, List.setIfInBounds_toArray, List.set_cons_zero, List.set_cons_succ, Nat.zero_add, decide_true, beq_self_eq_true]
    refine wpAnyH_ready (rs := [9]) (by kernel_rfl) (by simp) ?_
    refine AllReadyH.cons rfl (fun K1 hK1 => ?_) AllReadyH.nil
    go_simp
    have hbB : Blk (w5.alloc (.cells #[.int .u8 97, .int .u8 98, .int .u8 99] 5)).drew w5.heap.size 5 (bv [97, 98, 99]) := Blk.new_at rfl rfl
    refine hK1.out _ _ (hH.alloc hH.size _) (fun hH => ?_)
    clear hK1 K1
    refine wpAnyH_ready (rs := [10]) (by kernel_rfl) (by simp) ?_
    refine AllReadyH.cons rfl (fun K1 hK1 => ?_) AllReadyH.nil
    rw [if_pos (by rfl)]
    obtain ⟨wv, hr, slB, hKb, -⟩ := conv_const (n := 3) (c := 3) (t := 22) Try.underlying22 Try.underlying5 hbB rfl (Nat.le_refl _) (by unfold maxLen; omega)
    refine wp_convert_run (.tmp 37) 22 rfl _ rfl hr ?_
    simp only [Act.put, List.getElem_toArray, List.getElem_cons_succ, List.getElem_cons_zero, List.setIfInBounds_toArray, List.set_cons_zero, List.set_cons_succ, Nat.zero_add]
    refine hK1.out _ _ (hH.trans (hKb.below hH.size (by simp))) (fun hH => ?_)
    clear hK1 K1 hKb hr hbB
    refine wpAnyH_ready (rs := [11]) (by kernel_rfl) (by simp) ?_
    refine AllReadyH.cons rfl (fun K1 hK1 => ?_) AllReadyH.nil
    rw [if_pos (by rfl)]
    go_wp2_with fail
    refine (hblk.out _ _ slB).mono ?_
    rintro e wk ⟨gb, rfl, -, hbk, hBa⟩
    refine hK1.out _ _ (below_call hH hH.size hBa) (fun hH => ?_)
    clear hK1 K1 hBa slB
    refine wpAnyH_ready (rs := [12]) (by kernel_rfl) (by simp) ?_
    refine AllReadyH.cons rfl (fun K1 hK1 => ?_) AllReadyH.nil
    rw [if_pos (by rfl)]
    refine wp_conv_run (.tmp 39) 22 9 rfl _ rfl (run_conv _ _ X (blk_sl hbk hXl.out)) ?_
    simp only [Act.put, List.getElem_toArray, List.getElem_cons_succ, List.getElem_cons_zero, List.setIfInBounds_toArray, List.set_cons_zero, List.set_cons_succ, Nat.zero_add]
    refine hK1.out _ _ hH (fun hH => ?_)
    clear hK1 K1 hbk
    refine takeH_S (o := ⟨some 41, _, _, _, _, _⟩) (i := 13) rfl (by kernel_rfl) (by kernel_rfl) (by kernel_rfl) (fun _ _ _ _ h => h) rfl (.bool false) (fun w _ => by go_simp) hH ?_
    simp only [Act.put, List.setIfInBounds_toArray, List.set_cons_zero, List.set_cons_succ, Nat.zero_add, decide_true, beq_self_eq_true]
    refine takeH_pick (o := ⟨some 42, _, _, _, _, _⟩) (i := 14) rfl (by kernel_rfl) (by kernel_rfl) (by kernel_rfl) (fun _ _ _ _ h => h) rfl (.tmp 34) (.const (.bool true)) (.tmp 41) rfl false rfl (.bool false) rfl hH ?_
    simp only [Act.put, List.setIfInBounds_toArray, List.set_cons_zero, List.set_cons_succ, Nat.zero_add, decide_true, beq_self_eq_true]
    refine takeH_move (o := ⟨some 43, _, _, _, _, _⟩) (i := 15) rfl (by kernel_rfl) (by kernel_rfl) (by kernel_rfl) (fun _ _ _ _ h => h) rfl (.tmp 42) rfl (.bool false) rfl hH ?_
    simp only [Act.put, List.setIfInBounds_toArray, List.set_cons_zero, List.set_cons_succ, Nat.zero_add, decide_true, beq_self_eq_true]
    refine takeH_move (o := ⟨some 44, _, _, _, _, _⟩) (i := 16) rfl (by kernel_rfl) (by kernel_rfl) (by kernel_rfl) (fun _ _ _ _ h => h) rfl (.tmp 2) rfl (.slice Av 512 cv) rfl hH ?_
    simp only [Act.put, List.setIfInBounds_toArray, List.set_cons_zero, List.set_cons_succ, Nat.zero_add, decide_true, beq_self_eq_true]
    refine takeH_len (o := ⟨some 45, _, _, _, _, _⟩) (i := 17) rfl (by kernel_rfl) (by kernel_rfl) (by kernel_rfl) (fun _ _ _ _ h => h) rfl 22 5 (.tmp 44) rfl Try.underlying22 _ _ _ rfl hH ?_
    simp only [Act.put, List.setIfInBounds_toArray, List.set_cons_zero, List.set_cons_succ, Nat.zero_add, decide_true, beq_self_eq_true]
    refine takeH_S (o := ⟨some 46, _, _, _, _, _⟩) (i := 18) rfl (by kernel_rfl) (by kernel_rfl) (by kernel_rfl) (fun _ _ _ _ h => h) rfl (.bool false) (fun w _ => by go_simp) hH ?_
    simp only [Act.put, List.setIfInBounds_toArray, List.set_cons_zero, List.set_cons_succ, Nat.zero_add, decide_true, beq_self_eq_true]
    refine takeH_pick (o := ⟨some 47, _, _, _, _, _⟩) (i := 19) rfl (by kernel_rfl) (by kernel_rfl) (by kernel_rfl) (fun _ _ _ _ h => h) rfl (.tmp 43) (.const (.bool true)) (.tmp 46) rfl false rfl (.bool false) rfl hH ?_
    simp only [Act.put, List.setIfInBounds_toArray, List.set_cons_zero, List.set_cons_succ, Nat.zero_add, decide_true, beq_self_eq_true]
    refine wpAnyH_done (by kernel_rfl) ?_ _
    replace hB2 := below_call hB2 hB2.size hH
    replace h1 := h1.keep hH
    replace hp := hp.keep hH
    replace oc := own_keep oc.out hH
    clear hH sb
    obtain ⟨k, rfl, hk1, hk2, f0, c0, hset⟩ := own_set oc (i := 100) (by decide)
    have hk3 : k ≠ g3 := hne k rfl
    have hk4 : k ≠ g1 := hgo.out k rfl
    obtain ⟨oD, hKs⟩ := hset (.int .u8 ((y ^^^ 1 : Nat) : Int))
    rw [bv_get, hc100.out] at c0
    simp only [Option.map_some] at c0
    rw [bv_set, hD.out] at oD
    have slD := Sl.of_own oD
    replace hB2 := hB2.trans (hKs.below hB2.size (by intro b hb; simp only [List.mem_singleton] at hb; subst hb; have := hw2.out; omega))
    replace h1 := h1.keeps hKs (by simp; omega)
    replace hp := hp.keeps hKs (by simp; omega)
    clear hset oD hKs oc hk2 hk1
    have hx : bits .xor .u8 (y : Int) 1 = ((y ^^^ 1 : Nat) : Int) := hx8.1
    go_wp2_with (first
      | refine wpList_loadW rfl 28 (.tmp 1) rfl 64 arrKs _ rfl 28 _ h1 hKl.out ?_
      | refine wpList_loadW rfl 41 (.tmp 3) rfl 34 arrPt _ rfl 41 _ hp hpl.out ?_)
    refine (hop2.out _ _ slD).mono ?_
    rintro e w7 ⟨rfl, hB7⟩
    replace hp := hp.keep hB7
    have e0 : w7.cell? ⟨g3, 0, none⟩ = some (.int .u32 2) := hp.cell 0
    have e1 : w7.cell? ⟨g3, 1, none⟩ = some (.int .u64 1) := hp.cell 1
    replace hB2 := below_call hB2 hB2.size hB7
    clear hB7 slD
    go_wp2
    go_ret
    exact ⟨rfl, hB2⟩
end Go.Proofs.Ytlifpmglaoppoaa
