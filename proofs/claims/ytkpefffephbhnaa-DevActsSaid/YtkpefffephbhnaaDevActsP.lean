/- The law DevActs: both devices through one act. -/
import Derived.Test.YtkpefffephbhnaaRvE
import Derived.Test.YtkpefffephbhnaaOpenAc
import Derived.Deep.QuietTactic
set_option linter.unusedVariables false
set_option linter.unusedSimpArgs false
namespace Go.Proofs.PlainDev
def actL (x : ActD) : List Nat := if x.sh then (secL x.a x.b).drop 1 else secL x.a x.b
def actN (x : ActD) : Nat := if x.sh then 511 else 512
def actO (x : ActD) : Nat := if x.sh then 1 else 0
theorem actL_len (x : ActD) : (actL x).length = actN x := by
  unfold actL actN
  split
  · rw [List.length_drop, secL_length]
  · exact secL_length _ _
/-- What a poke does, and answers. -/
def pokeR (s : Dst) (a : Nat) (l : List Nat) : Dst × Int := if mayE s a l.length = 0 then (pokeS s a l, 0) else (s, 2)
theorem mayE_two {s : Dst} {a n : Nat} (h : ¬ mayE s a n = 0) : mayE s a n = 2 := by
  unfold mayE at h ⊢
  split
  · split
    · rename_i h1 h2; rw [if_pos h1, if_pos h2] at h; exact absurd rfl h
    · rfl
  · rfl
theorem mayE_all {s : Dst} {a n : Nat} (h : mayE s a n = 0) : a < s.size ∧ n = 512 := by
  unfold mayE at h
  split at h
  · split at h
    · rename_i h1 h2; exact ⟨h1, h2⟩
    · cases h
  · cases h
end Go.Proofs.PlainDev
namespace Go.Proofs.Ytkpefffephbhnaa
open Go.RowKit Go.Maps
open Go.Proofs.PlainDev

section
variable {B g N : Nat} {w w' : World} {L : List Nat} {s : Dst}
theorem Dx.wle (h : Dx B w g L N s) : s.waits.length ≤ N := by
  obtain ⟨bl, ba, vw, nl, h, rfl, hn⟩ := h
  omega
theorem Rx.mono {C : Nat} (h : Rx B w g L s) (hC : C ≤ B) : Rx C w g L s := by
  obtain ⟨gl, vw, h, rfl⟩ := h
  refine ⟨gl, vw, ⟨h.ok, h.blk, h.lies, ?_, Nat.le_trans hC h.gB, Nat.le_trans hC h.glB, h.ne, h.ne4⟩, rfl⟩
  obtain ⟨h1, h2⟩ := h.row
  rcases h2 with e | ⟨g', cap, cur, e, hb, r⟩
  · exact ⟨h1, .inl e⟩
  · exact ⟨h1, .inr ⟨g', cap, cur, e, Nat.le_trans hC hb, r⟩⟩
theorem Rx.fresh {k : Nat} (h : Rx B w g L s) (hk : w.heap.size ≤ k) : k ∉ L := fun hm => by have := (h.lt k hm).2; omega
theorem Rx.go {C : Nat} {w0 : World} {L' : List Nat} (h : Rx B w g L s) (hS : Step L L' w w') (h0 : Below C w0 w) (hC : C ≤ B) : Below C w0 w' :=
  h0.trans (hS.below (fun k hk => Nat.le_trans hC (h.lt k hk).1) (by obtain ⟨gl, vw, hd, rfl⟩ := h; have := hd.lt g (mem_rblk.2 (.inl rfl)); omega))
end
/-- A row of cells, read as a struct's value. -/
theorem run_loadR {P : Program} {w : World} {g off ty n : Nat} {vs : List Value} (hb : w.rangeAt g off vs) (hT : ArrTy P ty n) (hl : vs.length = n) : (Instr.loadAt ty (.pointer (some ⟨g, off, none⟩))).run P w = .ok (.agg vs.toArray) w := by
  obtain ⟨d, hu, hd, hi⟩ := hT
  have hc : (loadCells ⟨g, off, none⟩ vs.length).run P w = .ok vs.toArray w :=
    run_loadCells_list (P := P) w ⟨g, off, none⟩ _ (fun j v hv => by
      have hadd : (⟨g, off, none⟩ : Addr).add j = ⟨g, off + j, none⟩ := by unfold Addr.add; split <;> simp_all
      rw [hadd]
      exact hb j v hv)
  rw [hl] at hc
  cases hq : P.info? ty with
  | none => simp [hq] at hi
  | some i =>
    have hs : i.size = n := by simpa [hq] using hi
    have hagg : (isAgg ty).run P w = .ok true w := by
      unfold isAgg
      rw [Sem.run_bind, run_underlying hu w]
      cases d <;> simp_all
    simp [Instr.loadAt, Instr.sureAddr, loadVar, Sem.run_bind, hagg, sizeOf, typeInfo, hq, hs, hc]
theorem wpList_loadR {P : Program} {ops : Array Oper} {rest : List Oper} {o : Oper} {a : Act} {w : World} {Q : Exit → Act → World → Prop} (hgd : o.guard = none) (ty : TypeId) (x : Operand) (ho : o.op = .load ty x) (n : Nat) (hT : ArrTy P ty n) (g off : Nat) (hx : a.eval x = .pointer (some ⟨g, off, none⟩)) (vs : List Value) (hb : w.rangeAt g off vs)
    (hl : vs.length = n) (h : wpList P ops Q rest (a.put o.dst (.agg vs.toArray)) w) : wpList P ops Q (o :: rest) a w := by
  refine wpList_plain hgd fun K hK => ?_
  unfold Oper.wp execOp
  simp only [ho, hx, Sem.run_bind, run_loadR hb hT hl, Result.andThen_ok, Sem.run_pure]
  exact hK _ _ h
theorem arrAct : ArrTy Try.prog 59 7 := ⟨_, Try.underlying59, rfl, by kernel_rfl⟩
def actZ : List Value := [.int .i64 0, .int .u32 0, .int .u8 0, .int .u8 0, .bool false, .int .i64 0, .int .u64 0]
theorem act_zero : (Try.prog.info? 59).bind (·.zero) = some (.agg actZ.toArray) := by kernel_rfl
theorem act_ones (x : ActD) : Ones (actC x) := by
  intro v hv
  simp only [actC, List.mem_cons, List.not_mem_nil, or_false] at hv
  rcases hv with rfl | rfl | rfl | rfl | rfl | rfl | rfl <;> rfl
theorem act_sec {x : ActD} (h : ActOk x) : Sec (secL x.a x.b) := secL_sec (by have := h.a; omega) (by have := h.b; omega)
theorem actL_lt {x : ActD} (h : ActOk x) : ∀ y ∈ actL x, y < 256 := by
  intro y hy
  unfold actL at hy
  split at hy
  · exact (act_sec h).2 y (List.mem_of_mem_drop hy)
  · exact (act_sec h).2 y hy
theorem act_sl {x : ActD} {w : World} {k : Nat} (hb : Blk w k 5 (bv (secL x.a x.b))) : Sl w (.slice (some ⟨k, actO x, none⟩) (actN x) (actN x)) (bv (actL x)) := by
  refine sl_at hb ?_ (actL_len x) (by unfold actN maxLen; split <;> decide)
  have hl : (bv (secL x.a x.b)).length = 512 := by rw [bv_length]; exact secL_length _ _
  unfold actO actN actL
  cases x.sh with
  | true =>
    simp only [if_true]
    rw [List.take_of_length_le (by rw [List.length_drop, hl]; decide)]
    simp [bv]
  | false =>
    simp only [Bool.false_eq_true, if_false, List.drop_zero]
    rw [List.take_of_length_le (by rw [hl]; decide)]
set_option maxRecDepth 100000 in
theorem bytes6 (x : ActD) (hx : ActOk x) (w : World) :
    Calls Try.prog 25 #[.agg (actC x).toArray] w fun e w' => ∃ k, e = .returned (.slice (some ⟨k, actO x, none⟩) (actN x) (actN x)) ∧ Blk w' k 5 (bv (secL x.a x.b)) ∧ w.heap.size ≤ k ∧ Below w.heap.size w w' := by
  obtain ⟨k, ad, a, b, sh, n, kp⟩ := x
  have hsec := Lib.hid (fun w => sector_any a b w hx.a hx.b)
  have h0 := Blk.new_at (w := w) (t := 59) (cs := (actC ⟨k, ad, a, b, sh, n, kp⟩).toArray) rfl rfl
  have hB0 : Below w.heap.size w (w.alloc (.cells (actC ⟨k, ad, a, b, sh, n, kp⟩).toArray 59)) := (Below.refl _ _).alloc (Nat.le_refl _) _
  have ca : (w.alloc (.cells (actC ⟨k, ad, a, b, sh, n, kp⟩).toArray 59)).cell? ⟨w.heap.size, 2, none⟩ = some (.int .u8 (a : Int)) := (h0.cell 2).trans rfl
  have cb : (w.alloc (.cells (actC ⟨k, ad, a, b, sh, n, kp⟩).toArray 59)).cell? ⟨w.heap.size, 3, none⟩ = some (.int .u8 (b : Int)) := (h0.cell 3).trans rfl
  simp only [actC] at h0 hB0 ca cb ⊢
  cases sh with
  | true =>
    clear hx
    go_enter Try.func25, Try.ntmps25
    go_wp2_with fail
    refine (hsec.out _).mono ?_
    rintro e w1 ⟨k1, rfl, b1, g1, B1⟩
    have c4 : w1.cell? ⟨w.heap.size, 4, none⟩ = some (.bool true) := ((h0.keep B1).cell 4).trans rfl
    have BB := Lib.hid (hB0.trans (B1.mono hB0.size))
    have hge := Lib.hid (Nat.le_trans hB0.size g1)
    clear ca cb h0 hB0 B1 g1
    go_wp2
    go_ret
    exact ⟨k1, rfl, b1, hge.out, BB.out⟩
  | false =>
    clear hx
    go_enter Try.func25, Try.ntmps25
    go_wp2_with fail
    refine (hsec.out _).mono ?_
    rintro e w1 ⟨k1, rfl, b1, g1, B1⟩
    have c4 : w1.cell? ⟨w.heap.size, 4, none⟩ = some (.bool false) := ((h0.keep B1).cell 4).trans rfl
    have BB := Lib.hid (hB0.trans (B1.mono hB0.size))
    have hge := Lib.hid (Nat.le_trans hB0.size g1)
    clear ca cb h0 hB0 B1 g1
    go_wp2
    go_ret
    exact ⟨k1, rfl, b1, hge.out, BB.out⟩
section
variable {B g N : Nat} {w : World} {L : List Nat} {s : Dst}
theorem apart_act {x : ActD} {k : Nat} {G : List Nat} (h : k ∉ G) : Apart (.slice (some ⟨k, actO x, none⟩) (actN x) (actN x)) G := fun A n c e => by injection e with e1 e2 e3; injection e1 with e1; rw [← e1]; exact h
theorem pokeP {x : ActD} (hx : ActOk x) {k : Nat} (h : Dx B w g L N s) (hN : (N : Int) ≤ 100000) (hb : Blk w k 5 (bv (secL x.a x.b))) :
    Calls Try.prog 22 #[.pointer (some ⟨g, 0, none⟩), .int .u32 (x.addr : Int), .slice (some ⟨k, actO x, none⟩) (actN x) (actN x)] w fun e w' => e = .returned (.int .i64 (pokeR s x.addr (actL x)).2) ∧ Dx B w' g L (N + 1) (pokeR s x.addr (actL x)).1 ∧ Step L L w w' := by
  unfold pokeR
  rw [actL_len]
  by_cases hm : mayE s x.addr (actN x) = 0
  · obtain ⟨h1, h2⟩ := mayE_all hm
    have hsh : x.sh = false := by
      unfold actN at h2
      cases hs : x.sh with
      | true => rw [hs] at h2; cases h2
      | false => rfl
    rw [if_pos hm]
    have e1 : actO x = 0 := by unfold actO; rw [hsh]; rfl
    have e2 : actL x = secL x.a x.b := by unfold actL; rw [hsh]; rfl
    rw [e1, h2, e2]
    exact poke_x h hN x.addr hx.ad h1 k _ (act_sec hx) hb
  · rw [if_neg hm]
    refine (poke_err h x.addr hx.ad _ _ _ (mayE_two hm)).mono ?_
    rintro e w' ⟨rfl, rfl⟩
    exact ⟨rfl, h.more (Nat.le_succ N), Step.refl _ _⟩
theorem poke6P {x : ActD} (hx : ActOk x) {k : Nat} (h : Rx B w g L s) (hb : Blk w k 5 (bv (secL x.a x.b))) (hk : k ∉ L) :
    Calls Try.prog 29 #[.pointer (some ⟨g, 0, none⟩), .int .u32 (x.addr : Int), .slice (some ⟨k, actO x, none⟩) (actN x) (actN x)] w fun e w' => e = .returned (.int .i64 (pokeR s x.addr (actL x)).2) ∧ Rx B w' g L (pokeR s x.addr (actL x)).1 ∧ Step L L w w' := by
  unfold pokeR
  rw [actL_len]
  have hs := act_sl (x := x) hb
  have hl := actL_len x
  by_cases hm : mayE s x.addr (actN x) = 0
  · obtain ⟨h1, h2⟩ := mayE_all hm
    rw [if_pos hm]
    rw [h2] at hs hl ⊢
    exact poke6 h x.addr hx.ad h1 _ _ _ hs ⟨hl, actL_lt hx⟩ (fun A n c e => by injection e with e1 e2 e3; injection e1 with e1; rw [← e1]; exact hk)
  · rw [if_neg hm]
    refine (poke6_err h x.addr hx.ad _ _ _ (mayE_two hm)).mono ?_
    rintro e w' ⟨rfl, rfl⟩
    exact ⟨rfl, h, Step.refl _ _⟩
theorem writeP {x : ActD} (hx : ActOk x) {k : Nat} (h : Dx B w g L N s) (hN : (N : Int) ≤ 100000) (hb : Blk w k 5 (bv (secL x.a x.b))) (hk : k ∉ L) :
    Calls Try.prog 12 #[.pointer (some ⟨g, 0, none⟩), .int .u32 (x.addr : Int), .slice (some ⟨k, actO x, none⟩) (actN x) (actN x)] w fun e w' => ∃ L', e = .returned (.int .i64 (writeS s x.addr (actL x)).2) ∧ Dx B w' g L' (N + 1) (writeS s x.addr (actL x)).1 ∧ Step L L' w w' :=
  write_x h hN x.addr hx.ad _ _ _ _ (actL_len x).symm (act_sl hb) (actL_lt hx) (apart_act hk)
theorem write6P {x : ActD} (hx : ActOk x) {k : Nat} (h : Rx B w g L s) (hnw : (s.waits.length : Int) ≤ 100000) (hb : Blk w k 5 (bv (secL x.a x.b))) (hk : k ∉ L) :
    Calls Try.prog 32 #[.pointer (some ⟨g, 0, none⟩), .int .u32 (x.addr : Int), .slice (some ⟨k, actO x, none⟩) (actN x) (actN x)] w fun e w' => ∃ L', e = .returned (.int .i64 (writeS s x.addr (actL x)).2) ∧ Rx B w' g L' (writeS s x.addr (actL x)).1 ∧ Step L L' w w' := by
  have hs := act_sl (x := x) hb
  have hl := actL_len x
  by_cases hm : mayE s x.addr (actN x) = 0
  · obtain ⟨h1, h2⟩ := mayE_all hm
    rw [h2] at hs hl ⊢
    exact write6 h x.addr hx.ad h1 _ _ _ hs ⟨hl, actL_lt hx⟩ (fun A n c e => by injection e with e1 e2 e3; injection e1 with e1; rw [← e1]; exact hk) hnw
  · have e : writeS s x.addr (actL x) = (s, 2) := by
      unfold writeS
      rw [actL_len, if_neg hm, mayE_two hm]
    rw [e]
    refine (write6_err h x.addr hx.ad _ _ _ (mayE_two hm)).mono ?_
    rintro e w' ⟨rfl, rfl⟩
    exact ⟨_, rfl, h, Step.refl _ _⟩
end
set_option maxRecDepth 100000 in
theorem new_err (n : Int) (w : World) (h : n < 16 ∨ 4096 < n) : Calls Try.prog 11 #[.int .i64 n] w fun e w' => e = .returned (.tuple #[.pointer none, .int .i64 2]) ∧ w = w' := by
  rcases h with h | h
  · go_enter Try.func11, Try.ntmps11
    go_wp2
    go_ret2
    exact ⟨rfl, rfl⟩
  · have h2 : ¬ n < 16 := by omega
    go_enter Try.func11, Try.ntmps11
    go_wp2
    go_ret2
    exact ⟨rfl, rfl⟩
set_option maxRecDepth 100000 in
theorem new6_err (n : Int) (w : World) (h : n < 16 ∨ 4096 < n) : Calls Try.prog 23 #[.int .i64 n] w fun e w' => e = .returned (.tuple #[.pointer none, .bool false]) ∧ w = w' := by
  rcases h with h | h
  · go_enter Try.func23, Try.ntmps23
    go_wp2
    go_ret2
    exact ⟨rfl, rfl⟩
  · have h2 : ¬ n < 16 := by omega
    go_enter Try.func23, Try.ntmps23
    go_wp2
    go_ret2
    exact ⟨rfl, rfl⟩
end Go.Proofs.Ytkpefffephbhnaa
