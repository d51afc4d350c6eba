/- Contract of banyanref04: Open. -/
import Derived.Test.YtmlaopohlmnegaaRefL
import Derived.Test.YtmlaopohlmnegaaRefM
import Derived.Test.YtmlaopohlmnegaaRefJ
import Derived.Test.YtmlaopohlmnegaaAesO
set_option linter.unusedVariables false
set_option linter.unusedSimpArgs false
namespace Go.Proofs.Ytmlaopohlmnegaa
open Go.RowKit
open Go.Proofs.PlainAes

/-- Ways that meet inside a region: what is shown behind the meeting is found by the first way that comes there. -/
theorem meet3 {main : Prop} {α β γ : Type} (F : α → β → γ → Prop) {G : α → β → γ → Prop} (h1 : (∀ a b c, F a b c → G a b c) → main) (h2 : ∀ a b c, F a b c → G a b c) : main := h1 h2
theorem held_drew2 {P : Program} {ops : Array Oper} {Q : Exit → Act → World → Prop} {S : World → Prop} {id : Nat} {a : Act} {w : World} (L0 : Array Bool) (hL : Array.replicate ops.size false = L0) (hm : P.follows .mixedOrders = true) (hS : S w.drew)
    (h : S w.drew → wpAnyH P .any ops Q S ops.size L0 a w.drew) : (Code.region id ops true).wp P Q a w := by
  subst hL
  exact wp_region_held_drew hm hS h
/-- A new variable of an array's type, in a region. -/
theorem wp_allocA {P : Program} {o : Oper} {a : Act} {w : World} {K : Act → World → Prop} {Q : Exit → Act → World → Prop} (ty : TypeId) (ho : o.op = .alloc ty) (zs : List Value) (hz : (P.info? ty).bind (·.zero) = some (.agg zs.toArray))
    (h : ∀ w', Blk w' w.heap.size ty zs → Keeps [] w w' → K (a.put o.dst (.pointer (some ⟨w.heap.size, 0, none⟩))) w') : Oper.wp P o a w K Q := by
  unfold Oper.wp execOp
  cases hq : P.info? ty with
  | none => simp [hq] at hz
  | some i =>
    have hz' : i.zero = some (.agg zs.toArray) := by simpa [hq] using hz
    simp [ho, Instr.alloc, zeroValue, typeInfo, hq, hz', newVar, newRow, newObj, Sem.run_bind, Value.cells, Result.andThen]
    exact h (w.alloc (.cells zs.toArray ty)) (Blk.new_at rfl rfl) ((Keeps.refl _ _).alloc _)

/-- What lies there ahead of all. -/
structure Bq (w : World) (g0 g1 g2 g3 : Nat) (k b : List Nat) (wr : World) : Prop where
  t : Blk wr g0 34 (bv (tbl box))
  k : Blk wr g1 26 (bv k)
  b : Blk wr g2 27 (bv b)
  r : Blk wr g3 27 (bv (zeros 16))
  below : Below w.heap.size w wr
  o0 : w.heap.size ≤ g0
  o1 : g0 < g1
  o2 : g1 < g2
  o3 : g2 < g3
/-- What lies there while a block is opened. -/
structure Oq (w : World) (g2 g3 g7 g8 : Nat) (K b : List Nat) (wr : World) : Prop where
  t : Blk wr g8 34 (bv (tbl unbox))
  b : Blk wr g2 27 (bv b)
  r : Blk wr g3 27 (bv (zeros 16))
  k : Blk wr g7 38 (bv K)
  below : Below w.heap.size w wr
  o0 : w.heap.size ≤ g2
  o1 : g2 < g3
  o2 : g3 < g7
  o3 : g3 < g8
section
variable {w wr wr' : World} {g0 g1 g2 g3 g7 g8 g : Nat} {k K b b' : List Nat}
theorem Bq.call (h : Bq w g0 g1 g2 g3 k b wr) (hB : Below wr.heap.size wr wr') : Bq w g0 g1 g2 g3 k b wr' :=
  ⟨h.t.keep hB, h.k.keep hB, h.b.keep hB, h.r.keep hB, below_call h.below h.below.size hB, h.o0, h.o1, h.o2, h.o3⟩
theorem Bq.keeps0 (h : Bq w g0 g1 g2 g3 k b wr) (hB : Keeps [] wr wr') : Bq w g0 g1 g2 g3 k b wr' := h.call (hB.below (Nat.le_refl _) (by simp))
theorem Bq.keeps (h : Bq w g0 g1 g2 g3 k b wr) (hk : Keeps [g] wr wr') (hg : g3 < g) : Bq w g0 g1 g2 g3 k b wr' := by
  have h0 := h.o0
  have h1 := h.o1
  have h2 := h.o2
  have h3 := h.o3
  exact ⟨h.t.keeps hk (by simp; omega), h.k.keeps hk (by simp; omega), h.b.keeps hk (by simp; omega), h.r.keeps hk (by simp; omega), h.below.trans (hk.below h.below.size (by simp; omega)), h0, h1, h2, h3⟩
theorem Bq.drew (h : Bq w g0 g1 g2 g3 k b wr) : Bq w g0 g1 g2 g3 k b wr.drew := ⟨h.t, h.k, h.b, h.r, h.below.drew, h.o0, h.o1, h.o2, h.o3⟩
theorem Bq.S (h : Bq w g0 g1 g2 g3 k b wr) : wr.rangeAt g0 0 (bv (tbl box)) ∧ wr.rangeAt g1 0 (bv k) := by
  constructor
  · have := h.t.range 0 (bv (tbl box)).length
    rwa [List.drop_zero, List.take_length] at this
  · have := h.k.range 0 (bv k).length
    rwa [List.drop_zero, List.take_length] at this
theorem Oq.call (h : Oq w g2 g3 g7 g8 K b wr) (hB : Below wr.heap.size wr wr') : Oq w g2 g3 g7 g8 K b wr' := ⟨h.t.keep hB, h.b.keep hB, h.r.keep hB, h.k.keep hB, below_call h.below h.below.size hB, h.o0, h.o1, h.o2, h.o3⟩
theorem Oq.keeps0 (h : Oq w g2 g3 g7 g8 K b wr) (hB : Keeps [] wr wr') : Oq w g2 g3 g7 g8 K b wr' := h.call (hB.below (Nat.le_refl _) (by simp))
theorem Oq.keeps (h : Oq w g2 g3 g7 g8 K b wr) (hk : Keeps [g] wr wr') (hg : g7 < g ∧ g8 < g) : Oq w g2 g3 g7 g8 K b wr' := by
  have h0 := h.o0
  have h1 := h.o1
  have h2 := h.o2
  have h3 := h.o3
  obtain ⟨hg1, hg2⟩ := hg
  exact ⟨h.t.keeps hk (by simp; omega), h.b.keeps hk (by simp; omega), h.r.keeps hk (by simp; omega), h.k.keeps hk (by simp; omega), h.below.trans (hk.below h.below.size (by simp; omega)), h0, h1, h2, h3⟩
theorem Oq.put (h : Oq w g2 g3 g7 g8 K b wr) (hk : Keeps [g2] wr wr') (hb : Blk wr' g2 27 (bv b')) : Oq w g2 g3 g7 g8 K b' wr' := by
  have h0 := h.o0
  have h1 := h.o1
  have h2 := h.o2
  have h3 := h.o3
  exact ⟨h.t.keeps hk (by simp; omega), hb, h.r.keeps hk (by simp; omega), h.k.keeps hk (by simp; omega), h.below.trans (hk.below h.below.size (by simp; omega)), h0, h1, h2, h3⟩
theorem Oq.drew (h : Oq w g2 g3 g7 g8 K b wr) : Oq w g2 g3 g7 g8 K b wr.drew := ⟨h.t, h.b, h.r, h.k, h.below.drew, h.o0, h.o1, h.o2, h.o3⟩
/-- What is read where the sum is made. -/
theorem Oq.S {n : Nat} (h : Oq w g2 g3 g7 g8 K b wr) (hc : b.length = 16) (hn : n < 15) (hK : K.length = 240) : wr.rangeAt g2 0 (bv b) ∧ wr.rangeAt g7 (n * 16) (bv (rkey K n)) := by
  refine ⟨?_, ?_⟩
  · have := h.b.range 0 16
    rwa [bv_seg, List.drop_zero, List.take_of_length_le (by omega)] at this
  · have := h.k.range (n * 16) 16
    rw [bv_seg, Nat.mul_comm n 16] at this
    rw [Nat.mul_comm n 16]
    exact this
end

set_option maxRecDepth 100000 in
set_option maxHeartbeats 4000000 in
theorem ropen_any (k b : List Nat) (w : World) (hk : k.length = 32) (bk : Byt k) (hb : b.length = 16) (bb : Byt b) :
    Calls Try.prog 22 #[.agg (bv (tbl box)).toArray, .agg (bv k).toArray, .agg (bv b).toArray] w (RetA (openB unbox (keys box k) b) w) := by
  have hro := Lib.hid (fun w => rrounds_any k w hk bk)
  have hba := Lib.hid (fun w => rback_any w)
  have hsum := Lib.hid (fun a b w ha hb ba bb => rsum_any a b w ha hb ba bb)
  have hcol := Lib.hid (fun (b : List Nat) w (hb : b.length = 16) (bb : Byt b) => rcolumns_any b [14, 11, 13, 9] w hb rfl bb (by intro x hx; simp only [List.mem_cons, List.not_mem_nil, or_false] at hx; omega))
  have hmixE := Lib.hid (fun (b : List Nat) (bb : Byt b) => colL_unmix b bb)
  have hkl := Lib.hid (show (bv k).length = 32 by simp [hk])
  have Kl := Lib.hid (keys_length box hk)
  have Kb := Lib.hid (bk.keys)
  have Hb := Lib.hid hb
  have Bb := Lib.hid bb
  have hKl := Lib.hid (show (bv (keys box k)).length = 240 by simp [keys_length box hk])
  have hbl := Lib.hid (show (bv b).length = 16 by simp [hb])
  clear hk bk hb bb
  generalize keys box k = K at *
  have hRet : Hid (∀ w', Below w.heap.size w w' → RetA (openB unbox K b) w (.returned (.agg (bv (openB unbox K b)).toArray)) w') := fun w' h => ⟨rfl, h⟩
  generalize RetA (openB unbox K b) w = RX at *
  generalize hR : openB unbox K b = R at *
  have HR := Lib.hid hR
  clear hR
  go_enter Try.func22, Try.ntmps22
  go_wp2_with (refine wpList_allocA rfl 27 rfl (bv (zeros 16)) (by kernel_rfl) ?_)
  intro w1 h3 hK1 hz1
  have h0 := (((Blk.new_at (w := w) (t := 34) (cs := (bv (tbl box)).toArray) rfl rfl).alloc (.cells (bv k).toArray 26)).alloc (.cells (bv b).toArray 27)).keeps hK1 (by simp)
  have h1 := ((Blk.new_at (w := w.alloc (.cells (bv (tbl box)).toArray 34)) (t := 26) (cs := (bv k).toArray) rfl rfl).alloc (.cells (bv b).toArray 27)).keeps hK1 (by simp)
  have h2 := (Blk.new_at (w := (w.alloc (.cells (bv (tbl box)).toArray 34)).alloc (.cells (bv k).toArray 26)) (t := 27) (cs := (bv b).toArray) rfl rfl).keeps hK1 (by simp)
  simp only [List.size_toArray, World.size_alloc] at h0 h1 h2 h3
  have hB : Below w.heap.size w w1 := ((((Below.refl _ _).alloc (Nat.le_refl _) _).alloc (by simp) _).alloc (by simp; omega) _).trans (hK1.below (by simp; omega) (by simp))
  clear hK1 hz1
  have hBq : Hid (Bq w w.heap.size (w.heap.size + 1) (w.heap.size + 1 + 1) (w.heap.size + 1 + 1 + 1) k b w1.drew) := (Bq.mk h0 h1 h2 h3 hB (Nat.le_refl _) (by omega) (by omega) (by omega)).drew
  clear h0 h1 h2 h3 hB
  generalize w.heap.size + 1 + 1 + 1 = g3 at *
  generalize w.heap.size + 1 + 1 = g2 at *
  generalize w.heap.size + 1 = g1 at *
  generalize hg0 : w.heap.size = g0 at hBq ⊢
  replace hg0 := Lib.hid hg0
  rw [hg0.out] at hRet
  go_upto_region 1 with fail
  refine held_drew2 (S := fun w' => w'.rangeAt g0 0 (bv (tbl box)) ∧ w'.rangeAt g1 0 (bv k)) #[false, false, false, false, false, false, false, false, false] (by kernel_rfl) (by kernel_rfl) hBq.out.S (fun hH => ?_)
  refine takeH_load (o := ⟨some 13, _, _, _, _, _⟩) (i := 0) rfl (by kernel_rfl) (by kernel_rfl) (by kernel_rfl) (fun _ _ _ _ h => h) rfl 34 (.tmp 3) rfl 256 arrT256 _ _ rfl (bv (tbl box)) (tbl_len _) (fun w h => h.1) hH ?_
  simp only [Act.put, List.setIfInBounds_toArray, List.set_cons_zero, List.set_cons_succ, Nat.zero_add, decide_true, beq_self_eq_true]
  refine takeH_load (o := ⟨some 14, _, _, _, _, _⟩) (i := 1) rfl (by kernel_rfl) (by kernel_rfl) (by kernel_rfl) (fun _ _ _ _ h => h) rfl 26 (.tmp 4) rfl 32 arrK32 _ _ rfl (bv k) hkl.out (fun w h => h.2) hH ?_
  simp only [Act.put, List.setIfInBounds_toArray, List.set_cons_zero, List.set_cons_succ, Nat.zero_add, decide_true, beq_self_eq_true]
  refine takeH_load (o := ⟨some 16, _, _, _, _, _⟩) (i := 3) rfl (by kernel_rfl) (by kernel_rfl) (by kernel_rfl) (fun _ _ _ _ h => h) rfl 34 (.tmp 3) rfl 256 arrT256 _ _ rfl (bv (tbl box)) (tbl_len _) (fun w h => h.1) hH ?_
  simp only [Act.put, List.setIfInBounds_toArray, List.set_cons_zero, List.set_cons_succ, Nat.zero_add, decide_true, beq_self_eq_true]
  apply meet3 (fun (g7 g8 : Nat) (wX : World) => Bq w g0 g1 g2 g3 k b wX ∧ g3 < g7 ∧ Blk wX g7 38 (bv K) ∧ g3 < g8 ∧ Blk wX g8 34 (bv (tbl unbox)) ∧ g7 ≠ g8)
  · intro kRBabst
    apply meet3 (fun (g7 g8 : Nat) (wX : World) => Bq w g0 g1 g2 g3 k b wX ∧ g3 < g7 ∧ Blk wX g7 38 (bv K) ∧ g3 < g8 ∧ Blk wX g8 34 (bv (zeros 256)) ∧ g7 ≠ g8)
    · intro kRBabs
      apply meet3 (fun (g7 g8 : Nat) (wX : World) => Bq w g0 g1 g2 g3 k b wX ∧ g3 < g7 ∧ Blk wX g7 38 (bv (zeros 240)) ∧ g3 < g8 ∧ Blk wX g8 34 (bv (zeros 256)) ∧ g7 ≠ g8)
      · intro kRBab
        apply meet3 (fun (g7 g8 : Nat) (wX : World) => Bq w g0 g1 g2 g3 k b wX ∧ g3 < g7 ∧ Blk wX g7 38 (bv (zeros 240)))
        · intro kRBa
          apply meet3 (fun (g7 g8 : Nat) (wX : World) => Bq w g0 g1 g2 g3 k b wX ∧ g3 < g8 ∧ Blk wX g8 34 (bv (zeros 256)))
          · intro kRBb
            apply meet3 (fun (g7 g8 : Nat) (wX : World) => Bq w g0 g1 g2 g3 k b wX ∧ g3 < g7 ∧ Blk wX g7 38 (bv (zeros 240)) ∧ g3 < g8 ∧ Blk wX g8 34 (bv (zeros 256)) ∧ g7 ≠ g8)
            · intro kRab
              apply meet3 (fun (g7 g8 : Nat) (wX : World) => Bq w g0 g1 g2 g3 k b wX)
              · intro kRB
                apply meet3 (fun (g7 g8 : Nat) (wX : World) => Bq w g0 g1 g2 g3 k b wX ∧ g3 < g7 ∧ Blk wX g7 38 (bv (zeros 240)))
                · intro kRa
                  apply meet3 (fun (g7 g8 : Nat) (wX : World) => Bq w g0 g1 g2 g3 k b wX ∧ g3 < g8 ∧ Blk wX g8 34 (bv (zeros 256)))
                  · intro kRb
                    apply meet3 (fun (g7 g8 : Nat) (wX : World) => Bq w g0 g1 g2 g3 k b wX ∧ g3 < g7 ∧ Blk wX g7 38 (bv (zeros 240)) ∧ g3 < g8 ∧ Blk wX g8 34 (bv (zeros 256)) ∧ g7 ≠ g8)
                    · intro kab
                      apply meet3 (fun (g7 g8 : Nat) (wX : World) => Bq w g0 g1 g2 g3 k b wX)
                      · intro kR
                        apply meet3 (fun (g7 g8 : Nat) (wX : World) => Bq w g0 g1 g2 g3 k b wX ∧ g3 < g7 ∧ Blk wX g7 38 (bv (zeros 240)))
                        · intro ka
                          apply meet3 (fun (g7 g8 : Nat) (wX : World) => Bq w g0 g1 g2 g3 k b wX ∧ g3 < g8 ∧ Blk wX g8 34 (bv (zeros 256)))
                          · intro kb
                            obtain ⟨g7, -⟩ : ∃ g : Nat, g = 0 := ⟨_, rfl⟩
                            obtain ⟨g8, -⟩ : ∃ g : Nat, g = 0 := ⟨_, rfl⟩
                            have hb := hBq.out
                            refine wpAnyH_ready (rs := [2, 5, 6]) (by kernel_rfl) (by simp) ?_
                            refine AllReadyH.cons rfl (fun K1 hK1 => ?_) (AllReadyH.cons rfl (fun K1 hK1 => ?_) (AllReadyH.cons rfl (fun K1 hK1 => ?_) AllReadyH.nil))
                            · rw [if_pos (by rfl)]
                              go_wp2_with fail
                              refine (hro.out _).mono ?_
                              rintro e wY ⟨rfl, hY⟩
                              replace hb := hb.call hY
                              refine hK1.out _ _ hb.S (fun hH => ?_)
                              clear hK1 K1 hY
                              simp only [Act.put, List.getElem_toArray, List.getElem_cons_succ, List.getElem_cons_zero, List.setIfInBounds_toArray, List.set_cons_zero, List.set_cons_succ, Nat.zero_add]
                              exact kR g7 g8 wY hb
                            · rw [if_pos (by rfl)]
                              refine wp_allocA 38 rfl (bv (zeros 240)) (by kernel_rfl) ?_
                              intro wY hn hY
                              have o7 : g3 < w1.drew.heap.size := hb.r.lt
                              have hbY := hb.keeps0 hY
                              refine hK1.out _ _ hbY.S (fun hH => ?_)
                              clear hK1 K1 hY
                              simp only [Act.put, List.getElem_toArray, List.getElem_cons_succ, List.getElem_cons_zero, List.setIfInBounds_toArray, List.set_cons_zero, List.set_cons_succ, Nat.zero_add]
                              generalize w1.drew.heap.size = g7 at *
                              exact ka g7 g8 wY ⟨hbY, o7, hn⟩
                            · rw [if_pos (by rfl)]
                              refine wp_allocA 34 rfl (bv (zeros 256)) (by kernel_rfl) ?_
                              intro wY hn hY
                              have o8 : g3 < w1.drew.heap.size := hb.r.lt
                              have hbY := hb.keeps0 hY
                              refine hK1.out _ _ hbY.S (fun hH => ?_)
                              clear hK1 K1 hY
                              simp only [Act.put, List.getElem_toArray, List.getElem_cons_succ, List.getElem_cons_zero, List.setIfInBounds_toArray, List.set_cons_zero, List.set_cons_succ, Nat.zero_add]
                              generalize w1.drew.heap.size = g8 at *
                              exact kb g7 g8 wY ⟨hbY, o8, hn⟩
                          · intro g7 g8 wX hF
                            obtain ⟨hb, o8, h8⟩ := hF
                            have hH := hb.S
                            refine wpAnyH_ready (rs := [2, 5]) (by kernel_rfl) (by simp) ?_
                            refine AllReadyH.cons rfl (fun K1 hK1 => ?_) (AllReadyH.cons rfl (fun K1 hK1 => ?_) AllReadyH.nil)
                            · rw [if_pos (by rfl)]
                              go_wp2_with fail
                              refine (hro.out _).mono ?_
                              rintro e wY ⟨rfl, hY⟩
                              replace hb := hb.call hY
                              replace h8 := h8.keep hY
                              refine hK1.out _ _ hb.S (fun hH => ?_)
                              clear hK1 K1 hY
                              simp only [Act.put, List.getElem_toArray, List.getElem_cons_succ, List.getElem_cons_zero, List.setIfInBounds_toArray, List.set_cons_zero, List.set_cons_succ, Nat.zero_add]
                              exact kRb g7 g8 wY ⟨hb, o8, h8⟩
                            · rw [if_pos (by rfl)]
                              refine wp_allocA 38 rfl (bv (zeros 240)) (by kernel_rfl) ?_
                              intro wY hn hY
                              have o7 : g3 < wX.heap.size := hb.r.lt
                              have ne : wX.heap.size ≠ g8 := by have := h8.lt; omega
                              have hbY := hb.keeps0 hY
                              have h8Y := h8.keeps hY (by simp)
                              refine hK1.out _ _ hbY.S (fun hH => ?_)
                              clear hK1 K1 hY
                              simp only [Act.put, List.getElem_toArray, List.getElem_cons_succ, List.getElem_cons_zero, List.setIfInBounds_toArray, List.set_cons_zero, List.set_cons_succ, Nat.zero_add]
                              generalize wX.heap.size = g7 at *
                              exact kab g7 g8 wY ⟨hbY, o7, hn, o8, h8Y, ne⟩
                        · intro g7 g8 wX hF
                          obtain ⟨hb, o7, h7⟩ := hF
                          have hH := hb.S
                          refine wpAnyH_ready (rs := [2, 6]) (by kernel_rfl) (by simp) ?_
                          refine AllReadyH.cons rfl (fun K1 hK1 => ?_) (AllReadyH.cons rfl (fun K1 hK1 => ?_) AllReadyH.nil)
                          · rw [if_pos (by rfl)]
                            go_wp2_with fail
                            refine (hro.out _).mono ?_
                            rintro e wY ⟨rfl, hY⟩
                            replace hb := hb.call hY
                            replace h7 := h7.keep hY
                            refine hK1.out _ _ hb.S (fun hH => ?_)
                            clear hK1 K1 hY
                            simp only [Act.put, List.getElem_toArray, List.getElem_cons_succ, List.getElem_cons_zero, List.setIfInBounds_toArray, List.set_cons_zero, List.set_cons_succ, Nat.zero_add]
                            exact kRa g7 g8 wY ⟨hb, o7, h7⟩
                          · rw [if_pos (by rfl)]
                            refine wp_allocA 34 rfl (bv (zeros 256)) (by kernel_rfl) ?_
                            intro wY hn hY
                            have o8 : g3 < wX.heap.size := hb.r.lt
                            have ne : g7 ≠ wX.heap.size := by have := h7.lt; omega
                            have hbY := hb.keeps0 hY
                            have h7Y := h7.keeps hY (by simp)
                            refine hK1.out _ _ hbY.S (fun hH => ?_)
                            clear hK1 K1 hY
                            simp only [Act.put, List.getElem_toArray, List.getElem_cons_succ, List.getElem_cons_zero, List.setIfInBounds_toArray, List.set_cons_zero, List.set_cons_succ, Nat.zero_add]
                            generalize wX.heap.size = g8 at *
                            exact kab g7 g8 wY ⟨hbY, o7, h7Y, o8, hn, ne⟩
                      · intro g7 g8 wX hF
                        have hb := hF
                        have hH := hb.S
                        refine wpAnyH_ready (rs := [4, 5, 6]) (by kernel_rfl) (by simp) ?_
                        refine AllReadyH.cons rfl (fun K1 hK1 => ?_) (AllReadyH.cons rfl (fun K1 hK1 => ?_) (AllReadyH.cons rfl (fun K1 hK1 => ?_) AllReadyH.nil))
                        · rw [if_pos (by rfl)]
                          go_wp2_with fail
                          refine (hba.out _).mono ?_
                          rintro e wY ⟨rfl, hY⟩
                          replace hb := hb.call hY
                          refine hK1.out _ _ hb.S (fun hH => ?_)
                          clear hK1 K1 hY
                          simp only [Act.put, List.getElem_toArray, List.getElem_cons_succ, List.getElem_cons_zero, List.setIfInBounds_toArray, List.set_cons_zero, List.set_cons_succ, Nat.zero_add]
                          exact kRB g7 g8 wY hb
                        · rw [if_pos (by rfl)]
                          refine wp_allocA 38 rfl (bv (zeros 240)) (by kernel_rfl) ?_
                          intro wY hn hY
                          have o7 : g3 < wX.heap.size := hb.r.lt
                          have hbY := hb.keeps0 hY
                          refine hK1.out _ _ hbY.S (fun hH => ?_)
                          clear hK1 K1 hY
                          simp only [Act.put, List.getElem_toArray, List.getElem_cons_succ, List.getElem_cons_zero, List.setIfInBounds_toArray, List.set_cons_zero, List.set_cons_succ, Nat.zero_add]
                          generalize wX.heap.size = g7 at *
                          exact kRa g7 g8 wY ⟨hbY, o7, hn⟩
                        · rw [if_pos (by rfl)]
                          refine wp_allocA 34 rfl (bv (zeros 256)) (by kernel_rfl) ?_
                          intro wY hn hY
                          have o8 : g3 < wX.heap.size := hb.r.lt
                          have hbY := hb.keeps0 hY
                          refine hK1.out _ _ hbY.S (fun hH => ?_)
                          clear hK1 K1 hY
                          simp only [Act.put, List.getElem_toArray, List.getElem_cons_succ, List.getElem_cons_zero, List.setIfInBounds_toArray, List.set_cons_zero, List.set_cons_succ, Nat.zero_add]
                          generalize wX.heap.size = g8 at *
                          exact kRb g7 g8 wY ⟨hbY, o8, hn⟩
                    · intro g7 g8 wX hF
                      obtain ⟨hb, o7, h7, o8, h8, ne⟩ := hF
                      have hH := hb.S
                      refine wpAnyH_ready (rs := [2]) (by kernel_rfl) (by simp) ?_
                      refine AllReadyH.cons rfl (fun K1 hK1 => ?_) AllReadyH.nil
                      · rw [if_pos (by rfl)]
                        go_wp2_with fail
                        refine (hro.out _).mono ?_
                        rintro e wY ⟨rfl, hY⟩
                        replace hb := hb.call hY
                        replace h7 := h7.keep hY
                        replace h8 := h8.keep hY
                        refine hK1.out _ _ hb.S (fun hH => ?_)
                        clear hK1 K1 hY
                        simp only [Act.put, List.getElem_toArray, List.getElem_cons_succ, List.getElem_cons_zero, List.setIfInBounds_toArray, List.set_cons_zero, List.set_cons_succ, Nat.zero_add]
                        exact kRab g7 g8 wY ⟨hb, o7, h7, o8, h8, ne⟩
                  · intro g7 g8 wX hF
                    obtain ⟨hb, o8, h8⟩ := hF
                    have hH := hb.S
                    refine wpAnyH_ready (rs := [4, 5]) (by kernel_rfl) (by simp) ?_
                    refine AllReadyH.cons rfl (fun K1 hK1 => ?_) (AllReadyH.cons rfl (fun K1 hK1 => ?_) AllReadyH.nil)
                    · rw [if_pos (by rfl)]
                      go_wp2_with fail
                      refine (hba.out _).mono ?_
                      rintro e wY ⟨rfl, hY⟩
                      replace hb := hb.call hY
                      replace h8 := h8.keep hY
                      refine hK1.out _ _ hb.S (fun hH => ?_)
                      clear hK1 K1 hY
                      simp only [Act.put, List.getElem_toArray, List.getElem_cons_succ, List.getElem_cons_zero, List.setIfInBounds_toArray, List.set_cons_zero, List.set_cons_succ, Nat.zero_add]
                      exact kRBb g7 g8 wY ⟨hb, o8, h8⟩
                    · rw [if_pos (by rfl)]
                      refine wp_allocA 38 rfl (bv (zeros 240)) (by kernel_rfl) ?_
                      intro wY hn hY
                      have o7 : g3 < wX.heap.size := hb.r.lt
                      have ne : wX.heap.size ≠ g8 := by have := h8.lt; omega
                      have hbY := hb.keeps0 hY
                      have h8Y := h8.keeps hY (by simp)
                      refine hK1.out _ _ hbY.S (fun hH => ?_)
                      clear hK1 K1 hY
                      simp only [Act.put, List.getElem_toArray, List.getElem_cons_succ, List.getElem_cons_zero, List.setIfInBounds_toArray, List.set_cons_zero, List.set_cons_succ, Nat.zero_add]
                      generalize wX.heap.size = g7 at *
                      exact kRab g7 g8 wY ⟨hbY, o7, hn, o8, h8Y, ne⟩
                · intro g7 g8 wX hF
                  obtain ⟨hb, o7, h7⟩ := hF
                  have hH := hb.S
                  refine wpAnyH_ready (rs := [4, 6]) (by kernel_rfl) (by simp) ?_
                  refine AllReadyH.cons rfl (fun K1 hK1 => ?_) (AllReadyH.cons rfl (fun K1 hK1 => ?_) AllReadyH.nil)
                  · rw [if_pos (by rfl)]
                    go_wp2_with fail
                    refine (hba.out _).mono ?_
                    rintro e wY ⟨rfl, hY⟩
                    replace hb := hb.call hY
                    replace h7 := h7.keep hY
                    refine hK1.out _ _ hb.S (fun hH => ?_)
                    clear hK1 K1 hY
                    simp only [Act.put, List.getElem_toArray, List.getElem_cons_succ, List.getElem_cons_zero, List.setIfInBounds_toArray, List.set_cons_zero, List.set_cons_succ, Nat.zero_add]
                    exact kRBa g7 g8 wY ⟨hb, o7, h7⟩
                  · rw [if_pos (by rfl)]
                    refine wp_allocA 34 rfl (bv (zeros 256)) (by kernel_rfl) ?_
                    intro wY hn hY
                    have o8 : g3 < wX.heap.size := hb.r.lt
                    have ne : g7 ≠ wX.heap.size := by have := h7.lt; omega
                    have hbY := hb.keeps0 hY
                    have h7Y := h7.keeps hY (by simp)
                    refine hK1.out _ _ hbY.S (fun hH => ?_)
                    clear hK1 K1 hY
                    simp only [Act.put, List.getElem_toArray, List.getElem_cons_succ, List.getElem_cons_zero, List.setIfInBounds_toArray, List.set_cons_zero, List.set_cons_succ, Nat.zero_add]
                    generalize wX.heap.size = g8 at *
                    exact kRab g7 g8 wY ⟨hbY, o7, h7Y, o8, hn, ne⟩
              · intro g7 g8 wX hF
                have hb := hF
                have hH := hb.S
                refine wpAnyH_ready (rs := [5, 6]) (by kernel_rfl) (by simp) ?_
                refine AllReadyH.cons rfl (fun K1 hK1 => ?_) (AllReadyH.cons rfl (fun K1 hK1 => ?_) AllReadyH.nil)
                · rw [if_pos (by rfl)]
                  refine wp_allocA 38 rfl (bv (zeros 240)) (by kernel_rfl) ?_
                  intro wY hn hY
                  have o7 : g3 < wX.heap.size := hb.r.lt
                  have hbY := hb.keeps0 hY
                  refine hK1.out _ _ hbY.S (fun hH => ?_)
                  clear hK1 K1 hY
                  simp only [Act.put, List.getElem_toArray, List.getElem_cons_succ, List.getElem_cons_zero, List.setIfInBounds_toArray, List.set_cons_zero, List.set_cons_succ, Nat.zero_add]
                  generalize wX.heap.size = g7 at *
                  exact kRBa g7 g8 wY ⟨hbY, o7, hn⟩
                · rw [if_pos (by rfl)]
                  refine wp_allocA 34 rfl (bv (zeros 256)) (by kernel_rfl) ?_
                  intro wY hn hY
                  have o8 : g3 < wX.heap.size := hb.r.lt
                  have hbY := hb.keeps0 hY
                  refine hK1.out _ _ hbY.S (fun hH => ?_)
                  clear hK1 K1 hY
                  simp only [Act.put, List.getElem_toArray, List.getElem_cons_succ, List.getElem_cons_zero, List.setIfInBounds_toArray, List.set_cons_zero, List.set_cons_succ, Nat.zero_add]
                  generalize wX.heap.size = g8 at *
                  exact kRBb g7 g8 wY ⟨hbY, o8, hn⟩
            · intro g7 g8 wX hF
              obtain ⟨hb, o7, h7, o8, h8, ne⟩ := hF
              have hH := hb.S
              refine wpAnyH_ready (rs := [4]) (by kernel_rfl) (by simp) ?_
              refine AllReadyH.cons rfl (fun K1 hK1 => ?_) AllReadyH.nil
              · rw [if_pos (by rfl)]
                go_wp2_with fail
                refine (hba.out _).mono ?_
                rintro e wY ⟨rfl, hY⟩
                replace hb := hb.call hY
                replace h7 := h7.keep hY
                replace h8 := h8.keep hY
                refine hK1.out _ _ hb.S (fun hH => ?_)
                clear hK1 K1 hY
                simp only [Act.put, List.getElem_toArray, List.getElem_cons_succ, List.getElem_cons_zero, List.setIfInBounds_toArray, List.set_cons_zero, List.set_cons_succ, Nat.zero_add]
                exact kRBab g7 g8 wY ⟨hb, o7, h7, o8, h8, ne⟩
          · intro g7 g8 wX hF
            obtain ⟨hb, o8, h8⟩ := hF
            have hH := hb.S
            refine wpAnyH_ready (rs := [5]) (by kernel_rfl) (by simp) ?_
            refine AllReadyH.cons rfl (fun K1 hK1 => ?_) AllReadyH.nil
            · rw [if_pos (by rfl)]
              refine wp_allocA 38 rfl (bv (zeros 240)) (by kernel_rfl) ?_
              intro wY hn hY
              have o7 : g3 < wX.heap.size := hb.r.lt
              have ne : wX.heap.size ≠ g8 := by have := h8.lt; omega
              have hbY := hb.keeps0 hY
              have h8Y := h8.keeps hY (by simp)
              refine hK1.out _ _ hbY.S (fun hH => ?_)
              clear hK1 K1 hY
              simp only [Act.put, List.getElem_toArray, List.getElem_cons_succ, List.getElem_cons_zero, List.setIfInBounds_toArray, List.set_cons_zero, List.set_cons_succ, Nat.zero_add]
              generalize wX.heap.size = g7 at *
              exact kRBab g7 g8 wY ⟨hbY, o7, hn, o8, h8Y, ne⟩
        · intro g7 g8 wX hF
          obtain ⟨hb, o7, h7⟩ := hF
          have hH := hb.S
          refine wpAnyH_ready (rs := [6]) (by kernel_rfl) (by simp) ?_
          refine AllReadyH.cons rfl (fun K1 hK1 => ?_) AllReadyH.nil
          · rw [if_pos (by rfl)]
            refine wp_allocA 34 rfl (bv (zeros 256)) (by kernel_rfl) ?_
            intro wY hn hY
            have o8 : g3 < wX.heap.size := hb.r.lt
            have ne : g7 ≠ wX.heap.size := by have := h7.lt; omega
            have hbY := hb.keeps0 hY
            have h7Y := h7.keeps hY (by simp)
            refine hK1.out _ _ hbY.S (fun hH => ?_)
            clear hK1 K1 hY
            simp only [Act.put, List.getElem_toArray, List.getElem_cons_succ, List.getElem_cons_zero, List.setIfInBounds_toArray, List.set_cons_zero, List.set_cons_succ, Nat.zero_add]
            generalize wX.heap.size = g8 at *
            exact kRBab g7 g8 wY ⟨hbY, o7, h7Y, o8, hn, ne⟩
      · intro g7 g8 wX hF
        obtain ⟨hb, o7, h7, o8, h8, ne⟩ := hF
        have hH := hb.S
        refine wpAnyH_ready (rs := [7]) (by kernel_rfl) (by simp) ?_
        refine AllReadyH.cons rfl (fun K1 hK1 => ?_) AllReadyH.nil
        · rw [if_pos (by rfl)]
          refine wp_storeA 38 (.tmp 7) (.tmp 15) rfl 240 arrR15 g7 _ rfl (bv K) rfl 38 _ h7 hKl.out (by simp) (ones_bv _) ?_
          intro wY hn hY
          rw [putL_all (by rw [hKl.out]; simp)] at hn
          replace hb := hb.keeps hY o7
          replace h8 := h8.keeps hY (by simp; omega)
          refine hK1.out _ _ hb.S (fun hH => ?_)
          clear hK1 K1 hY
          simp only [Act.put, List.getElem_toArray, List.getElem_cons_succ, List.getElem_cons_zero, List.setIfInBounds_toArray, List.set_cons_zero, List.set_cons_succ, Nat.zero_add]
          exact kRBabs g7 g8 wY ⟨hb, o7, hn, o8, h8, ne⟩
    · intro g7 g8 wX hF
      obtain ⟨hb, o7, h7, o8, h8, ne⟩ := hF
      have hH := hb.S
      refine wpAnyH_ready (rs := [8]) (by kernel_rfl) (by simp) ?_
      refine AllReadyH.cons rfl (fun K1 hK1 => ?_) AllReadyH.nil
      · rw [if_pos (by rfl)]
        refine wp_storeA 34 (.tmp 8) (.tmp 17) rfl 256 arrT256 g8 _ rfl (bv (tbl unbox)) rfl 34 _ h8 (tbl_len _) (by simp) (ones_bv _) ?_
        intro wY hn hY
        rw [putL_all (by rw [tbl_len _]; simp)] at hn
        replace hb := hb.keeps hY o8
        replace h7 := h7.keeps hY (by simp; omega)
        refine hK1.out _ _ hb.S (fun hH => ?_)
        clear hK1 K1 hY
        simp only [Act.put, List.getElem_toArray, List.getElem_cons_succ, List.getElem_cons_zero, List.setIfInBounds_toArray, List.set_cons_zero, List.set_cons_succ, Nat.zero_add]
        exact kRBabst g7 g8 wY ⟨hb, o7, h7, o8, hn, ne⟩
  · intro g7 g8 wX hF
    obtain ⟨hb, o7, h7, o8, h8, ne⟩ := hF
    refine wpAnyH_done (by kernel_rfl) ?_ _
    have hS : Oq w g2 g3 g7 g8 K b wX := ⟨h8, hb.b, hb.r, h7, hb.below, by have := hb.o0; have := hb.o1; have := hb.o2; omega, hb.o3, o7, o8⟩
    clear hb h7 h8 o7 o8 ne
    clear hro hba hkl hbl
    go_wp2
    go_loopw [9] (fun i wr => ∃ n : Nat, n ≤ 14 ∧ i = .int .i64 (n : Int) ∧ Oq w g2 g3 g7 g8 K (openN unbox K b (14 - n)) wr) (fun i _ => (intOf i).toNat)
    case atStart => exact ⟨14, Nat.le_refl _, rfl, hS⟩
    case round =>
      clear hS
      obtain ⟨n, hn, rfl, hS⟩ := hrel
      by_cases hlt : (0 : Int) < n
      · have sl := Lib.hid (openN_length (u := unbox) (K := K) Hb.out (14 - n))
        have sb' := Lib.hid (openN_lt (u := unbox) (fun x h => unbox_lt h) Kb.out Bb.out (14 - n))
        have hnext : Hid (openN unbox K b (14 - (n - 1)) = oround unbox K n (openN unbox K b (14 - n))) := by
          show _ = _
          rw [show 14 - (n - 1) = (14 - n) + 1 from by omega, openN, show 14 - (14 - n) = n from by omega]
        generalize openN unbox K b (14 - n) = c at *
        obtain ⟨d, hd⟩ : ∃ d, d = openN unbox K b (14 - (n - 1)) := ⟨_, rfl⟩
        rw [← hd] at hnext
        have HD := Lib.hid hd
        clear hd
        have rl := Lib.hid (rkey_length Kl.out (n := n) (by omega))
        have hyl := Lib.hid (show (bv (xorl c (rkey K n))).length = 16 by rw [bv_length, xorl_length (by rw [sl.out, rl.out]), sl.out])
        have hxs := Lib.hid (fun w => hsum.out c (rkey K n) w sl.out rl.out sb'.out (rkey_lt Kb.out n))
        go_wp2
        go_upto_region 5 with fail
        go_cut [10] (fun s10 wx => ∃ gx : Nat, s10 = .pointer (some ⟨gx, 0, none⟩) ∧ (g7 < gx ∧ g8 < gx) ∧ Blk wx gx 27 (bv (xorl c (rkey K n))) ∧ Oq w g2 g3 g7 g8 K c wx)
        case first =>
          have hn15 := Lib.hid (show n < 15 by omega)
          have e1 := Lib.hid (show (bv c).length = 16 by rw [bv_length]; exact sl.out)
          have e2 := Lib.hid (show (bv (rkey K n)).length = 16 by rw [bv_length]; exact rl.out)
          have hO := Lib.hid hS.drew
          refine wp_region_held_drew (S := fun w' => w'.rangeAt g2 0 (bv c) ∧ w'.rangeAt g7 (n * 16) (bv (rkey K n))) (by kernel_rfl) (Oq.S hO.out sl.out hn15.out Kl.out) (fun hH => ?_)
          refine takeH_load (i := 0) rfl (by kernel_rfl) (by kernel_rfl) (by kernel_rfl) (fun _ _ _ _ h => h) rfl 27 (.tmp 5) rfl 16 arrR16 _ _ rfl (bv c) e1.out (fun w h => h.1) hH ?_
          simp only [Act.put, List.setIfInBounds_toArray, List.set_cons_zero, List.set_cons_succ]
          refine takeH_move (i := 1) rfl (by kernel_rfl) (by kernel_rfl) (by kernel_rfl) (fun _ _ _ _ h => h) rfl (.tmp 9) rfl _ rfl hH ?_
          simp only [Act.put, List.setIfInBounds_toArray, List.set_cons_zero, List.set_cons_succ]
          refine takeH_index (i := 2) rfl (by kernel_rfl) (by kernel_rfl) (by kernel_rfl) (fun _ _ _ _ h => h) rfl 38 (.tmp 7) (.tmp 23) rfl 15 27 16 Try.underlying38 (by kernel_rfl) g7 0 rfl n rfl hn15.out hH ?_
          simp only [Act.put, List.setIfInBounds_toArray, List.set_cons_zero, List.set_cons_succ, Nat.zero_add]
          refine takeH_load (i := 3) rfl (by kernel_rfl) (by kernel_rfl) (by kernel_rfl) (fun _ _ _ _ h => h) rfl 27 (.tmp 24) rfl 16 arrR16 _ _ rfl (bv (rkey K n)) e2.out (fun w h => h.2) hH ?_
          simp only [Act.put, List.setIfInBounds_toArray, List.set_cons_zero, List.set_cons_succ]
          refine wpAnyH_ready (rs := [4, 5]) (by kernel_rfl) (by simp) ?_
          refine AllReadyH.cons rfl (fun K1 hK1 => ?_) (AllReadyH.cons rfl (fun K1 hK1 => ?_) AllReadyH.nil)
          · go_simp
            refine (hxs.out _).mono ?_
            rintro e w8 ⟨rfl, hB8⟩
            have hO1 := Lib.hid (hO.out.call hB8)
            refine hK1.out _ _ (Oq.S hO1.out sl.out hn15.out Kl.out) (fun hH => ?_)
            clear hK1 K1
            refine wpAnyH_ready (rs := [5]) (by kernel_rfl) (by simp) ?_
            refine AllReadyH.cons rfl (fun K1 hK1 => ?_) AllReadyH.nil
            go_simp
            have hgx : g7 < w8.heap.size ∧ g8 < w8.heap.size := ⟨hO1.out.k.lt, hO1.out.t.lt⟩
            have hx := Blk.new_at (w := w8) (t := 27) (cs := (bv (zeros 16)).toArray) rfl rfl
            have hO2 := Lib.hid (hO1.out.keeps0 ((Keeps.refl [] _).alloc (.cells (bv (zeros 16)).toArray 27)))
            refine hK1.out _ _ (Oq.S hO2.out sl.out hn15.out Kl.out) (fun hH => ?_)
            clear hK1 K1
            refine wpAnyH_ready (rs := [6]) (by kernel_rfl) (by simp) ?_
            refine AllReadyH.cons rfl (fun K1 hK1 => ?_) AllReadyH.nil
            rw [if_pos (by rfl)]
            refine wp_storeA 27 (.tmp 10) (.tmp 26) rfl 16 arrR16 _ _ rfl (bv (xorl c (rkey K n))) rfl 27 _ hx hyl.out (by simp) (ones_bv _) ?_
            intro w9 hx9 hK9
            rw [putL_all (by rw [hyl.out]; simp)] at hx9
            have hO9 := Lib.hid (hO2.out.keeps hK9 hgx)
            refine hK1.out _ _ (Oq.S hO9.out sl.out hn15.out Kl.out) (fun hH => ?_)
            clear hK1 K1 hK9 hx
            simp only [Act.put, List.setIfInBounds_toArray, List.set_cons_zero, List.set_cons_succ]
            refine wpAnyH_done (by kernel_rfl) ?_ _
            go_wp2_with fail
            go_meet
            exact ⟨_, rfl, hgx, hx9, hO9.out⟩
          · go_simp
            have hgx : g7 < wr.heap.size ∧ g8 < wr.heap.size := ⟨hO.out.k.lt, hO.out.t.lt⟩
            have hx := (Blk.new_at (w := wr) (t := 27) (cs := (bv (zeros 16)).toArray) rfl rfl).drew
            have hO1 := Lib.hid ((hS.keeps0 ((Keeps.refl [] _).alloc (.cells (bv (zeros 16)).toArray 27))).drew)
            refine hK1.out _ _ (Oq.S hO1.out sl.out hn15.out Kl.out) (fun hH => ?_)
            clear hK1 K1
            refine wpAnyH_ready (rs := [4]) (by kernel_rfl) (by simp) ?_
            refine AllReadyH.cons rfl (fun K1 hK1 => ?_) AllReadyH.nil
            go_simp
            refine (hxs.out _).mono ?_
            rintro e w8 ⟨rfl, hB8⟩
            have hO2 := Lib.hid (hO1.out.call hB8)
            have hx := hx.keep hB8
            refine hK1.out _ _ (Oq.S hO2.out sl.out hn15.out Kl.out) (fun hH => ?_)
            clear hK1 K1
            refine wpAnyH_ready (rs := [6]) (by kernel_rfl) (by simp) ?_
            refine AllReadyH.cons rfl (fun K1 hK1 => ?_) AllReadyH.nil
            rw [if_pos (by rfl)]
            refine wp_storeA 27 (.tmp 10) (.tmp 26) rfl 16 arrR16 _ _ rfl (bv (xorl c (rkey K n))) rfl 27 _ hx hyl.out (by simp) (ones_bv _) ?_
            intro w9 hx9 hK9
            rw [putL_all (by rw [hyl.out]; simp)] at hx9
            have hO9 := Lib.hid (hO2.out.keeps hK9 hgx)
            refine hK1.out _ _ (Oq.S hO9.out sl.out hn15.out Kl.out) (fun hH => ?_)
            clear hK1 K1 hK9 hx
            simp only [Act.put, List.setIfInBounds_toArray, List.set_cons_zero, List.set_cons_succ]
            refine wpAnyH_done (by kernel_rfl) ?_ _
            go_wp2_with fail
            go_meet
            exact ⟨_, rfl, hgx, hx9, hO9.out⟩
        case rest =>
          obtain ⟨gx, rfl, hgx0, hx, hS⟩ := hcut
          have hgx := Lib.hid hgx0
          clear hgx0
          by_cases hn14 : (n : Int) < 14
          · have hyn := Lib.hid (show (xorl c (rkey K n)).length = 16 by rw [xorl_length (by rw [sl.out, rl.out]), sl.out])
            have hyb := Lib.hid (xorl_lt sb'.out (rkey_lt Kb.out n))
            have hz : Hid (omid K n c = mix (mix (mix (xorl c (rkey K n))))) := by show _ = _; rw [omid, if_pos (by omega)]
            generalize xorl c (rkey K n) = y at *
            have m1 := Lib.hid (fun w => hcol.out y w hyn.out hyb.out)
            rw [hmixE.out y hyb.out] at m1
            have hzb := Lib.hid (mix_lt (mix_lt (mix_lt hyb.out)))
            have hzn := Lib.hid (mix_length (mix (mix y)))
            generalize mix (mix (mix y)) = z at *
            have hzl := Lib.hid (show (bv z).length = 16 by simp [hzn.out])
            go_wp2_with (first
              | refine wpList_loadW rfl 27 (.tmp 10) rfl 16 arrR16 gx rfl 27 _ hx hyl.out ?_
              | (go_at_call 35; refine (m1.out _).mono ?_; rintro e w1 ⟨rfl, hB1⟩)
              | refine wpList_storeW rfl 27 (.tmp 10) (.tmp 31) rfl 16 arrR16 gx rfl (bv z) rfl 27 _ (hx.keep hB1) hzl.out hyl.out (ones_bv _) ?_)
            intro w9 hx hK9
            have hS := (hS.call hB1).keeps hK9 hgx.out
            clear hK9 hB1
            go_wp2
            have hdz : Hid (d = unshiftB unbox z) := by show _ = _; rw [hnext.out, oround, hz.out]
            clear hnext
            go_loopw [11] (fun i wr => ∃ e : Nat, (e : Int) ≤ 4 ∧ i = .int .i64 (e : Int) ∧ Blk wr gx 27 (bv z) ∧ Oq w g2 g3 g7 g8 K (ups d c (4 * e)) wr) (fun i _ => (4 - intOf i).toNat)
            case atStart => exact ⟨0, by omega, rfl, hx, by rw [Nat.mul_zero, ups_zero sl.out]; exact hS⟩
            case round =>
              clear hx hS
              obtain ⟨e, he, rfl, hx, hS⟩ := hrel
              by_cases he4 : (e : Int) < 4
              · go_wp2
                go_loopw [12] (fun i wr => ∃ r : Nat, (r : Int) ≤ 4 ∧ i = .int .i64 (r : Int) ∧ Blk wr gx 27 (bv z) ∧ Oq w g2 g3 g7 g8 K (ups d c (4 * e + r)) wr) (fun i _ => (4 - intOf i).toNat)
                case atStart => exact ⟨0, by omega, rfl, hx, hS⟩
                case round =>
                  clear hx hS
                  obtain ⟨r, hr, rfl, hx, hS⟩ := hrel
                  by_cases hr4 : (r : Int) < 4
                  · obtain ⟨p, hp⟩ : ∃ p, Hid (p = 4 * e + r) := ⟨_, rfl⟩
                    obtain ⟨q, hq⟩ : ∃ q, Hid (q = (p + 4 * (p % 4)) % 16) := ⟨_, rfl⟩
                    obtain ⟨s, hs⟩ : ∃ s, Hid (s = (e + r) % 4) := ⟨_, rfl⟩
                    obtain ⟨e4, he4'⟩ : ∃ e4, Hid (e4 = 4 * e) := ⟨_, rfl⟩
                    obtain ⟨s4, hs4⟩ : ∃ s4, Hid (s4 = 4 * s) := ⟨_, rfl⟩
                    have hpq : q = 4 * s + r := by have h1 := hp.out; have h2 := hq.out; have h3 := hs.out; omega
                    rw [← hp.out] at hS
                    have b1 : (4 : Int) * (e : Int) = (e4 : Int) := by have := he4'.out; omega
                    have b2 : (e4 : Int) + (r : Int) = (p : Int) := by have := he4'.out; have := hp.out; omega
                    have b3 : Int.tmod ((e : Int) + (r : Int)) 4 = (s : Int) := by rw [hs.out, Int.tmod_eq_emod_of_nonneg (by omega)]; omega
                    have b3' : (4 : Int) * (s : Int) = (s4 : Int) := by have := hs4.out; omega
                    have b4 : (s4 : Int) + (r : Int) = (q : Int) := by have := hs4.out; omega
                    have b5 : (p : Int) < 16 := by have := hp.out; omega
                    have b6 : (q : Int) < 16 := by have := hq.out; omega
                    have b7 : (e4 : Int) ≤ 12 := by have := he4'.out; omega
                    have b8 : (s4 : Int) ≤ 12 := by have := hs4.out; have := hs.out; omega
                    have b9 : (s : Int) ≤ 3 := by have := hs.out; omega
                    clear hpq
                    have hse := Lib.hid (ups_set (d := d) (c := c) (i := p) (by omega))
                    have hdp : gd d ((p + 4 * (p % 4)) % 16) = unbox (gd z p) := by rw [hdz.out, unshiftB, gd_mk _ (Nat.mod_lt _ (by decide)), back_to p (by omega)]
                    rw [← hq.out] at hse hdp
                    have c0 := hx.byte (i := p) (by rw [hzn.out]; omega)
                    have hX := gd_lt hzb.out p
                    have c1 := hS.t.byte (i := gd z p) (by simp [tbl, hX])
                    rw [tbl, gd_mk _ hX, ← hdp] at c1
                    have c2 := hS.b.byte (i := q) (by simp; omega)
                    have f2 := hS.b.frozen q
                    have hb2 := hS.b.set_ q (.int .u8 ((gd d q : Nat) : Int))
                    rw [bv_set, hse.out] at hb2
                    clear hdp
                    generalize gd d q = Y at *
                    generalize gd z p = X at *
                    have hXI : (X : Int) < 256 := by omega
                    have hpr : Hid (p + 1 = 4 * e + (r + 1)) := by show _ = _; have := hp.out; omega
                    have hx' := Lib.hid (hx.far (w := wr) (p := ⟨g2, q, none⟩) (by simp; have h1 := hgx.out; have h2 := hS.o1; have h3 := hS.o2; omega) (.int .u8 (Y : Int)))
                    have hS' := Lib.hid (hS.put ((Keeps.refl [g2] wr).setCell (p := ⟨g2, q, none⟩) (by simp) (.int .u8 (Y : Int))) hb2)
                    replace c2 := c2
                    clear hx hS hb2
                    go_wp2
                    go_roundw
                    case rel =>
                      refine ⟨r + 1, by omega, by go_num, hx'.out, ?_⟩
                      rw [← hpr.out]
                      exact hS'.out
                    case measure => simp [intOf]; omega
                  · obtain rfl : r = 4 := by omega
                    rw [show 4 * e + 4 = 4 * (e + 1) from by omega] at hS
                    go_wp2
                    go_roundw
                    case rel => exact ⟨e + 1, by omega, by go_num, hx, hS⟩
                    case measure => simp [intOf]; omega
              · obtain rfl : e = 4 := by omega
                have hdl := Lib.hid (show d.length = 16 by rw [hdz.out]; simp)
                rw [show 4 * 4 = 16 from rfl, ups_all hdl.out] at hS
                go_wp2
                go_roundw
                case rel => exact ⟨n - 1, by omega, by simp; omega, by rw [← HD.out]; exact hS⟩
                case measure => simp [intOf]; omega
          · obtain rfl : n = 14 := by omega
            have hyn := Lib.hid (show (xorl c (rkey K 14)).length = 16 by rw [xorl_length (by rw [sl.out, rl.out]), sl.out])
            have hyb := Lib.hid (xorl_lt sb'.out (rkey_lt Kb.out 14))
            have hz : Hid (omid K 14 c = xorl c (rkey K 14)) := by show _ = _; rw [omid, if_neg (by omega)]
            generalize xorl c (rkey K 14) = z at *
            have hzb := hyb
            have hzn := hyn
            go_wp2
            have hdz : Hid (d = unshiftB unbox z) := by show _ = _; rw [hnext.out, oround, hz.out]
            clear hnext
            go_loopw [11] (fun i wr => ∃ e : Nat, (e : Int) ≤ 4 ∧ i = .int .i64 (e : Int) ∧ Blk wr gx 27 (bv z) ∧ Oq w g2 g3 g7 g8 K (ups d c (4 * e)) wr) (fun i _ => (4 - intOf i).toNat)
            case atStart => exact ⟨0, by omega, rfl, hx, by rw [Nat.mul_zero, ups_zero sl.out]; exact hS⟩
            case round =>
              clear hx hS
              obtain ⟨e, he, rfl, hx, hS⟩ := hrel
              by_cases he4 : (e : Int) < 4
              · go_wp2
                go_loopw [12] (fun i wr => ∃ r : Nat, (r : Int) ≤ 4 ∧ i = .int .i64 (r : Int) ∧ Blk wr gx 27 (bv z) ∧ Oq w g2 g3 g7 g8 K (ups d c (4 * e + r)) wr) (fun i _ => (4 - intOf i).toNat)
                case atStart => exact ⟨0, by omega, rfl, hx, hS⟩
                case round =>
                  clear hx hS
                  obtain ⟨r, hr, rfl, hx, hS⟩ := hrel
                  by_cases hr4 : (r : Int) < 4
                  · obtain ⟨p, hp⟩ : ∃ p, Hid (p = 4 * e + r) := ⟨_, rfl⟩
                    obtain ⟨q, hq⟩ : ∃ q, Hid (q = (p + 4 * (p % 4)) % 16) := ⟨_, rfl⟩
                    obtain ⟨s, hs⟩ : ∃ s, Hid (s = (e + r) % 4) := ⟨_, rfl⟩
                    obtain ⟨e4, he4'⟩ : ∃ e4, Hid (e4 = 4 * e) := ⟨_, rfl⟩
                    obtain ⟨s4, hs4⟩ : ∃ s4, Hid (s4 = 4 * s) := ⟨_, rfl⟩
                    have hpq : q = 4 * s + r := by have h1 := hp.out; have h2 := hq.out; have h3 := hs.out; omega
                    rw [← hp.out] at hS
                    have b1 : (4 : Int) * (e : Int) = (e4 : Int) := by have := he4'.out; omega
                    have b2 : (e4 : Int) + (r : Int) = (p : Int) := by have := he4'.out; have := hp.out; omega
                    have b3 : Int.tmod ((e : Int) + (r : Int)) 4 = (s : Int) := by rw [hs.out, Int.tmod_eq_emod_of_nonneg (by omega)]; omega
                    have b3' : (4 : Int) * (s : Int) = (s4 : Int) := by have := hs4.out; omega
                    have b4 : (s4 : Int) + (r : Int) = (q : Int) := by have := hs4.out; omega
                    have b5 : (p : Int) < 16 := by have := hp.out; omega
                    have b6 : (q : Int) < 16 := by have := hq.out; omega
                    have b7 : (e4 : Int) ≤ 12 := by have := he4'.out; omega
                    have b8 : (s4 : Int) ≤ 12 := by have := hs4.out; have := hs.out; omega
                    have b9 : (s : Int) ≤ 3 := by have := hs.out; omega
                    clear hpq
                    have hse := Lib.hid (ups_set (d := d) (c := c) (i := p) (by omega))
                    have hdp : gd d ((p + 4 * (p % 4)) % 16) = unbox (gd z p) := by rw [hdz.out, unshiftB, gd_mk _ (Nat.mod_lt _ (by decide)), back_to p (by omega)]
                    rw [← hq.out] at hse hdp
                    have c0 := hx.byte (i := p) (by rw [hzn.out]; omega)
                    have hX := gd_lt hzb.out p
                    have c1 := hS.t.byte (i := gd z p) (by simp [tbl, hX])
                    rw [tbl, gd_mk _ hX, ← hdp] at c1
                    have c2 := hS.b.byte (i := q) (by simp; omega)
                    have f2 := hS.b.frozen q
                    have hb2 := hS.b.set_ q (.int .u8 ((gd d q : Nat) : Int))
                    rw [bv_set, hse.out] at hb2
                    clear hdp
                    generalize gd d q = Y at *
                    generalize gd z p = X at *
                    have hXI : (X : Int) < 256 := by omega
                    have hpr : Hid (p + 1 = 4 * e + (r + 1)) := by show _ = _; have := hp.out; omega
                    have hx' := Lib.hid (hx.far (w := wr) (p := ⟨g2, q, none⟩) (by simp; have h1 := hgx.out; have h2 := hS.o1; have h3 := hS.o2; omega) (.int .u8 (Y : Int)))
                    have hS' := Lib.hid (hS.put ((Keeps.refl [g2] wr).setCell (p := ⟨g2, q, none⟩) (by simp) (.int .u8 (Y : Int))) hb2)
                    replace c2 := c2
                    clear hx hS hb2
                    go_wp2
                    go_roundw
                    case rel =>
                      refine ⟨r + 1, by omega, by go_num, hx'.out, ?_⟩
                      rw [← hpr.out]
                      exact hS'.out
                    case measure => simp [intOf]; omega
                  · obtain rfl : r = 4 := by omega
                    rw [show 4 * e + 4 = 4 * (e + 1) from by omega] at hS
                    go_wp2
                    go_roundw
                    case rel => exact ⟨e + 1, by omega, by go_num, hx, hS⟩
                    case measure => simp [intOf]; omega
              · obtain rfl : e = 4 := by omega
                have hdl := Lib.hid (show d.length = 16 by rw [hdz.out]; simp)
                rw [show 4 * 4 = 16 from rfl, ups_all hdl.out] at hS
                go_wp2
                go_roundw
                case rel => exact ⟨13, by omega, by simp, by rw [← HD.out]; exact hS⟩
                case measure => simp [intOf]
      · obtain rfl : n = 0 := by omega
        rw [show 14 - 0 = 14 from rfl] at hS
        have hsl := Lib.hid (openN_length (u := unbox) (K := K) Hb.out 14)
        have hsb := Lib.hid (openN_lt (u := unbox) (fun x h => unbox_lt h) Kb.out Bb.out 14)
        have hRe : Hid (xorl (openN unbox K b 14) (rkey K 0) = R) := HR.out
        generalize openN unbox K b 14 = c at *
        have rl := Lib.hid (rkey_length Kl.out (n := 0) (by omega))
        have hcl := Lib.hid (show (bv c).length = 16 by rw [bv_length]; exact hsl.out)
        have hRl := Lib.hid (show (bv R).length = 16 by rw [bv_length, ← hRe.out, xorl_length (by rw [hsl.out, rl.out]), hsl.out])
        have sb := hS.b
        have sk := hS.k
        have sr := hS.r
        have hB := hS.below
        have ho := Lib.hid (show w.heap.size ≤ g3 by have := hS.o0; have := hS.o1; omega)
        have EK : Hid (((bv K).drop 0).take 16 = bv (rkey K 0)) := by show _ = _; rw [bv_seg]; rfl
        clear hS
        go_wp2_with (first
          | refine wpList_loadW rfl 27 (.tmp 5) rfl 16 arrR16 _ rfl 27 _ sb hcl.out ?_
          | refine wpList_loadA rfl 27 (.tmp 57) rfl 16 arrR16 _ _ rfl 38 _ sk (by rw [hKl.out]; simp) (bv (rkey K 0)) (by simpa using EK.out) ?_
          | (go_at_call 34; refine (hsum.out c (rkey K 0) _ hsl.out rl.out hsb.out (rkey_lt Kb.out 0)).mono ?_; rintro e w8 ⟨rfl, hB8⟩; rw [hRe.out])
          | refine wpList_storeW rfl 27 (.tmp 6) (.tmp 59) rfl 16 arrR16 _ rfl (bv R) rfl 27 _ (sr.keep hB8) hRl.out (by simp) (ones_bv _) ?_)
        intro w9 h9 hK9
        go_wp2
        exact bodyPost_ret (v := .agg (bv R).toArray) (res_cell Try.results22 _ _ _ 27 _ arrR16 hRl.out rfl h9) rfl (hRet.out _ (by rw [← hg0.out]; exact (below_call hB hB.size hB8).trans (hK9.below (by have := hB.size; have := hB8.size; omega) (by intro b hb; simp only [List.mem_singleton] at hb; subst hb; exact ho.out))))
end Go.Proofs.Ytmlaopohlmnegaa
