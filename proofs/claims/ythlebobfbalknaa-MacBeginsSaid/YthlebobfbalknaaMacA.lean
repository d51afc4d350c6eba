/- Contracts of package mac: pads, pad. -/
import Derived.Test.YthlebobfbalknaaCpS
import Derived.Test.YthlebobfbalknaaShH
import Derived.Test.YthlebobfbalknaaMacP
set_option linter.unusedVariables false
set_option linter.unusedSimpArgs false
namespace Go.Proofs.Ythlebobfbalknaa
open Go.RowKit
open Go.Proofs.PlainAes
open Go.Proofs.PlainSha
open Go.Proofs.PlainMac

theorem arr64b : ArrTy Try.prog 45 64 := ⟨_, Try.underlying45, rfl, by kernel_rfl⟩
theorem arr2b : ArrTy Try.prog 53 2 := ⟨_, Try.underlying53, rfl, by kernel_rfl⟩
theorem shaL_len (l : List Nat) : (shaL l).length = 32 := by simp [shaL, outL_length]
theorem shaL_byt (l : List Nat) : Byt (shaL l) := outL_byt _
theorem padK_len (k : List Nat) : (padK k).length = 64 := by
  unfold padK
  split
  · simp [shaL_len]
  · simp; omega
theorem padK_byt {k : List Nat} (h : Byt k) : Byt (padK k) := by
  intro x hx
  unfold padK at hx
  split at hx
  · simp only [List.mem_append, List.mem_replicate] at hx
    rcases hx with hx | hx
    · exact shaL_byt k x hx
    · omega
  · simp only [List.mem_append, List.mem_replicate] at hx
    rcases hx with hx | hx
    · exact h x hx
    · omega
theorem macL_len (k m : List Nat) : (macL k m).length = 32 := shaL_len _
theorem macL_byt (k m : List Nat) : Byt (macL k m) := shaL_byt _
theorem zeros_eq (n : Nat) : zeros n = List.replicate n 0 := rfl
theorem put_zeros {l : List Nat} (h : l.length ≤ 64) : putL (bv (zeros 64)) 0 ((bv l).take 64) = bv (l ++ List.replicate (64 - l.length) 0) := by
  rw [show (bv l).take 64 = bv l from List.take_of_length_le (by simpa using h), putL_bv, Nat.zero_add, zeros_eq, List.drop_replicate, List.take_zero, List.nil_append]

set_option maxRecDepth 100000 in
theorem pads_any (w : World) : Calls Try.prog 24 #[] w (fun e w' => e = .returned (.agg (bv [54, 92]).toArray) ∧ Below w.heap.size w w') := by
  go_enter Try.func24, Try.ntmps24
  go_wp2_with (refine wpList_allocA rfl 53 rfl (bv (zeros 2)) (by kernel_rfl) ?_)
  intro w1 h1 hK1 hz1
  have hB1 := (Below.refl w.heap.size w).trans (hK1.below (Nat.le_refl _) (by simp))
  clear hK1 hz1
  go_wp2_with (refine wpList_storeW rfl 53 (.tmp 0) (.tmp 1) rfl 2 arr2b w.heap.size rfl (bv [54, 92]) rfl 53 _ h1 rfl rfl (ones_bv _) ?_)
  intro w2 h2 hK2
  go_wp2
  exact bodyPost_ret (v := .agg (bv [54, 92]).toArray) (res_cell Try.results24 _ _ _ 53 _ arr2b rfl rfl h2) rfl ⟨rfl, hB1.trans (hK2.below hB1.size (by simp))⟩

set_option maxRecDepth 100000 in
set_option maxHeartbeats 1000000 in
theorem pad_core (A : Option Addr) (n c : Nat) (k : List Nat) (w : World) (hs : Sl w (.slice A n c) (bv k)) (bk : Byt k) (hlen : (k.length : Int) ≤ 549755813888) :
    Calls Try.prog 19 #[.slice A n c] w (RetH (padK k) w) := by
  have hsh := Lib.hid (fun v w hs => shasum_any k v w hs bk hlen)
  have hn : n = k.length := by obtain ⟨_, _, e, _⟩ := hs; injection e with _ e _; simpa using e
  subst hn
  have hK : Hid (padK k = (if 64 < k.length then shaL k else k) ++ List.replicate (64 - (if 64 < k.length then shaL k else k).length) 0) := rfl
  have hpl := Lib.hid (show (bv (padK k)).length = 64 by simp [padK_len])
  have hhl := Lib.hid (shaL_len k)
  generalize padK k = P at *
  replace hs := Lib.hid hs
  clear bk
  go_enter Try.func19, Try.ntmps19
  go_wp2_with (refine wpList_allocA rfl 45 rfl (bv (zeros 64)) (by kernel_rfl) ?_)
  intro w1 h1 hK1 hz1
  have hB1 := (Below.refl w.heap.size w).trans (hK1.below (Nat.le_refl _) (by simp))
  clear hK1 hz1
  by_cases hlt : (64 : Int) < (k.length : Int)
  · have hsh1 := Lib.hid (hsh.out _ w1 (hs.out.keep hB1))
    have hK2 : Hid (P = shaL k ++ List.replicate (64 - (shaL k).length) 0) := by
      show _ = _
      rw [hK.out, if_pos (by omega)]
    clear hK
    generalize shaL k = O at *
    go_wp2_with fail
    refine hsh1.out.mono ?_
    rintro e w2 ⟨rfl, hB2⟩
    have h2 := h1.keep hB2
    have hB2' := below_call hB1 hB1.size hB2
    clear h1 hB1 hB2 hsh1
    go_wp2_with (refine wpList_allocA rfl 25 rfl (bv (zeros 32)) (by kernel_rfl) ?_)
    intro w3 h3 hK3 hz3
    have hp3 := h2.keeps hK3 (by simp)
    have hB3 := hB2'.trans (hK3.below hB2'.size (by simp))
    have hg := h2.lt
    clear hK3 h2 hB2'
    generalize w2.heap.size = g3 at *
    have hOl := Lib.hid (show (bv O).length = 32 by simp [hhl.out])
    go_wp2_with (refine wpList_storeW rfl 25 (.tmp 3) (.tmp 8) rfl 32 arrH g3 rfl (bv O) rfl 25 _ h3 hOl.out (by simp) (ones_bv _) ?_)
    intro w4 h4 hK4
    have hp4 := hp3.keeps hK4 (by simp; omega)
    have hB4 := hB3.trans (hK4.below hB3.size (by simp; omega))
    clear hK4 h3 hp3 hB3 hz3
    have sl4 : Sl w4 (.slice (some ⟨g3, 0, none⟩) 32 32) (bv O) := by
      have h := Sl.of_blk h4 (show 32 ≤ 32 from Nat.le_refl _) (Nat.le_of_eq hOl.out.symm) (by unfold maxLen; omega)
      rw [List.take_of_length_le (Nat.le_of_eq hOl.out)] at h
      exact h
    go_wp2_with (refine wpList_copySl rfl (.tmp 10) (.tmp 11) 22 22 rfl 5 Try.underlying22 (by kernel_rfl) w.heap.size 0 64 64 rfl _ (bv O) rfl sl4 45 _ hp4 ?_ (ones_bv _) ?_)
    · rw [hOl.out]; simp
    intro w5 h5 hK5
    rw [put_zeros (by rw [hhl.out]; decide), ← hK2.out] at h5
    have hB5 := hB4.trans (hK5.below hB4.size (by simp))
    clear hK5 hp4 hB4 h4 sl4
    go_wp2_with (first | refine wpList_loadW rfl 45 (.tmp 2) rfl 64 arr64b _ rfl 45 _ h5 hpl.out ?_ | refine wpList_storeW rfl 45 (.tmp 2) (.tmp 13) rfl 64 arr64b _ rfl (bv P) rfl 45 _ h5 hpl.out hpl.out (ones_bv _) ?_)
    intro w6 h6 hK6
    go_wp2
    exact bodyPost_ret (v := .agg (bv P).toArray) (res_cell Try.results19 _ _ _ 45 _ arr64b hpl.out rfl h6) rfl ⟨rfl, hB5.trans (hK6.below hB5.size (by simp))⟩
  · have hK2 : Hid (P = k ++ List.replicate (64 - k.length) 0) := by
      show _ = _
      rw [hK.out, if_neg (by omega)]
    clear hK hsh hhl
    have sl1 := hs.out.keep hB1
    go_wp2_with (refine wpList_copySl rfl (.tmp 10) (.tmp 11) 22 22 rfl 5 Try.underlying22 (by kernel_rfl) w.heap.size 0 64 64 rfl _ (bv k) rfl sl1 45 _ h1 ?_ (ones_bv _) ?_)
    · have := Nat.min_le_right (bv k).length 64; simpa using this
    intro w5 h5 hK5
    rw [put_zeros (by omega), ← hK2.out] at h5
    have hB5 := hB1.trans (hK5.below hB1.size (by simp))
    clear hK5 h1 hB1 sl1
    go_wp2_with (first | refine wpList_loadW rfl 45 (.tmp 2) rfl 64 arr64b _ rfl 45 _ h5 hpl.out ?_ | refine wpList_storeW rfl 45 (.tmp 2) (.tmp 13) rfl 64 arr64b _ rfl (bv P) rfl 45 _ h5 hpl.out hpl.out (ones_bv _) ?_)
    intro w6 h6 hK6
    go_wp2
    exact bodyPost_ret (v := .agg (bv P).toArray) (res_cell Try.results19 _ _ _ 45 _ arr64b hpl.out rfl h6) rfl ⟨rfl, hB5.trans (hK6.below hB5.size (by simp))⟩
theorem pad_any (v : Value) (k : List Nat) (w : World) (hs : Sl w v (bv k)) (bk : Byt k) (hlen : (k.length : Int) ≤ 549755813888) : Calls Try.prog 19 #[v] w (RetH (padK k) w) := by
  obtain ⟨A, c, rfl, _⟩ := id hs
  exact pad_core A _ c k w hs bk hlen
end Go.Proofs.Ythlebobfbalknaa
