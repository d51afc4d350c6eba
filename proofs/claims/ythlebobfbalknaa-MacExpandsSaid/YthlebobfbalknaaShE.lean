/- Contracts of package sha: New, Len. -/
import Derived.Test.YthlebobfbalknaaShD
import Derived.Test.YthlebobfbalknaaClo
import Derived.Test.YthlebobfbalknaaRegB
import Derived.Test.YthlebobfbalknaaCtrR0
set_option linter.unusedVariables false
set_option linter.unusedSimpArgs false
namespace Go.Proofs.Ythlebobfbalknaa
open Go.RowKit
open Go.Proofs.PlainAes
open Go.Proofs.PlainSha

/-- A hasher's cells. -/
def hcells (s : List Nat) (v : Value) (n : Nat) : List Value := wv s ++ (wv K0 ++ [v, .int .i64 (n : Int)])
theorem hcells_length (s : List Nat) (v : Value) (n : Nat) (hs : s.length = 8) : (hcells s v n).length = 74 := by simp [hcells, hs, K0_length]
theorem hcells_s (s : List Nat) (v : Value) (n : Nat) (hs : s.length = 8) : ((hcells s v n).drop 0).take 8 = wv s := by
  rw [List.drop_zero, hcells, List.take_append_of_le_length (by simp [hs]), List.take_of_length_le (by simp [hs])]
theorem hcells_k (s : List Nat) (v : Value) (n : Nat) (hs : s.length = 8) : ((hcells s v n).drop 8).take 64 = wv K0 := by
  have h8 : (wv s).length = 8 := by simp [hs]
  have h64 : (wv K0).length = 64 := by simp [K0_length]
  rw [hcells, List.drop_append, List.drop_of_length_le (by omega), h8, Nat.sub_self, List.drop_zero, List.nil_append, List.take_append_of_le_length (by omega), List.take_of_length_le (by omega)]
theorem hcells_v (s : List Nat) (v : Value) (n : Nat) (hs : s.length = 8) : (hcells s v n)[72]? = some v := by
  have h8 : (wv s).length = 8 := by simp [hs]
  have h64 : (wv K0).length = 64 := by simp [K0_length]
  rw [hcells, List.getElem?_append_right (by omega), List.getElem?_append_right (by omega), h8, h64]; rfl
theorem hcells_n (s : List Nat) (v : Value) (n : Nat) (hs : s.length = 8) : (hcells s v n)[73]? = some (.int .i64 (n : Int)) := by
  have h8 : (wv s).length = 8 := by simp [hs]
  have h64 : (wv K0).length = 64 := by simp [K0_length]
  rw [hcells, List.getElem?_append_right (by omega), List.getElem?_append_right (by omega), h8, h64]; rfl
theorem hcells_set_v (s : List Nat) (v v' : Value) (n : Nat) (hs : s.length = 8) : (hcells s v n).set 72 v' = hcells s v' n := by
  have h8 : (wv s).length = 8 := by simp [hs]
  have h64 : (wv K0).length = 64 := by simp [K0_length]
  rw [hcells, List.set_append_right _ _ (by omega), List.set_append_right _ _ (by omega), h8, h64]; rfl
theorem hcells_set_n (s : List Nat) (v : Value) (n n' : Nat) (hs : s.length = 8) : (hcells s v n).set 73 (.int .i64 (n' : Int)) = hcells s v n' := by
  have h8 : (wv s).length = 8 := by simp [hs]
  have h64 : (wv K0).length = 64 := by simp [K0_length]
  rw [hcells, List.set_append_right _ _ (by omega), List.set_append_right _ _ (by omega), h8, h64]; rfl
theorem hcells_put_s (s s' : List Nat) (v : Value) (n : Nat) (hs : s.length = 8) (hs' : s'.length = 8) : putL (hcells s v n) 0 (wv s') = hcells s' v n := by
  have h8 : (wv s).length = 8 := by simp [hs]
  have h8' : (wv s').length = 8 := by simp [hs']
  rw [putL, hcells, List.take_zero, List.nil_append, Nat.zero_add, h8', List.drop_append, List.drop_of_length_le (by omega), h8, Nat.sub_self, List.drop_zero, List.nil_append]
  rfl

/-- The state behind all whole blocks, and the rest. -/
def stOf (l : List Nat) : List Nat := states K0 H0 l (l.length / 64)
def rsOf (l : List Nat) : List Nat := l.drop (64 * (l.length / 64))
/-- A hasher that has taken l: block g, its rest in row r. -/
def Hsh (w : World) (B g : Nat) (r : Option Nat) (l : List Nat) : Prop :=
  ∃ v, Blk w g 75 (hcells (stOf l) v l.length) ∧ w.ownsRow B 5 1 v (rsOf l).length (bv (rsOf l)) ∧ v.ownBlock = r ∧ r ≠ some g ∧ B ≤ g
theorem stOf_length (l : List Nat) : (stOf l).length = 8 := states_length H0_length _
theorem Hsh.keeps {w w' : World} {B g : Nat} {r : Option Nat} {l : List Nat} {G : List Nat} (h : Hsh w B g r l) (hK : Keeps G w w') (hg : g ∉ G) (hr : ∀ k, r = some k → k ∉ G) : Hsh w' B g r l := by
  obtain ⟨v, h1, h2, h3, h4, h5⟩ := h
  exact ⟨v, h1.keeps hK hg, own_keeps h2 hK (fun k _ hk => hr k (h3 ▸ hk)), h3, h4, h5⟩
theorem Hsh.keep {w w' : World} {B g : Nat} {r : Option Nat} {l : List Nat} (h : Hsh w B g r l) (hB : Below w.heap.size w w') : Hsh w' B g r l := h.keeps (Keeps.of_below hB (G := [])) (by simp) (by simp)

/-- A hasher's cells at the start. -/
def hzero : List Value := wv (zeros 8) ++ (wv (zeros 64) ++ [.slice none 0 0, .int .i64 0])
def RetNew (w : World) (e : Ending) (w' : World) : Prop := ∃ g, e = .returned (.pointer (some ⟨g, 0, none⟩)) ∧ Hsh w' w.heap.size g none [] ∧ Below w.heap.size w w'
theorem put_new0 (H : List Value) (hH : H.length = 8) : putL hzero 0 H = H ++ (wv (zeros 64) ++ [.slice none 0 0, .int .i64 0]) := by
  have h8 : (wv (zeros 8)).length = 8 := by simp
  rw [putL, hzero, List.take_zero, List.nil_append, Nat.zero_add, hH, List.drop_append, List.drop_of_length_le (by omega), h8, Nat.sub_self, List.drop_zero, List.nil_append]
theorem put_new1 (H K : List Value) (hH : H.length = 8) (hK : K.length = 64) : putL (H ++ (wv (zeros 64) ++ [.slice none 0 0, .int .i64 0])) 8 K = H ++ (K ++ [.slice none 0 0, .int .i64 0]) := by
  have h64 : (wv (zeros 64)).length = 64 := by simp
  rw [putL, List.take_append_of_le_length (by omega), List.take_of_length_le (by omega), List.drop_append, List.drop_of_length_le (by omega), hH, hK, List.nil_append,
    show 8 + 64 - 8 = 64 from rfl, List.drop_append, List.drop_of_length_le (by omega), h64, Nat.sub_self, List.drop_zero, List.nil_append, List.append_assoc]
set_option maxRecDepth 100000 in
set_option maxHeartbeats 1000000 in
theorem new_any (w : World) : Calls Try.prog 21 #[] w (RetNew w) := by
  have hc := Lib.hid (fun w => consts_any w)
  have hz : ∀ w, (zeroValue 75).run Try.prog w = .ok (.agg hzero.toArray) w := fun _ => by kernel_rfl
  have hl0 := Lib.hid (show hzero.length = 74 by simp [hzero])
  have p0 := Lib.hid (fun H hH => put_new0 H hH)
  have p1 := Lib.hid (fun H K hH hK => put_new1 H K hH hK)
  generalize hzero = Z at *
  have hHl := Lib.hid (show (wv H0).length = 8 by simp [H0_length])
  have hKl := Lib.hid (show (wv K0).length = 64 by simp [K0_length])
  have hH1 := Lib.hid (ones_wv H0)
  have hK1 := Lib.hid (ones_wv K0)
  have hend : Hid (hcells (stOf []) (.slice none 0 0) 0 = wv H0 ++ (wv K0 ++ [.slice none 0 0, .int .i64 0])) := rfl
  change Hid (∀ w, Calls _ _ _ w (fun e w' => e = .returned (.tuple #[.agg (wv H0).toArray, .agg (wv K0).toArray]) ∧ Below w.heap.size w w')) at hc
  generalize wv H0 = H at *
  generalize wv K0 = K at *
  go_enter Try.func21, Try.ntmps21
  go_wp2_with fail
  refine (hc.out _).mono ?_
  rintro e w2 ⟨rfl, hB2⟩
  have h1 : Blk w2 w.heap.size 75 Z := (Blk.new_at (w := w) (t := 75) (cs := Z.toArray) rfl rfl).keep hB2
  have hB : Below w.heap.size w w2 := below_call ((Below.refl _ _).alloc (Nat.le_refl _) _) (by simp) hB2
  clear hB2 hz
  go_wp2_with (first
    | refine wpList_storeA rfl 72 (.tmp 11) (.tmp 8) rfl 8 arr8s w.heap.size 0 rfl H rfl 75 _ h1 hHl.out (by rw [hl0.out]; decide) hH1.out ?_)
  intro w3 h2 hK3
  rw [p0.out H hHl.out] at h2
  have hB3 := hB.trans (hK3.below hB.size (by simp))
  clear hK3 h1
  go_wp2_with (first
    | refine wpList_storeA rfl 73 (.tmp 13) (.tmp 9) rfl 64 arr64w w.heap.size 8 rfl K rfl 75 _ h2 hKl.out (by simp [hHl.out]) hK1.out ?_)
  intro w4 h3 hK4
  rw [p1.out H K hHl.out hKl.out] at h3
  have hB4 := hB3.trans (hK4.below hB3.size (by simp))
  clear hK4 h2
  go_wp2
  go_ret
  exact ⟨w.heap.size, rfl, ⟨.slice none 0 0, by have := hend.out; rw [show ([] : List Nat).length = 0 from rfl, this]; exact h3, World.ownsRow_nil _ _ _ _, rfl, by simp, Nat.le_refl _⟩, hB4⟩
end Go.Proofs.Ythlebobfbalknaa
