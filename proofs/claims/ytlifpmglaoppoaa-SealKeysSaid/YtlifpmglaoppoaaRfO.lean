/- Contracts: Derive of mac; Mac and Derive of banyanref03. -/
import Derived.Test.YtlifpmglaoppoaaRfN
import Derived.Test.YtlifpmglaoppoaaQ12P3
set_option linter.unusedVariables false
set_option linter.unusedSimpArgs false
namespace Go.Proofs.Ytlifpmglaoppoaa
open Go.RowKit
open Go.Proofs.PlainAes
open Go.Proofs.PlainSha
open Go.Proofs.PlainMac

theorem rwith_any (vH vK v v2 : Value) (k m : List Nat) (w : World) (sH : Sl w vH (wv H0)) (sK : Sl w vK (wv K0)) (hs : Sl w v (bv k)) (hm : Sl w v2 (bv m)) (bk : Byt k) (bm : Byt m) (hlk : (k.length : Int) ≤ 549755813888) (hlm : (m.length : Int) ≤ 274877906944) :
    Calls Try.prog 65 #[.agg #[vH, vK], v, v2] w (RetH (macL k m) w) := by
  obtain ⟨AH, cH, rfl, _⟩ := id sH
  obtain ⟨AK, cK, rfl, _⟩ := id sK
  obtain ⟨A, c, rfl, _⟩ := id hs
  obtain ⟨A2, c2, rfl, _⟩ := id hm
  rw [wv_length, H0_length] at sH ⊢
  rw [wv_length, K0_length] at sK ⊢
  exact rwith_core AH AK A A2 cH cK _ c _ c2 k m w sH sK hs hm bk bm hlk hlm
set_option maxRecDepth 100000 in
set_option maxHeartbeats 1000000 in
theorem rmac_core (A A2 : Option Addr) (n c n2 c2 : Nat) (k m : List Nat) (w : World) (hs : Sl w (.slice A n c) (bv k)) (hm : Sl w (.slice A2 n2 c2) (bv m)) (bk : Byt k) (bm : Byt m) (hlk : (k.length : Int) ≤ 549755813888) (hlm : (m.length : Int) ≤ 274877906944) :
    Calls Try.prog 47 #[.slice A n c, .slice A2 n2 c2] w (RetH (macL k m) w) := by
  have hmd := Lib.hid (fun w => made_any w)
  have hw := Lib.hid (fun vH vK w a b (c1 : Sl w (.slice A n c) (bv k)) (d : Sl w (.slice A2 n2 c2) (bv m)) => rwith_any vH vK _ _ k m w a b c1 d bk bm hlk hlm)
  have hol := Lib.hid (show (bv (macL k m)).length = 32 by rw [bv_length, macL_len])
  replace hs := Lib.hid hs
  replace hm := Lib.hid hm
  clear hlk hlm bk bm
  generalize macL k m = O at *
  go_enter Try.func47, Try.ntmps47
  go_wp2_with (refine wpList_allocA rfl 26 rfl (bv (zeros 32)) (by kernel_rfl) ?_)
  intro w1 h1 hK1 hz1
  have hB1 := (Below.refl w.heap.size w).trans (hK1.below (Nat.le_refl _) (by simp))
  clear hK1 hz1
  go_wp2_with fail
  refine (hmd.out _).mono ?_
  rintro e w2 ⟨vH, vK, rfl, sH, sK, hB2⟩
  have h2 := h1.keep hB2
  have hB2' := below_call hB1 hB1.size hB2
  have hw2 := Lib.hid (hw.out vH vK w2 sH sK (hs.out.keep hB2') (hm.out.keep hB2'))
  clear h1 hB1 hB2 sH sK
  go_wp2_with fail
  refine hw2.out.mono ?_
  rintro e w3 ⟨rfl, hB3⟩
  have h3 := h2.keep hB3
  have hB3' := below_call hB2' hB2'.size hB3
  clear h2 hB2' hB3 hw2
  go_wp2_with (refine wpList_storeW rfl 26 (.tmp 4) (.tmp 8) rfl 32 arrH _ rfl (bv O) rfl 26 _ h3 hol.out (by simp) (ones_bv _) ?_)
  intro w4 h4 hK4
  go_wp2
  exact bodyPost_ret (v := .agg (bv O).toArray) (res_cell Try.results47 _ _ _ 26 _ arrH hol.out rfl h4) rfl ⟨rfl, hB3'.trans (hK4.below hB3'.size (by simp))⟩
theorem rmac_any (v v2 : Value) (k m : List Nat) (w : World) (hs : Sl w v (bv k)) (hm : Sl w v2 (bv m)) (bk : Byt k) (bm : Byt m) (hlk : (k.length : Int) ≤ 549755813888) (hlm : (m.length : Int) ≤ 274877906944) :
    Calls Try.prog 47 #[v, v2] w (RetH (macL k m) w) := by
  obtain ⟨A, c, rfl, _⟩ := id hs
  obtain ⟨A2, c2, rfl, _⟩ := id hm
  exact rmac_core A A2 _ c _ c2 k m w hs hm bk bm hlk hlm
set_option maxRecDepth 100000 in
set_option maxHeartbeats 1000000 in
theorem rderive_core (A : Option Addr) (n c : Nat) (k l : List Nat) (w : World) (hs : Sl w (.slice A n c) (bv k)) (bk : Byt k) (bl : Byt l) (hlk : (k.length : Int) ≤ 549755813888) (hll : (l.length : Int) ≤ 274877906944) :
    Calls Try.prog 27 #[.slice A n c, .string (bstr l)] w (RetH (macL k l) w) := by
  have hmac := Lib.hid (fun v2 w (h : Sl w (.slice A n c) (bv k)) (d : Sl w v2 (bv l)) => rmac_any _ v2 k l w h d bk bl hlk (by omega))
  have hol := Lib.hid (show (bv (macL k l)).length = 32 by rw [bv_length, macL_len])
  have kc := fun (w : World) (s : ByteArray) => run_bytes_of_string (P := Try.prog) w 9 22 5 s Try.underlying9 Try.underlying22 Try.underlying5
  have hsz := bstr_size l
  have hsl2 := Lib.hid (fun w fr => sl_string w fr bl (by omega))
  replace hs := Lib.hid hs
  clear hlk bk bl
  generalize macL k l = O at *
  go_enter Try.func27, Try.ntmps27
  go_wp2_with (refine wpList_allocA rfl 26 rfl (bv (zeros 32)) (by kernel_rfl) ?_)
  intro w1 h1 hK1 hz1
  have hB1 := (Below.refl w.heap.size w).trans (hK1.below (Nat.le_refl _) (by simp))
  clear hK1 hz1
  go_wp2_with fail
  have q3 : Below w1.heap.size w1 (w1.alloc (.cells (bytesRow (bstr l) (grownCap w1 l.length 0 5)) 5 ((bytesRow (bstr l) (grownCap w1 l.length 0 5)).size, (bytesRow (bstr l) (grownCap w1 l.length 0 5)).size + 1))).drew := ((Below.refl _ _).alloc (Nat.le_refl _) _).drew
  refine (hmac.out _ _ (hs.out.keep (below_call hB1 hB1.size q3)) (hsl2.out w1 ((bytesRow (bstr l) (grownCap w1 l.length 0 5)).size, (bytesRow (bstr l) (grownCap w1 l.length 0 5)).size + 1))).mono ?_
  rintro e w3 ⟨rfl, hB3⟩
  have hB2 := below_call q3 q3.size hB3
  have h3 := h1.keep hB2
  have hB3' := below_call hB1 hB1.size hB2
  clear h1 hB1 hB2 hB3 q3
  go_wp2_with (refine wpList_storeW rfl 26 (.tmp 4) (.tmp 8) rfl 32 arrH _ rfl (bv O) rfl 26 _ h3 hol.out (by simp) (ones_bv _) ?_)
  intro w4 h4 hK4
  go_wp2
  exact bodyPost_ret (v := .agg (bv O).toArray) (res_cell Try.results27 _ _ _ 26 _ arrH hol.out rfl h4) rfl ⟨rfl, hB3'.trans (hK4.below hB3'.size (by simp))⟩
theorem rderive_any (v : Value) (k l : List Nat) (w : World) (hs : Sl w v (bv k)) (bk : Byt k) (bl : Byt l) (hlk : (k.length : Int) ≤ 549755813888) (hll : (l.length : Int) ≤ 274877906944) :
    Calls Try.prog 27 #[v, .string (bstr l)] w (RetH (macL k l) w) := by
  obtain ⟨A, c, rfl, _⟩ := id hs
  exact rderive_core A _ c k l w hs bk bl hlk hll
end Go.Proofs.Ytlifpmglaoppoaa
