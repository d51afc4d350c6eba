/- The walk of PtrBack. -/
import Derived.Test.YtfhlenclnknnhaaPtL
import Derived.Test.YtfhlenclnknnhaaCdB
import Derived.Test.YtfhlenclnknnhaaLdR
import Derived.Test.YtfhlenclnknnhaaSlM
import Derived.Test.YtfhlenclnknnhaaEqH
import Derived.Deep.Cut
import Derived.Deep.DeepCutAuto
set_option linter.unusedVariables false
set_option linter.unusedSimpArgs false
namespace Go.Proofs.PlainPtr
open Go.Proofs.PlainSha
/-- The bytes of some pointers. -/
def catB (l : List PtrD) : List Nat := l.flatMap ptrB
theorem ptrB_len' {p : PtrD} (h : PtOk p) : (ptrB p).length = 44 := by unfold ptrB; rw [List.length_append, List.length_append, putB_length, putB_length, h.s]
theorem catB_len : ∀ (l : List PtrD), (∀ p ∈ l, PtOk p) → (catB l).length = 44 * l.length
  | [], _ => rfl
  | p :: l, h => by
    show (ptrB p ++ catB l).length = _
    rw [List.length_append, ptrB_len' (h p List.mem_cons_self), catB_len l (fun q hq => h q (List.mem_cons_of_mem _ hq)), List.length_cons]
    omega
theorem ptrB_lt {p : PtrD} (h : PtOk p) : ∀ x ∈ ptrB p, x < 256 := by
  intro x hx
  unfold ptrB at hx
  rcases List.mem_append.1 hx with hx | hx
  · exact putB_lt _ _ x hx
  · rcases List.mem_append.1 hx with hx | hx
    · exact putB_lt _ _ x hx
    · exact h.byt x hx
theorem catB_lt (l : List PtrD) (h : ∀ p ∈ l, PtOk p) : ∀ x ∈ catB l, x < 256 := by
  intro x hx
  obtain ⟨p, hp, hx⟩ := List.mem_flatMap.1 hx
  exact ptrB_lt (h p hp) x hx
theorem catB_snoc (l : List PtrD) (p : PtrD) {k : Nat} (h : l[k]? = some p) : catB (l.take (k + 1)) = catB (l.take k) ++ ptrB p := by
  unfold catB
  obtain ⟨hk, rfl⟩ := List.getElem?_eq_some_iff.1 h
  rw [List.take_add_one, List.getElem?_eq_getElem hk, List.flatMap_append]
  simp
theorem catB_cons (l : List PtrD) (p : PtrD) {k : Nat} (h : l[k]? = some p) : catB (l.drop k) = ptrB p ++ catB (l.drop (k + 1)) := by
  obtain ⟨hk, rfl⟩ := List.getElem?_eq_some_iff.1 h
  rw [List.drop_eq_getElem_cons hk]
  rfl
end Go.Proofs.PlainPtr
namespace Go.Proofs.Ytfhlenclnknnhaa.w_PtrBack
open Go.RowKit
open Go.Proofs.PlainPtr Go.Proofs.PlainSha

set_option maxRecDepth 100000 in
set_option maxHeartbeats 2000000 in
theorem core (ps : List PtrD) (hok : ∀ p ∈ ps, PtOk p) (v : Value) (cut : Nat) (hcut : (cut : Int) ≤ 255) (w : World) (s : Slm w v 34 (ps.map pcl)) :
    Calls Try.prog 4 #[v, .int .u8 (cut : Int)] w fun e w' => e = .returned (.bool true) ∧ Below w.heap.size w w' := by
  obtain ⟨A, c, hv, hc1, hc2, -⟩ := id s
  obtain ⟨n, hn⟩ : ∃ n, Hid (n = ps.length) := ⟨_, rfl⟩
  rw [List.length_map, ← hn.out] at hv hc1
  subst hv
  have hal := Lib.hid (fun w => alive08 w)
  replace hok := Lib.hid hok
  have hs := Lib.hid s
  clear s
  by_cases hbig : (60 : Int) < n
  · go_enter Try.func4, Try.ntmps4
    go_wp2_with fail
    refine (hal.out w).mono ?_
    rintro e w1 ⟨rfl, B1⟩
    replace B1 := Lib.hid B1
    go_wp2_with fail
    go_ret
    exact ⟨rfl, B1.out⟩
  have hsm : (n : Int) ≤ 60 := by omega
  clear hbig
  have hread := Lib.hid (fun w v l B (h : World.ownsRow w B 5 1 v l.length (bv l)) (hl : (l.length : Int) ≤ 140737488355328) => read_any v l w (clone_own v l w h hl))
  go_enter Try.func4, Try.ntmps4
  go_wp2_with fail
  refine (hal.out w).mono ?_
  rintro e w1 ⟨rfl, B1⟩
  have h0 : Wx w1.heap.size (w1.alloc (.cells #[.slice none 0 0] 37)) w1.heap.size (wbl w1.heap.size (.slice none 0 0)) [] := ⟨_, Wr.made (w := w1) rfl, rfl⟩
  have B2 := Lib.hid (B1.trans (((Below.refl w1.heap.size w1).alloc (Nat.le_refl _) (.cells #[.slice none 0 0] 37)).mono B1.size))
  have hwg := Lib.hid B1.size
  generalize wbl w1.heap.size (.slice none 0 0) = L0 at *
  replace h0 := Lib.hid h0
  have h0' : Hid (Wx w1.heap.size (w1.alloc (.cells #[.slice none 0 0] 37)) w1.heap.size L0 (catB (ps.take 0))) := h0
  clear B1 h0 hal
  go_wp2_with fail
  generalize w1.heap.size = g at *
  go_loopw [25] (fun i wr => ∃ (k : Nat) (L : List Nat), (k : Int) ≤ n ∧ i = .int .i64 (k : Int) ∧ Hid (Wx g wr g L (catB (ps.take k))) ∧ Hid (Below w.heap.size w wr)) (fun i _ => n - (intOf i).toNat)
  case atStart => exact ⟨0, L0, by omega, rfl, h0', B2⟩
  case round =>
    clear h0' B2
    obtain ⟨k, L, hk, rfl, H, hB⟩ := hrel
    by_cases hlt : (k : Int) < n
    · obtain ⟨p, hx⟩ : ∃ x, ps[k]? = some x := ⟨_, List.getElem?_eq_getElem (by have := hn.out; omega)⟩
      have hx' : (ps.map pcl)[k]? = some (pcl p) := by rw [List.getElem?_map, hx]; rfl
      have hpo := Lib.hid (hok.out p (List.mem_of_getElem? hx))
      obtain ⟨ga, oa, rfl, -, hrg⟩ := (hs.out.keep hB.out).at_ hx'
      have hsn := Lib.hid (catB_snoc ps p hx)
      have hpl := Lib.hid (pcl_len hpo.out)
      have hcl := Lib.hid (catB_len (ps.take k) (fun q hq => hok.out q (List.mem_of_mem_take hq)))
      clear hx hx'
      go_wp2_with (first
        | refine wpList_loadR rfl 27 (.tmp 27) rfl 34 arrPt ga (oa + k * 34) rfl (pcl p) hrg hpl.out ?_
        | refine wpList_allocA rfl 27 rfl (pcl pz) zero_pt ?_)
      intro w3 h3 hK3 hz3
      have B3 := hB.out.trans (hK3.below hB.out.size (by simp))
      have H3 := H.out.keeps hK3 (by simp)
      have hfL : wr.heap.size ∉ L := fun hm => by have := (H.out.lt _ hm).2; omega
      have hge : w.heap.size ≤ wr.heap.size := hB.out.size
      clear hK3 hz3 hB H hrg
      generalize wr.heap.size = gx at *
      go_wp2_with (refine wpList_storeW rfl 27 (.tmp 7) (.tmp 28) rfl 34 arrPt gx rfl (pcl p) rfl 27 _ h3 hpl.out (pcl_len pz_ok) (pcl_ones p) ?_)
      intro w4 h4 hK4
      have B4 := Lib.hid (B3.trans (hK4.below B3.size (by simp; exact hge)))
      have H4 := H3.keeps hK4 (fun q hq => by simp; rintro rfl; exact hfL hq)
      have hput := Lib.hid (put_x H4 p hpo.out (by have := hcl.out; rw [List.length_take] at this; omega))
      rw [← hsn.out] at hput
      have hgL := Lib.hid (fun k hk => Nat.le_trans hwg.out (H4.lt k hk).1)
      clear hK4 H3 B3 h3 hge hcl hsn
      clear H4
      go_wp2_with (refine wpList_loadW rfl 27 (.tmp 7) rfl 34 arrPt gx rfl 27 (pcl p) h4 hpl.out ?_)
      refine hput.out.mono ?_
      rintro e w5 ⟨L5, rfl, H5, S5⟩
      have B5 := Lib.hid (B4.out.trans (S5.below hgL.out B4.out.size))
      replace H5 := Lib.hid H5
      clear S5 h4 hput hgL B4 hfL hpl hpo
      go_wp2_with fail
      go_roundw
      case rel => exact ⟨k + 1, L5, by omega, by go_num, H5, B5⟩
      case measure => simp [intOf]; omega
    · obtain rfl : k = n := by omega
      rw [show ps.take k = ps by rw [hn.out]; exact List.take_length] at H
      have hcl := Lib.hid (catB_len ps (fun q hq => hok.out q hq))
      have hcb := Lib.hid (catB_lt ps (fun q hq => hok.out q hq))
      have hby := Lib.hid (bytes_x H.out (by rw [hcl.out]; have := hn.out; omega))
      clear H hlt hk
      go_wp2_with fail
      refine hby.out.mono ?_
      rintro e w2 ⟨v, rfl, own, B2⟩
      have B2' := hB.out.trans (B2.mono hB.out.size)
      have hrd := Lib.hid (hread.out w2 v (catB ps) _ own (by rw [hcl.out]; have := hn.out; omega))
      obtain ⟨Av, nv, cv, hv⟩ : ∃ A n c, v = .slice A n c := by
        rcases own.2 with ⟨e, _⟩ | ⟨g', cap, cur, e, _⟩
        · exact ⟨_, _, _, e⟩
        · exact ⟨_, _, _, e⟩
      subst hv
      have hnv : Hid (nv = 44 * k) := by
        show _ = _
        have := (Sl.of_own own).cap.2.2
        rw [bv_length, hcl.out, ← hn.out] at this
        exact this.symm
      have sl2 := Sl.of_own own
      have hvb : Hid (∀ a n c, Value.slice Av nv cv = .slice (some a) n c → a.block < w2.heap.size) := fun a n c e => by
        injection e with e
        subst e
        exact (own.lt _ rfl).2
      clear hby B2 hB hread own
      go_wp2_with fail
      refine hrd.out.mono ?_
      rintro e w3 ⟨g9, k9, rfl, hr, B3⟩
      have B3' := Lib.hid (B2'.trans (B3.mono B2'.size))
      have sl3 := Lib.hid (sl2.keep B3)
      have hr0 : Hid (Rd w2.heap.size w3 g9 k9 (catB (ps.drop 0))) := Lib.hid hr
      have hB9 := Lib.hid (B2'.size)
      clear hr B3 B2' sl2 hrd
      generalize w2.heap.size = b9 at *
      go_wp2_with fail
      go_loopw [38] (fun i wr => ∃ (j : Nat), (j : Int) ≤ k ∧ i = .int .i64 (j : Int) ∧ Hid (Rd b9 wr g9 k9 (catB (ps.drop j))) ∧ Hid (Sl wr (.slice Av nv cv) (bv (catB ps))) ∧ Hid (Below w.heap.size w wr)) (fun i _ => k - (intOf i).toNat)
      case atStart => exact ⟨0, by omega, rfl, hr0, sl3, B3'⟩
      case round =>
        clear hr0 sl3 B3'
        obtain ⟨j, hj, rfl, H, hsl, hB⟩ := hrel
        by_cases hlt : (j : Int) < k
        · obtain ⟨p, hx⟩ : ∃ x, ps[j]? = some x := ⟨_, List.getElem?_eq_getElem (by have := hn.out; omega)⟩
          have hx' : (ps.map pcl)[j]? = some (pcl p) := by rw [List.getElem?_map, hx]; rfl
          have hpo := Lib.hid (hok.out p (List.mem_of_getElem? hx))
          obtain ⟨ga, oa, rfl, -, hrg⟩ := (hs.out.keep hB.out).at_ hx'
          have hsn := catB_cons ps p hx
          have hpl := Lib.hid (pcl_len hpo.out)
          have hgp : Hid (getP (catB (ps.drop j)) = p) := by
            show _ = _
            rw [hsn]
            exact getP_ptrB hpo.out _
          have hdr : Hid ((catB (ps.drop j)).drop 44 = catB (ps.drop (j + 1))) := by
            show _ = _
            rw [hsn, List.drop_left' (ptrB_len' hpo.out)]
          have hge := Lib.hid (catB_len (ps.drop j) (fun q hq => hok.out q (List.mem_of_mem_drop hq)))
          have hlb := Lib.hid (catB_lt (ps.drop j) (fun q hq => hok.out q (List.mem_of_mem_drop hq)))
          have hgt : Hid (∀ w', Rd b9 w' g9 k9 (catB (ps.drop j)) → Calls Try.prog 16 #[.pointer (some ⟨g9, 0, none⟩)] w' (RetGt b9 g9 k9 p (catB (ps.drop (j + 1))) w')) := fun w' h => by
            have hl := hge.out
            rw [List.length_drop, ← hn.out] at hl
            have := get_any h (by omega) (by omega) hlb.out
            rw [hgp.out, hdr.out] at this
            exact this
          have hkl : Hid (∀ b, k9 = some b → b < wr.heap.size) := fun b hb => H.out.row_lt hb
          have hg9 := Lib.hid H.out.lt
          clear hx hx' hsn hgp hdr hge hlb
          go_wp2_with (first
            | refine wpList_loadR rfl 27 (.tmp 40) rfl 34 arrPt ga (oa + j * 34) rfl (pcl p) hrg hpl.out ?_
            | refine wpList_allocA rfl 27 rfl (pcl pz) zero_pt ?_)
          intro w3 h3 hK3 hz3
          have B3 := hB.out.trans (hK3.below hB.out.size (by simp))
          have H3 := H.out.keeps hK3 (by simp) (by simp)
          have S3 := hsl.out.keeps hK3 (by simp)
          have hge : w.heap.size ≤ wr.heap.size := hB.out.size
          have hSl : Hid (∀ a n c, Value.slice Av nv cv = .slice (some a) n c → a.block < wr.heap.size) := fun a n c e => by
            have := hvb.out a n c e
            have := hg9.out
            omega
          clear hK3 hB H hrg hsl
          generalize wr.heap.size = gx at *
          go_wp2_with (refine wpList_storeW rfl 27 (.tmp 11) (.tmp 41) rfl 34 arrPt gx rfl (pcl p) rfl 27 _ h3 hpl.out (pcl_len pz_ok) (pcl_ones p) ?_)
          intro w4 h4 hK4
          have B4 := Lib.hid (B3.trans (hK4.below B3.size (by simp; exact hge)))
          have H4 := H3.keeps hK4 (by simp; have := hg9.out; omega) (fun b hb => by have := hkl.out b hb; simp; omega)
          have S4 := S3.keeps hK4 (fun a n c e => by have := hSl.out a n c e; simp; omega)
          have hgc := Lib.hid (hgt.out w4 H4)
          clear hK4 H3 S3 B3 h3 hgt H4 hz3
          replace S4 := Lib.hid S4
          replace h4 := Lib.hid h4
          go_wp2_with fail
          refine hgc.out.mono ?_
          rintro e w5 ⟨rfl, H5, K5⟩
          have h5 := h4.out.keeps K5 (by simp; have := hg9.out; omega)
          have S5 := S4.out.keeps K5 (fun a n c e => by have := hvb.out a n c e; have := hg9.out; simp; omega)
          have B5 := B4.out.trans (K5.below B4.out.size (by simp; have := hg9.out; have := hB9.out; omega))
          have hzg : gx < w5.heap.size := h5.lt
          clear h4 S4 K5 hgc B4
          go_wp2_with (refine wpList_allocA rfl 27 rfl (pcl pz) zero_pt ?_)
          intro w6 h6 hK6 hz6
          have h6' := h5.keeps hK6 (by simp)
          have S6 := S5.keeps hK6 (by simp)
          have H6 := H5.keeps hK6 (by simp) (by simp)
          have B6 := B5.trans (hK6.below B5.size (by simp))
          have hge2 : w.heap.size ≤ w5.heap.size := B5.size
          have hgl5 : g9 < w5.heap.size := H5.lt.2
          clear h5 S5 H5 hK6 B5 hz6
          generalize w5.heap.size = gy at *
          go_wp2_with (refine wpList_storeW rfl 27 (.tmp 12) (.tmp 45) rfl 34 arrPt gy rfl (pcl p) rfl 27 _ h6 hpl.out (pcl_len pz_ok) (pcl_ones p) ?_)
          intro w7 h7 hK7
          have h7' := Lib.hid (h6'.keeps hK7 (by simp; omega))
          have S7 := Lib.hid (S6.keeps hK7 (fun a n c e => by have := hSl.out a n c e; simp; omega))
          have H7 := Lib.hid (H6.keeps hK7 (by simp; omega) (fun b hb => by have := hkl.out b hb; simp; omega))
          have B7 := Lib.hid (B6.trans (hK7.below B6.size (by simp; exact hge2)))
          replace h7 := Lib.hid h7
          clear h6 h6' S6 H6 B6 hK7 hge hge2 hgl5 hzg
          have hdd := Lib.hid (show decide (p = p) = true from decide_eq_true rfl)
          go_wp2_with (first
            | (with_reducible (refine (?_ : wpList _ _ _ (_ :: _) _ _)); refine wpList_loadW rfl 27 (.tmp 12) rfl 34 arrPt gy rfl 27 (pcl p) h7.out hpl.out ?_)
            | (with_reducible (refine (?_ : wpList _ _ _ (_ :: _) _ _)); refine wpList_loadW rfl 27 (.tmp 11) rfl 34 arrPt gx rfl 27 (pcl p) h7'.out hpl.out ?_)
            | (with_reducible (refine (?_ : wpList _ _ _ (_ :: _) _ _)); refine wpList_nePtB (.tmp 47) (.tmp 48) 27 rfl p p hpo.out hpo.out rfl rfl rfl true hdd.out ?_))
          go_roundw
          case rel => exact ⟨j + 1, by omega, by go_num, H7, S7, B7⟩
          case measure => simp [intOf]; omega
        · obtain rfl : j = k := by omega
          have hlf := left_any H.out
          rw [show (catB (ps.drop j)).length = 0 by rw [hn.out, List.drop_length]; rfl] at hlf
          replace hlf := Lib.hid hlf
          clear H hlt hj
          by_cases h0 : (j : Int) = 0
          · have e0 : ((j : Int) == 0) = true := by rw [h0]; rfl
            go_wp2_with fail
            refine hlf.out.mono ?_
            rintro e w8 ⟨rfl, rfl⟩
            go_wp2_with fail
            go_ret
            exact ⟨by first | rfl | (rw [h0]; rfl), hB.out⟩
          · have hj1 : (1 : Int) ≤ (j : Int) := by omega
            have e0 : ((j : Int) == 0) = false := by simpa using h0
            obtain ⟨kc, hkc⟩ : ∃ kc : Nat, kc = cut % 44 + 1 := ⟨_, rfl⟩
            have hnv1 : (44 : Int) ≤ (nv : Int) := by have := hnv.out; omega
            have hnv2 : (nv : Int) ≤ 2640 := by have := hnv.out; omega
            have hcv := hsl.out.cap
            obtain ⟨a, rfl⟩ : ∃ a, Av = some a := by
              obtain ⟨A', c', e, -, -, h3⟩ := hsl.out
              injection e with e1 e2 e3
              obtain ⟨g, o, e4, -⟩ := h3 (by rw [← e2]; omega)
              exact ⟨_, e1.trans e4⟩
            obtain ⟨A7, c7, e7, s7, k7⟩ := sl_part hsl.out (l := nv - 44) (k := nv - kc) (by omega) (by omega)
            cases A7 with
            | none => cases k7
            | some a7 =>
            obtain ⟨m7, hm7⟩ : ∃ m7, m7 = nv - kc - (nv - 44) := ⟨_, rfl⟩
            rw [← hm7] at e7 s7
            have q7 : (Instr.sliceAt 35 (.slice (some a) nv cv) (some (.int .i64 ((nv : Int) - 44))) (some (.int .i64 ((nv : Int) - ((cut : Int) % 44 + 1)))) none).run Try.prog wr = .ok (.slice (some a7) m7 c7) wr := by
              rw [sliceAt_lh (some a) nv cv (nv - 44) (nv - kc) _ _ (by omega) (by omega) (by omega) (by omega) wr, e7]
            rw [bv_drop, bv_take] at s7
            have hl7 : (((catB ps).drop (nv - 44)).take m7).length = m7 := by
              have := s7.cap.2.2
              rwa [bv_length] at this
            have hm7I : Hid ((m7 : Int) = 44 - ((cut : Int) % 44 + 1)) := by show _ = _; omega
            have hm44 : Hid (m7 < 44) := by show _ < _; omega
            generalize ((catB ps).drop (nv - 44)).take m7 = l7 at *
            have hrd := Lib.hid (read_any _ l7 wr (clone_any a7 m7 c7 l7 wr s7 (by omega)))
            have hge := Lib.hid hB.out.size
            replace hl7 := Lib.hid hl7
            clear hkc hm7 s7 e7 k7 hsl hvb hcv
            go_wp2_with fail
            refine hlf.out.mono ?_
            rintro e w8 ⟨rfl, rfl⟩
            clear hlf
            go_wp2_with fail
            refine hrd.out.mono ?_
            rintro e w9 ⟨g15, k15, rfl, H9, B9⟩
            have B9' := hB.out.trans (B9.mono hB.out.size)
            have hgs := Lib.hid (get_short H9 (by rw [hl7.out]; exact hm44.out))
            replace H9 := Lib.hid H9
            clear B9 hB hrd q7 hnv1 hnv2
            go_wp2_with fail
            refine hgs.out.mono ?_
            rintro e w10 ⟨rfl, B10⟩
            have B10' := B9'.trans (B10.mono B9'.size)
            have H10 := H9.out.keep B10
            clear hgs B10 B9' H9
            go_wp2_with (refine wpList_allocA rfl 27 rfl (pcl pz) zero_pt ?_)
            intro w11 h11 hK11 hz11
            have H11 := H10.keeps hK11 (by simp) (by simp)
            have B11 := B10'.trans (hK11.below B10'.size (by simp))
            have hge := Lib.hid B10'.size
            have hlt := Lib.hid H10.lt
            have hk15 : Hid (∀ b, k15 = some b → b < w10.heap.size) := fun b hb => H10.row_lt hb
            clear hK11 B10' H10 hz11
            generalize w10.heap.size = gz at *
            go_wp2_with (refine wpList_storeW rfl 27 (.tmp 16) (.tmp 83) rfl 34 arrPt gz rfl (pcl pz) rfl 27 _ h11 (pcl_len pz_ok) (pcl_len pz_ok) (pcl_ones pz) ?_)
            intro w12 h12 hK12
            have H12 := H11.keeps hK12 (by simp; have := hlt.out; omega) (fun b hb => by have := hk15.out b hb; simp; omega)
            have B12 := Lib.hid (B11.trans (hK12.below B11.size (by simp; exact hge.out)))
            have hlf := left_any H12
            rw [hl7.out, hm7I.out] at hlf
            replace hlf := Lib.hid hlf
            have hbz := Lib.hid built_pz
            have hdd := Lib.hid (show decide (pz = pz) = true from decide_eq_true rfl)
            replace h12 := Lib.hid h12
            clear H12 H11 B11 hK12 h11
            go_wp2_with (first
              | (with_reducible (refine (?_ : wpList _ _ _ (_ :: _) _ _)); refine wpList_loadW rfl 27 (.tmp 16) rfl 34 arrPt gz rfl 27 (pcl pz) h12.out (pcl_len pz_ok) ?_)
              | (with_reducible (refine (?_ : wpList _ _ _ (_ :: _) _ _)); refine wpList_buildV rfl 27 #[] rfl [] rfl (pcl pz) hbz.out ?_)
              | (with_reducible (refine (?_ : wpList _ _ _ (_ :: _) _ _)); refine wpList_eqPtB (.tmp 85) (.tmp 86) 27 rfl pz pz pz_ok pz_ok rfl rfl rfl true hdd.out ?_))
            refine hlf.out.mono ?_
            rintro e w13 ⟨rfl, rfl⟩
            clear hlf
            go_wp2_with fail
            go_ret
            exact ⟨rfl, B12.out⟩

theorem walk (v : Value) (ps : List PtrD) {w : World} (s : Slm w v 34 (ps.map pcl)) (hok : ∀ p ∈ ps, PtOk p) (cut : Int) (c0 : 0 ≤ cut) (c1 : cut ≤ 255) (_w : World) (hw : w = _w) :
    Calls Try.prog 4 #[v, .int .u8 cut] _w fun e w' => e = .returned (.bool true) ∧ Below _w.heap.size _w w' := by
  subst hw
  obtain ⟨a, rfl⟩ := Int.eq_ofNat_of_zero_le c0
  exact core ps hok v a c1 w s
end Go.Proofs.Ytfhlenclnknnhaa.w_PtrBack
