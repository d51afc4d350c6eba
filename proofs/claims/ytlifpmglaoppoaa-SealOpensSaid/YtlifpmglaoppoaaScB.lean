/- Contract of banyanref02's primes. -/
import Derived.Test.YtlifpmglaoppoaaQ12P3
import Derived.Test.YtlifpmglaoppoaaScA
set_option linter.unusedVariables false
set_option linter.unusedSimpArgs false
namespace Go.Proofs.Ytlifpmglaoppoaa
open Go.RowKit
open Go.Proofs.PlainAes
open Go.Proofs.PlainSha

def RetU (l : List Nat) (w : World) (e : Ending) (w' : World) : Prop := ∃ v, e = .returned v ∧ Sl w' v (wv l) ∧ Below w.heap.size w w' ∧ ∀ A n c, v = .slice (some A) n c → w.heap.size ≤ A.block
theorem own_new {b : Nat} {w : World} {e : TypeId} {v : Value} {n : Nat} {xs : List Value} (h : w.ownsRow b e 1 v n xs) : ∀ A n' c', v = .slice (some A) n' c' → b ≤ A.block := fun A n' c' e => (h.lt A.block (by rw [e]; rfl)).1
theorem hasDiv_step (l : List Nat) (p k q : Nat) (h : l[k]? = some q) : hasDiv (l.take (k + 1)) p = (hasDiv (l.take k) p || (p % q == 0)) := by
  rw [List.take_add_one, h]
  simp [hasDiv]
set_option maxRecDepth 100000 in
set_option maxHeartbeats 2000000 in
theorem primes_any (n P : Nat) (hn : (n : Int) ≤ 64) (hP : (P : Int) ≤ 312) (hP2 : 2 ≤ P) (hlt : ∀ p, p < P → (pl p).length < n) (hPe : (pl P).length = n) (w : World) :
    Calls Try.prog 85 #[.int .i64 (n : Int)] w (RetU (pl P) w) := by
  obtain ⟨i0, hi, hz0, hz1, hz2⟩ := info_parts (P := Try.prog) (e := 35) (z := .int .u32 0) (size := 1) (bytes := 4) (by kernel_rfl)
  replace hlt := Lib.hid hlt
  replace hPe := Lib.hid hPe
  go_enter Try.func85, Try.ntmps85
  go_wp2
  go_loopw [3, 4] (fun u v wr => ∃ p : Nat, 2 ≤ p ∧ p ≤ P ∧ v = .int .u32 (p : Int) ∧ wr.ownsRow w.heap.size 35 1 u (pl p).length (wv (pl p)) ∧ Below w.heap.size w wr) (fun _ v _ => 312 - (intOf v).toNat)
  case atStart => exact ⟨2, by omega, hP2, rfl, World.ownsRow_nil _ _ _ _, Below.refl _ _⟩
  case round =>
    obtain ⟨p, h2, hpP, rfl, own, hB⟩ := hrel
    have hsl := Sl.of_own own
    obtain ⟨A, c, hu, -⟩ := id hsl
    rw [wv_length] at hu
    subst hu
    by_cases hc : p < P
    · have hl := hlt.out p hc
      have hlI : ((pl p).length : Int) < (n : Int) := by omega
      have hmem := Lib.hid (fun q hq => (pl_mem p q hq))
      have hyes := Lib.hid (pl_yes h2)
      have hno := Lib.hid (pl_no h2)
      have hpI : (p : Int) ≤ 311 := by omega
      replace hsl := Lib.hid hsl
      replace own := Lib.hid own
      clear hl
      generalize hle : pl p = l at *
      replace hle := Lib.hid hle
      obtain ⟨w9, rfl⟩ : ∃ w9, w9 = wr := ⟨_, rfl⟩
      go_wp2
      go_loopw [5, 16] (fun s i wi => ∃ k : Nat, k ≤ l.length ∧ i = .int .i64 (k : Int) ∧ s = .bool (!hasDiv (l.take k) p) ∧ wi = w9) (fun _ i _ => l.length - (intOf i).toNat)
      case atStart => exact ⟨0, Nat.zero_le _, rfl, rfl, rfl⟩
      case round =>
        obtain ⟨k, hk, rfl, rfl, rfl⟩ := hrel
        by_cases hkl : (k : Int) < (l.length : Int)
        · obtain ⟨q, hq⟩ := get_lt (l := l) (k := k) (by omega)
          obtain ⟨g, o, rfl, hcell⟩ := hsl.out.at_ (k := k) (by rw [wv_get, hq]; rfl)
          have hqm := hmem.out q (List.mem_of_getElem? hq)
          have hst := Lib.hid (hasDiv_step l p k q hq)
          replace hcell : wr.cell? ⟨g, o + k, none⟩ = some (.int .u32 (q : Int)) := hcell
          have hq2 : (2 : Int) ≤ (q : Int) := by omega
          have hqp : (q : Int) < (p : Int) := by omega
          have hqne : (q : Int) ≠ 0 := by omega
          have hrem : Int.tmod (p : Int) (q : Int) = ((p % q : Nat) : Int) := by rw [Int.tmod_eq_emod_of_nonneg (by omega)]; rfl
          have hremE : (p : Int) % (q : Int) = ((p % q : Nat) : Int) := rfl
          have hrlt : p % q < q := Nat.mod_lt _ (by omega)
          clear hq
          generalize p % q = r at *
          cases hb : hasDiv (l.take k) p with
          | true =>
            replace hst := Lib.hid (show (!hasDiv (l.take (k + 1)) p) = false by rw [hst.out, hb]; rfl)
            clear hb
            go_wp2
            go_roundw
            case rel => exact ⟨k + 1, by omega, by go_num, by rw [hst.out], trivial⟩
            case measure => simp [intOf]; omega
          | false =>
            by_cases hr : r = 0
            · subst hr
              replace hst := Lib.hid (show (!hasDiv (l.take (k + 1)) p) = false by rw [hst.out, hb]; rfl)
              clear hb
              go_wp2
              go_roundw
              case rel => exact ⟨k + 1, by omega, by go_num, by rw [hst.out], trivial⟩
              case measure => simp [intOf]; omega
            · replace hst := Lib.hid (show (!hasDiv (l.take (k + 1)) p) = true by rw [hst.out, hb]; simp [hr])
              clear hb
              have hr0 : (0 : Int) < (r : Int) := by omega
              clear hr
              go_wp2
              go_roundw
              case rel => exact ⟨k + 1, by omega, by go_num, by rw [hst.out, decide_eq_true (by omega)], trivial⟩
              case measure => simp [intOf]; omega
        · obtain rfl : k = l.length := by omega
          rw [List.take_length] at *
          have hwp : IntKind.u32.wrap ((p : Int) + 1) = ((p + 1 : Nat) : Int) := by rw [IntKind.wrap_u32]; omega
          cases hd : hasDiv l p with
          | true =>
            have hy := Lib.hid (hyes.out hd)
            clear hd
            go_wp2
            go_roundw
            case rel => exact ⟨p + 1, by omega, by omega, by go_num, by rw [hy.out]; exact own.out, hB⟩
            case measure => simp [intOf]; omega
          | false =>
            have hy := Lib.hid (hno.out hd)
            clear hd
            have own1 := own.out.alloc (.cells #[.int .u32 (p : Int)] 35)
            have sl1 : Sl (wr.alloc (.cells #[.int .u32 (p : Int)] 35)) (.slice (some ⟨wr.heap.size, 0, none⟩) 1 1) (wv [p]) :=
              Sl.of_blk (n := 1) (c := 1) (Blk.new_at (w := wr) (t := 35) (cs := #[.int .u32 (p : Int)]) rfl rfl) (Nat.le_refl _) (by simp) (by unfold maxLen; omega)
            have bel1 := hB.alloc hB.size (.cells #[.int .u32 (p : Int)] 35)
            go_wp2_with (at_builtin; refine wpList_append_sl rfl (.tmp 29) (.tmp 31) 101 rfl w.heap.size 35 i0 (.int .u32 0) 4 Try.underlying101 hi hz0 hz1 hz2 rfl _ l.length (wv l) rfl own1 _ (wv [p]) rfl sl1 (ones_wv _) ?_ ?_ ?_ ?_)
            · simp [maxLen]; omega
            · first | omega | (simp; omega)
            · have := hB.size; first | omega | (simp; omega)
            intro v' w2 own2 gr
            have bel2 := own_below bel1 gr own1 bel1.size
            rw [← wv_app] at own2
            replace own2 := Lib.hid own2
            clear own1 sl1 bel1 gr own
            go_wp2
            go_roundw
            case rel => exact ⟨p + 1, by omega, by omega, by go_num, by rw [hy.out, List.length_append]; exact own2.out, bel2⟩
            case measure => simp [intOf]; omega
    · obtain rfl : p = P := by omega
      have hnl := hPe.out
      rw [← hnl]
      have hnlI : ¬ ((pl p).length : Int) < ((pl p).length : Int) := by omega
      replace hsl := Lib.hid hsl
      have hnew := Lib.hid (fun A' n' c' (e : Value.slice A (pl p).length c = .slice (some A') n' c') => (own.lt A'.block (by rw [e]; rfl)).1)
      clear hlt hnl own
      go_wp2
      go_ret
      exact ⟨_, rfl, hsl.out, hB, hnew.out⟩
end Go.Proofs.Ytlifpmglaoppoaa
