/- Contracts of package sha: the primes' test. -/
import Derived.Test.YthlebobfbalknaaShB
import Derived.Test.YthlebobfbalknaaNumB
set_option linter.unusedVariables false
set_option linter.unusedSimpArgs false
namespace Go.Proofs.Ythlebobfbalknaa
open Go.RowKit
open Go.Proofs.PlainAes
open Go.Proofs.PlainSha

theorem divs_any (q p gp : Nat) (w : World) (hq : (1 : Int) ≤ q) (hq' : (q : Int) ≤ 4294967295) (hp : (p : Int) ≤ 4294967295) (hc : w.cell? ⟨gp, 0, none⟩ = some (.int .u32 (p : Int))) :
    Calls Try.prog 42 #[.int .u32 (q : Int), .pointer (some ⟨gp, 0, none⟩)] w fun e w' => e = .returned (.bool (decide (p % q = 0))) ∧ w = w' := by
  have e0 : (((p : Int) % (q : Int)) == 0) = decide (p % q = 0) := by
    rw [Bool.eq_iff_iff]
    simp only [beq_iff_eq, decide_eq_true_eq]
    omega
  have E := Lib.hid e0
  clear e0
  go_enter Try.func42, Try.ntmps42
  go_wp2
  go_ret
  exact ⟨by rw [← E.out]; rfl, rfl⟩

/-- Where one is found, or nowhere. -/
def RetIdx (b : Bool) (w : World) (e : Ending) (w' : World) : Prop := ∃ k : Int, e = .returned (.int .i64 k) ∧ -1 ≤ k ∧ k ≤ 9223372036854775807 ∧ decide (0 ≤ k) = b ∧ w = w'
set_option maxHeartbeats 1000000 in
theorem idx_core (A : Option Addr) (c : Nat) (l : List Nat) (p gp : Nat) (w : World) (hs : Sl w (.slice A l.length c) (wv l)) (hl : ∀ q ∈ l, (1 : Int) ≤ q ∧ (q : Int) ≤ 4294967295) (hn : (l.length : Int) ≤ 1000) (hp : (p : Int) ≤ 4294967295) (hc : w.cell? ⟨gp, 0, none⟩ = some (.int .u32 (p : Int))) :
    Calls Try.prog 52 #[.slice A l.length c, .func (.func 42) #[] #[.pointer (some ⟨gp, 0, none⟩)]] w (RetIdx (hasDiv l p) w) := by
  have hd := Lib.hid (fun q h1 h2 => divs_any q p gp w h1 h2 hp hc)
  have Hs := Lib.hid hs
  have Hl := Lib.hid hl
  clear hc hl hs
  obtain ⟨b, hb⟩ : ∃ b, b = hasDiv l p := ⟨_, rfl⟩
  rw [← hb]
  have Hb := Lib.hid hb
  clear hb
  go_enter Try.func52, Try.ntmps52
  go_wp2
  go_loop [8] (fun i => ∃ k : Nat, k ≤ l.length ∧ i = .int .i64 (k : Int) ∧ Hid (∀ q ∈ l.take k, ¬ p % q = 0)) (fun i => l.length - (intOf i).toNat)
  case atStart => exact ⟨0, Nat.zero_le _, rfl, by show ∀ q ∈ _, _; simp⟩
  case round =>
    obtain ⟨k, hk, rfl, hno⟩ := hrel
    by_cases hlt : (k : Int) < l.length
    · have hk' : k < l.length := by omega
      obtain ⟨g, o, rfl, c0⟩ := Hs.out.at_ (wv_some (List.getElem?_eq_getElem hk'))
      have hq := Hl.out l[k] (List.getElem_mem hk')
      have hsn := take_snoc l k hk'
      have Hsn := Lib.hid hsn
      clear hsn
      generalize hq2 : l[k] = q at *
      replace hq2 := Lib.hid hq2
      obtain ⟨hq1, hq3⟩ := hq
      have hdq := Lib.hid (hd.out q hq1 hq3)
      by_cases hpq : p % q = 0
      · have hdt : decide (p % q = 0) = true := by simpa using hpq
        rw [hdt] at hdq
        have hpq := Lib.hid hpq
        clear hdt
        go_wp2_with fail
        refine hdq.out.mono ?_
        rintro e w' ⟨rfl, rfl⟩
        go_wp2
        go_ret
        refine ⟨(k : Int), rfl, by omega, by omega, ?_, rfl⟩
        rw [Hb.out]
        have : hasDiv l p = true := by
          rw [hasDiv, List.any_eq_true]
          exact ⟨q, by rw [← hq2.out]; exact List.getElem_mem hk', by simpa using hpq.out⟩
        rw [this]
        simp
      · have hdt : decide (p % q = 0) = false := by simpa using hpq
        rw [hdt] at hdq
        have hpq := Lib.hid hpq
        clear hdt
        go_wp2_with fail
        refine hdq.out.mono ?_
        rintro e w' ⟨rfl, rfl⟩
        go_wp2
        go_round
        case rel =>
          refine ⟨k + 1, by omega, by go_num, ?_⟩
          show ∀ q ∈ _, _
          rw [Hsn.out]
          intro x hx
          rcases List.mem_append.1 hx with h | h
          · exact hno.out x h
          · simp only [List.mem_cons, List.not_mem_nil, or_false] at h
            rw [h]; exact hpq.out
        case measure => simp [intOf]; omega
    · obtain rfl : k = l.length := by omega
      go_wp2
      go_ret
      refine ⟨-1, rfl, by omega, by omega, ?_, rfl⟩
      rw [Hb.out]
      have h := hno.out
      rw [List.take_length] at h
      have : hasDiv l p = false := by
        rw [hasDiv, List.any_eq_false]
        intro q hq
        simpa using h q hq
      rw [this]
      decide
theorem has_any (v : Value) (l : List Nat) (p gp : Nat) (w : World) (hs : Sl w v (wv l)) (hl : ∀ q ∈ l, (1 : Int) ≤ q ∧ (q : Int) ≤ 4294967295) (hn : (l.length : Int) ≤ 1000) (hp : (p : Int) ≤ 4294967295) (hc : w.cell? ⟨gp, 0, none⟩ = some (.int .u32 (p : Int))) :
    Calls Try.prog 41 #[v, .func (.func 42) #[] #[.pointer (some ⟨gp, 0, none⟩)]] w fun e w' => e = .returned (.bool (hasDiv l p)) ∧ w = w' := by
  obtain ⟨A, c, rfl, _⟩ := id hs
  rw [wv_length] at hs ⊢
  have hi := Lib.hid (idx_core A c l p gp w hs hl hn hp hc)
  generalize hasDiv l p = b at *
  clear hs hc hl
  go_enter Try.func41, Try.ntmps41
  go_wp2_with fail
  refine hi.out.mono ?_
  rintro e w' ⟨k, rfl, h1, h2, h3, rfl⟩
  have h3 := Lib.hid h3
  go_wp2
  go_ret
  refine ⟨?_, rfl⟩
  rw [← h3.out]
  rfl
end Go.Proofs.Ythlebobfbalknaa
