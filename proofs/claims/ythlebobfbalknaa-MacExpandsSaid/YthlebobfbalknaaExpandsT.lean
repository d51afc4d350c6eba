/- Several texts in one (written by mergetop.py): ExpandsW OpenA OpenG. -/
import Derived.Test.YthlebobfbalknaaRfX
import Derived.Test.YthlebobfbalknaaArrB
import Derived.ProofKit
import Derived.OpenShut
import Derived.SizedLaws
import Derived.ChangeMaps5
set_option linter.unusedVariables false
set_option linter.unusedSimpArgs false

/- The walk of MacExpands. -/
namespace Go.Proofs.Ythlebobfbalknaa.w_MacExpands
open Go.RowKit
open Go.Proofs.PlainAes
open Go.Proofs.PlainSha
open Go.Proofs.PlainMac

theorem expand_err (v : Value) (S : ByteArray) (m : Int) (w : World) (h : m < 0 ∨ 8160 < m) :
    Calls Try.prog 15 #[v, .string S, .int .i64 m] w fun e w' => e = .returned (.tuple #[.slice none 0 0, .int .i64 2]) ∧ w = w' := by
  by_cases h0 : m < 0
  · go_enter Try.func15, Try.ntmps15
    go_wp2
    go_ret2
    exact ⟨rfl, rfl⟩
  · have h1 : 8160 < m := by omega
    go_enter Try.func15, Try.ntmps15
    go_wp2
    go_ret2
    exact ⟨rfl, rfl⟩
theorem rexpand_err (v : Value) (S : ByteArray) (m : Int) (w : World) (h : m < 0 ∨ 8160 < m) :
    Calls Try.prog 16 #[v, .string S, .int .i64 m] w fun e w' => e = .returned (.tuple #[.slice none 0 0, .int .i64 2]) ∧ w = w' := by
  by_cases h0 : m < 0
  · go_enter Try.func16, Try.ntmps16
    go_wp2
    go_ret2
    exact ⟨rfl, rfl⟩
  · have h1 : 8160 < m := by omega
    go_enter Try.func16, Try.ntmps16
    go_wp2
    go_ret2
    exact ⟨rfl, rfl⟩
set_option maxRecDepth 100000 in
set_option maxHeartbeats 2000000 in
theorem core (A : Option Addr) (n c : Nat) (k l : List Nat) (m : Int) (W : World) (hs : Sl W (.slice A n c) (bv k)) (bk : Byt k) (bl : Byt l) (hn : n = k.length) (hkn : (n : Int) ≤ 140737488351232) (hln : (l.length : Int) ≤ 140737488351232) (hm0 : -9223372036854775808 ≤ m) (hm1 : m ≤ 9223372036854775807) :
    Calls Try.prog 5 #[.slice A n c, .string (bstr l), .int .i64 m] W fun e w' => e = .returned (.bool true) ∧ Below W.heap.size W w' := by
  have hal := Lib.hid (fun w => alive_any w)
  have hsz := bstr_size l
  replace hn := Lib.hid hn
  by_cases hbig : (500 : Int) < (n : Int) + (l.length : Int)
  · go_enter Try.func5, Try.ntmps5
    go_wp2_with fail
    refine (hal.out _).mono ?_
    rintro e w1 ⟨rfl, hB1⟩
    go_wp2
    go_ret
    exact ⟨rfl, hB1⟩
  by_cases h2 : 200 < m
  · by_cases h8 : m ≤ 8160
    · go_enter Try.func5, Try.ntmps5
      go_wp2_with fail
      refine (hal.out _).mono ?_
      rintro e w1 ⟨rfl, hB1⟩
      go_wp2
      go_ret
      exact ⟨rfl, hB1⟩
    · have he1 := Lib.hid (fun w => expand_err (.slice A n c) (bstr l) m w (by omega))
      have he2 := Lib.hid (fun w => rexpand_err (.slice A n c) (bstr l) m w (by omega))
      have hsm := Lib.hid (fun w => same_any _ _ [] [] w (Sl.nil_ w) (Sl.nil_ w) (by simp) (by simp))
      rw [decide_eq_true rfl] at hsm
      go_enter Try.func5, Try.ntmps5
      go_wp2_with fail
      refine (hal.out _).mono ?_
      rintro e w1 ⟨rfl, hB1⟩
      go_wp2_with fail
      refine (he1.out _).mono ?_
      rintro e w2 ⟨rfl, rfl⟩
      go_wp2_with fail
      refine (he2.out _).mono ?_
      rintro e w2 ⟨rfl, rfl⟩
      go_wp2_with fail
      refine (hsm.out _).mono ?_
      rintro e w2 ⟨rfl, rfl⟩
      go_wp2
      go_ret
      exact ⟨rfl, hB1⟩
  by_cases h0 : m < 0
  · have he1 := Lib.hid (fun w => expand_err (.slice A n c) (bstr l) m w (by omega))
    have he2 := Lib.hid (fun w => rexpand_err (.slice A n c) (bstr l) m w (by omega))
    have hsm := Lib.hid (fun w => same_any _ _ [] [] w (Sl.nil_ w) (Sl.nil_ w) (by simp) (by simp))
    rw [decide_eq_true rfl] at hsm
    go_enter Try.func5, Try.ntmps5
    go_wp2_with fail
    refine (hal.out _).mono ?_
    rintro e w1 ⟨rfl, hB1⟩
    go_wp2_with fail
    refine (he1.out _).mono ?_
    rintro e w2 ⟨rfl, rfl⟩
    go_wp2_with fail
    refine (he2.out _).mono ?_
    rintro e w2 ⟨rfl, rfl⟩
    go_wp2_with fail
    refine (hsm.out _).mono ?_
    rintro e w2 ⟨rfl, rfl⟩
    go_wp2
    go_ret
    exact ⟨rfl, hB1⟩
  · obtain ⟨q, rfl⟩ := Int.eq_ofNat_of_zero_le (show 0 ≤ m by omega)
    have hk1 := hn.out
    have hx := Lib.hid (fun w (h : Sl w (.slice A n c) (bv k)) => expand_any _ q k l w h bk (by omega) bl (by omega) (by omega))
    have hy := Lib.hid (fun w (h : Sl w (.slice A n c) (bv k)) => rexpand_any _ q k l w h bk (by omega) bl (by omega) (by omega))
    have Hb : Hid (Byt ((expL k l ((q + 31) / 32)).take q)) := fun x hx => expL_byt k l _ x (List.mem_of_mem_take hx)
    have Hl : Hid (((expL k l ((q + 31) / 32)).take q).length = q) := by show _ = _; rw [List.length_take, expL_len]; omega
    replace hs := Lib.hid hs
    unfold RetX at hx hy
    generalize (expL k l ((q + 31) / 32)).take q = R at *
    clear bk bl hk1 hm0 hm1
    go_enter Try.func5, Try.ntmps5
    go_wp2_with fail
    refine (hal.out _).mono ?_
    rintro e w1 ⟨rfl, hB1⟩
    have hx1 := Lib.hid (hx.out w1 (hs.out.keep hB1))
    go_wp2_with fail
    refine hx1.out.mono ?_
    rintro e w2 ⟨v2, rfl, sl2, hB2⟩
    have hB2' := below_call hB1 hB1.size hB2
    have hy2 := Lib.hid (hy.out w2 (hs.out.keep hB2'))
    replace sl2 := Lib.hid sl2
    clear hB1 hB2 hx1
    go_wp2_with fail
    refine hy2.out.mono ?_
    rintro e w3 ⟨v3, rfl, sl3, hB3⟩
    have hB3' := below_call hB2' hB2'.size hB3
    have hsm := Lib.hid (same_any _ _ _ _ w3 (sl2.out.keep hB3) sl3 Hb.out Hb.out)
    rw [decide_eq_true rfl] at hsm
    clear hB2' hB3 hy2 sl3
    go_wp2_with fail
    refine hsm.out.mono ?_
    rintro e w4 ⟨rfl, rfl⟩
    go_wp2
    go_ret
    exact ⟨rfl, hB3'⟩
theorem walk (v0 : Value) (l0 : List Nat) (b0 : Byt l0) (m0 : l0.length ≤ 140737488351232) (v1 : Value) (l1 : List Nat) (e1 : v1 = .string (bstr l1)) (b1 : Byt l1) (m1 : l1.length ≤ 140737488351232) (a : Int) (ha0 : -9223372036854775808 ≤ a) (ha : a ≤ 9223372036854775807) (W : World) (s0 : Sl W v0 (bv l0)) :
    Calls Try.prog 5 #[v0, v1, .int .i64 a] W fun e w' => e = .returned (.bool true) ∧ Below W.heap.size W w' := by
  obtain ⟨A1, c1, h1, -⟩ := id s0
  subst h1 e1
  exact core A1 _ c1 l0 l1 a W s0 b0 b1 (by simp) (by simp; omega) (by omega) ha0 ha
end Go.Proofs.Ythlebobfbalknaa.w_MacExpands

/- An argument that is a slice of bytes, opened: it reads as a list of bytes. -/
namespace Go.Proofs.Ythlebobfbalknaa
open Go.ChangeShapes Go.WideShapes Go.ChangeAt Go.RowKit

theorem Try.bytesOf_u8 : Try.checked.prog.bytesOf 5 = 1 := by kernel_rfl

set_option maxRecDepth 100000 in
theorem open_bytes {H : Type} {enc : TypeId × Value → H} {W : World} {base : Nat} {v : Value} {d : DataW H} {p : List MemPlace}
    (hv : Value.okWide Try.prog W .any base 22 v) (h : DataW.Trod enc Try.prog W 0 (fun _ => true) true 22 v d p)
    (hs : ∀ el sp : List (DataW H), d = .slice el sp → (el.length + sp.length) * Try.checked.prog.bytesOf 5 ≤ reachBytes) :
    ∃ l : List Nat, Sl W v (bv l) ∧ (∀ b ∈ l, b < 256) ∧ l.length ≤ 140737488351232 := by
  obtain ⟨a, len, cap, rfl⟩ := okWide_slice Try.underlying22 hv
  obtain ⟨fuel, hf⟩ := h
  rcases open_ints Try.underlying22 Try.underlying5 (by kernel_rfl) hf with ⟨hcs, _⟩ | ⟨x, l, c, zs, hcs, _, hl, hm, hz, hx, hcell, hwz⟩
  · simp [Value.cells] at hcs
    obtain ⟨rfl, rfl, rfl⟩ := hcs
    exact ⟨[], Sl.nil_ W, by simp, by simp⟩
  · simp [Value.cells] at hcs
    obtain ⟨rfl, rfl, rfl⟩ := hcs
    simp only [Prod.mk.injEq] at hx
    have hr := hs _ _ hx.1
    rw [Try.bytesOf_u8] at hr
    simp only [lits, List.length_map, List.length_take, List.length_drop, reachBytes] at hr
    simp only [if_true] at hz
    have hb : ∀ n ∈ zs, 0 ≤ n ∧ n ≤ 255 := fun n hn => bounds_u8 (hwz n hn)
    refine ⟨(zs.take len).map Int.toNat, ⟨some x, cap, ?_, ?_, hm, ?_⟩, ?_, ?_⟩
    · simp; omega
    · simp; omega
    · intro hp
      have hlen : 0 < len := by simp at hp; omega
      obtain ⟨b, o, s⟩ := x
      have hc0 := hcell 0 (by omega)
      have hs : s = none := by simpa [Addr.add] using World.cell?_spot hc0
      subst hs
      refine ⟨b, o, rfl, fun i u hu => ?_⟩
      rw [bv_get, List.getElem?_map, List.getElem?_take] at hu
      by_cases hi : i < len
      · rw [if_pos hi] at hu
        have hil : i < zs.length := by omega
        have hc := hcell i hil
        have ha : (⟨b, o, none⟩ : Addr).add i = ⟨b, o + i, none⟩ := by unfold Addr.add; split <;> simp_all
        rw [ha] at hc
        rw [hc, ← hu, List.getElem?_eq_getElem hil]
        simp only [List.getD, List.getElem?_eq_getElem hil, Option.getD_some, Option.map_some]
        have := hb zs[i] (List.getElem_mem hil)
        rw [Int.toNat_of_nonneg this.1]
      · rw [if_neg hi] at hu
        cases hu
    · intro b hb'
      obtain ⟨n, hn, rfl⟩ := List.mem_map.1 hb'
      have := hb n (List.mem_of_mem_take hn)
      omega
    · simp; omega
end Go.Proofs.Ythlebobfbalknaa

/- An argument that is a string, opened: it reads as a list of bytes. -/
namespace Go.Proofs.Ythlebobfbalknaa
open Go.ChangeShapes Go.WideShapes Go.ChangeAt Go.RowKit

theorem bstr_of (s : ByteArray) : bstr (s.data.toList.map UInt8.toNat) = s := by
  unfold bstr
  rw [List.map_map]
  have e : (UInt8.ofNat ∘ UInt8.toNat) = id := by
    funext x
    simp
  rw [e, List.map_id]
set_option maxRecDepth 100000 in
theorem open_label {H : Type} {enc : TypeId × Value → H} {W : World} {base : Nat} {v : Value} {d : DataW H} {p : List MemPlace}
    (hv : Value.okWide Try.prog W .any base 9 v) (h : DataW.Trod enc Try.prog W 0 (fun _ => true) true 9 v d p)
    (hs : ∀ bytes : List UInt8, d = .lit (.string bytes) → bytes.length ≤ reachBytes) :
    ∃ l : List Nat, v = .string (bstr l) ∧ (∀ b ∈ l, b < 256) ∧ l.length ≤ 140737488351232 := by
  obtain ⟨s, rfl⟩ := okWide_string Try.underlying9 hv
  obtain ⟨fuel, hf⟩ := h
  obtain ⟨s', h, hx, hsz⟩ := DataW.trod_string Try.underlying9 hf
  simp [Value.cells] at h
  subst h
  simp only [Prod.mk.injEq] at hx
  have hr := hs _ hx.1
  simp only [reachBytes] at hr
  refine ⟨s.data.toList.map UInt8.toNat, by rw [bstr_of], ?_, by simpa using hr⟩
  intro b hb
  obtain ⟨x, -, rfl⟩ := List.mem_map.1 hb
  exact x.toNat_lt
end Go.Proofs.Ythlebobfbalknaa
