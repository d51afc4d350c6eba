/- Contract of the reference's long product. -/
import Derived.Test.YtlifpmglaoppoaaLgA
import Derived.BigRegion
import Derived.Deep.OwnRows
set_option linter.unusedVariables false
set_option linter.unusedSimpArgs false
namespace Go.Proofs.Ytlifpmglaoppoaa
open Go.RowKit
open Go.Proofs.PlainLong (V Norm Inv Car)

/-- A slice's length. -/
def sliceLen : Value → Nat | .slice _ n _ => n | _ => 0

set_option maxHeartbeats 4000000 in
theorem times_core' (A B : Option Addr) (c d : Nat) (a b : List Nat) (w : World) 
    (ha3 : 0 < (iv a).length → ∃ g o, A = some ⟨g, o, none⟩ ∧ ∀ i u, (iv a)[i]? = some u → w.cell? ⟨g, o + i, none⟩ = some u)
    (hb3 : 0 < (iv b).length → ∃ g o, B = some ⟨g, o, none⟩ ∧ ∀ i u, (iv b)[i]? = some u → w.cell? ⟨g, o + i, none⟩ = some u)
    (na : ∀ d ∈ a, d < 10000) (nb : ∀ d ∈ b, d < 10000) (la : a.length ≤ 50) (lb : b.length ≤ 50) :
    Calls Try.prog 94 #[.slice A a.length c, .slice B b.length d] w (RetD (V a * V b) (a.length + b.length + 1) w) := by
  have hmk := run_make_row' (P := Try.prog) 154 3 (.int .i64 0) 8 Try.underlying154 Try.info_int rfl .i64 .i64 (a.length + b.length + 1) (by omega) (by omega)
  have ec : ((a.length + b.length + 1 : Nat) : Int) = (a.length : Int) + b.length + 1 := by omega
  rw [ec] at hmk
  clear ec
  have laI : (a.length : Int) ≤ 50 := by omega
  have lbI : (b.length : Int) ≤ 50 := by omega
  go_enter Try.func94, Try.ntmps94
  go_wp2
  go_loopw [18] (fun i wr => ∃ (n : Nat) (L : List Nat), n ≤ a.length ∧ i = .int .i64 (n : Int) ∧ Inv a b L n 0 ∧ Below w.heap.size w wr ∧ Blk wr w.heap.size 3 (iv L)) (fun i _ => a.length - (intOf i).toNat)
  case atStart =>
    refine ⟨0, _, Nat.zero_le _, rfl, PlainLong.inv_start a b, (Below.refl _ _).alloc (Nat.le_refl _) _, ?_⟩
    have := Blk.new w 3 (madeCells #[.int .i64 0] (a.length + b.length + 1))
    rw [toList_madeCells_one] at this
    simpa [iv] using this
  case round =>
    obtain ⟨n, L, hn, rfl, hI, hB, hb⟩ := hrel
    by_cases hlt : n < a.length
    · go_wp2
      obtain ⟨wo, rfl⟩ : ∃ wo : World, wo = wr := ⟨_, rfl⟩
      go_loopw [23] (fun i wr => ∃ (k : Nat) (L : List Nat), k ≤ b.length ∧ i = .int .i64 (k : Int) ∧ Inv a b L n k ∧ Below w.heap.size w wr ∧ Blk wr w.heap.size 3 (iv L)) (fun i _ => b.length - (intOf i).toNat)
      case atStart => exact ⟨0, L, Nat.zero_le _, rfl, hI, hB, hb⟩
      case round =>
        clear hI hB hb L
        obtain ⟨k, L, hk, rfl, hI, hB, hb⟩ := hrel
        by_cases hkt : k < b.length
        · have hLl := hI.1
          obtain ⟨x0, e0⟩ : ∃ x, L[n + k]? = some x := ⟨_, List.getElem?_eq_getElem (by omega)⟩
          obtain ⟨x1, e1⟩ : ∃ x, L[n + k + 1]? = some x := ⟨_, List.getElem?_eq_getElem (by omega)⟩
          obtain ⟨m0, m1, hI'⟩ := PlainLong.inv_step hI hlt hkt la lb na nb x0 x1 e0 e1
          have c0 := hb.cell (n + k)
          have c1 := hb.cell (n + k + 1)
          have f0 := hb.frozen (n + k)
          have f1 := hb.frozen (n + k + 1)
          rw [iv_get, e0] at c0
          rw [iv_get, e1] at c1
          simp only [Option.map_some] at c0 c1
          obtain ⟨g, o, rfl, hc⟩ := ha3 (by simp; omega)
          obtain ⟨g', o', rfl, hc'⟩ := hb3 (by simp; omega)
          have k1' := hc n (.int .i64 ((a[n] : Nat) : Int)) (by rw [iv_get, List.getElem?_eq_getElem hlt]; rfl)
          have k2' := hc' k (.int .i64 ((b[k] : Nat) : Int)) (by rw [iv_get, List.getElem?_eq_getElem hkt]; rfl)
          have k1 := (hB.cell (p := ⟨g, o + n, none⟩) (cell_lt k1')).trans k1'
          have k2 := (hB.cell (p := ⟨g', o' + k, none⟩) (cell_lt k2')).trans k2'
          have da := na _ (List.getElem_mem hlt)
          have db := nb _ (List.getElem_mem hkt)
          have hg1 := cell_lt k1'
          have hg2 := cell_lt k2'
          have hp : a[n] * b[k] ≤ 99980001 := Nat.mul_le_mul (show a[n] ≤ 9999 by omega) (show b[k] ≤ 9999 by omega)
          have HI := Lib.hid hI'
          have HB := Lib.hid hb
          clear ha3 hb3 hc hc' k1' k2' hI' hI e0 e1 hb hLl
          generalize a[n] = x at *
          generalize b[k] = y at *
          have hpI : (x : Int) * (y : Int) ≤ 99980001 := by
            have : ((x * y : Nat) : Int) ≤ 99980001 := by omega
            simpa using this
          have hpI0 : 0 ≤ (x : Int) * (y : Int) := Int.mul_nonneg (by omega) (by omega)
          clear hp
          go_wp2
          go_region
          go_wp2
          go_region
          go_wp2
          go_roundw
          case rel =>
            have hb := HB.out
            have e0 : Value.int IntKind.i64 ((x0 : Int) + (x : Int) * (y : Int)) = .int .i64 ((x0 + x * y : Nat) : Int) := by simp
            have e1 : Value.int IntKind.i64 ((x1 : Int) + ((x0 : Int) + (x : Int) * (y : Int)) / 10000) = .int .i64 ((x1 + (x0 + x * y) / 10000 : Nat) : Int) := by simp
            have e2 : Value.int IntKind.i64 (((x0 : Int) + (x : Int) * (y : Int)) % 10000) = .int .i64 (((x0 + x * y) % 10000 : Nat) : Int) := by simp
            refine ⟨k + 1, _, by omega, by go_num, HI.out, ?_, ?_⟩
            · exact ((((hB.setCell (by simp) _).setCell (by simp) _).setCell (by simp) _).drew).drew
            · have := (((hb.set_ (n + k) (.int .i64 ((x0 + x * y : Nat) : Int))).set_ (n + k + 1) (.int .i64 ((x1 + (x0 + x * y) / 10000 : Nat) : Int))).set_ (n + k) (.int .i64 (((x0 + x * y) % 10000 : Nat) : Int))).drew.drew
              rw [iv_set, iv_set, iv_set] at this
              rw [e0, e1, e2]
              exact this
          case measure => simp [intOf]; omega
        · obtain rfl : k = b.length := by omega
          have HI := Lib.hid (PlainLong.inv_next hI hlt)
          have HB := Lib.hid hb
          clear hI ha3 hb3 hb na nb
          go_wp2
          go_roundw
          case rel => exact ⟨n + 1, L, by omega, by go_num, HI.out, hB, HB.out⟩
          case measure => simp [intOf]; omega
    · obtain rfl : n = a.length := by omega
      have hC := PlainLong.car_start hI la lb
      have hV : V a * V b < 10000 ^ (a.length + b.length) := by
        rw [Nat.pow_add]
        exact Nat.mul_lt_mul'' (PlainLong.V_lt a na) (PlainLong.V_lt b nb)
      have HV := Lib.hid hV
      clear hI ha3 hb3 na nb hV
      go_wp2
      obtain ⟨wo, rfl⟩ : ∃ wo : World, wo = wr := ⟨_, rfl⟩
      go_loopw [8] (fun i wr => ∃ (n : Nat) (L : List Nat), n ≤ a.length + b.length ∧ i = .int .i64 (n : Int) ∧ Car L (a.length + b.length + 1) n (V a * V b) ∧ Below w.heap.size w wr ∧ Blk wr w.heap.size 3 (iv L)) (fun i _ => a.length + b.length - (intOf i).toNat)
      case atStart => exact ⟨0, L, Nat.zero_le _, rfl, hC, hB, hb⟩
      case round =>
        clear hC hB hb L
        obtain ⟨n, L, hn, rfl, hC, hB, hb⟩ := hrel
        by_cases hlt : n < a.length + b.length
        · have hLl := hC.1
          obtain ⟨x0, e0⟩ : ∃ x, L[n]? = some x := ⟨_, List.getElem?_eq_getElem (by omega)⟩
          obtain ⟨x1, e1⟩ : ∃ x, L[n + 1]? = some x := ⟨_, List.getElem?_eq_getElem (by omega)⟩
          obtain ⟨m0, m1, hC'⟩ := PlainLong.car_step hC (by omega) x0 x1 e0 e1
          have c0 := hb.cell n
          have c1 := hb.cell (n + 1)
          have f0 := hb.frozen n
          have f1 := hb.frozen (n + 1)
          rw [iv_get, e0] at c0
          rw [iv_get, e1] at c1
          simp only [Option.map_some] at c0 c1
          have HC := Lib.hid hC'
          have HB := Lib.hid hb
          have m0I : (x0 : Int) ≤ 100000000 := by omega
          have m1I : (x1 : Int) ≤ 50020000 := by omega
          clear hC hC' e0 e1 hb hLl m0 m1
          go_wp2
          go_region
          go_wp2
          go_roundw
          case rel =>
            have hb := HB.out
            have e1 : Value.int IntKind.i64 ((x1 : Int) + (x0 : Int) / 10000) = .int .i64 ((x1 + x0 / 10000 : Nat) : Int) := by simp
            have e2 : Value.int IntKind.i64 ((x0 : Int) % 10000) = .int .i64 ((x0 % 10000 : Nat) : Int) := by simp
            refine ⟨n + 1, _, by omega, by go_num, HC.out, ?_, ?_⟩
            · exact (((hB.setCell (by simp) _).setCell (by simp) _).drew)
            · have := ((hb.set_ (n + 1) (.int .i64 ((x1 + x0 / 10000 : Nat) : Int))).set_ n (.int .i64 ((x0 % 10000 : Nat) : Int))).drew
              rw [iv_set, iv_set] at this
              rw [e1, e2]
              exact this
          case measure => simp [intOf]; omega
        · obtain rfl : n = a.length + b.length := by omega
          have hd := PlainLong.car_end hC HV.out
          have hLl := hC.1
          have HVL := Lib.hid hC.2.1
          have HD := Lib.hid hd
          clear hC hd
          go_wp2
          obtain ⟨wo, rfl⟩ : ∃ wo : World, wo = wr := ⟨_, rfl⟩
          go_loopw [5] (fun v wr => ∃ (m : Nat), m ≤ a.length + b.length + 1 ∧ v = .slice (some ⟨w.heap.size, 0, none⟩) m (a.length + b.length + 1) ∧ Hid (V (L.take m) = V a * V b) ∧ Below w.heap.size w wr ∧ Blk wr w.heap.size 3 (iv L)) (fun v _ => sliceLen v)
          case atStart => exact ⟨_, Nat.le_refl _, rfl, by show _ = _; rw [List.take_of_length_le (by omega)]; exact HVL.out, hB, hb⟩
          case round =>
            clear hB hb
            obtain ⟨m, hm, rfl, hVm, hB, hb⟩ := hrel
            have hsl : Sl wr (.slice (some ⟨w.heap.size, 0, none⟩) m (a.length + b.length + 1)) (iv (L.take m)) := by
              have := Sl.of_blk (n := m) (c := a.length + b.length + 1) hb hm (by simp; omega) (by unfold maxLen; omega)
              simpa [iv] using this
            have hfin : (∀ k, m = k + 1 → L[k]? ≠ some 0) → RetD (V a * V b) (a.length + b.length + 1) w (.returned (.slice (some ⟨w.heap.size, 0, none⟩) m (a.length + b.length + 1))) wr := fun h =>
              ⟨_, L.take m, rfl, hsl, ⟨fun d hd => HD.out d (List.mem_of_mem_take hd), fun k hk => by
                have e : m = k + 1 := by simp at hk; omega
                subst e
                rw [List.getElem?_take, if_pos (by omega)]
                exact h k rfl⟩, hVm.out, by simp; omega, hB⟩
            have HF := Lib.hid hfin
            by_cases h0 : m = 0
            · subst h0
              clear hb hsl hfin
              go_wp2
              go_ret
              exact HF.out (fun k hk => by omega)
            · obtain ⟨q, rfl⟩ : ∃ q, m = q + 1 := ⟨m - 1, by omega⟩
              obtain ⟨x0, e0⟩ : ∃ x, L[q]? = some x := ⟨_, List.getElem?_eq_getElem (by omega)⟩
              have c0 := hb.cell q
              rw [iv_get, e0] at c0
              simp only [Option.map_some] at c0
              have E0 := Lib.hid e0
              have HB := Lib.hid hb
              clear hb hsl hfin e0
              by_cases hx0 : x0 = 0
              · subst hx0
                have hz : ((0 : Nat) : Int) = 0 := rfl
                rw [hz] at c0
                go_wp2
                go_roundw
                case rel =>
                  refine ⟨q, by omega, by simp, ?_, hB, HB.out⟩
                  show _ = _
                  rw [← PlainLong.V_drop_zero L q E0.out]; exact hVm.out
                case measure => simp [sliceLen]
              · have hne : ((x0 : Int) == 0) = false := by simp; omega
                go_wp2
                go_ret
                exact HF.out (fun k hk => by
                  obtain rfl : k = q := by omega
                  rw [E0.out]; simp; omega)

theorem rtimes_any (va vb : Value) (a b : List Nat) (w : World) (ha : Sl w va (iv a)) (hb : Sl w vb (iv b)) (na : Norm a) (nb : Norm b) (la : a.length ≤ 50) (lb : b.length ≤ 50) :
    Calls Try.prog 94 #[va, vb] w (RetD (V a * V b) (a.length + b.length + 1) w) := by
  obtain ⟨A, c, rfl, a1, a2, a3⟩ := ha
  obtain ⟨B, d, rfl, b1, b2, b3⟩ := hb
  rw [iv_length, iv_length]
  exact times_core' A B c d a b w a3 b3 na.1 nb.1 la lb
end Go.Proofs.Ytlifpmglaoppoaa
