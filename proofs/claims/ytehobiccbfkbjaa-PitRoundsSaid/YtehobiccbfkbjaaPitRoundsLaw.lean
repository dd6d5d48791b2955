/- 'drawloom/drawloomlaw12.PitRounds' answers true for every input. Conditions: none. -/
import Derived.Test.YtehobiccbfkbjaaFrame
import Derived.Test.YtehobiccbfkbjaaPitStart
namespace Go.Proofs.Ytehobiccbfkbjaa.pitRounds
open Go.ChangeShapes Go.WideShapes Go.ChangeAt Go.RowKit
set_option linter.unusedVariables false

def sv (p L t : Int) : Bool := decide (t % L < p)
def DD (p L a k : Int) : Int := if a % L < p then (if p - a % L ≤ k then 1 else 0) else (if L + p - a % L ≤ k then 1 else 0)
def UU (L a k : Int) : Int := if L - a % L ≤ k then 1 else 0
theorem shift (L a k : Int) (hL : 0 < L) (h0 : 0 ≤ k) (h1 : k ≤ L) : (a + k) % L = if a % L + k < L then a % L + k else a % L + k - L := by
  have r0 := Int.emod_nonneg a (show L ≠ 0 by omega)
  have r1 := Int.emod_lt_of_pos a hL
  have e : a + k = (a % L + k) + L * (a / L) := by have := Int.emod_add_mul_ediv a L; omega
  rw [e, Int.add_mul_emod_self_left]
  split
  · exact Int.emod_eq_of_lt (by omega) (by omega)
  · rw [← Int.sub_emod_right]
    exact Int.emod_eq_of_lt (by omega) (by omega)
section
variable (p L a k : Int) (hp : 0 < p) (hpL : p < L) (h0 : 0 ≤ k) (h1 : k < L)
include hp hpL h0 h1
theorem step_all (c n : Bool) (hc : sv p L (a + k) = c) (hn : sv p L (a + (k + 1)) = n) :
    DD p L a (k + 1) = DD p L a k + (if c && !n then 1 else 0) ∧ UU L a (k + 1) = UU L a k + (if !c && n then 1 else 0) := by
  have r0 := Int.emod_nonneg a (show L ≠ 0 by omega)
  have r1 := Int.emod_lt_of_pos a (show 0 < L by omega)
  subst hc hn
  unfold sv DD UU
  rw [shift L a k (by omega) h0 (by omega), shift L a (k + 1) (by omega) (by omega) (by omega)]
  generalize a % L = r at *
  by_cases c1 : r + k < L
  · by_cases c2 : r + (k + 1) < L
    · simp only [c1, c2, if_true]
      constructor
      · by_cases c3 : r < p <;> by_cases c4 : r + k < p <;> by_cases c5 : r + (k + 1) < p <;> simp [c3, c4, c5] <;> (repeat' split) <;> omega
      · by_cases c4 : r + k < p <;> by_cases c5 : r + (k + 1) < p <;> simp [c4, c5] <;> (repeat' split) <;> omega
    · simp only [c1, c2, if_true, if_false]
      constructor
      · by_cases c3 : r < p <;> by_cases c4 : r + k < p <;> by_cases c5 : r + (k + 1) - L < p <;> simp [c3, c4, c5] <;> (repeat' split) <;> omega
      · by_cases c4 : r + k < p <;> by_cases c5 : r + (k + 1) - L < p <;> simp [c4, c5] <;> (repeat' split) <;> omega
  · have c2 : ¬ r + (k + 1) < L := by omega
    simp only [c1, c2, if_false]
    constructor
    · by_cases c3 : r < p <;> by_cases c4 : r + k - L < p <;> by_cases c5 : r + (k + 1) - L < p <;> simp [c3, c4, c5] <;> (repeat' split) <;> omega
    · by_cases c4 : r + k - L < p <;> by_cases c5 : r + (k + 1) - L < p <;> simp [c4, c5] <;> (repeat' split) <;> omega
end
theorem start_all (p L a : Int) (hp : 0 < p) (hpL : p < L) : DD p L a 0 = 0 ∧ UU L a 0 = 0 := by
  have r0 := Int.emod_nonneg a (show L ≠ 0 by omega)
  have r1 := Int.emod_lt_of_pos a (show 0 < L by omega)
  unfold DD UU
  generalize a % L = r at *
  constructor <;> (repeat' split) <;> omega
theorem end_all (p L a : Int) (hp : 0 < p) (hpL : p < L) : DD p L a L = 1 ∧ UU L a L = 1 ∧ sv p L (a + L) = sv p L a := by
  have r0 := Int.emod_nonneg a (show L ≠ 0 by omega)
  have r1 := Int.emod_lt_of_pos a (show 0 < L by omega)
  refine ⟨?_, ?_, by simp [sv]⟩
  · unfold DD
    generalize a % L = r at *
    (repeat' split) <;> omega
  · unfold UU
    generalize a % L = r at *
    split <;> omega
theorem sv2 (L t : Int) (hL : 0 < L) : linev 2 false L 0 t = sv (L - 1) L t := by
  have r0 := Int.emod_nonneg t (show L ≠ 0 by omega)
  have r1 := Int.emod_lt_of_pos t hL
  unfold linev sv
  simp only [Int.sub_zero, Bool.false_eq_true, if_false, if_true]
  have e : (t % L != L - 1) = decide (t % L < L - 1) := by
    rw [Bool.eq_iff_iff]; simp; omega
  simp [e]
theorem sv3 (L t : Int) : linev 3 false L 0 t = sv ((L + 1) / 2) L t := by
  unfold linev sv
  simp

theorem DD_bd (p L a k : Int) : 0 ≤ DD p L a k ∧ DD p L a k ≤ 1 := by unfold DD; (repeat' split) <;> omega
theorem UU_bd (L a k : Int) : 0 ≤ UU L a k ∧ UU L a k ≤ 1 := by unfold UU; split <;> omega
theorem line_sv (m p L t : Int) (b : Nat) (f : Int) (w : World) (H : C0 w b m 3 false L 0 false false f false 0 rest0) (hm : m = 2 ∨ m = 3) (hl : linev m false L 0 t = sv p L t) (h0 : 1 ≤ L) (h1 : L ≤ 65536) (t0 : 0 ≤ t) (t1 : t < 18446744073709551616) :
    Calls Try.prog 9 #[.pointer (some ⟨b, 0, none⟩), .int .u64 t] w fun e w' => e = .returned (.bool (sv p L t)) ∧ Below w.heap.size w w' := by
  obtain ⟨k0, -, k2, k3, k4, -⟩ := H.facts
  rw [← hl]
  exact line_any m false L 0 t b w k0 k2 k3 k4 h0 h1 (by omega) t0 t1 (.inr hm)
theorem line_z (L t : Int) (b : Nat) (f : Int) (w : World) (r : Bool) (H : C0 w b 0 3 false L 0 false false f false 0 rest0) (h0 : 1 ≤ L) (h1 : L ≤ 65536) (t0 : 0 ≤ t) (t1 : t < 18446744073709551616) (hr : decide (L ≤ t) = r) :
    Calls Try.prog 9 #[.pointer (some ⟨b, 0, none⟩), .int .u64 t] w fun e w' => e = .returned (.bool r) ∧ Below w.heap.size w w' := by
  obtain ⟨k0, -, k2, k3, k4, -⟩ := H.facts
  have e : linev 0 false L 0 t = r := by rw [← hr]; simp [linev]
  rw [← e]
  exact line_any 0 false L 0 t b w k0 k2 k3 k4 h0 h1 (by omega) t0 t1 (.inl rfl)

set_option maxHeartbeats 8000000 in
theorem rounds_2 (x : Int) (x0 : 0 ≤ x) (x1 : x < 65536) (hs : 2 ≤ x % 2000) (a : Int) (a0 : 0 ≤ a) (a1 : a < 4294967296) (w : World) :
    Calls Try.prog 3 #[.int .u16 x, .int .u32 a, .bool false] w fun e w' => e = .returned (.bool true) ∧ Below w.heap.size w w' := by
  have HL : 2 ≤ (x % 2000) ∧ (x % 2000) < 2000 := by omega
  have hp : 0 < ((x % 2000) - 1) := by omega
  have hpL : ((x % 2000) - 1) < (x % 2000) := by omega
  have hsv : ∀ t, linev 2 false (x % 2000) 0 t = sv ((x % 2000) - 1) (x % 2000) t := fun t => sv2 _ t (by omega)
  have HSV := Lib.hid hsv
  clear hsv
  have HS := Lib.hid (start_all ((x % 2000) - 1) (x % 2000) a hp hpL)
  have HE := Lib.hid (end_all ((x % 2000) - 1) (x % 2000) a hp hpL)
  have HT := Lib.hid (fun k hk0 hk1 c n => step_all ((x % 2000) - 1) (x % 2000) a k hp hpL hk0 hk1 c n)
  go_enter Try.func3, Try.ntmps3
  go_wp2_with fail
  refine (awake_any _).mono ?_
  rintro e w1 ⟨rfl, hb1⟩
  have z1 := hb1.size
  go_wp2_with fail
  refine (started_2 (x % 2000) (by omega) (by omega) _).mono ?_
  rintro e w2 ⟨rfl, H1, hb2⟩
  have b2 := step_below hb1 hb2 (Nat.le_refl _)
  have z2 := b2.size
  go_wp2_with fail
  refine (started_0 (x % 2000) (by omega) (by omega) _).mono ?_
  rintro e w3 ⟨rfl, H2, hb3⟩
  have H1 := H1.below hb3
  have b3 := step_below b2 hb3 (Nat.le_refl _)
  go_wp2_with fail
  refine (line_z _ _ _ _ _ false H2 (by omega) (by omega) (by omega) (by omega) (decide_eq_false (by omega))).mono ?_
  rintro e w4 ⟨rfl, hb4⟩
  have H1 := H1.below hb4
  have H2 := H2.below hb4
  have b4 := step_below b3 hb4 (Nat.le_refl _)
  go_wp2_with fail
  refine (line_z _ _ _ _ _ true H2 (by omega) (by omega) (by omega) (by omega) (decide_eq_true (by omega))).mono ?_
  rintro e w5 ⟨rfl, hb5⟩
  have H1 := H1.below hb5
  have H2 := H2.below hb5
  have b5 := step_below b4 hb5 (Nat.le_refl _)
  go_wp2_with fail
  refine (line_z _ _ _ _ _ true H2 (by omega) (by omega) (by omega) (by omega) (decide_eq_true (by omega))).mono ?_
  rintro e w6 ⟨rfl, hb6⟩
  have H1 := H1.below hb6
  have b6 := step_below b5 hb6 (Nat.le_refl _)
  clear H2
  go_wp2_with fail
  refine (line_sv 2 ((x % 2000) - 1) (x % 2000) a _ _ _ H1 (by omega) (HSV.out a) (by omega) (by omega) a0 (by omega)).mono ?_
  rintro e w7 ⟨rfl, hb7⟩
  have H1 := H1.below hb7
  have b7 := step_below b6 hb7 (Nat.le_refl _)
  go_wp2_with fail
  go_loopw [11, 12, 13, 15] (fun d u q i wr => ∃ k : Nat, (k : Int) ≤ (x % 2000) ∧ i = .int .u64 (k + 1) ∧ d = .int .i64 (DD ((x % 2000) - 1) (x % 2000) a k) ∧ u = .int .i64 (UU (x % 2000) a k) ∧ q = .bool (sv ((x % 2000) - 1) (x % 2000) (a + k)) ∧
      C0 wr w1.heap.size 2 3 false (x % 2000) 0 false false (x % 2000 % 256) false 0 rest0 ∧ Below w.heap.size w wr) (fun _ _ _ i _ => ((x % 2000)).toNat + 2 - (intOf i).toNat)
  case atStart => exact ⟨0, by omega, rfl, by rw [HS.out.1.symm]; rfl, by rw [HS.out.2.symm]; rfl, by simp, H1, b7⟩
  case round =>
    clear H1 b7
    obtain ⟨k, hk, rfl, rfl, rfl, rfl, H1, b7⟩ := hrel
    by_cases hlt : (k : Int) + 1 ≤ (x % 2000)
    · have hS := fun c n => HT.out k (by omega) (by omega) c n
      have HS2 := Lib.hid hS
      clear hS
      have d0 : 0 ≤ DD ((x % 2000) - 1) (x % 2000) a k ∧ DD ((x % 2000) - 1) (x % 2000) a k ≤ 1 := DD_bd _ _ _ _
      have u0 : 0 ≤ UU (x % 2000) a k ∧ UU (x % 2000) a k ≤ 1 := UU_bd _ _ _
      have HSx := HSV.out (a + (k + 1))
      rcases hc : sv ((x % 2000) - 1) (x % 2000) (a + k) with _ | _
      all_goals
        rcases hn : sv ((x % 2000) - 1) (x % 2000) (a + (k + 1)) with _ | _
        all_goals
          have hE := HS2.out _ _ hc hn
          have HE2 := Lib.hid hE
          have HN := Lib.hid hn
          clear hE hc hn
          go_wp2_with fail
          refine (line_sv 2 ((x % 2000) - 1) (x % 2000) (a + (k + 1)) _ _ _ H1 (by omega) HSx (by omega) (by omega) (by omega) (by omega)).mono ?_
          rintro e w8 ⟨rfl, hb8⟩
          rw [HN.out]
          have H1 := H1.below hb8
          have b8 := step_below b7 hb8 (Nat.le_refl _)
          go_wp2_with fail
          go_roundw
          case rel =>
            have e1 := HE2.out.1
            have e2 := HE2.out.2
            simp at e1 e2
            exact ⟨k + 1, by omega, by go_num, by first | (rw [← e1]; rfl) | (simp [e1]; done), by first | (rw [← e2]; rfl) | (simp [e2]; done), by rw [← HN.out]; rfl, H1, b8⟩
          case measure => simp [intOf]; omega
    · have hkL : (k : Int) = (x % 2000) := by omega
      have e1 := HE.out.1
      have e2 := HE.out.2.1
      have e3 := HE.out.2.2
      rw [hkL, e1, e2, e3]
      clear e1 e2 e3 hkL
      go_wp2_with fail
      go_ret
      exact ⟨rfl, b7⟩

set_option maxHeartbeats 8000000 in
theorem rounds_2s (x : Int) (x0 : 0 ≤ x) (x1 : x < 65536) (hs : x % 2000 < 2) (a : Int) (a0 : 0 ≤ a) (a1 : a < 4294967296) (w : World) :
    Calls Try.prog 3 #[.int .u16 x, .int .u32 a, .bool false] w fun e w' => e = .returned (.bool true) ∧ Below w.heap.size w w' := by
  have HL : 2 ≤ (2 : Int) ∧ (2 : Int) < 2000 := by omega
  have hp : 0 < (1 : Int) := by omega
  have hpL : (1 : Int) < (2 : Int) := by omega
  have hsv : ∀ t, linev 2 false (2 : Int) 0 t = sv (1 : Int) (2 : Int) t := fun t => sv2 _ t (by omega)
  have HSV := Lib.hid hsv
  clear hsv
  have HS := Lib.hid (start_all (1 : Int) (2 : Int) a hp hpL)
  have HE := Lib.hid (end_all (1 : Int) (2 : Int) a hp hpL)
  have HT := Lib.hid (fun k hk0 hk1 c n => step_all (1 : Int) (2 : Int) a k hp hpL hk0 hk1 c n)
  go_enter Try.func3, Try.ntmps3
  go_wp2_with fail
  refine (awake_any _).mono ?_
  rintro e w1 ⟨rfl, hb1⟩
  have z1 := hb1.size
  go_wp2_with fail
  refine (started_2 (2 : Int) (by omega) (by omega) _).mono ?_
  rintro e w2 ⟨rfl, H1, hb2⟩
  have b2 := step_below hb1 hb2 (Nat.le_refl _)
  have z2 := b2.size
  go_wp2_with fail
  refine (started_0 (2 : Int) (by omega) (by omega) _).mono ?_
  rintro e w3 ⟨rfl, H2, hb3⟩
  have H1 := H1.below hb3
  have b3 := step_below b2 hb3 (Nat.le_refl _)
  go_wp2_with fail
  refine (line_z _ _ _ _ _ false H2 (by omega) (by omega) (by omega) (by omega) (decide_eq_false (by omega))).mono ?_
  rintro e w4 ⟨rfl, hb4⟩
  have H1 := H1.below hb4
  have H2 := H2.below hb4
  have b4 := step_below b3 hb4 (Nat.le_refl _)
  go_wp2_with fail
  refine (line_z _ _ _ _ _ true H2 (by omega) (by omega) (by omega) (by omega) (decide_eq_true (by omega))).mono ?_
  rintro e w5 ⟨rfl, hb5⟩
  have H1 := H1.below hb5
  have H2 := H2.below hb5
  have b5 := step_below b4 hb5 (Nat.le_refl _)
  go_wp2_with fail
  refine (line_z _ _ _ _ _ true H2 (by omega) (by omega) (by omega) (by omega) (decide_eq_true (by omega))).mono ?_
  rintro e w6 ⟨rfl, hb6⟩
  have H1 := H1.below hb6
  have b6 := step_below b5 hb6 (Nat.le_refl _)
  clear H2
  go_wp2_with fail
  refine (line_sv 2 (1 : Int) (2 : Int) a _ _ _ H1 (by omega) (HSV.out a) (by omega) (by omega) a0 (by omega)).mono ?_
  rintro e w7 ⟨rfl, hb7⟩
  have H1 := H1.below hb7
  have b7 := step_below b6 hb7 (Nat.le_refl _)
  go_wp2_with fail
  go_loopw [11, 12, 13, 15] (fun d u q i wr => ∃ k : Nat, (k : Int) ≤ (2 : Int) ∧ i = .int .u64 (k + 1) ∧ d = .int .i64 (DD (1 : Int) (2 : Int) a k) ∧ u = .int .i64 (UU (2 : Int) a k) ∧ q = .bool (sv (1 : Int) (2 : Int) (a + k)) ∧
      C0 wr w1.heap.size 2 3 false (2 : Int) 0 false false (2 % 256) false 0 rest0 ∧ Below w.heap.size w wr) (fun _ _ _ i _ => ((2 : Int)).toNat + 2 - (intOf i).toNat)
  case atStart => exact ⟨0, by omega, rfl, by rw [HS.out.1.symm]; rfl, by rw [HS.out.2.symm]; rfl, by simp, H1, b7⟩
  case round =>
    clear H1 b7
    obtain ⟨k, hk, rfl, rfl, rfl, rfl, H1, b7⟩ := hrel
    by_cases hlt : (k : Int) + 1 ≤ (2 : Int)
    · have hS := fun c n => HT.out k (by omega) (by omega) c n
      have HS2 := Lib.hid hS
      clear hS
      have d0 : 0 ≤ DD (1 : Int) (2 : Int) a k ∧ DD (1 : Int) (2 : Int) a k ≤ 1 := DD_bd _ _ _ _
      have u0 : 0 ≤ UU (2 : Int) a k ∧ UU (2 : Int) a k ≤ 1 := UU_bd _ _ _
      have HSx := HSV.out (a + (k + 1))
      rcases hc : sv (1 : Int) (2 : Int) (a + k) with _ | _
      all_goals
        rcases hn : sv (1 : Int) (2 : Int) (a + (k + 1)) with _ | _
        all_goals
          have hE := HS2.out _ _ hc hn
          have HE2 := Lib.hid hE
          have HN := Lib.hid hn
          clear hE hc hn
          go_wp2_with fail
          refine (line_sv 2 (1 : Int) (2 : Int) (a + (k + 1)) _ _ _ H1 (by omega) HSx (by omega) (by omega) (by omega) (by omega)).mono ?_
          rintro e w8 ⟨rfl, hb8⟩
          rw [HN.out]
          have H1 := H1.below hb8
          have b8 := step_below b7 hb8 (Nat.le_refl _)
          go_wp2_with fail
          go_roundw
          case rel =>
            have e1 := HE2.out.1
            have e2 := HE2.out.2
            simp at e1 e2
            exact ⟨k + 1, by omega, by go_num, by first | (rw [← e1]; rfl) | (simp [e1]; done), by first | (rw [← e2]; rfl) | (simp [e2]; done), by rw [← HN.out]; rfl, H1, b8⟩
          case measure => simp [intOf]; omega
    · have hkL : (k : Int) = (2 : Int) := by omega
      have e1 := HE.out.1
      have e2 := HE.out.2.1
      have e3 := HE.out.2.2
      rw [hkL, e1, e2, e3]
      clear e1 e2 e3 hkL
      go_wp2_with fail
      go_ret
      exact ⟨rfl, b7⟩

set_option maxHeartbeats 8000000 in
theorem rounds_3 (x : Int) (x0 : 0 ≤ x) (x1 : x < 65536) (hs : 2 ≤ x % 2000) (a : Int) (a0 : 0 ≤ a) (a1 : a < 4294967296) (w : World) :
    Calls Try.prog 3 #[.int .u16 x, .int .u32 a, .bool true] w fun e w' => e = .returned (.bool true) ∧ Below w.heap.size w w' := by
  have HL : 2 ≤ (x % 2000) ∧ (x % 2000) < 2000 := by omega
  have hp : 0 < (((x % 2000) + 1) / 2) := by omega
  have hpL : (((x % 2000) + 1) / 2) < (x % 2000) := by omega
  have hsv : ∀ t, linev 3 false (x % 2000) 0 t = sv (((x % 2000) + 1) / 2) (x % 2000) t := fun t => sv3 _ t
  have HSV := Lib.hid hsv
  clear hsv
  have HS := Lib.hid (start_all (((x % 2000) + 1) / 2) (x % 2000) a hp hpL)
  have HE := Lib.hid (end_all (((x % 2000) + 1) / 2) (x % 2000) a hp hpL)
  have HT := Lib.hid (fun k hk0 hk1 c n => step_all (((x % 2000) + 1) / 2) (x % 2000) a k hp hpL hk0 hk1 c n)
  go_enter Try.func3, Try.ntmps3
  go_wp2_with fail
  refine (awake_any _).mono ?_
  rintro e w1 ⟨rfl, hb1⟩
  have z1 := hb1.size
  go_wp2_with fail
  refine (started_3 (x % 2000) (by omega) (by omega) _).mono ?_
  rintro e w2 ⟨rfl, H1, hb2⟩
  have b2 := step_below hb1 hb2 (Nat.le_refl _)
  have z2 := b2.size
  go_wp2_with fail
  refine (started_0 (x % 2000) (by omega) (by omega) _).mono ?_
  rintro e w3 ⟨rfl, H2, hb3⟩
  have H1 := H1.below hb3
  have b3 := step_below b2 hb3 (Nat.le_refl _)
  go_wp2_with fail
  refine (line_z _ _ _ _ _ false H2 (by omega) (by omega) (by omega) (by omega) (decide_eq_false (by omega))).mono ?_
  rintro e w4 ⟨rfl, hb4⟩
  have H1 := H1.below hb4
  have H2 := H2.below hb4
  have b4 := step_below b3 hb4 (Nat.le_refl _)
  go_wp2_with fail
  refine (line_z _ _ _ _ _ true H2 (by omega) (by omega) (by omega) (by omega) (decide_eq_true (by omega))).mono ?_
  rintro e w5 ⟨rfl, hb5⟩
  have H1 := H1.below hb5
  have H2 := H2.below hb5
  have b5 := step_below b4 hb5 (Nat.le_refl _)
  go_wp2_with fail
  refine (line_z _ _ _ _ _ true H2 (by omega) (by omega) (by omega) (by omega) (decide_eq_true (by omega))).mono ?_
  rintro e w6 ⟨rfl, hb6⟩
  have H1 := H1.below hb6
  have b6 := step_below b5 hb6 (Nat.le_refl _)
  clear H2
  go_wp2_with fail
  refine (line_sv 3 (((x % 2000) + 1) / 2) (x % 2000) a _ _ _ H1 (by omega) (HSV.out a) (by omega) (by omega) a0 (by omega)).mono ?_
  rintro e w7 ⟨rfl, hb7⟩
  have H1 := H1.below hb7
  have b7 := step_below b6 hb7 (Nat.le_refl _)
  go_wp2_with fail
  go_loopw [11, 12, 13, 15] (fun d u q i wr => ∃ k : Nat, (k : Int) ≤ (x % 2000) ∧ i = .int .u64 (k + 1) ∧ d = .int .i64 (DD (((x % 2000) + 1) / 2) (x % 2000) a k) ∧ u = .int .i64 (UU (x % 2000) a k) ∧ q = .bool (sv (((x % 2000) + 1) / 2) (x % 2000) (a + k)) ∧
      C0 wr w1.heap.size 3 3 false (x % 2000) 0 false false (x % 2000 % 256) false 0 rest0 ∧ Below w.heap.size w wr) (fun _ _ _ i _ => ((x % 2000)).toNat + 2 - (intOf i).toNat)
  case atStart => exact ⟨0, by omega, rfl, by rw [HS.out.1.symm]; rfl, by rw [HS.out.2.symm]; rfl, by simp, H1, b7⟩
  case round =>
    clear H1 b7
    obtain ⟨k, hk, rfl, rfl, rfl, rfl, H1, b7⟩ := hrel
    by_cases hlt : (k : Int) + 1 ≤ (x % 2000)
    · have hS := fun c n => HT.out k (by omega) (by omega) c n
      have HS2 := Lib.hid hS
      clear hS
      have d0 : 0 ≤ DD (((x % 2000) + 1) / 2) (x % 2000) a k ∧ DD (((x % 2000) + 1) / 2) (x % 2000) a k ≤ 1 := DD_bd _ _ _ _
      have u0 : 0 ≤ UU (x % 2000) a k ∧ UU (x % 2000) a k ≤ 1 := UU_bd _ _ _
      have HSx := HSV.out (a + (k + 1))
      rcases hc : sv (((x % 2000) + 1) / 2) (x % 2000) (a + k) with _ | _
      all_goals
        rcases hn : sv (((x % 2000) + 1) / 2) (x % 2000) (a + (k + 1)) with _ | _
        all_goals
          have hE := HS2.out _ _ hc hn
          have HE2 := Lib.hid hE
          have HN := Lib.hid hn
          clear hE hc hn
          go_wp2_with fail
          refine (line_sv 3 (((x % 2000) + 1) / 2) (x % 2000) (a + (k + 1)) _ _ _ H1 (by omega) HSx (by omega) (by omega) (by omega) (by omega)).mono ?_
          rintro e w8 ⟨rfl, hb8⟩
          rw [HN.out]
          have H1 := H1.below hb8
          have b8 := step_below b7 hb8 (Nat.le_refl _)
          go_wp2_with fail
          go_roundw
          case rel =>
            have e1 := HE2.out.1
            have e2 := HE2.out.2
            simp at e1 e2
            exact ⟨k + 1, by omega, by go_num, by first | (rw [← e1]; rfl) | (simp [e1]; done), by first | (rw [← e2]; rfl) | (simp [e2]; done), by rw [← HN.out]; rfl, H1, b8⟩
          case measure => simp [intOf]; omega
    · have hkL : (k : Int) = (x % 2000) := by omega
      have e1 := HE.out.1
      have e2 := HE.out.2.1
      have e3 := HE.out.2.2
      rw [hkL, e1, e2, e3]
      clear e1 e2 e3 hkL
      go_wp2_with fail
      go_ret
      exact ⟨rfl, b7⟩

set_option maxHeartbeats 8000000 in
theorem rounds_3s (x : Int) (x0 : 0 ≤ x) (x1 : x < 65536) (hs : x % 2000 < 2) (a : Int) (a0 : 0 ≤ a) (a1 : a < 4294967296) (w : World) :
    Calls Try.prog 3 #[.int .u16 x, .int .u32 a, .bool true] w fun e w' => e = .returned (.bool true) ∧ Below w.heap.size w w' := by
  have HL : 2 ≤ (2 : Int) ∧ (2 : Int) < 2000 := by omega
  have hp : 0 < (1 : Int) := by omega
  have hpL : (1 : Int) < (2 : Int) := by omega
  have hsv : ∀ t, linev 3 false (2 : Int) 0 t = sv (1 : Int) (2 : Int) t := fun t => sv3 _ t
  have HSV := Lib.hid hsv
  clear hsv
  have HS := Lib.hid (start_all (1 : Int) (2 : Int) a hp hpL)
  have HE := Lib.hid (end_all (1 : Int) (2 : Int) a hp hpL)
  have HT := Lib.hid (fun k hk0 hk1 c n => step_all (1 : Int) (2 : Int) a k hp hpL hk0 hk1 c n)
  go_enter Try.func3, Try.ntmps3
  go_wp2_with fail
  refine (awake_any _).mono ?_
  rintro e w1 ⟨rfl, hb1⟩
  have z1 := hb1.size
  go_wp2_with fail
  refine (started_3 (2 : Int) (by omega) (by omega) _).mono ?_
  rintro e w2 ⟨rfl, H1, hb2⟩
  have b2 := step_below hb1 hb2 (Nat.le_refl _)
  have z2 := b2.size
  go_wp2_with fail
  refine (started_0 (2 : Int) (by omega) (by omega) _).mono ?_
  rintro e w3 ⟨rfl, H2, hb3⟩
  have H1 := H1.below hb3
  have b3 := step_below b2 hb3 (Nat.le_refl _)
  go_wp2_with fail
  refine (line_z _ _ _ _ _ false H2 (by omega) (by omega) (by omega) (by omega) (decide_eq_false (by omega))).mono ?_
  rintro e w4 ⟨rfl, hb4⟩
  have H1 := H1.below hb4
  have H2 := H2.below hb4
  have b4 := step_below b3 hb4 (Nat.le_refl _)
  go_wp2_with fail
  refine (line_z _ _ _ _ _ true H2 (by omega) (by omega) (by omega) (by omega) (decide_eq_true (by omega))).mono ?_
  rintro e w5 ⟨rfl, hb5⟩
  have H1 := H1.below hb5
  have H2 := H2.below hb5
  have b5 := step_below b4 hb5 (Nat.le_refl _)
  go_wp2_with fail
  refine (line_z _ _ _ _ _ true H2 (by omega) (by omega) (by omega) (by omega) (decide_eq_true (by omega))).mono ?_
  rintro e w6 ⟨rfl, hb6⟩
  have H1 := H1.below hb6
  have b6 := step_below b5 hb6 (Nat.le_refl _)
  clear H2
  go_wp2_with fail
  refine (line_sv 3 (1 : Int) (2 : Int) a _ _ _ H1 (by omega) (HSV.out a) (by omega) (by omega) a0 (by omega)).mono ?_
  rintro e w7 ⟨rfl, hb7⟩
  have H1 := H1.below hb7
  have b7 := step_below b6 hb7 (Nat.le_refl _)
  go_wp2_with fail
  go_loopw [11, 12, 13, 15] (fun d u q i wr => ∃ k : Nat, (k : Int) ≤ (2 : Int) ∧ i = .int .u64 (k + 1) ∧ d = .int .i64 (DD (1 : Int) (2 : Int) a k) ∧ u = .int .i64 (UU (2 : Int) a k) ∧ q = .bool (sv (1 : Int) (2 : Int) (a + k)) ∧
      C0 wr w1.heap.size 3 3 false (2 : Int) 0 false false (2 % 256) false 0 rest0 ∧ Below w.heap.size w wr) (fun _ _ _ i _ => ((2 : Int)).toNat + 2 - (intOf i).toNat)
  case atStart => exact ⟨0, by omega, rfl, by rw [HS.out.1.symm]; rfl, by rw [HS.out.2.symm]; rfl, by simp, H1, b7⟩
  case round =>
    clear H1 b7
    obtain ⟨k, hk, rfl, rfl, rfl, rfl, H1, b7⟩ := hrel
    by_cases hlt : (k : Int) + 1 ≤ (2 : Int)
    · have hS := fun c n => HT.out k (by omega) (by omega) c n
      have HS2 := Lib.hid hS
      clear hS
      have d0 : 0 ≤ DD (1 : Int) (2 : Int) a k ∧ DD (1 : Int) (2 : Int) a k ≤ 1 := DD_bd _ _ _ _
      have u0 : 0 ≤ UU (2 : Int) a k ∧ UU (2 : Int) a k ≤ 1 := UU_bd _ _ _
      have HSx := HSV.out (a + (k + 1))
      rcases hc : sv (1 : Int) (2 : Int) (a + k) with _ | _
      all_goals
        rcases hn : sv (1 : Int) (2 : Int) (a + (k + 1)) with _ | _
        all_goals
          have hE := HS2.out _ _ hc hn
          have HE2 := Lib.hid hE
          have HN := Lib.hid hn
          clear hE hc hn
          go_wp2_with fail
          refine (line_sv 3 (1 : Int) (2 : Int) (a + (k + 1)) _ _ _ H1 (by omega) HSx (by omega) (by omega) (by omega) (by omega)).mono ?_
          rintro e w8 ⟨rfl, hb8⟩
          rw [HN.out]
          have H1 := H1.below hb8
          have b8 := step_below b7 hb8 (Nat.le_refl _)
          go_wp2_with fail
          go_roundw
          case rel =>
            have e1 := HE2.out.1
            have e2 := HE2.out.2
            simp at e1 e2
            exact ⟨k + 1, by omega, by go_num, by first | (rw [← e1]; rfl) | (simp [e1]; done), by first | (rw [← e2]; rfl) | (simp [e2]; done), by rw [← HN.out]; rfl, H1, b8⟩
          case measure => simp [intOf]; omega
    · have hkL : (k : Int) = (2 : Int) := by omega
      have e1 := HE.out.1
      have e2 := HE.out.2.1
      have e3 := HE.out.2.2
      rw [hkL, e1, e2, e3]
      clear e1 e2 e3 hkL
      go_wp2_with fail
      go_ret
      exact ⟨rfl, b7⟩

theorem walk (x : Int) (x0 : IntKind.u16.min ≤ x) (x1 : x ≤ IntKind.u16.max) (a : Int) (a0 : IntKind.u32.min ≤ a) (a1 : a ≤ IntKind.u32.max) (three : Bool) (w : World) :
    Calls Try.prog 3 #[.int .u16 x, .int .u32 a, .bool three] w fun e w' => e = .returned (.bool true) ∧ Below w.heap.size w w' := by
  have x2 : 0 ≤ x := x0
  have x3 : x < 65536 := Int.lt_of_le_of_lt x1 (by decide)
  have a3 : a < 4294967296 := Int.lt_of_le_of_lt a1 (by decide)
  by_cases hs : x % 2000 < 2
  · cases three
    · exact rounds_2s x x2 x3 hs a a0 a3 w
    · exact rounds_3s x x2 x3 hs a a0 a3 w
  · cases three
    · exact rounds_2 x x2 x3 (by omega) a a0 a3 w
    · exact rounds_3 x x2 x3 (by omega) a a0 a3 w

set_option maxRecDepth 100000 in
theorem lifted (os : Os) (started : os.Started) (H : Type) (enc : TypeId × Value → H) :
    ReturnsInHanded {} Try.checked os 3 .any (Rows.pitRoundsSpec.pre6 enc Try.prog Try.f3 Rows.pitRoundsRow.domain false) (Rows.pitRoundsSpec.post enc Try.prog Try.f3 false true false false) := by
  refine returnsInHanded_of_change (C := Try.checked) own started (by kernel_rfl) Try.func3
    (ChangeSpec.witness6 (enc := enc) (C := Try.checked) false ⟨#[], #[.int .u16 0, .int .u32 0, .bool false], []⟩ 8 (by kernel_rfl) (by kernel_rfl) (by kernel_rfl) (by kernel_rfl)) ?_
  intro W base args ds gs before hval0 hW hcnd _
  have hval : ∀ (j : Nat) t v, Try.f3.params[j]? = some t → args[j]? = some v → Value.okWide Try.prog W .any base t v := hval0
  have hW' := hW
  obtain ⟨p, q, hA0, hV, rfl, hfz, hnd⟩ := hW
  have hA : DataW.TrodAll enc Try.prog W 0 (fun _ => true) true Try.f3.params.toList args.toList ds p := hA0
  rw [Try.params3] at hA hval
  obtain ⟨v0, vs0, d0, ds0, p0, q0, hargs, rfl, rfl, h0, r0⟩ := trodAll_cons hA
  obtain ⟨v1, vs1, d1, ds1, p1, q1, rfl, rfl, rfl, h1, r1⟩ := trodAll_cons r0
  obtain ⟨v2, vs2, d2, ds2, p2, q2, rfl, rfl, rfl, h2, r2⟩ := trodAll_cons r1
  obtain ⟨rfl, rfl, rfl⟩ := trodAll_nil r2
  obtain rfl : args = #[v0, v1, v2] := by cases args; simp_all
  clear hA0 hval0
  obtain ⟨a0, rfl, l0, u0⟩ := arg_int Try.underlying22 (hval 0 22 v0 rfl rfl)
  obtain ⟨a1, rfl, l1, u1⟩ := arg_int Try.underlying23 (hval 1 23 v1 rfl rfl)
  obtain ⟨a2, rfl⟩ := arg_bool Try.underlying4 (hval 2 4 v2 rfl rfl)
  exact law_end (by kernel_rfl) hW' rfl (by kernel_rfl) Try.underlying4 rfl rfl (walk a0 l0 u0 a1 l1 u1 a2 W)

theorem proved : Rows.PitRoundsSaid :=
  OpenClaim.holds_of_wide 3 Try.f3 rfl rfl rfl rfl rfl rfl rfl ⟨rfl, rfl, rfl, rfl, rfl⟩ rfl rfl rfl rfl rfl (by kernel_rfl) Try.func3 (by kernel_rfl)
    (of_decide_eq_true (by kernel_rfl)) (by unfold Func.isWrapper; first | (rw [if_pos (by decide +kernel)]; kernel_rfl) | (rw [if_neg (by decide +kernel)]; exact ⟨rfl, rfl⟩))
    (fun os started H enc _ => lifted os started H enc)
#print axioms proved
end Go.Proofs.Ytehobiccbfkbjaa.pitRounds
