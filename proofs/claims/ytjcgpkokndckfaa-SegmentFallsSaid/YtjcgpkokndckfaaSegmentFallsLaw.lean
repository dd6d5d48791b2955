/- 'drawloom/drawloomlaw08.SegmentFalls' answers true for every input. Conditions: none. -/
import Derived.Test.YtjcgpkokndckfaaFrame
import Derived.Test.YtjcgpkokndckfaaSegAwake
import Derived.Test.YtjcgpkokndckfaaSegOpen
namespace Go.Proofs.Ytjcgpkokndckfaa.segmentFalls
open Go.ChangeShapes Go.WideShapes Go.ChangeAt Go.RowKit
set_option linter.unusedVariables false

theorem bcellB {B : Nat} {W w1 : World} (hb : Below B W w1) : (∀ b o, b < B → w1.cell? ⟨b, o, none⟩ = W.cell? ⟨b, o, none⟩) ∧ (∀ b o, b < B → w1.frozen? ⟨b, o, none⟩ = W.frozen? ⟨b, o, none⟩) :=
  ⟨fun b o h => hb.cell (p := ⟨b, o, none⟩) h, fun b o h => hb.frozen (p := ⟨b, o, none⟩) h⟩

theorem f_one {l t : Int} {s r g : Bool} {off : Int} (h : reach l t s r g off 4 true = true) : reach l t s r g off 4 false = true := by
  unfold reach at *
  simp only [Bool.and_eq_true, Bool.or_eq_true] at *
  simp_all
theorem f_two {l t : Int} {s r g : Bool} {off : Int} {k : Nat} (hk : k < 4) (h0 : 0 ≤ off) (hl : l < 4294967296) (h : reach l t s r g off 4 false = true) : reach l t s r g ((off + k) % 4294967296) 1 false = true := by
  unfold reach at *
  cases hd : lD t s
  · simp only [hd, Bool.and_eq_true, Bool.false_eq_true, if_false, decide_eq_true_eq, Bool.not_false, Bool.true_or, and_true] at *
    refine ⟨h.1, ?_⟩
    have := h.2
    rw [Int.emod_eq_of_lt (by omega) (by omega)]
    omega
  · simp only [hd, Bool.and_eq_true, if_true, decide_eq_true_eq, Bool.not_false, Bool.true_or, and_true] at *
    refine ⟨h.1, ?_⟩
    have h2 := h.2
    cases g
    · simp only [Bool.false_eq_true, if_false] at *
      rw [Int.emod_eq_of_lt (by omega) (by omega)]
      omega
    · simp only [if_true] at *
      rw [Int.emod_eq_of_lt (by omega) (by omega)]
      omega
theorem f_three {l t : Int} {s r g : Bool} {off less : Int} (h0 : 0 ≤ off) (h1 : off < 4294967296) (hl0 : 0 ≤ less) (hle : less ≤ off) (hd : lD t s = false) (h : reach l t s r g off 4 false = true) :
    reach l t s r g (off - less) 4 false = true := by
  unfold reach at *
  simp only [hd, Bool.and_eq_true, Bool.false_eq_true, if_false, decide_eq_true_eq] at *
  exact ⟨h.1, by have := h.2; omega⟩
theorem lD_of {t : Int} {s : Bool} (h4 : t ≠ 4) (h5 : t ≠ 5) (h6 : t ≠ 6) (h7 : t ≠ 7) : lD t s = false := by
  cases hd : lD t s with
  | false => rfl
  | true =>
    exfalso
    unfold lD at hd
    simp only [Bool.and_eq_true, isK, decide_eq_true_eq] at hd
    obtain ⟨⟨_, h0, h1⟩, h2⟩ := hd
    have hc : t = 0 ∨ t = 1 ∨ t = 2 ∨ t = 3 ∨ t = 8 ∨ t = 9 ∨ t = 10 ∨ t = 11 ∨ t = 12 ∨ t = 13 ∨ t = 14 ∨ t = 15 := by omega
    rcases hc with rfl | rfl | rfl | rfl | rfl | rfl | rfl | rfl | rfl | rfl | rfl | rfl <;> revert h2 <;> decide


set_option maxHeartbeats 4000000 in
theorem walk_no (b l t p : Int) (s r g : Bool) (l0 : 0 ≤ l) (l1 : l < 4294967296) (o : Int) (o2 : 0 ≤ o) (o3 : o < 4294967296) (m : Int) (m2 : 0 ≤ m) (m3 : m < 4294967296) (w : World) (wv : Bool) (hW : reach l t s r g o 4 true = wv) (hno : wv = false) (hR : reach l t s r g o 4 false = false) :
    Calls Try.prog 5 #[.agg #[.int .u32 b, .int .u32 l, .int .i64 t, .bool s, .int .i64 p, .bool r, .bool g], .int .u32 o, .int .u32 m] w fun e w' => e = .returned (.bool true) ∧ Below w.heap.size w w' := by
  subst hno
  go_enter Try.func5, Try.ntmps5
  go_wp2_with fail
  refine (awake_any _).mono ?_
  rintro e w1 ⟨rfl, hb1⟩
  obtain ⟨hc1, hf1⟩ := bcell hb1
  have hz1 := hb1.size
  simp only [World.size_alloc] at hz1 hc1 hf1
  have hz10 : w.heap.size < w1.heap.size := by omega
  go_wp2_with fail
  refine (reach_four _ _ _ _ _ _ _ _ _ _ (by omega) (by omega) (by omega) (by omega)).mono ?_
  rintro e w2 ⟨rfl, hb2⟩
  rw [hW]
  obtain ⟨hc2, hf2⟩ := bcell hb2
  have hz2 := hb2.size
  have hz20 : w.heap.size < w2.heap.size := by omega
  go_wp2_with fail
  refine (reach_four _ _ _ _ _ _ _ _ _ _ (by omega) (by omega) (by omega) (by omega)).mono ?_
  rintro e w3 ⟨rfl, hb3⟩
  rw [hR]
  have HB : Below (w.heap.size + 1) (w.alloc (.cells #[.int .u32 b, .int .u32 l, .int .i64 t, .bool s, .int .i64 p, .bool r, .bool g] 25)) w3 :=
    (hb1.mono (by simp)).trans ((hb2.mono (by omega)).trans (hb3.mono (by omega)))
  clear hc1 hc2 hf1 hf2 hb1 hb2 hb3 hW hR
  go_wp2_with fail
  go_loopw [10] (fun i wr => ∃ k : Nat, k ≤ 4 ∧ i = .int .i64 k ∧ Below (w.heap.size + 1) (w.alloc (.cells #[.int .u32 b, .int .u32 l, .int .i64 t, .bool s, .int .i64 p, .bool r, .bool g] 25)) wr)
    (fun i _ => 4 - (intOf i).toNat)
  case atStart => exact ⟨0, by omega, rfl, HB⟩
  case round =>
    obtain ⟨k, hk, rfl, HB⟩ := hrel
    obtain ⟨hc, hf⟩ := bcellB HB
    have hz := HB.size
    simp only [World.size_alloc] at hz
    have hz0 : w.heap.size < wr.heap.size := by omega
    by_cases hlt : k < 4
    · skip
      go_wp2_with fail
      refine (reach_one _ _ _ _ _ _ _ _ _ _ (Int.emod_nonneg _ (by decide)) (Int.emod_lt_of_pos _ (by decide)) (by omega) (by omega)).mono ?_
      rintro e w4 ⟨rfl, hb4⟩
      skip
      have HB4 : Below (w.heap.size + 1) (w.alloc (.cells #[.int .u32 b, .int .u32 l, .int .i64 t, .bool s, .int .i64 p, .bool r, .bool g] 25)) w4 := HB.trans (hb4.mono (by omega))
      go_wp2_with fail
      all_goals
        go_roundw
        case rel => exact ⟨k + 1, by omega, by go_num, HB4⟩
        case measure => simp [intOf]; omega
    · go_wp2_with fail
      all_goals
        go_ret
        exact ⟨rfl, Below.trans (b := w.alloc _) (by go_grown) (HB.mono (by omega))⟩

set_option maxHeartbeats 4000000 in
theorem walk_yes1 (b l t p : Int) (s r g : Bool) (l0 : 0 ≤ l) (l1 : l < 4294967296) (o : Int) (o2 : 0 ≤ o) (o3 : o < 4294967296) (m : Int) (m2 : 0 ≤ m) (m3 : m < 4294967296) (w : World) (wv : Bool) (hW : reach l t s r g o 4 true = wv) (hwv : wv = true) (hR : reach l t s r g o 4 false = true) :
    Calls Try.prog 5 #[.agg #[.int .u32 b, .int .u32 l, .int .i64 t, .bool s, .int .i64 p, .bool r, .bool g], .int .u32 o, .int .u32 m] w fun e w' => e = .returned (.bool true) ∧ Below w.heap.size w w' := by
  have F2 := Lib.hid (fun k hk => @f_two l t s r g o k hk o2 l1 hR)
  have F3 := Lib.hid (fun hle hd => @f_three l t s r g o m o2 o3 m2 hle hd hR)
  subst hwv
  go_enter Try.func5, Try.ntmps5
  go_wp2_with fail
  refine (awake_any _).mono ?_
  rintro e w1 ⟨rfl, hb1⟩
  obtain ⟨hc1, hf1⟩ := bcell hb1
  have hz1 := hb1.size
  simp only [World.size_alloc] at hz1 hc1 hf1
  have hz10 : w.heap.size < w1.heap.size := by omega
  go_wp2_with fail
  refine (reach_four _ _ _ _ _ _ _ _ _ _ (by omega) (by omega) (by omega) (by omega)).mono ?_
  rintro e w2 ⟨rfl, hb2⟩
  rw [hW]
  obtain ⟨hc2, hf2⟩ := bcell hb2
  have hz2 := hb2.size
  have hz20 : w.heap.size < w2.heap.size := by omega
  go_wp2_with fail
  refine (reach_four _ _ _ _ _ _ _ _ _ _ (by omega) (by omega) (by omega) (by omega)).mono ?_
  rintro e w3 ⟨rfl, hb3⟩
  rw [hR]
  have HB : Below (w.heap.size + 1) (w.alloc (.cells #[.int .u32 b, .int .u32 l, .int .i64 t, .bool s, .int .i64 p, .bool r, .bool g] 25)) w3 :=
    (hb1.mono (by simp)).trans ((hb2.mono (by omega)).trans (hb3.mono (by omega)))
  clear hc1 hc2 hf1 hf2 hb1 hb2 hb3 hW hR
  go_wp2_with fail
  go_loopw [10] (fun i wr => ∃ k : Nat, k ≤ 4 ∧ i = .int .i64 k ∧ Below (w.heap.size + 1) (w.alloc (.cells #[.int .u32 b, .int .u32 l, .int .i64 t, .bool s, .int .i64 p, .bool r, .bool g] 25)) wr)
    (fun i _ => 4 - (intOf i).toNat)
  case atStart => exact ⟨0, by omega, rfl, HB⟩
  case round =>
    obtain ⟨k, hk, rfl, HB⟩ := hrel
    obtain ⟨hc, hf⟩ := bcellB HB
    have hz := HB.size
    simp only [World.size_alloc] at hz
    have hz0 : w.heap.size < wr.heap.size := by omega
    by_cases hlt : k < 4
    · have h1 := F2.out k hlt
      go_wp2_with fail
      refine (reach_one _ _ _ _ _ _ _ _ _ _ (Int.emod_nonneg _ (by decide)) (Int.emod_lt_of_pos _ (by decide)) (by omega) (by omega)).mono ?_
      rintro e w4 ⟨rfl, hb4⟩
      rw [h1]
      have HB4 : Below (w.heap.size + 1) (w.alloc (.cells #[.int .u32 b, .int .u32 l, .int .i64 t, .bool s, .int .i64 p, .bool r, .bool g] 25)) w4 := HB.trans (hb4.mono (by omega))
      go_wp2_with fail
      all_goals
        go_roundw
        case rel => exact ⟨k + 1, by omega, by go_num, HB4⟩
        case measure => simp [intOf]; omega
    · go_wp2_with fail
      all_goals
        first
        | (go_ret; exact ⟨rfl, Below.trans (b := w.alloc _) (by go_grown) (HB.mono (by omega))⟩)
        | (have h4 : t ≠ 4 := by assumption
           have h5 : t ≠ 5 := by assumption
           have h6 : t ≠ 6 := by assumption
           have h7 : t ≠ 7 := by assumption
           have hmo : m ≤ o := by simp_all
           have h8 := F3.out hmo (lD_of h4 h5 h6 h7)
           refine (reach_four _ _ _ _ _ _ _ _ _ _ (by omega) (by omega) (by omega) (by omega)).mono ?_
           rintro e w5 ⟨rfl, hb5⟩
           rw [h8]
           go_wp2_with fail
           go_ret
           exact ⟨rfl, Below.trans (b := w.alloc _) (by go_grown) ((HB.mono (by omega)).trans (hb5.mono (by omega)))⟩)

set_option maxHeartbeats 4000000 in
theorem walk_yes2 (b l t p : Int) (s r g : Bool) (l0 : 0 ≤ l) (l1 : l < 4294967296) (o : Int) (o2 : 0 ≤ o) (o3 : o < 4294967296) (m : Int) (m2 : 0 ≤ m) (m3 : m < 4294967296) (w : World) (wv : Bool) (hW : reach l t s r g o 4 true = wv) (hwv : wv = false) (hR : reach l t s r g o 4 false = true) :
    Calls Try.prog 5 #[.agg #[.int .u32 b, .int .u32 l, .int .i64 t, .bool s, .int .i64 p, .bool r, .bool g], .int .u32 o, .int .u32 m] w fun e w' => e = .returned (.bool true) ∧ Below w.heap.size w w' := by
  have F2 := Lib.hid (fun k hk => @f_two l t s r g o k hk o2 l1 hR)
  have F3 := Lib.hid (fun hle hd => @f_three l t s r g o m o2 o3 m2 hle hd hR)
  subst hwv
  go_enter Try.func5, Try.ntmps5
  go_wp2_with fail
  refine (awake_any _).mono ?_
  rintro e w1 ⟨rfl, hb1⟩
  obtain ⟨hc1, hf1⟩ := bcell hb1
  have hz1 := hb1.size
  simp only [World.size_alloc] at hz1 hc1 hf1
  have hz10 : w.heap.size < w1.heap.size := by omega
  go_wp2_with fail
  refine (reach_four _ _ _ _ _ _ _ _ _ _ (by omega) (by omega) (by omega) (by omega)).mono ?_
  rintro e w2 ⟨rfl, hb2⟩
  rw [hW]
  obtain ⟨hc2, hf2⟩ := bcell hb2
  have hz2 := hb2.size
  have hz20 : w.heap.size < w2.heap.size := by omega
  go_wp2_with fail
  refine (reach_four _ _ _ _ _ _ _ _ _ _ (by omega) (by omega) (by omega) (by omega)).mono ?_
  rintro e w3 ⟨rfl, hb3⟩
  rw [hR]
  have HB : Below (w.heap.size + 1) (w.alloc (.cells #[.int .u32 b, .int .u32 l, .int .i64 t, .bool s, .int .i64 p, .bool r, .bool g] 25)) w3 :=
    (hb1.mono (by simp)).trans ((hb2.mono (by omega)).trans (hb3.mono (by omega)))
  clear hc1 hc2 hf1 hf2 hb1 hb2 hb3 hW hR
  go_wp2_with fail
  go_loopw [10] (fun i wr => ∃ k : Nat, k ≤ 4 ∧ i = .int .i64 k ∧ Below (w.heap.size + 1) (w.alloc (.cells #[.int .u32 b, .int .u32 l, .int .i64 t, .bool s, .int .i64 p, .bool r, .bool g] 25)) wr)
    (fun i _ => 4 - (intOf i).toNat)
  case atStart => exact ⟨0, by omega, rfl, HB⟩
  case round =>
    obtain ⟨k, hk, rfl, HB⟩ := hrel
    obtain ⟨hc, hf⟩ := bcellB HB
    have hz := HB.size
    simp only [World.size_alloc] at hz
    have hz0 : w.heap.size < wr.heap.size := by omega
    by_cases hlt : k < 4
    · have h1 := F2.out k hlt
      go_wp2_with fail
      refine (reach_one _ _ _ _ _ _ _ _ _ _ (Int.emod_nonneg _ (by decide)) (Int.emod_lt_of_pos _ (by decide)) (by omega) (by omega)).mono ?_
      rintro e w4 ⟨rfl, hb4⟩
      rw [h1]
      have HB4 : Below (w.heap.size + 1) (w.alloc (.cells #[.int .u32 b, .int .u32 l, .int .i64 t, .bool s, .int .i64 p, .bool r, .bool g] 25)) w4 := HB.trans (hb4.mono (by omega))
      go_wp2_with fail
      all_goals
        go_roundw
        case rel => exact ⟨k + 1, by omega, by go_num, HB4⟩
        case measure => simp [intOf]; omega
    · go_wp2_with fail
      all_goals
        first
        | (go_ret; exact ⟨rfl, Below.trans (b := w.alloc _) (by go_grown) (HB.mono (by omega))⟩)
        | (have h4 : t ≠ 4 := by assumption
           have h5 : t ≠ 5 := by assumption
           have h6 : t ≠ 6 := by assumption
           have h7 : t ≠ 7 := by assumption
           have hmo : m ≤ o := by simp_all
           have h8 := F3.out hmo (lD_of h4 h5 h6 h7)
           refine (reach_four _ _ _ _ _ _ _ _ _ _ (by omega) (by omega) (by omega) (by omega)).mono ?_
           rintro e w5 ⟨rfl, hb5⟩
           rw [h8]
           go_wp2_with fail
           go_ret
           exact ⟨rfl, Below.trans (b := w.alloc _) (by go_grown) ((HB.mono (by omega)).trans (hb5.mono (by omega)))⟩)

theorem walk (b l t p : Int) (s r g : Bool) (l0 : 0 ≤ l) (l1 : l < 4294967296) (o : Int) (o0 : IntKind.u32.min ≤ o) (o1 : o ≤ IntKind.u32.max) (m : Int) (m0 : IntKind.u32.min ≤ m) (m1 : m ≤ IntKind.u32.max) (w : World) :
    Calls Try.prog 5 #[.agg #[.int .u32 b, .int .u32 l, .int .i64 t, .bool s, .int .i64 p, .bool r, .bool g], .int .u32 o, .int .u32 m] w fun e w' => e = .returned (.bool true) ∧ Below w.heap.size w w' := by
  cases hR : reach l t s r g o 4 false with
  | true =>
    cases hW : reach l t s r g o 4 true with
    | true => exact walk_yes1 b l t p s r g l0 l1 o o0 (Int.lt_of_le_of_lt o1 (by decide)) m m0 (Int.lt_of_le_of_lt m1 (by decide)) w _ hW rfl hR
    | false => exact walk_yes2 b l t p s r g l0 l1 o o0 (Int.lt_of_le_of_lt o1 (by decide)) m m0 (Int.lt_of_le_of_lt m1 (by decide)) w _ hW rfl hR
  | false =>
    cases hW : reach l t s r g o 4 true with
    | false => exact walk_no b l t p s r g l0 l1 o o0 (Int.lt_of_le_of_lt o1 (by decide)) m m0 (Int.lt_of_le_of_lt m1 (by decide)) w _ hW rfl hR
    | true => rw [f_one hW] at hR; cases hR

set_option maxRecDepth 100000 in
theorem lifted (os : Os) (started : os.Started) (H : Type) (enc : TypeId × Value → H) :
    ReturnsInHanded {} Try.checked os 5 .any (Rows.segmentFallsSpec.pre6 enc Try.prog Try.f5 Rows.segmentFallsRow.domain false) (Rows.segmentFallsSpec.post enc Try.prog Try.f5 false true false false) := by
  refine returnsInHanded_of_change (C := Try.checked) own started (by kernel_rfl) Try.func5
    (ChangeSpec.witness6 (enc := enc) (C := Try.checked) false ⟨#[], #[.agg #[.int .u32 0, .int .u32 0, .int .i64 0, .bool false, .int .i64 0, .bool false, .bool false], .int .u32 0, .int .u32 0], []⟩ 8 (by kernel_rfl) (by kernel_rfl) (by kernel_rfl) (by kernel_rfl)) ?_
  intro W base args ds gs before hval0 hW hcnd _
  have hval : ∀ (j : Nat) t v, Try.f5.params[j]? = some t → args[j]? = some v → Value.okWide Try.prog W .any base t v := hval0
  have hW' := hW
  obtain ⟨p, q, hA0, hV, rfl, hfz, hnd⟩ := hW
  have hA : DataW.TrodAll enc Try.prog W 0 (fun _ => true) true Try.f5.params.toList args.toList ds p := hA0
  rw [Try.params5] at hA hval
  obtain ⟨v0, vs0, d0, ds0, p0, q0, hargs, rfl, rfl, h0, r0⟩ := trodAll_cons hA
  obtain ⟨v1, vs1, d1, ds1, p1, q1, rfl, rfl, rfl, h1, r1⟩ := trodAll_cons r0
  obtain ⟨v2, vs2, d2, ds2, p2, q2, rfl, rfl, rfl, h2, r2⟩ := trodAll_cons r1
  obtain ⟨rfl, rfl, rfl⟩ := trodAll_nil r2
  obtain rfl : args = #[v0, v1, v2] := by cases args; simp_all
  clear hA0 hval0
  obtain ⟨b, l, t, p, s, r, g, rfl, bl, bu, ll, lu, tl, tu, pl, pu⟩ := open_desc (hval 0 25 v0 rfl rfl)
  obtain ⟨a1, rfl, l1, u1⟩ := arg_int Try.underlying23 (hval 1 23 v1 rfl rfl)
  obtain ⟨a2, rfl, l2, u2⟩ := arg_int Try.underlying23 (hval 2 23 v2 rfl rfl)
  exact law_end (by kernel_rfl) hW' rfl (by kernel_rfl) Try.underlying4 rfl rfl (walk b l t p s r g ll lu a1 l1 u1 a2 l2 u2 W)

theorem proved : Rows.SegmentFallsSaid :=
  OpenClaim.holds_of_wide 5 Try.f5 rfl rfl rfl rfl rfl rfl rfl ⟨rfl, rfl, rfl, rfl, rfl⟩ rfl rfl rfl rfl rfl (by kernel_rfl) Try.func5 (by kernel_rfl)
    (of_decide_eq_true (by kernel_rfl)) (by unfold Func.isWrapper; first | (rw [if_pos (by decide +kernel)]; kernel_rfl) | (rw [if_neg (by decide +kernel)]; exact ⟨rfl, rfl⟩))
    (fun os started H enc _ => lifted os started H enc)
#print axioms proved
end Go.Proofs.Ytjcgpkokndckfaa.segmentFalls
