/- 'drawloom/drawloomlaw12.PitFalls' answers true for every input. Conditions: none. -/
import Derived.Test.YtehobiccbfkbjaaFrame
import Derived.Test.YtehobiccbfkbjaaPitNew
namespace Go.Proofs.Ytehobiccbfkbjaa.pitFalls
open Go.ChangeShapes Go.WideShapes Go.ChangeAt Go.RowKit
set_option linter.unusedVariables false

theorem val_lo (L n : Int) (h0 : 1 ≤ L) (h1 : L ≤ 65536) (n0 : 0 ≤ n) (n1 : n < 256) : inv false (nowv 0 false L 0 n) = (L + 65536 - n) % 65536 % 256 := by
  unfold inv nowv
  simp only [Bool.false_eq_true, if_false, if_true]
  omega
theorem val_up (L n : Int) (h0 : 1 ≤ L) (h1 : L ≤ 65536) (n0 : 0 ≤ n) (n1 : n < 256) : inv true (nowv 0 false L 0 n) = (L + 65536 - n) % 65536 / 256 % 256 := by
  unfold inv nowv
  simp only [Bool.false_eq_true, if_false, if_true]
  omega
theorem zero_lo (L : Int) (h0 : 1 ≤ L) (h1 : L ≤ 65536) : inv false (nowv 0 false L 0 L) = 0 := by
  unfold inv nowv
  simp only [Bool.false_eq_true, if_false, if_true]
  omega
theorem zero_up (L : Int) (h0 : 1 ≤ L) (h1 : L ≤ 65536) : inv true (nowv 0 false L 0 L) = 0 := by
  unfold inv nowv
  simp only [Bool.false_eq_true, if_false, if_true]
  omega
theorem line_no (L n : Int) (h : n < L) : linev 0 false L 0 n = false := by
  unfold linev
  simp only [Bool.false_eq_true, if_false, if_true]
  simp; omega
theorem line_yes (L n : Int) (h : L ≤ n) : linev 0 false L 0 n = true := by
  unfold linev
  simp only [Bool.false_eq_true, if_false, if_true]
  simp; omega

set_option maxHeartbeats 4000000 in
theorem falls_lo_n (x : Int) (x0 : 0 < x) (x1 : x < 256) (n : Int) (n0 : 0 ≤ n) (n1 : n < 256) (w : World) :
    Calls Try.prog 6 #[.int .u8 x, .bool false, .int .u8 n] w fun e w' => e = .returned (.bool true) ∧ Below w.heap.size w w' := by
  have B : ∀ k b0, k = b0 → w.heap.size ≤ b0 → w.heap.size ≤ k := fun k b0 hk hb => by omega
  have V1 := Lib.hid (val_lo x n (by omega) (by omega) n0 n1)
  have hx0 : ((x : Int) == 0) = false := by simp; omega
  go_enter Try.func6, Try.ntmps6
  go_wp2_with fail
  refine (awake_any _).mono ?_
  rintro e w1 ⟨rfl, hb1⟩
  have z1 := hb1.size
  go_wp2_with fail
  refine (new_any _).mono ?_
  rintro e w2 ⟨rfl, H1, hb2⟩
  have b2 := step_below hb1 hb2 (Nat.le_refl _)
  go_wp2_with fail
  refine (outc_16 _ _ _ _ _ _ _ _ _ _ _ _ _ _ H1).mono ?_
  rintro e w3 ⟨rfl, H2, hk3⟩
  have z2 := b2.size
  have b3 := Keeps.toBelow b2 hk3 z2 (fun k hk => B k _ hk z1)
  go_wp2_with fail
  refine (out_one _ _ _ _ _ _ _ _ _ _ _ _ H2 x (by omega) x1 x0).mono ?_
  rintro e w4 ⟨rfl, H3, hk4⟩
  have z3 := b3.size
  have b4 := Keeps.toBelow b3 hk4 z3 (fun k hk => B k _ hk z1)
  go_wp2_with fail
  refine (in_live_1_lo _ _ _ _ _ _ _ _ _ _ _ H3 (by omega) (by omega) (by omega) (by omega) (by omega) (.inl rfl)).mono ?_
  rintro e w5 ⟨rfl, H4, hk5⟩
  have z4 := b4.size
  have b5 := Keeps.toBelow b4 hk5 z4 (fun k hk => B k _ hk z1)
  rw [V1.out]
  by_cases hlt : n < x
  · have hge : ¬ x < n := by omega
    go_wp2_with fail
    obtain ⟨k0, -, k2, k3, k4, -⟩ := H4.facts
    refine (line_any 0 false x 0 n _ _ k0 k2 k3 k4 (by omega) (by omega) (by omega) (by omega) (by omega) (.inl rfl)).mono ?_
    rintro e w6 ⟨rfl, hb6⟩
    rw [line_no _ _ hlt]
    have H5 := H4.below hb6
    have z5 := b5.size
    have b6 := step_below b5 hb6 (Nat.le_refl _)
    clear k0 k2 k3 k4
    go_wp2_with fail
    refine (in_live_1_lo _ _ _ _ _ _ _ _ _ _ _ H5 (by omega) (by omega) (by omega) (by omega) (by omega) (.inl rfl)).mono ?_
    rintro e w7 ⟨rfl, H6, hk7⟩
    have z6 := b6.size
    have b7 := Keeps.toBelow b6 hk7 z6 (fun k hk => B k _ hk z1)
    rw [zero_lo x (by omega) (by omega)]
    go_wp2_with fail
    obtain ⟨k0, -, k2, k3, k4, -⟩ := H6.facts
    refine (line_any 0 false x 0 x _ _ k0 k2 k3 k4 (by omega) (by omega) (by omega) (by omega) (by omega) (.inl rfl)).mono ?_
    rintro e w8 ⟨rfl, hb8⟩
    rw [line_yes _ _ (by omega)]
    have b8 := step_below b7 hb8 (Nat.le_refl _)
    go_wp2_with fail
    go_ret
    exact ⟨rfl, b8⟩
  · by_cases hgt : x < n
    · go_wp2_with fail
      have H5 := H4
      have b6 := b5
      refine (in_live_1_lo _ _ _ _ _ _ _ _ _ _ _ H5 (by omega) (by omega) (by omega) (by omega) (by omega) (.inl rfl)).mono ?_
      rintro e w7 ⟨rfl, H6, hk7⟩
      have z6 := b6.size
      have b7 := Keeps.toBelow b6 hk7 z6 (fun k hk => B k _ hk z1)
      skip
      go_wp2_with fail
      obtain ⟨k0, -, k2, k3, k4, -⟩ := H6.facts
      refine (line_any 0 false x 0 n _ _ k0 k2 k3 k4 (by omega) (by omega) (by omega) (by omega) (by omega) (.inl rfl)).mono ?_
      rintro e w8 ⟨rfl, hb8⟩
      rw [line_yes _ _ (by omega)]
      have b8 := step_below b7 hb8 (Nat.le_refl _)
      go_wp2_with fail
      go_ret
      exact ⟨rfl, b8⟩
    · go_wp2_with fail
      have H5 := H4
      have b6 := b5
      refine (in_live_1_lo _ _ _ _ _ _ _ _ _ _ _ H5 (by omega) (by omega) (by omega) (by omega) (by omega) (.inl rfl)).mono ?_
      rintro e w7 ⟨rfl, H6, hk7⟩
      have z6 := b6.size
      have b7 := Keeps.toBelow b6 hk7 z6 (fun k hk => B k _ hk z1)
      rw [zero_lo x (by omega) (by omega)]
      go_wp2_with fail
      obtain ⟨k0, -, k2, k3, k4, -⟩ := H6.facts
      refine (line_any 0 false x 0 x _ _ k0 k2 k3 k4 (by omega) (by omega) (by omega) (by omega) (by omega) (.inl rfl)).mono ?_
      rintro e w8 ⟨rfl, hb8⟩
      rw [line_yes _ _ (by omega)]
      have b8 := step_below b7 hb8 (Nat.le_refl _)
      go_wp2_with fail
      go_ret
      exact ⟨rfl, b8⟩

set_option maxHeartbeats 4000000 in
theorem falls_lo_z  (n : Int) (n0 : 0 ≤ n) (n1 : n < 256) (w : World) :
    Calls Try.prog 6 #[.int .u8 0, .bool false, .int .u8 n] w fun e w' => e = .returned (.bool true) ∧ Below w.heap.size w w' := by
  have B : ∀ k b0, k = b0 → w.heap.size ≤ b0 → w.heap.size ≤ k := fun k b0 hk hb => by omega
  have V1 := Lib.hid (val_lo 65536 n (by omega) (by omega) n0 n1)
  go_enter Try.func6, Try.ntmps6
  go_wp2_with fail
  refine (awake_any _).mono ?_
  rintro e w1 ⟨rfl, hb1⟩
  have z1 := hb1.size
  go_wp2_with fail
  refine (new_any _).mono ?_
  rintro e w2 ⟨rfl, H1, hb2⟩
  have b2 := step_below hb1 hb2 (Nat.le_refl _)
  go_wp2_with fail
  refine (outc_16 _ _ _ _ _ _ _ _ _ _ _ _ _ _ H1).mono ?_
  rintro e w3 ⟨rfl, H2, hk3⟩
  have z2 := b2.size
  have b3 := Keeps.toBelow b2 hk3 z2 (fun k hk => B k _ hk z1)
  go_wp2_with fail
  refine (out_one0 _ _ _ _ _ _ _ _ _ _ _ _ H2).mono ?_
  rintro e w4 ⟨rfl, H3, hk4⟩
  have z3 := b3.size
  have b4 := Keeps.toBelow b3 hk4 z3 (fun k hk => B k _ hk z1)
  go_wp2_with fail
  refine (in_live_1_lo _ _ _ _ _ _ _ _ _ _ _ H3 (by omega) (by omega) (by omega) (by omega) (by omega) (.inl rfl)).mono ?_
  rintro e w5 ⟨rfl, H4, hk5⟩
  have z4 := b4.size
  have b5 := Keeps.toBelow b4 hk5 z4 (fun k hk => B k _ hk z1)
  rw [V1.out]
  by_cases hlt : n < 65536
  · have hge : ¬ 65536 < n := by omega
    go_wp2_with fail
    obtain ⟨k0, -, k2, k3, k4, -⟩ := H4.facts
    refine (line_any 0 false 65536 0 n _ _ k0 k2 k3 k4 (by omega) (by omega) (by omega) (by omega) (by omega) (.inl rfl)).mono ?_
    rintro e w6 ⟨rfl, hb6⟩
    rw [line_no _ _ hlt]
    have H5 := H4.below hb6
    have z5 := b5.size
    have b6 := step_below b5 hb6 (Nat.le_refl _)
    clear k0 k2 k3 k4
    go_wp2_with fail
    refine (in_live_1_lo _ _ _ _ _ _ _ _ _ _ _ H5 (by omega) (by omega) (by omega) (by omega) (by omega) (.inl rfl)).mono ?_
    rintro e w7 ⟨rfl, H6, hk7⟩
    have z6 := b6.size
    have b7 := Keeps.toBelow b6 hk7 z6 (fun k hk => B k _ hk z1)
    rw [zero_lo 65536 (by omega) (by omega)]
    go_wp2_with fail
    obtain ⟨k0, -, k2, k3, k4, -⟩ := H6.facts
    refine (line_any 0 false 65536 0 65536 _ _ k0 k2 k3 k4 (by omega) (by omega) (by omega) (by omega) (by omega) (.inl rfl)).mono ?_
    rintro e w8 ⟨rfl, hb8⟩
    rw [line_yes _ _ (by omega)]
    have b8 := step_below b7 hb8 (Nat.le_refl _)
    go_wp2_with fail
    go_ret
    exact ⟨rfl, b8⟩
  · omega

set_option maxHeartbeats 4000000 in
theorem falls_up_n (x : Int) (x0 : 0 < x) (x1 : x < 256) (n : Int) (n0 : 0 ≤ n) (n1 : n < 256) (w : World) :
    Calls Try.prog 6 #[.int .u8 x, .bool true, .int .u8 n] w fun e w' => e = .returned (.bool true) ∧ Below w.heap.size w w' := by
  have B : ∀ k b0, k = b0 → w.heap.size ≤ b0 → w.heap.size ≤ k := fun k b0 hk hb => by omega
  have V1 := Lib.hid (val_up (x * 256) n (by omega) (by omega) n0 n1)
  have hx0 : (((x * 256) : Int) == 0) = false := by simp; omega
  go_enter Try.func6, Try.ntmps6
  go_wp2_with fail
  refine (awake_any _).mono ?_
  rintro e w1 ⟨rfl, hb1⟩
  have z1 := hb1.size
  go_wp2_with fail
  refine (new_any _).mono ?_
  rintro e w2 ⟨rfl, H1, hb2⟩
  have b2 := step_below hb1 hb2 (Nat.le_refl _)
  go_wp2_with fail
  refine (outc_32 _ _ _ _ _ _ _ _ _ _ _ _ _ _ H1).mono ?_
  rintro e w3 ⟨rfl, H2, hk3⟩
  have z2 := b2.size
  have b3 := Keeps.toBelow b2 hk3 z2 (fun k hk => B k _ hk z1)
  go_wp2_with fail
  refine (out_two _ _ _ _ _ _ _ _ _ _ _ _ H2 x (by omega) x1 x0).mono ?_
  rintro e w4 ⟨rfl, H3, hk4⟩
  have z3 := b3.size
  have b4 := Keeps.toBelow b3 hk4 z3 (fun k hk => B k _ hk z1)
  go_wp2_with fail
  refine (in_live_2_up _ _ _ _ _ _ _ _ _ _ _ H3 (by omega) (by omega) (by omega) (by omega) (by omega) (.inl rfl)).mono ?_
  rintro e w5 ⟨rfl, H4, hk5⟩
  have z4 := b4.size
  have b5 := Keeps.toBelow b4 hk5 z4 (fun k hk => B k _ hk z1)
  rw [V1.out]
  by_cases hlt : n < (x * 256)
  · have hge : ¬ (x * 256) < n := by omega
    go_wp2_with fail
    obtain ⟨k0, -, k2, k3, k4, -⟩ := H4.facts
    refine (line_any 0 false (x * 256) 0 n _ _ k0 k2 k3 k4 (by omega) (by omega) (by omega) (by omega) (by omega) (.inl rfl)).mono ?_
    rintro e w6 ⟨rfl, hb6⟩
    rw [line_no _ _ hlt]
    have H5 := H4.below hb6
    have z5 := b5.size
    have b6 := step_below b5 hb6 (Nat.le_refl _)
    clear k0 k2 k3 k4
    go_wp2_with fail
    refine (in_live_2_up _ _ _ _ _ _ _ _ _ _ _ H5 (by omega) (by omega) (by omega) (by omega) (by omega) (.inl rfl)).mono ?_
    rintro e w7 ⟨rfl, H6, hk7⟩
    have z6 := b6.size
    have b7 := Keeps.toBelow b6 hk7 z6 (fun k hk => B k _ hk z1)
    rw [zero_up (x * 256) (by omega) (by omega)]
    go_wp2_with fail
    obtain ⟨k0, -, k2, k3, k4, -⟩ := H6.facts
    refine (line_any 0 false (x * 256) 0 (x * 256) _ _ k0 k2 k3 k4 (by omega) (by omega) (by omega) (by omega) (by omega) (.inl rfl)).mono ?_
    rintro e w8 ⟨rfl, hb8⟩
    rw [line_yes _ _ (by omega)]
    have b8 := step_below b7 hb8 (Nat.le_refl _)
    go_wp2_with fail
    go_ret
    exact ⟨rfl, b8⟩
  · omega

set_option maxHeartbeats 4000000 in
theorem falls_up_z  (n : Int) (n0 : 0 ≤ n) (n1 : n < 256) (w : World) :
    Calls Try.prog 6 #[.int .u8 0, .bool true, .int .u8 n] w fun e w' => e = .returned (.bool true) ∧ Below w.heap.size w w' := by
  have B : ∀ k b0, k = b0 → w.heap.size ≤ b0 → w.heap.size ≤ k := fun k b0 hk hb => by omega
  have V1 := Lib.hid (val_up 65536 n (by omega) (by omega) n0 n1)
  go_enter Try.func6, Try.ntmps6
  go_wp2_with fail
  refine (awake_any _).mono ?_
  rintro e w1 ⟨rfl, hb1⟩
  have z1 := hb1.size
  go_wp2_with fail
  refine (new_any _).mono ?_
  rintro e w2 ⟨rfl, H1, hb2⟩
  have b2 := step_below hb1 hb2 (Nat.le_refl _)
  go_wp2_with fail
  refine (outc_32 _ _ _ _ _ _ _ _ _ _ _ _ _ _ H1).mono ?_
  rintro e w3 ⟨rfl, H2, hk3⟩
  have z2 := b2.size
  have b3 := Keeps.toBelow b2 hk3 z2 (fun k hk => B k _ hk z1)
  go_wp2_with fail
  refine (out_two0 _ _ _ _ _ _ _ _ _ _ _ _ H2).mono ?_
  rintro e w4 ⟨rfl, H3, hk4⟩
  have z3 := b3.size
  have b4 := Keeps.toBelow b3 hk4 z3 (fun k hk => B k _ hk z1)
  go_wp2_with fail
  refine (in_live_2_up _ _ _ _ _ _ _ _ _ _ _ H3 (by omega) (by omega) (by omega) (by omega) (by omega) (.inl rfl)).mono ?_
  rintro e w5 ⟨rfl, H4, hk5⟩
  have z4 := b4.size
  have b5 := Keeps.toBelow b4 hk5 z4 (fun k hk => B k _ hk z1)
  rw [V1.out]
  by_cases hlt : n < 65536
  · have hge : ¬ 65536 < n := by omega
    go_wp2_with fail
    obtain ⟨k0, -, k2, k3, k4, -⟩ := H4.facts
    refine (line_any 0 false 65536 0 n _ _ k0 k2 k3 k4 (by omega) (by omega) (by omega) (by omega) (by omega) (.inl rfl)).mono ?_
    rintro e w6 ⟨rfl, hb6⟩
    rw [line_no _ _ hlt]
    have H5 := H4.below hb6
    have z5 := b5.size
    have b6 := step_below b5 hb6 (Nat.le_refl _)
    clear k0 k2 k3 k4
    go_wp2_with fail
    refine (in_live_2_up _ _ _ _ _ _ _ _ _ _ _ H5 (by omega) (by omega) (by omega) (by omega) (by omega) (.inl rfl)).mono ?_
    rintro e w7 ⟨rfl, H6, hk7⟩
    have z6 := b6.size
    have b7 := Keeps.toBelow b6 hk7 z6 (fun k hk => B k _ hk z1)
    rw [zero_up 65536 (by omega) (by omega)]
    go_wp2_with fail
    obtain ⟨k0, -, k2, k3, k4, -⟩ := H6.facts
    refine (line_any 0 false 65536 0 65536 _ _ k0 k2 k3 k4 (by omega) (by omega) (by omega) (by omega) (by omega) (.inl rfl)).mono ?_
    rintro e w8 ⟨rfl, hb8⟩
    rw [line_yes _ _ (by omega)]
    have b8 := step_below b7 hb8 (Nat.le_refl _)
    go_wp2_with fail
    go_ret
    exact ⟨rfl, b8⟩
  · omega

theorem walk (x : Int) (x0 : IntKind.u8.min ≤ x) (x1 : x ≤ IntKind.u8.max) (up : Bool) (n : Int) (n0 : IntKind.u8.min ≤ n) (n1 : n ≤ IntKind.u8.max) (w : World) :
    Calls Try.prog 6 #[.int .u8 x, .bool up, .int .u8 n] w fun e w' => e = .returned (.bool true) ∧ Below w.heap.size w w' := by
  have x2 : 0 ≤ x := x0
  have x3 : x < 256 := Int.lt_of_le_of_lt x1 (by decide)
  have n3 : n < 256 := Int.lt_of_le_of_lt n1 (by decide)
  by_cases hz : x = 0
  · subst hz
    cases up
    · exact falls_lo_z n n0 n3 w
    · exact falls_up_z n n0 n3 w
  · cases up
    · exact falls_lo_n x (by omega) x3 n n0 n3 w
    · exact falls_up_n x (by omega) x3 n n0 n3 w

set_option maxRecDepth 100000 in
theorem lifted (os : Os) (started : os.Started) (H : Type) (enc : TypeId × Value → H) :
    ReturnsInHanded {} Try.checked os 6 .any (Rows.pitFallsSpec.pre6 enc Try.prog Try.f6 Rows.pitFallsRow.domain false) (Rows.pitFallsSpec.post enc Try.prog Try.f6 false true false false) := by
  refine returnsInHanded_of_change (C := Try.checked) own started (by kernel_rfl) Try.func6
    (ChangeSpec.witness6 (enc := enc) (C := Try.checked) false ⟨#[], #[.int .u8 0, .bool false, .int .u8 0], []⟩ 8 (by kernel_rfl) (by kernel_rfl) (by kernel_rfl) (by kernel_rfl)) ?_
  intro W base args ds gs before hval0 hW hcnd _
  have hval : ∀ (j : Nat) t v, Try.f6.params[j]? = some t → args[j]? = some v → Value.okWide Try.prog W .any base t v := hval0
  have hW' := hW
  obtain ⟨p, q, hA0, hV, rfl, hfz, hnd⟩ := hW
  have hA : DataW.TrodAll enc Try.prog W 0 (fun _ => true) true Try.f6.params.toList args.toList ds p := hA0
  rw [Try.params6] at hA hval
  obtain ⟨v0, vs0, d0, ds0, p0, q0, hargs, rfl, rfl, h0, r0⟩ := trodAll_cons hA
  obtain ⟨v1, vs1, d1, ds1, p1, q1, rfl, rfl, rfl, h1, r1⟩ := trodAll_cons r0
  obtain ⟨v2, vs2, d2, ds2, p2, q2, rfl, rfl, rfl, h2, r2⟩ := trodAll_cons r1
  obtain ⟨rfl, rfl, rfl⟩ := trodAll_nil r2
  obtain rfl : args = #[v0, v1, v2] := by cases args; simp_all
  clear hA0 hval0
  obtain ⟨a0, rfl, l0, u0⟩ := arg_int Try.underlying5 (hval 0 5 v0 rfl rfl)
  obtain ⟨a1, rfl⟩ := arg_bool Try.underlying4 (hval 1 4 v1 rfl rfl)
  obtain ⟨a2, rfl, l2, u2⟩ := arg_int Try.underlying5 (hval 2 5 v2 rfl rfl)
  exact law_end (by kernel_rfl) hW' rfl (by kernel_rfl) Try.underlying4 rfl rfl (walk a0 l0 u0 a1 a2 l2 u2 W)

theorem proved : Rows.PitFallsSaid :=
  OpenClaim.holds_of_wide 6 Try.f6 rfl rfl rfl rfl rfl rfl rfl ⟨rfl, rfl, rfl, rfl, rfl⟩ rfl rfl rfl rfl rfl (by kernel_rfl) Try.func6 (by kernel_rfl)
    (of_decide_eq_true (by kernel_rfl)) (by unfold Func.isWrapper; first | (rw [if_pos (by decide +kernel)]; kernel_rfl) | (rw [if_neg (by decide +kernel)]; exact ⟨rfl, rfl⟩))
    (fun os started H enc _ => lifted os started H enc)
#print axioms proved
end Go.Proofs.Ytehobiccbfkbjaa.pitFalls
