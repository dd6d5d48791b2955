/- 'drawloom/drawloomlaw12.PitHolds' answers true for every input. Conditions: none. -/
import Derived.Test.YtehobiccbfkbjaaFrame
import Derived.Test.YtehobiccbfkbjaaPitStart
namespace Go.Proofs.Ytehobiccbfkbjaa.pitHolds
open Go.ChangeShapes Go.WideShapes Go.ChangeAt Go.RowKit
set_option linter.unusedVariables false

theorem two (V : Int) (h0 : 0 ≤ V) (h1 : V < 65536) : inv false V + inv true V * 256 = V := by
  unfold inv
  simp only [Bool.false_eq_true, if_false, if_true]
  omega
theorem nv (L t : Int) : nowv 2 false L 0 t = (L - t % L) % 65536 := by simp [nowv]
theorem inv_bd (u : Bool) (V : Int) : 0 ≤ inv u V ∧ inv u V < 256 := by
  unfold inv
  split <;> omega

set_option maxHeartbeats 4000000 in
theorem holds (x : Int) (x0 : 0 < x) (x1 : x < 65536) (a : Int) (a0 : 0 ≤ a) (a1 : a < 65536) (t : Int) (t0 : 0 ≤ t) (t1 : t < 4294967296) (w : World) :
    Calls Try.prog 4 #[.int .u16 x, .int .u16 a, .int .u32 t] w fun e w' => e = .returned (.bool true) ∧ Below w.heap.size w w' := by
  have B : ∀ k b0, k = b0 → w.heap.size ≤ b0 → w.heap.size ≤ k := fun k b0 hk hb => by omega
  have m0 := Int.emod_nonneg a (show (x : Int) ≠ 0 by omega)
  have m1 := Int.emod_lt_of_pos a (show 0 < (x : Int) by omega)
  have m2 := Int.emod_nonneg (a + t + t) (show (x : Int) ≠ 0 by omega)
  have m3 := Int.emod_lt_of_pos (a + t + t) (show 0 < (x : Int) by omega)
  have V1 := nowv_bd 2 false x 0 a (by omega)
  have V2 := nowv_bd 2 false x 0 (a + t + t) (by omega)
  have T1 := Lib.hid (two _ V1.1 V1.2)
  have T2 := Lib.hid (two _ V2.1 V2.2)
  have N1 := Lib.hid (show nowv 2 false x 0 a = (x - a % x) % 65536 by rw [nv])
  have N2 := Lib.hid (show nowv 2 false x 0 (a + t + t) = (x - (a + t + t) % x) % 65536 by rw [nv])
  have I1 := inv_bd false (nowv 2 false x 0 a)
  have I2 := inv_bd true (nowv 2 false x 0 a)
  have I3 := inv_bd false (nowv 2 false x 0 (a + t + t))
  have I4 := inv_bd true (nowv 2 false x 0 (a + t + t))
  go_enter Try.func4, Try.ntmps4
  go_wp2_with fail
  refine (awake_any _).mono ?_
  rintro e w1 ⟨rfl, hb1⟩
  have z1 := hb1.size
  go_wp2_with fail
  refine (started_2 x x0 x1 _).mono ?_
  rintro e w2 ⟨rfl, H1, hb2⟩
  have b2 := step_below hb1 hb2 (Nat.le_refl _)
  go_wp2_with fail
  refine (outc_latch _ _ _ _ _ _ _ _ _ _ _ _ _ H1 (by omega) (by omega) (by omega) (by omega) (by omega) (.inr (.inl rfl))).mono ?_
  rintro e w3 ⟨rfl, H2, hk3⟩
  have z2 := b2.size
  have b3 := Keeps.toBelow b2 hk3 z2 (fun k hk => B k _ hk z1)
  go_wp2_with fail
  refine (in_held_3_lo _ _ _ _ _ _ _ _ _ _ _ H2 V1.1 V1.2).mono ?_
  rintro e w4 ⟨rfl, H3, hk4⟩
  have z3 := b3.size
  have b4 := Keeps.toBelow b3 hk4 z3 (fun k hk => B k _ hk z1)
  go_wp2_with fail
  refine (in_held_3_up _ _ _ _ _ _ _ _ _ _ _ H3 V1.1 V1.2).mono ?_
  rintro e w5 ⟨rfl, H4, hk5⟩
  have z4 := b4.size
  have b5 := Keeps.toBelow b4 hk5 z4 (fun k hk => B k _ hk z1)
  have T1' := T1.out
  rw [N1.out] at T1' ⊢ I1 I2
  go_wp2_with fail
  refine (in_live_3_lo _ _ _ _ _ _ _ _ _ _ _ H4 (by omega) (by omega) (by omega) (by omega) (by omega) (.inr (.inl rfl))).mono ?_
  rintro e w6 ⟨rfl, H5, hk6⟩
  have z5 := b5.size
  have b6 := Keeps.toBelow b5 hk6 z5 (fun k hk => B k _ hk z1)
  go_wp2_with fail
  refine (in_live_3_up _ _ _ _ _ _ _ _ _ _ _ H5 (by omega) (by omega) (by omega) (by omega) (by omega) (.inr (.inl rfl))).mono ?_
  rintro e w7 ⟨rfl, H6, hk7⟩
  have z6 := b6.size
  have b7 := Keeps.toBelow b6 hk7 z6 (fun k hk => B k _ hk z1)
  have T2' := T2.out
  rw [N2.out] at T2' ⊢ I3 I4
  go_wp2_with fail
  all_goals
    go_ret
    exact ⟨rfl, b7⟩

set_option maxHeartbeats 4000000 in
theorem holdsz  (a : Int) (a0 : 0 ≤ a) (a1 : a < 65536) (t : Int) (t0 : 0 ≤ t) (t1 : t < 4294967296) (w : World) :
    Calls Try.prog 4 #[.int .u16 0, .int .u16 a, .int .u32 t] w fun e w' => e = .returned (.bool true) ∧ Below w.heap.size w w' := by
  have B : ∀ k b0, k = b0 → w.heap.size ≤ b0 → w.heap.size ≤ k := fun k b0 hk hb => by omega
  have m0 := Int.emod_nonneg a (show (65536 : Int) ≠ 0 by omega)
  have m1 := Int.emod_lt_of_pos a (show 0 < (65536 : Int) by omega)
  have m2 := Int.emod_nonneg (a + t + t) (show (65536 : Int) ≠ 0 by omega)
  have m3 := Int.emod_lt_of_pos (a + t + t) (show 0 < (65536 : Int) by omega)
  have V1 := nowv_bd 2 false 65536 0 a (by omega)
  have V2 := nowv_bd 2 false 65536 0 (a + t + t) (by omega)
  have T1 := Lib.hid (two _ V1.1 V1.2)
  have T2 := Lib.hid (two _ V2.1 V2.2)
  have N1 := Lib.hid (show nowv 2 false 65536 0 a = -(a % 65536) % 65536 by rw [nv]; omega)
  have N2 := Lib.hid (show nowv 2 false 65536 0 (a + t + t) = -((a + t + t) % 65536) % 65536 by rw [nv]; omega)
  have I1 := inv_bd false (nowv 2 false 65536 0 a)
  have I2 := inv_bd true (nowv 2 false 65536 0 a)
  have I3 := inv_bd false (nowv 2 false 65536 0 (a + t + t))
  have I4 := inv_bd true (nowv 2 false 65536 0 (a + t + t))
  go_enter Try.func4, Try.ntmps4
  go_wp2_with fail
  refine (awake_any _).mono ?_
  rintro e w1 ⟨rfl, hb1⟩
  have z1 := hb1.size
  go_wp2_with fail
  refine (started_2z _).mono ?_
  rintro e w2 ⟨rfl, H1, hb2⟩
  have b2 := step_below hb1 hb2 (Nat.le_refl _)
  go_wp2_with fail
  refine (outc_latch _ _ _ _ _ _ _ _ _ _ _ _ _ H1 (by omega) (by omega) (by omega) (by omega) (by omega) (.inr (.inl rfl))).mono ?_
  rintro e w3 ⟨rfl, H2, hk3⟩
  have z2 := b2.size
  have b3 := Keeps.toBelow b2 hk3 z2 (fun k hk => B k _ hk z1)
  go_wp2_with fail
  refine (in_held_3_lo _ _ _ _ _ _ _ _ _ _ _ H2 V1.1 V1.2).mono ?_
  rintro e w4 ⟨rfl, H3, hk4⟩
  have z3 := b3.size
  have b4 := Keeps.toBelow b3 hk4 z3 (fun k hk => B k _ hk z1)
  go_wp2_with fail
  refine (in_held_3_up _ _ _ _ _ _ _ _ _ _ _ H3 V1.1 V1.2).mono ?_
  rintro e w5 ⟨rfl, H4, hk5⟩
  have z4 := b4.size
  have b5 := Keeps.toBelow b4 hk5 z4 (fun k hk => B k _ hk z1)
  have T1' := T1.out
  rw [N1.out] at T1' ⊢ I1 I2
  go_wp2_with fail
  refine (in_live_3_lo _ _ _ _ _ _ _ _ _ _ _ H4 (by omega) (by omega) (by omega) (by omega) (by omega) (.inr (.inl rfl))).mono ?_
  rintro e w6 ⟨rfl, H5, hk6⟩
  have z5 := b5.size
  have b6 := Keeps.toBelow b5 hk6 z5 (fun k hk => B k _ hk z1)
  go_wp2_with fail
  refine (in_live_3_up _ _ _ _ _ _ _ _ _ _ _ H5 (by omega) (by omega) (by omega) (by omega) (by omega) (.inr (.inl rfl))).mono ?_
  rintro e w7 ⟨rfl, H6, hk7⟩
  have z6 := b6.size
  have b7 := Keeps.toBelow b6 hk7 z6 (fun k hk => B k _ hk z1)
  have T2' := T2.out
  rw [N2.out] at T2' ⊢ I3 I4
  go_wp2_with fail
  all_goals
    go_ret
    exact ⟨rfl, b7⟩

theorem walk (x : Int) (x0 : IntKind.u16.min ≤ x) (x1 : x ≤ IntKind.u16.max) (a : Int) (a0 : IntKind.u16.min ≤ a) (a1 : a ≤ IntKind.u16.max) (t : Int) (t0 : IntKind.u32.min ≤ t) (t1 : t ≤ IntKind.u32.max) (w : World) :
    Calls Try.prog 4 #[.int .u16 x, .int .u16 a, .int .u32 t] w fun e w' => e = .returned (.bool true) ∧ Below w.heap.size w w' := by
  have x2 : 0 ≤ x := x0
  have x3 : x < 65536 := Int.lt_of_le_of_lt x1 (by decide)
  have a3 : a < 65536 := Int.lt_of_le_of_lt a1 (by decide)
  have t3 : t < 4294967296 := Int.lt_of_le_of_lt t1 (by decide)
  by_cases hz : x = 0
  · subst hz
    exact holdsz a a0 a3 t t0 t3 w
  · exact holds x (by omega) x3 a a0 a3 t t0 t3 w

set_option maxRecDepth 100000 in
theorem lifted (os : Os) (started : os.Started) (H : Type) (enc : TypeId × Value → H) :
    ReturnsInHanded {} Try.checked os 4 .any (Rows.pitHoldsSpec.pre6 enc Try.prog Try.f4 Rows.pitHoldsRow.domain false) (Rows.pitHoldsSpec.post enc Try.prog Try.f4 false true false false) := by
  refine returnsInHanded_of_change (C := Try.checked) own started (by kernel_rfl) Try.func4
    (ChangeSpec.witness6 (enc := enc) (C := Try.checked) false ⟨#[], #[.int .u16 0, .int .u16 0, .int .u32 0], []⟩ 8 (by kernel_rfl) (by kernel_rfl) (by kernel_rfl) (by kernel_rfl)) ?_
  intro W base args ds gs before hval0 hW hcnd _
  have hval : ∀ (j : Nat) t v, Try.f4.params[j]? = some t → args[j]? = some v → Value.okWide Try.prog W .any base t v := hval0
  have hW' := hW
  obtain ⟨p, q, hA0, hV, rfl, hfz, hnd⟩ := hW
  have hA : DataW.TrodAll enc Try.prog W 0 (fun _ => true) true Try.f4.params.toList args.toList ds p := hA0
  rw [Try.params4] at hA hval
  obtain ⟨v0, vs0, d0, ds0, p0, q0, hargs, rfl, rfl, h0, r0⟩ := trodAll_cons hA
  obtain ⟨v1, vs1, d1, ds1, p1, q1, rfl, rfl, rfl, h1, r1⟩ := trodAll_cons r0
  obtain ⟨v2, vs2, d2, ds2, p2, q2, rfl, rfl, rfl, h2, r2⟩ := trodAll_cons r1
  obtain ⟨rfl, rfl, rfl⟩ := trodAll_nil r2
  obtain rfl : args = #[v0, v1, v2] := by cases args; simp_all
  clear hA0 hval0
  obtain ⟨a0, rfl, l0, u0⟩ := arg_int Try.underlying22 (hval 0 22 v0 rfl rfl)
  obtain ⟨a1, rfl, l1, u1⟩ := arg_int Try.underlying22 (hval 1 22 v1 rfl rfl)
  obtain ⟨a2, rfl, l2, u2⟩ := arg_int Try.underlying23 (hval 2 23 v2 rfl rfl)
  exact law_end (by kernel_rfl) hW' rfl (by kernel_rfl) Try.underlying4 rfl rfl (walk a0 l0 u0 a1 l1 u1 a2 l2 u2 W)

theorem proved : Rows.PitHoldsSaid :=
  OpenClaim.holds_of_wide 4 Try.f4 rfl rfl rfl rfl rfl rfl rfl ⟨rfl, rfl, rfl, rfl, rfl⟩ rfl rfl rfl rfl rfl (by kernel_rfl) Try.func4 (by kernel_rfl)
    (of_decide_eq_true (by kernel_rfl)) (by unfold Func.isWrapper; first | (rw [if_pos (by decide +kernel)]; kernel_rfl) | (rw [if_neg (by decide +kernel)]; exact ⟨rfl, rfl⟩))
    (fun os started H enc _ => lifted os started H enc)
#print axioms proved
end Go.Proofs.Ytehobiccbfkbjaa.pitHolds
