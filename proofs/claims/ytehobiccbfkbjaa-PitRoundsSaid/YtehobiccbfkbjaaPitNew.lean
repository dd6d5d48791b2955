/- pit: New; the awake calls. -/
import Derived.Test.YtehobiccbfkbjaaPitIn
namespace Go.Proofs.Ytehobiccbfkbjaa
open Go.RowKit
set_option linter.unusedVariables false

def rest0 : List Value := [.int .u8 3, .int .u8 3, .bool false, .int .u64 65536, .int .u64 0, .bool false, .bool false, .int .u8 0, .bool false, .int .u16 0,
  .int .u8 3, .int .u8 3, .bool false, .int .u64 65536, .int .u64 0, .bool false, .bool false, .int .u8 0, .bool false, .int .u16 0]

set_option maxHeartbeats 1000000 in
theorem new_any (w : World) : Calls Try.prog 12 #[] w fun e w' => e = .returned (.pointer (some ⟨w.heap.size, 0, none⟩)) ∧
    C0 w' w.heap.size 3 3 false 65536 0 false false 0 false 0 rest0 ∧ Below w.heap.size w w' := by
  go_enter Try.func12, Try.ntmps12
  go_wp2
  go_rounds 4
  go_ret
  exact ⟨rfl, heap_new w _, by go_grown⟩

set_option maxHeartbeats 2000000 in
theorem awake_any (w : World) : Calls Try.prog 7 #[] w fun e w' => e = .returned (.bool true) ∧ Below w.heap.size w w' := by
  have q1 : linev 2 false 10 5 13 = true := by decide
  have q2 : linev 2 false 10 5 14 = false := by decide
  have q3 : linev 2 false 10 5 15 = true := by decide
  have q4 : nowv 2 false 10 5 16 = 9 := by decide
  have q5 : inv false 9 = 9 := by decide
  go_enter Try.func7, Try.ntmps7
  go_wp2_with fail
  refine (new_any _).mono ?_
  rintro e w1 ⟨rfl, H1, hb1⟩
  go_wp2_with fail
  refine (outc_52 _ _ _ _ _ _ _ _ _ _ _ _ _ _ H1).mono ?_
  rintro e w2 ⟨rfl, H2, hk2⟩
  go_wp2_with fail
  refine (out_first _ _ _ _ _ _ _ _ _ _ _ _ H2 10 (by decide) (by decide)).mono ?_
  rintro e w3 ⟨rfl, H3, hk3⟩
  go_wp2_with fail
  refine (out_second _ _ _ _ _ _ _ _ _ _ _ _ H3 0 (by decide) (by decide) (by decide) (by decide) (by decide)).mono ?_
  rintro e w4 ⟨rfl, H4, hk4⟩
  go_wp2_with fail
  have H5 : C0 w4 w.heap.size 2 3 false 10 5 false false 10 false 0 rest0 := H4
  obtain ⟨k0, -, k2, k3, k4, -⟩ := H5.facts
  refine (line_any 2 false 10 5 13 _ _ k0 k2 k3 k4 (by decide) (by decide) (by decide) (by decide) (by decide) (.inr (.inl rfl))).mono ?_
  rintro e w5 ⟨rfl, hb5⟩
  rw [q1]
  have H6 := H5.below hb5
  clear k0 k2 k3 k4
  go_wp2_with fail
  obtain ⟨k0, -, k2, k3, k4, -⟩ := H6.facts
  refine (line_any 2 false 10 5 14 _ _ k0 k2 k3 k4 (by decide) (by decide) (by decide) (by decide) (by decide) (.inr (.inl rfl))).mono ?_
  rintro e w6 ⟨rfl, hb6⟩
  rw [q2]
  have H7 := H6.below hb6
  clear k0 k2 k3 k4
  go_wp2_with fail
  obtain ⟨k0, -, k2, k3, k4, -⟩ := H7.facts
  refine (line_any 2 false 10 5 15 _ _ k0 k2 k3 k4 (by decide) (by decide) (by decide) (by decide) (by decide) (.inr (.inl rfl))).mono ?_
  rintro e w7 ⟨rfl, hb7⟩
  rw [q3]
  have H8 := H7.below hb7
  clear k0 k2 k3 k4
  go_wp2_with fail
  refine (outc_latch _ _ _ _ _ _ _ _ _ _ _ _ _ H8 (by decide) (by decide) (by decide) (by decide) (by decide) (.inr (.inl rfl))).mono ?_
  rintro e w8 ⟨rfl, H9, hk8⟩
  rw [q4] at H9
  go_wp2_with fail
  refine (in_held_3_lo _ _ _ _ _ _ _ _ _ _ _ H9 (by decide) (by decide)).mono ?_
  rintro e w9 ⟨rfl, H10, hk9⟩
  rw [q5]
  go_wp2_with fail
  refine (out_bad _ _ _ _ _ (by decide)).mono ?_
  rintro e w10 ⟨rfl, rfl⟩
  go_wp2_with fail
  go_ret
  have B : ∀ k, k = w.heap.size → w.heap.size ≤ k := fun k hk => by omega
  have z1 := hb1.size
  have b2 := Keeps.toBelow hb1 hk2 (by omega) B
  have z2 := b2.size
  have b3 := Keeps.toBelow b2 hk3 (by omega) B
  have z3 := b3.size
  have b4 := Keeps.toBelow b3 hk4 (by omega) B
  have z4 := b4.size
  have b5 := step_below b4 hb5 (Nat.le_refl _)
  have b6 := step_below b5 hb6 (Nat.le_refl _)
  have b7 := step_below b6 hb7 (Nat.le_refl _)
  have z7 := b7.size
  have b8 := Keeps.toBelow b7 hk8 (by omega) B
  have z8 := b8.size
  exact ⟨rfl, Keeps.toBelow b8 hk9 (by omega) B⟩
end Go.Proofs.Ytehobiccbfkbjaa
