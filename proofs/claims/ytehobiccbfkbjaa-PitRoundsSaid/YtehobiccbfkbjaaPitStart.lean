/- pit: a timer that was started. -/
import Derived.Test.YtehobiccbfkbjaaPitNew
namespace Go.Proofs.Ytehobiccbfkbjaa
open Go.RowKit
set_option linter.unusedVariables false

set_option maxHeartbeats 1000000 in
theorem started_0 (x : Int) (x0 : 0 < x) (x1 : x < 65536) (w : World) : Calls Try.prog 8 #[.int .u8 0, .int .u16 x] w fun e w' => e = .returned (.pointer (some ⟨w.heap.size, 0, none⟩)) ∧
    C0 w' w.heap.size 0 3 false x 0 false false (x % 256) false 0 rest0 ∧ Below w.heap.size w w' := by
  have B : ∀ k, k = w.heap.size → w.heap.size ≤ k := fun k hk => by omega
  go_enter Try.func8, Try.ntmps8
  go_wp2_with fail
  refine (new_any _).mono ?_
  rintro e w2 ⟨rfl, H1, hb2⟩
  go_wp2_with fail
  refine (outc_48 _ _ _ _ _ _ _ _ _ _ _ _ _ _ H1).mono ?_
  rintro e w3 ⟨rfl, H2, hk3⟩
  have z2 := hb2.size
  have b3 := Keeps.toBelow hb2 hk3 z2 B
  go_wp2_with fail
  refine (out_first _ _ _ _ _ _ _ _ _ _ _ _ H2 _ (by omega) (by omega)).mono ?_
  rintro e w4 ⟨rfl, H3, hk4⟩
  have z3 := b3.size
  have b4 := Keeps.toBelow b3 hk4 z3 B
  go_wp2_with fail
  refine (out_second _ _ _ _ _ _ _ _ _ _ _ _ H3 _ (by omega) (by omega) (by omega) (by omega) (by omega)).mono ?_
  rintro e w5 ⟨rfl, H4, hk5⟩
  have z4 := b4.size
  have b5 := Keeps.toBelow b4 hk5 z4 B
  have eL : x / 256 * 256 + x % 256 = x := by omega
  rw [eL] at H4
  go_wp2_with fail
  go_ret
  exact ⟨rfl, H4, b5⟩

set_option maxHeartbeats 1000000 in
theorem started_0z  (w : World) : Calls Try.prog 8 #[.int .u8 0, .int .u16 0] w fun e w' => e = .returned (.pointer (some ⟨w.heap.size, 0, none⟩)) ∧
    C0 w' w.heap.size 0 3 false 65536 0 false false 0 false 0 rest0 ∧ Below w.heap.size w w' := by
  have B : ∀ k, k = w.heap.size → w.heap.size ≤ k := fun k hk => by omega
  go_enter Try.func8, Try.ntmps8
  go_wp2_with fail
  refine (new_any _).mono ?_
  rintro e w2 ⟨rfl, H1, hb2⟩
  go_wp2_with fail
  refine (outc_48 _ _ _ _ _ _ _ _ _ _ _ _ _ _ H1).mono ?_
  rintro e w3 ⟨rfl, H2, hk3⟩
  have z2 := hb2.size
  have b3 := Keeps.toBelow hb2 hk3 z2 B
  go_wp2_with fail
  refine (out_first _ _ _ _ _ _ _ _ _ _ _ _ H2 _ (by omega) (by omega)).mono ?_
  rintro e w4 ⟨rfl, H3, hk4⟩
  have z3 := b3.size
  have b4 := Keeps.toBelow b3 hk4 z3 B
  go_wp2_with fail
  refine (out_second0 _ _ _ _ _ _ _ _ _ _ _ H3).mono ?_
  rintro e w5 ⟨rfl, H4, hk5⟩
  have z4 := b4.size
  have b5 := Keeps.toBelow b4 hk5 z4 B
  go_wp2_with fail
  go_ret
  exact ⟨rfl, H4, b5⟩

set_option maxHeartbeats 1000000 in
theorem started_2 (x : Int) (x0 : 0 < x) (x1 : x < 65536) (w : World) : Calls Try.prog 8 #[.int .u8 2, .int .u16 x] w fun e w' => e = .returned (.pointer (some ⟨w.heap.size, 0, none⟩)) ∧
    C0 w' w.heap.size 2 3 false x 0 false false (x % 256) false 0 rest0 ∧ Below w.heap.size w w' := by
  have B : ∀ k, k = w.heap.size → w.heap.size ≤ k := fun k hk => by omega
  go_enter Try.func8, Try.ntmps8
  go_wp2_with fail
  refine (new_any _).mono ?_
  rintro e w2 ⟨rfl, H1, hb2⟩
  go_wp2_with fail
  refine (outc_52 _ _ _ _ _ _ _ _ _ _ _ _ _ _ H1).mono ?_
  rintro e w3 ⟨rfl, H2, hk3⟩
  have z2 := hb2.size
  have b3 := Keeps.toBelow hb2 hk3 z2 B
  go_wp2_with fail
  refine (out_first _ _ _ _ _ _ _ _ _ _ _ _ H2 _ (by omega) (by omega)).mono ?_
  rintro e w4 ⟨rfl, H3, hk4⟩
  have z3 := b3.size
  have b4 := Keeps.toBelow b3 hk4 z3 B
  go_wp2_with fail
  refine (out_second _ _ _ _ _ _ _ _ _ _ _ _ H3 _ (by omega) (by omega) (by omega) (by omega) (by omega)).mono ?_
  rintro e w5 ⟨rfl, H4, hk5⟩
  have z4 := b4.size
  have b5 := Keeps.toBelow b4 hk5 z4 B
  have eL : x / 256 * 256 + x % 256 = x := by omega
  rw [eL] at H4
  go_wp2_with fail
  go_ret
  exact ⟨rfl, H4, b5⟩

set_option maxHeartbeats 1000000 in
theorem started_2z  (w : World) : Calls Try.prog 8 #[.int .u8 2, .int .u16 0] w fun e w' => e = .returned (.pointer (some ⟨w.heap.size, 0, none⟩)) ∧
    C0 w' w.heap.size 2 3 false 65536 0 false false 0 false 0 rest0 ∧ Below w.heap.size w w' := by
  have B : ∀ k, k = w.heap.size → w.heap.size ≤ k := fun k hk => by omega
  go_enter Try.func8, Try.ntmps8
  go_wp2_with fail
  refine (new_any _).mono ?_
  rintro e w2 ⟨rfl, H1, hb2⟩
  go_wp2_with fail
  refine (outc_52 _ _ _ _ _ _ _ _ _ _ _ _ _ _ H1).mono ?_
  rintro e w3 ⟨rfl, H2, hk3⟩
  have z2 := hb2.size
  have b3 := Keeps.toBelow hb2 hk3 z2 B
  go_wp2_with fail
  refine (out_first _ _ _ _ _ _ _ _ _ _ _ _ H2 _ (by omega) (by omega)).mono ?_
  rintro e w4 ⟨rfl, H3, hk4⟩
  have z3 := b3.size
  have b4 := Keeps.toBelow b3 hk4 z3 B
  go_wp2_with fail
  refine (out_second0 _ _ _ _ _ _ _ _ _ _ _ H3).mono ?_
  rintro e w5 ⟨rfl, H4, hk5⟩
  have z4 := b4.size
  have b5 := Keeps.toBelow b4 hk5 z4 B
  go_wp2_with fail
  go_ret
  exact ⟨rfl, H4, b5⟩

set_option maxHeartbeats 1000000 in
theorem started_3 (x : Int) (x0 : 0 < x) (x1 : x < 65536) (w : World) : Calls Try.prog 8 #[.int .u8 3, .int .u16 x] w fun e w' => e = .returned (.pointer (some ⟨w.heap.size, 0, none⟩)) ∧
    C0 w' w.heap.size 3 3 false x 0 false false (x % 256) false 0 rest0 ∧ Below w.heap.size w w' := by
  have B : ∀ k, k = w.heap.size → w.heap.size ≤ k := fun k hk => by omega
  go_enter Try.func8, Try.ntmps8
  go_wp2_with fail
  refine (new_any _).mono ?_
  rintro e w2 ⟨rfl, H1, hb2⟩
  go_wp2_with fail
  refine (outc_54 _ _ _ _ _ _ _ _ _ _ _ _ _ _ H1).mono ?_
  rintro e w3 ⟨rfl, H2, hk3⟩
  have z2 := hb2.size
  have b3 := Keeps.toBelow hb2 hk3 z2 B
  go_wp2_with fail
  refine (out_first _ _ _ _ _ _ _ _ _ _ _ _ H2 _ (by omega) (by omega)).mono ?_
  rintro e w4 ⟨rfl, H3, hk4⟩
  have z3 := b3.size
  have b4 := Keeps.toBelow b3 hk4 z3 B
  go_wp2_with fail
  refine (out_second _ _ _ _ _ _ _ _ _ _ _ _ H3 _ (by omega) (by omega) (by omega) (by omega) (by omega)).mono ?_
  rintro e w5 ⟨rfl, H4, hk5⟩
  have z4 := b4.size
  have b5 := Keeps.toBelow b4 hk5 z4 B
  have eL : x / 256 * 256 + x % 256 = x := by omega
  rw [eL] at H4
  go_wp2_with fail
  go_ret
  exact ⟨rfl, H4, b5⟩

set_option maxHeartbeats 1000000 in
theorem started_3z  (w : World) : Calls Try.prog 8 #[.int .u8 3, .int .u16 0] w fun e w' => e = .returned (.pointer (some ⟨w.heap.size, 0, none⟩)) ∧
    C0 w' w.heap.size 3 3 false 65536 0 false false 0 false 0 rest0 ∧ Below w.heap.size w w' := by
  have B : ∀ k, k = w.heap.size → w.heap.size ≤ k := fun k hk => by omega
  go_enter Try.func8, Try.ntmps8
  go_wp2_with fail
  refine (new_any _).mono ?_
  rintro e w2 ⟨rfl, H1, hb2⟩
  go_wp2_with fail
  refine (outc_54 _ _ _ _ _ _ _ _ _ _ _ _ _ _ H1).mono ?_
  rintro e w3 ⟨rfl, H2, hk3⟩
  have z2 := hb2.size
  have b3 := Keeps.toBelow hb2 hk3 z2 B
  go_wp2_with fail
  refine (out_first _ _ _ _ _ _ _ _ _ _ _ _ H2 _ (by omega) (by omega)).mono ?_
  rintro e w4 ⟨rfl, H3, hk4⟩
  have z3 := b3.size
  have b4 := Keeps.toBelow b3 hk4 z3 B
  go_wp2_with fail
  refine (out_second0 _ _ _ _ _ _ _ _ _ _ _ H3).mono ?_
  rintro e w5 ⟨rfl, H4, hk5⟩
  have z4 := b4.size
  have b5 := Keeps.toBelow b4 hk5 z4 B
  go_wp2_with fail
  go_ret
  exact ⟨rfl, H4, b5⟩
end Go.Proofs.Ytehobiccbfkbjaa
