/- 'drawloom/drawloomlaw08.SegmentParses' answers true for every input. Conditions: none. -/
import Derived.Test.YtjcgpkokndckfaaFrame
import Derived.Test.YtjcgpkokndckfaaSegAwake
import Derived.Test.YtjcgpkokndckfaaSegRef
namespace Go.Proofs.Ytjcgpkokndckfaa.segmentParses
open Go.ChangeShapes Go.WideShapes Go.ChangeAt Go.RowKit
set_option linter.unusedVariables false

set_option maxHeartbeats 1000000 in
theorem walk (a : Int) (l0 : IntKind.u32.min ≤ a) (u0 : a ≤ IntKind.u32.max) (b : Int) (l1 : IntKind.u32.min ≤ b) (u1 : b ≤ IntKind.u32.max) (w : World) :
    Calls Try.prog 4 #[.int .u32 a, .int .u32 b] w fun e w' => e = .returned (.bool true) ∧ Below w.heap.size w w' := by
  have a2 : 0 ≤ a := l0
  have a3 : a < 4294967296 := Int.lt_of_le_of_lt u0 (by decide)
  have b2 : 0 ≤ b := l1
  have b3 : b < 4294967296 := Int.lt_of_le_of_lt u1 (by decide)
  clear l0 l1 u0 u1
  go_enter Try.func4, Try.ntmps4
  go_wp2_with fail
  refine (awake_any _).mono ?_
  rintro e w1 ⟨rfl, hb1⟩
  have hz1 := hb1.size
  go_wp2_with fail
  refine (parse_any _ _ _ a2 a3 b2 b3).mono ?_
  rintro e w2 ⟨rfl, hb2⟩
  have hB2 : Below w.heap.size w w2 := step_below hb1 hb2 (Nat.le_refl _)
  go_wp2_with fail
  refine (rparse_any _ _ _ a2 a3 b2 b3).mono ?_
  rintro e w3 ⟨rfl, hb3⟩
  have hB3 : Below w.heap.size w w3 := step_below hB2 hb3 (Nat.le_refl _)
  go_wp2_with fail
  go_ret
  exact ⟨rfl, hB3⟩

set_option maxRecDepth 100000 in
theorem lifted (os : Os) (started : os.Started) (H : Type) (enc : TypeId × Value → H) :
    ReturnsInHanded {} Try.checked os 4 .any (Rows.segmentParsesSpec.pre6 enc Try.prog Try.f4 Rows.segmentParsesRow.domain false) (Rows.segmentParsesSpec.post enc Try.prog Try.f4 false true false false) := by
  refine returnsInHanded_of_change (C := Try.checked) own started (by kernel_rfl) Try.func4
    (ChangeSpec.witness6 (enc := enc) (C := Try.checked) false ⟨#[], #[.int .u32 0, .int .u32 0], []⟩ 8 (by kernel_rfl) (by kernel_rfl) (by kernel_rfl) (by kernel_rfl)) ?_
  intro W base args ds gs before hval0 hW hcnd _
  have hval : ∀ (j : Nat) t v, Try.f4.params[j]? = some t → args[j]? = some v → Value.okWide Try.prog W .any base t v := hval0
  have hW' := hW
  obtain ⟨p, q, hA0, hV, rfl, hfz, hnd⟩ := hW
  have hA : DataW.TrodAll enc Try.prog W 0 (fun _ => true) true Try.f4.params.toList args.toList ds p := hA0
  rw [Try.params4] at hA hval
  obtain ⟨v0, vs0, d0, ds0, p0, q0, hargs, rfl, rfl, h0, r0⟩ := trodAll_cons hA
  obtain ⟨v1, vs1, d1, ds1, p1, q1, rfl, rfl, rfl, h1, r1⟩ := trodAll_cons r0
  obtain ⟨rfl, rfl, rfl⟩ := trodAll_nil r1
  obtain rfl : args = #[v0, v1] := by cases args; simp_all
  clear hA0 hval0
  obtain ⟨a0, rfl, l0, u0⟩ := arg_int Try.underlying23 (hval 0 23 v0 rfl rfl)
  obtain ⟨a1, rfl, l1, u1⟩ := arg_int Try.underlying23 (hval 1 23 v1 rfl rfl)
  exact law_end (by kernel_rfl) hW' rfl (by kernel_rfl) Try.underlying4 rfl rfl (walk a0 l0 u0 a1 l1 u1 W)

theorem proved : Rows.SegmentParsesSaid :=
  OpenClaim.holds_of_wide 4 Try.f4 rfl rfl rfl rfl rfl rfl rfl ⟨rfl, rfl, rfl, rfl, rfl⟩ rfl rfl rfl rfl rfl (by kernel_rfl) Try.func4 (by kernel_rfl)
    (of_decide_eq_true (by kernel_rfl)) (by unfold Func.isWrapper; first | (rw [if_pos (by decide +kernel)]; kernel_rfl) | (rw [if_neg (by decide +kernel)]; exact ⟨rfl, rfl⟩))
    (fun os started H enc _ => lifted os started H enc)
#print axioms proved
end Go.Proofs.Ytjcgpkokndckfaa.segmentParses
