/- 'drawloom/drawloomlaw08.SegmentBounds' answers true for every input. Conditions: none. -/
import Derived.Test.YtjcgpkokndckfaaFrame
import Derived.Test.YtjcgpkokndckfaaSegAwake
namespace Go.Proofs.Ytjcgpkokndckfaa.segmentBounds
open Go.ChangeShapes Go.WideShapes Go.ChangeAt Go.RowKit

theorem r_one (l off : Int) (g : Bool) : reach l 2 false true g off 1 true = decide (off ≤ l) := by
  have h : off + 1 - 1 = off := by omega
  have e : reach l 2 false true g off 1 true = decide (off + 1 - 1 ≤ l) := rfl
  rw [e, h]
theorem r_two (l off : Int) (g : Bool) : reach l 6 false true g off 1 true = (decide (l < off) && decide (off ≤ if g then 4294967295 else 65535)) := by
  have h : off + 1 - 1 = off := by omega
  have e : reach l 6 false true g off 1 true = (decide (l < off) && decide (off + 1 - 1 ≤ if g then 4294967295 else 65535)) := rfl
  rw [e, h]

set_option maxHeartbeats 2000000 in
theorem walk (l : Int) (l0 : IntKind.u32.min ≤ l) (l1 : l ≤ IntKind.u32.max) (o : Int) (o0 : IntKind.u32.min ≤ o) (o1 : o ≤ IntKind.u32.max) (g : Bool) (w : World) :
    Calls Try.prog 6 #[.int .u32 l, .int .u32 o, .bool g] w fun e w' => e = .returned (.bool true) ∧ Below w.heap.size w w' := by
  have l2 : 0 ≤ l := l0
  have l3 : l ≤ 4294967295 := l1
  have o2 : 0 ≤ o := o0
  have o3 : o ≤ 4294967295 := o1
  clear l0 l1 o0 o1
  cases g
  all_goals
    by_cases ho : o ≤ l
    all_goals
      by_cases ht : o ≤ 65535
      all_goals
        go_enter Try.func6, Try.ntmps6
        go_wp2_with fail
        refine (awake_any _).mono ?_
        rintro e w1 ⟨rfl, hb1⟩
        have hB1 : Below w.heap.size w w1 := step_below (by go_grown) hb1 (Nat.le_refl _)
        have hz1 := hb1.size
        go_wp2_with fail
        refine (reach_one _ _ _ _ _ _ _ _ _ _ (by omega) (by omega) (by omega) (by omega)).mono ?_
        rintro e w2 ⟨rfl, hb2⟩
        rw [r_one]
        have hB2 : Below w.heap.size w w2 := step_below (by go_grown) hb2 (Nat.le_refl _)
        obtain ⟨hc2, hf2⟩ := bcell hb2
        have hz2 := hb2.size
        simp only [World.size_alloc] at hz2 hc2 hf2
        go_wp2_with fail
        refine (reach_one _ _ _ _ _ _ _ _ _ _ (by omega) (by omega) (by omega) (by omega)).mono ?_
        rintro e w3 ⟨rfl, hb3⟩
        rw [r_two]
        have hB3 : Below w.heap.size w w3 := step_below (by go_grown) hb3 (Nat.le_refl _)
        go_wp2_with fail
        all_goals
          go_ret
          refine ⟨?_, by go_grown⟩
          first | (simp_all; done) | (simp_all; omega)

set_option maxRecDepth 100000 in
theorem lifted (os : Os) (started : os.Started) (H : Type) (enc : TypeId × Value → H) :
    ReturnsInHanded {} Try.checked os 6 .any (Rows.segmentBoundsSpec.pre6 enc Try.prog Try.f6 Rows.segmentBoundsRow.domain false) (Rows.segmentBoundsSpec.post enc Try.prog Try.f6 false true false false) := by
  refine returnsInHanded_of_change (C := Try.checked) own started (by kernel_rfl) Try.func6
    (ChangeSpec.witness6 (enc := enc) (C := Try.checked) false ⟨#[], #[.int .u32 0, .int .u32 0, .bool false], []⟩ 8 (by kernel_rfl) (by kernel_rfl) (by kernel_rfl) (by kernel_rfl)) ?_
  intro W base args ds gs before hval0 hW hcnd _
  have hval : ∀ (j : Nat) t v, Try.f6.params[j]? = some t → args[j]? = some v → Value.okWide Try.prog W .any base t v := hval0
  have hW' := hW
  obtain ⟨p, q, hA0, hV, rfl, hfz, hnd⟩ := hW
  have hA : DataW.TrodAll enc Try.prog W 0 (fun _ => true) true Try.f6.params.toList args.toList ds p := hA0
  rw [Try.params6] at hA hval
  obtain ⟨v0, vs0, d0, ds0, p0, q0, hargs, rfl, rfl, h0, r0⟩ := trodAll_cons hA
  obtain ⟨v1, vs1, d1, ds1, p1, q1, rfl, rfl, rfl, h1, r1⟩ := trodAll_cons r0
  obtain ⟨v2, vs2, d2, ds2, p2, q2, rfl, rfl, rfl, h2, r2⟩ := trodAll_cons r1
  obtain ⟨rfl, rfl, rfl⟩ := trodAll_nil r2
  obtain rfl : args = #[v0, v1, v2] := by cases args; simp_all
  clear hA0 hval0
  obtain ⟨a0, rfl, l0, u0⟩ := arg_int Try.underlying23 (hval 0 23 v0 rfl rfl)
  obtain ⟨a1, rfl, l1, u1⟩ := arg_int Try.underlying23 (hval 1 23 v1 rfl rfl)
  obtain ⟨a2, rfl⟩ := arg_bool Try.underlying4 (hval 2 4 v2 rfl rfl)
  exact law_end (by kernel_rfl) hW' rfl (by kernel_rfl) Try.underlying4 rfl rfl (walk a0 l0 u0 a1 l1 u1 a2 W)

theorem proved : Rows.SegmentBoundsSaid :=
  OpenClaim.holds_of_wide 6 Try.f6 rfl rfl rfl rfl rfl rfl rfl ⟨rfl, rfl, rfl, rfl, rfl⟩ rfl rfl rfl rfl rfl (by kernel_rfl) Try.func6 (by kernel_rfl)
    (of_decide_eq_true (by kernel_rfl)) (by unfold Func.isWrapper; first | (rw [if_pos (by decide +kernel)]; kernel_rfl) | (rw [if_neg (by decide +kernel)]; exact ⟨rfl, rfl⟩))
    (fun os started H enc _ => lifted os started H enc)
#print axioms proved
end Go.Proofs.Ytjcgpkokndckfaa.segmentBounds
