/- 'drawloom/drawloomlaw18.ExceptRefuses' answers true for every input. Conditions: none. -/
import Derived.Test.YtmpcafdgkbpneaaGreatS0
import Derived.Test.YtmpcafdgkbpneaaGreatExRf0
import Derived.Test.YtmpcafdgkbpneaaGreatExRf1
import Derived.Test.YtmpcafdgkbpneaaGreatExRf2
import Derived.Test.YtmpcafdgkbpneaaGreatExRf3
import Derived.Test.YtmpcafdgkbpneaaGreatExRf4
namespace Go.Proofs.YtmpcafdgkbpneaaGreat.exceptRefuses
open Go.ChangeShapes Go.WideShapes Go.ChangeAt Go.RowKit
set_option linter.unusedVariables false

theorem walk (vec : Int) (q1 : -9223372036854775808 ≤ vec) (q2 : vec ≤ 9223372036854775807) (how : Int) (q3 : -9223372036854775808 ≤ how) (q4 : how ≤ 9223372036854775807) (soft : Bool) (w : World) :
    Calls Tryz.prog 8 #[.int .i64 vec, .int .i64 how, .bool soft] w fun e w' => e = .returned (.bool true) ∧ Below w.heap.size w w' := by
 obtain ⟨h4, hh, hw⟩ := vecN_mod how 4 (by decide)
 rcases (show h4 = 0 ∨ h4 = 1 ∨ h4 = 2 ∨ h4 = 3 by omega) with rfl | rfl | rfl | rfl
 ·exact refuses_0 vec q1 q2 how q3 q4 soft hw w
 ·exact refuses_1 vec q1 q2 how q3 q4 soft hw w
 ·exact refuses_2 vec q1 q2 how q3 q4 soft hw w
 ·cases soft
  ·exact refuses_3 vec q1 q2 how q3 q4 false rfl hw w
  ·exact refuses_4 vec q1 q2 how q3 q4 true rfl hw w

set_option maxRecDepth 100000 in
theorem lifted (os : Os) (started : os.Started) (H : Type) (enc : TypeId × Value → H) :
    ReturnsInHanded {} Tryz.checked os 8 .any (Rows.exceptRefusesSpec.pre6 enc Tryz.prog Tryz.f8 Rows.exceptRefusesRow.domain false) (Rows.exceptRefusesSpec.post enc Tryz.prog Tryz.f8 false true false false) := by
 refine returnsInHanded_of_change (C := Tryz.checked) own started (by kernel_rfl) Tryz.func8
  (ChangeSpec.witness6 (enc := enc) (C := Tryz.checked) false ⟨#[], #[.int .i64 0, .int .i64 0, .bool false], []⟩ 8 (by kernel_rfl) (by kernel_rfl) (by kernel_rfl) (by kernel_rfl)) ?_
 intro W base args ds gs before hval0 hW hcnd _
 have hval : ∀ (j : Nat) t v, Tryz.f8.params[j]? = some t → args[j]? = some v → Value.okWide Tryz.prog W .any base t v := hval0
 have hW' := hW
 obtain ⟨p, q, hA0, hV, rfl, hfz, hnd⟩ := hW
 have hA : DataW.TrodAll enc Tryz.prog W 0 (fun _ => true) true Tryz.f8.params.toList args.toList ds p := hA0
 rw [Tryz.params8] at hA hval
 obtain ⟨v0, vs0, d0, ds0, p0, q0, hargs, rfl, rfl, h0, r0⟩ := trodAll_cons hA
 obtain ⟨v1, vs1, d1, ds1, p1, q1, rfl, rfl, rfl, h1, r1⟩ := trodAll_cons r0
 obtain ⟨v2, vs2, d2, ds2, p2, q2, rfl, rfl, rfl, h2, r2⟩ := trodAll_cons r1
 obtain ⟨rfl, rfl, rfl⟩ := trodAll_nil r2
 obtain rfl : args = #[v0, v1, v2] := by cases args; simp_all
 clear hA0 hval0
 obtain ⟨a0, rfl, l0, u0⟩ := arg_int Tryz.underlying3 (hval 0 3 v0 rfl rfl)
 obtain ⟨a1, rfl, l1, u1⟩ := arg_int Tryz.underlying3 (hval 1 3 v1 rfl rfl)
 obtain ⟨a2, rfl⟩ := arg_bool Tryz.underlying4 (hval 2 4 v2 rfl rfl)
 exact law_end (by kernel_rfl) hW' rfl (by kernel_rfl) Tryz.underlying4 rfl rfl (walk a0 l0 u0 a1 l1 u1 a2 W)

theorem proved : Rows.ExceptRefusesSaid :=
 OpenClaim.holds_of_wide 8 Tryz.f8 rfl rfl rfl rfl rfl rfl rfl ⟨rfl, rfl, rfl, rfl, rfl⟩ rfl rfl rfl rfl rfl (by kernel_rfl) Tryz.func8 (by kernel_rfl)
  (of_decide_eq_true (by kernel_rfl)) (by unfold Func.isWrapper; first | (rw [if_pos (by decide +kernel)]; kernel_rfl) | (rw [if_neg (by decide +kernel)]; exact ⟨rfl, rfl⟩))
  (fun os started H enc _ => lifted os started H enc)
#print axioms proved
end Go.Proofs.YtmpcafdgkbpneaaGreat.exceptRefuses
