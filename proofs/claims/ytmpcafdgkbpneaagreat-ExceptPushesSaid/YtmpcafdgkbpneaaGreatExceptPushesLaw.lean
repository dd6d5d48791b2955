/- 'drawloom/drawloomlaw18.ExceptPushes' answers true for every input. Conditions: none. -/
import Derived.Test.YtmpcafdgkbpneaaGreatS0
import Derived.Test.YtmpcafdgkbpneaaGreatExPs0
import Derived.Test.YtmpcafdgkbpneaaGreatExPs1
import Derived.Test.YtmpcafdgkbpneaaGreatTp
namespace Go.Proofs.YtmpcafdgkbpneaaGreat.exceptPushes
open Go.ChangeShapes Go.WideShapes Go.ChangeAt Go.RowKit
set_option linter.unusedVariables false

theorem walk (vec : Int) (q1 : -9223372036854775808 ≤ vec) (q2 : vec ≤ 9223372036854775807) (code : Int) (q3 : -9223372036854775808 ≤ code) (q4 : code ≤ 9223372036854775807) (trap : Bool) (fl : Nat) (hfl : fl < 4294967296) (P : Nat) (hP : P < 4294967296) (w : World) :
    Calls Tryz.prog 3 #[.int .i64 vec, .int .i64 code, .bool trap, .int .u32 (fl : Nat), .int .u32 (P : Nat)] w fun e w' => e = .returned (.bool true) ∧ Below w.heap.size w w' := by
 by_cases hc : 0 ≤ code
 ·exact pushes_1 trap vec q1 q2 code q3 q4 hc fl hfl P hP w
 ·exact pushes_0 trap vec q1 q2 code q3 q4 hc fl hfl P hP w

set_option maxRecDepth 100000 in
theorem lifted (os : Os) (started : os.Started) (H : Type) (enc : TypeId × Value → H) :
    ReturnsInHanded {} Tryz.checked os 3 .any (Rows.exceptPushesSpec.pre6 enc Tryz.prog Tryz.f3 Rows.exceptPushesRow.domain false) (Rows.exceptPushesSpec.post enc Tryz.prog Tryz.f3 false true false false) := by
 refine returnsInHanded_of_change (C := Tryz.checked) own started (by kernel_rfl) Tryz.func3
  (ChangeSpec.witness6 (enc := enc) (C := Tryz.checked) false ⟨#[], #[.int .i64 0, .int .i64 0, .bool false, .int .u32 0, .int .u32 0], []⟩ 8 (by kernel_rfl) (by kernel_rfl) (by kernel_rfl) (by kernel_rfl)) ?_
 intro W base args ds gs before hval0 hW hcnd _
 have hval : ∀ (j : Nat) t v, Tryz.f3.params[j]? = some t → args[j]? = some v → Value.okWide Tryz.prog W .any base t v := hval0
 have hW' := hW
 obtain ⟨p, q, hA0, hV, rfl, hfz, hnd⟩ := hW
 have hA : DataW.TrodAll enc Tryz.prog W 0 (fun _ => true) true Tryz.f3.params.toList args.toList ds p := hA0
 rw [Tryz.params3] at hA hval
 obtain ⟨v0, vs0, d0, ds0, p0, q0, hargs, rfl, rfl, h0, r0⟩ := trodAll_cons hA
 obtain ⟨v1, vs1, d1, ds1, p1, q1, rfl, rfl, rfl, h1, r1⟩ := trodAll_cons r0
 obtain ⟨v2, vs2, d2, ds2, p2, q2, rfl, rfl, rfl, h2, r2⟩ := trodAll_cons r1
 obtain ⟨v3, vs3, d3, ds3, p3, q3, rfl, rfl, rfl, h3, r3⟩ := trodAll_cons r2
 obtain ⟨v4, vs4, d4, ds4, p4, q4, rfl, rfl, rfl, h4, r4⟩ := trodAll_cons r3
 obtain ⟨rfl, rfl, rfl⟩ := trodAll_nil r4
 obtain rfl : args = #[v0, v1, v2, v3, v4] := by cases args; simp_all
 clear hA0 hval0
 obtain ⟨a0, rfl, l0, u0⟩ := arg_int Tryz.underlying3 (hval 0 3 v0 rfl rfl)
 obtain ⟨a1, rfl, l1, u1⟩ := arg_int Tryz.underlying3 (hval 1 3 v1 rfl rfl)
 obtain ⟨a2, rfl⟩ := arg_bool Tryz.underlying4 (hval 2 4 v2 rfl rfl)
 obtain ⟨f3, rfl, hf3⟩ := cell_n32 (arg_int Tryz.underlying22 (hval 3 22 v3 rfl rfl))
 obtain ⟨f4, rfl, hf4⟩ := cell_n32 (arg_int Tryz.underlying22 (hval 4 22 v4 rfl rfl))
 exact law_end (by kernel_rfl) hW' rfl (by kernel_rfl) Tryz.underlying4 rfl rfl (walk a0 l0 u0 a1 l1 u1 a2 f3 hf3 f4 hf4 W)

theorem proved : Rows.ExceptPushesSaid :=
 OpenClaim.holds_of_wide 3 Tryz.f3 rfl rfl rfl rfl rfl rfl rfl ⟨rfl, rfl, rfl, rfl, rfl⟩ rfl rfl rfl rfl rfl (by kernel_rfl) Tryz.func3 (by kernel_rfl)
  (of_decide_eq_true (by kernel_rfl)) (by unfold Func.isWrapper; first | (rw [if_pos (by decide +kernel)]; kernel_rfl) | (rw [if_neg (by decide +kernel)]; exact ⟨rfl, rfl⟩))
  (fun os started H enc _ => lifted os started H enc)
#print axioms proved
end Go.Proofs.YtmpcafdgkbpneaaGreat.exceptPushes
