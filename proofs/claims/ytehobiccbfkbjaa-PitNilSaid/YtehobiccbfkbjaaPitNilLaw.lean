/- 'drawloom/drawloomlaw12.PitNil' answers true for every input. Conditions: none. -/
import Derived.Test.YtehobiccbfkbjaaFrame
import Derived.Test.YtehobiccbfkbjaaPitNew
namespace Go.Proofs.Ytehobiccbfkbjaa.pitNil
open Go.ChangeShapes Go.WideShapes Go.ChangeAt Go.RowKit
set_option linter.unusedVariables false

theorem open_op {w : World} {r0 : Reach} {base : Nat} {v : Value} (h : Value.okWide Try.prog w r0 base 36 v) :
    ∃ (k p x y : Int), v = .agg #[.int .i64 k, .int .i64 p, .int .u8 x, .int .u32 y] ∧ 0 ≤ y ∧ y < 4294967296 := by
  obtain ⟨cs, rfl, hlen, hc⟩ := arg_agg (ts := [3, 3, 5, 23]) Try.underlying36 (by kernel_rfl) (by kernel_rfl) h
  match cs, hlen, hc with
  | [c0, c1, c2, c3], _, hc =>
    obtain ⟨k, rfl, l0, u0⟩ := cell_int Try.underlying3 (hc 0 c0 3 rfl rfl)
    obtain ⟨p, rfl, l1, u1⟩ := cell_int Try.underlying3 (hc 1 c1 3 rfl rfl)
    obtain ⟨x, rfl, l2, u2⟩ := cell_int Try.underlying5 (hc 2 c2 5 rfl rfl)
    obtain ⟨y, rfl, l3, u3⟩ := cell_int Try.underlying23 (hc 3 c3 23 rfl rfl)
    exact ⟨k, p, x, y, rfl, l3, Int.lt_of_le_of_lt u3 (by decide)⟩

set_option maxHeartbeats 2000000 in
theorem walk (k p x y : Int) (y0 : 0 ≤ y) (y1 : y < 4294967296) (w : World) :
    Calls Try.prog 5 #[.agg #[.int .i64 k, .int .i64 p, .int .u8 x, .int .u32 y]] w fun e w' => e = .returned (.bool true) ∧ Below w.heap.size w w' := by
  go_enter Try.func5, Try.ntmps5
  go_wp2_with fail
  refine (awake_any _).mono ?_
  rintro e w1 ⟨rfl, hb1⟩
  have hB1 : Below w.heap.size w w1 := step_below (by go_grown) hb1 (Nat.le_refl _)
  obtain ⟨hc1, hf1⟩ := bcell hb1
  have hz1 := hb1.size
  simp only [World.size_alloc] at hz1 hc1 hf1
  have hz0 : w.heap.size < w1.heap.size := by omega
  go_wp2_with fail
  refine (in_nil _ _ _).mono ?_
  rintro e w2 ⟨rfl, rfl⟩
  go_wp2_with fail
  refine (out_nil _ _ _ _).mono ?_
  rintro e w2 ⟨rfl, rfl⟩
  go_wp2_with fail
  refine (line_nil _ _).mono ?_
  rintro e w2 ⟨rfl, rfl⟩
  go_wp2_with fail
  go_ret
  exact ⟨rfl, by go_grown⟩

set_option maxRecDepth 100000 in
theorem lifted (os : Os) (started : os.Started) (H : Type) (enc : TypeId × Value → H) :
    ReturnsInHanded {} Try.checked os 5 .any (Rows.pitNilSpec.pre6 enc Try.prog Try.f5 Rows.pitNilRow.domain false) (Rows.pitNilSpec.post enc Try.prog Try.f5 false true false false) := by
  refine returnsInHanded_of_change (C := Try.checked) own started (by kernel_rfl) Try.func5
    (ChangeSpec.witness6 (enc := enc) (C := Try.checked) false ⟨#[], #[.agg #[.int .i64 0, .int .i64 0, .int .u8 0, .int .u32 0]], []⟩ 8 (by kernel_rfl) (by kernel_rfl) (by kernel_rfl) (by kernel_rfl)) ?_
  intro W base args ds gs before hval0 hW hcnd _
  have hval : ∀ (j : Nat) t v, Try.f5.params[j]? = some t → args[j]? = some v → Value.okWide Try.prog W .any base t v := hval0
  have hW' := hW
  obtain ⟨p, q, hA0, hV, rfl, hfz, hnd⟩ := hW
  have hA : DataW.TrodAll enc Try.prog W 0 (fun _ => true) true Try.f5.params.toList args.toList ds p := hA0
  rw [Try.params5] at hA hval
  obtain ⟨v0, vs0, d0, ds0, p0, q0, hargs, rfl, rfl, h0, r0⟩ := trodAll_cons hA
  obtain ⟨rfl, rfl, rfl⟩ := trodAll_nil r0
  obtain rfl : args = #[v0] := by cases args; simp_all
  clear hA0 hval0
  obtain ⟨k, p, x, y, rfl, y0, y1⟩ := open_op (hval 0 36 v0 rfl rfl)
  exact law_end (by kernel_rfl) hW' rfl (by kernel_rfl) Try.underlying4 rfl rfl (walk k p x y y0 y1 W)

theorem proved : Rows.PitNilSaid :=
  OpenClaim.holds_of_wide 5 Try.f5 rfl rfl rfl rfl rfl rfl rfl ⟨rfl, rfl, rfl, rfl, rfl⟩ rfl rfl rfl rfl rfl (by kernel_rfl) Try.func5 (by kernel_rfl)
    (of_decide_eq_true (by kernel_rfl)) (by unfold Func.isWrapper; first | (rw [if_pos (by decide +kernel)]; kernel_rfl) | (rw [if_neg (by decide +kernel)]; exact ⟨rfl, rfl⟩))
    (fun os started H enc _ => lifted os started H enc)
#print axioms proved
end Go.Proofs.Ytehobiccbfkbjaa.pitNil
