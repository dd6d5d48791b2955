/- 'drawloom/drawloomlaw09.PageNil' answers true for every input. Conditions: none. -/
import Derived.Test.YtipkfbfmpnilmaaFrame
import Derived.Test.YtipkfbfmpnilmaaPAwake
namespace Go.Proofs.Ytipkfbfmpnilmaa.pageNil
open Go.ChangeShapes Go.WideShapes Go.ChangeAt Go.RowKit
set_option linter.unusedVariables false

open Go.MapKept
theorem open_ask {w : World} {r0 : Reach} {base : Nat} {v : Value} (h : Value.okWide Try.prog w r0 base 26 v) :
    ∃ (c l : Int) (a b d : Bool), v = .agg #[.int .u32 c, .int .u32 l, .bool a, .bool b, .bool d] ∧ 0 ≤ c ∧ c < 4294967296 ∧ 0 ≤ l ∧ l < 4294967296 := by
  obtain ⟨cs, rfl, hlen, hc⟩ := arg_agg (ts := [22, 22, 4, 4, 4]) Try.underlying26 (by kernel_rfl) (by kernel_rfl) h
  match cs, hlen, hc with
  | [c0, c1, c2, c3, c4], _, hc =>
    obtain ⟨k, rfl, l0, u0⟩ := cell_int Try.underlying22 (hc 0 c0 22 rfl rfl)
    obtain ⟨p, rfl, l1, u1⟩ := cell_int Try.underlying22 (hc 1 c1 22 rfl rfl)
    obtain ⟨a, rfl⟩ := cell_bool Try.underlying4 (hc 2 c2 4 rfl rfl)
    obtain ⟨b, rfl⟩ := cell_bool Try.underlying4 (hc 3 c3 4 rfl rfl)
    obtain ⟨d, rfl⟩ := cell_bool Try.underlying4 (hc 4 c4 4 rfl rfl)
    exact ⟨k, p, a, b, d, rfl, l0, Int.lt_of_le_of_lt u0 (by decide), l1, Int.lt_of_le_of_lt u1 (by decide)⟩

set_option maxHeartbeats 2000000 in
theorem walk (c l : Int) (a b d : Bool) (w : World) :
    Calls Try.prog 3 #[.agg #[.int .u32 c, .int .u32 l, .bool a, .bool b, .bool d]] w fun e w' => e = .returned (.bool true) ∧ Below w.heap.size w w' := by
  go_enter Try.func3, Try.ntmps3
  go_wp2_with fail
  refine (awake_any _).mono ?_
  rintro e w1 ⟨rfl, hb1⟩
  have hB1 : Below w.heap.size w w1 := step_below (by go_grown) hb1 (Nat.le_refl _)
  obtain ⟨hc1, hf1⟩ := bcell hb1
  have hz1 := hb1.size
  simp only [World.size_alloc] at hz1 hc1 hf1
  have hz0 : w.heap.size < w1.heap.size := by omega
  go_wp2_with fail
  refine (find_nil _ _ _ _ _ _).mono ?_
  rintro e w2 ⟨rfl, hb2⟩
  have hB2 : Below w.heap.size w w2 := step_below hB1 hb2 (by omega)
  have ev : walk0.val = .agg #[.int .u32 0, .int .u32 0, .int .u32 0, .bool false, .bool false] := rfl
  rw [ev]
  clear ev
  have hz2 := hb2.size
  go_wp2_with fail
  go_returns
  exact ⟨rfl, by go_grown⟩

set_option maxRecDepth 100000 in
theorem lifted (os : Os) (started : os.Started) (H : Type) (enc : TypeId × Value → H) :
    ReturnsInHanded {} Try.checked os 3 .any (Rows.pageNilSpec.pre6 enc Try.prog Try.f3 Rows.pageNilRow.domain false) (Rows.pageNilSpec.post enc Try.prog Try.f3 false true false false) := by
  refine returnsInHanded_of_change (C := Try.checked) own started (by kernel_rfl) Try.func3
    (ChangeSpec.witness6 (enc := enc) (C := Try.checked) false ⟨#[], #[.agg #[.int .u32 0, .int .u32 0, .bool false, .bool false, .bool false]], []⟩ 8 (by kernel_rfl) (by kernel_rfl) (by kernel_rfl) (by kernel_rfl)) ?_
  intro W base args ds gs before hval0 hW hcnd _
  have hval : ∀ (j : Nat) t v, Try.f3.params[j]? = some t → args[j]? = some v → Value.okWide Try.prog W .any base t v := hval0
  have hW' := hW
  obtain ⟨p, q, hA0, hV, rfl, hfz, hnd⟩ := hW
  have hA : DataW.TrodAll enc Try.prog W 0 (fun _ => true) true Try.f3.params.toList args.toList ds p := hA0
  rw [Try.params3] at hA hval
  obtain ⟨v0, vs0, d0, ds0, p0, q0, hargs, rfl, rfl, h0, r0⟩ := trodAll_cons hA
  obtain ⟨rfl, rfl, rfl⟩ := trodAll_nil r0
  obtain rfl : args = #[v0] := by cases args; simp_all
  clear hA0 hval0
  obtain ⟨c0, l0, x0, y0, z0, rfl, _, _, _, _⟩ := open_ask (hval 0 26 v0 rfl rfl)
  exact law_end (by kernel_rfl) hW' rfl (by kernel_rfl) Try.underlying4 rfl rfl (walk c0 l0 x0 y0 z0 W)

theorem proved : Rows.PageNilSaid :=
  OpenClaim.holds_of_wide 3 Try.f3 rfl rfl rfl rfl rfl rfl rfl ⟨rfl, rfl, rfl, rfl, rfl⟩ rfl rfl rfl rfl rfl (by kernel_rfl) Try.func3 (by kernel_rfl)
    (of_decide_eq_true (by kernel_rfl)) (by unfold Func.isWrapper; first | (rw [if_pos (by decide +kernel)]; kernel_rfl) | (rw [if_neg (by decide +kernel)]; exact ⟨rfl, rfl⟩))
    (fun os started H enc _ => lifted os started H enc)
#print axioms proved
end Go.Proofs.Ytipkfbfmpnilmaa.pageNil
