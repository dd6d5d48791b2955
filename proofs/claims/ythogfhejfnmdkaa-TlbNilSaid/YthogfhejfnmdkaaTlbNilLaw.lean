/- 'drawloom/drawloomlaw10.TlbNil' answers true for every input. Conditions: none. -/
import Derived.Test.YthogfhejfnmdkaaFrame
import Derived.Test.YthogfhejfnmdkaaTlbF
namespace Go.Proofs.Ythogfhejfnmdkaa.tlbNil
open Go.ChangeShapes Go.WideShapes Go.ChangeAt Go.RowKit
set_option linter.unusedVariables false

open Go.MapKept
theorem open_op {w : World} {r0 : Reach} {base : Nat} {v : Value} (h : Value.okWide Try.prog w r0 base 50 v) :
    ∃ (k c l : Int) (a b d : Bool) (p q : Int), v = .agg #[.int .i64 k, .int .u32 c, .int .u32 l, .bool a, .bool b, .bool d, .int .u32 p, .int .u32 q] := by
  obtain ⟨cs, rfl, hlen, hc⟩ := arg_agg (ts := [3, 36, 36, 4, 4, 4, 36, 36]) Try.underlying50 (by kernel_rfl) (by kernel_rfl) h
  match cs, hlen, hc with
  | [c0, c1, c2, c3, c4, c5, c6, c7], _, hc =>
    obtain ⟨k, rfl, _, _⟩ := cell_int Try.underlying3 (hc 0 c0 3 rfl rfl)
    obtain ⟨c, rfl, _, _⟩ := cell_int Try.underlying36 (hc 1 c1 36 rfl rfl)
    obtain ⟨l, rfl, _, _⟩ := cell_int Try.underlying36 (hc 2 c2 36 rfl rfl)
    obtain ⟨a, rfl⟩ := cell_bool Try.underlying4 (hc 3 c3 4 rfl rfl)
    obtain ⟨b, rfl⟩ := cell_bool Try.underlying4 (hc 4 c4 4 rfl rfl)
    obtain ⟨d, rfl⟩ := cell_bool Try.underlying4 (hc 5 c5 4 rfl rfl)
    obtain ⟨p, rfl, _, _⟩ := cell_int Try.underlying36 (hc 6 c6 36 rfl rfl)
    obtain ⟨q, rfl, _, _⟩ := cell_int Try.underlying36 (hc 7 c7 36 rfl rfl)
    exact ⟨k, c, l, a, b, d, p, q, rfl⟩
set_option maxRecDepth 20000 in
theorem tfind_nil (w : World) (c l : Int) (a b d : Bool) : Calls Try.prog 13 #[.pointer none, .int .u32 c, .int .u32 l, .agg #[.bool a, .bool b, .bool d]] w fun e w' =>
    e = .returned (.tuple #[.agg #[.int .u32 0, .int .u32 0, .int .u32 0, .bool false, .bool false], .int .i64 0, .int .i64 1]) ∧ Below w.heap.size w w' := by
  go_enter Try.func13, Try.ntmps13
  go_wp2_with fail
  go_returns
  exact ⟨rfl, by go_grown⟩
set_option maxHeartbeats 2000000 in
theorem walk (k c l : Int) (a b d : Bool) (p q : Int) (m : Int) (l1 : -9223372036854775808 ≤ m) (u1 : m ≤ 9223372036854775807) (w : World) :
    Calls Try.prog 5 #[.agg #[.int .i64 k, .int .u32 c, .int .u32 l, .bool a, .bool b, .bool d, .int .u32 p, .int .u32 q], .int .i64 m] w fun e w' => e = .returned (.bool true) ∧ Below w.heap.size w w' := by
  go_enter Try.func5, Try.ntmps5
  go_wp2_with fail
  refine (awake_any _).mono ?_
  rintro e w1 ⟨rfl, hb1⟩
  have hB1 : Below w.heap.size w w1 := step_below (by go_grown) hb1 (Nat.le_refl _)
  obtain ⟨hc1, hf1⟩ := bcell hb1
  have hz1 := hb1.size
  simp only [World.size_alloc] at hz1 hc1 hf1
  have hz0 : w.heap.size < w1.heap.size := by omega
  go_wp2_with fail
  refine (tnew_nil _ _).mono ?_
  rintro e w2 ⟨rfl, rfl⟩
  go_wp2_with fail
  refine (tfind_nil _ _ _ _ _ _).mono ?_
  rintro e w2 ⟨rfl, hb2⟩
  have hB2 : Below w.heap.size w w2 := step_below hB1 hb2 (by omega)
  obtain ⟨hc2, hf2⟩ := bcell hb2
  have hz2 := hb2.size
  have hz02 : w.heap.size < w2.heap.size := by omega
  go_wp2_with fail
  refine (flush_nil _).mono ?_
  rintro e w3 ⟨rfl, rfl⟩
  go_wp2_with fail
  refine (drop_nil _ _).mono ?_
  rintro e w3 ⟨rfl, rfl⟩
  go_wp2_with fail
  refine (kept_nil _).mono ?_
  rintro e w3 ⟨rfl, rfl⟩
  go_wp2_with fail
  go_returns
  exact ⟨rfl, by go_grown⟩

set_option maxRecDepth 100000 in
theorem lifted (os : Os) (started : os.Started) (H : Type) (enc : TypeId × Value → H) :
    ReturnsInHanded {} Try.checked os 5 .any (Rows.tlbNilSpec.pre6 enc Try.prog Try.f5 Rows.tlbNilRow.domain false) (Rows.tlbNilSpec.post enc Try.prog Try.f5 false true false false) := by
  refine returnsInHanded_of_change (C := Try.checked) own started (by kernel_rfl) Try.func5
    (ChangeSpec.witness6 (enc := enc) (C := Try.checked) false ⟨#[], #[.agg #[.int .i64 0, .int .u32 0, .int .u32 0, .bool false, .bool false, .bool false, .int .u32 0, .int .u32 0], .int .i64 0], []⟩ 8 (by kernel_rfl) (by kernel_rfl) (by kernel_rfl) (by kernel_rfl)) ?_
  intro W base args ds gs before hval0 hW hcnd _
  have hval : ∀ (j : Nat) t v, Try.f5.params[j]? = some t → args[j]? = some v → Value.okWide Try.prog W .any base t v := hval0
  have hW' := hW
  obtain ⟨p, q, hA0, hV, rfl, hfz, hnd⟩ := hW
  have hA : DataW.TrodAll enc Try.prog W 0 (fun _ => true) true Try.f5.params.toList args.toList ds p := hA0
  rw [Try.params5] at hA hval
  obtain ⟨v0, vs0, d0, ds0, p0, q0, hargs, rfl, rfl, h0, r0⟩ := trodAll_cons hA
  obtain ⟨v1, vs1, d1, ds1, p1, q1, rfl, rfl, rfl, h1, r1⟩ := trodAll_cons r0
  obtain ⟨rfl, rfl, rfl⟩ := trodAll_nil r1
  obtain rfl : args = #[v0, v1] := by cases args; simp_all
  clear hA0 hval0
  obtain ⟨k0, c0, l0, x0, y0, z0, p0, q0, rfl⟩ := open_op (hval 0 50 v0 rfl rfl)
  obtain ⟨a1, rfl, l1, u1⟩ := arg_int Try.underlying3 (hval 1 3 v1 rfl rfl)
  exact law_end (by kernel_rfl) hW' rfl (by kernel_rfl) Try.underlying4 rfl rfl (walk k0 c0 l0 x0 y0 z0 p0 q0 a1 l1 u1 W)

theorem proved : Rows.TlbNilSaid :=
  OpenClaim.holds_of_wide 5 Try.f5 rfl rfl rfl rfl rfl rfl rfl ⟨rfl, rfl, rfl, rfl, rfl⟩ rfl rfl rfl rfl rfl (by kernel_rfl) Try.func5 (by kernel_rfl)
    (of_decide_eq_true (by kernel_rfl)) (by unfold Func.isWrapper; first | (rw [if_pos (by decide +kernel)]; kernel_rfl) | (rw [if_neg (by decide +kernel)]; exact ⟨rfl, rfl⟩))
    (fun os started H enc _ => lifted os started H enc)
#print axioms proved
end Go.Proofs.Ythogfhejfnmdkaa.tlbNil
