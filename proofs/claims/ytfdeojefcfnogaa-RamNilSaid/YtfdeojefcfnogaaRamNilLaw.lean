/- 'drawloom/drawloomlaw05.RamNil' answers true for every input. Conditions: none. -/
import Derived.Test.YtfdeojefcfnogaaFrame
import Derived.Test.YtfdeojefcfnogaaRamK
namespace Go.Proofs.Ytfdeojefcfnogaa.ramNil
open Go.ChangeShapes Go.WideShapes Go.ChangeAt Go.RowKit
set_option linter.unusedVariables false

theorem cell_slice {P : Program} {w : World} {r : Reach} {base : Nat} {t e : TypeId} {v : Value} (ht : P.underlying t = some (.slice e)) (h : Cell.okWide P w r base t v) : ∃ a n c, v = .slice a n c := by
  simp only [Cell.okWide, ht] at h
  cases v <;> simp_all [Cell.ok]
theorem open_op {w : World} {r0 : Reach} {base : Nat} {v : Value} (h : Value.okWide Try.prog w r0 base 49 v) :
    ∃ (k a s x : Int) (p : Option Addr) (n c : Nat) (y : Bool), v = .agg #[.int .i64 k, .int .u32 a, .int .i64 s, .int .u32 x, .slice p n c, .bool y] := by
  obtain ⟨cs, rfl, hlen, hc⟩ := arg_agg (ts := [3, 23, 3, 23, 47, 4]) Try.underlying49 (by kernel_rfl) (by kernel_rfl) h
  match cs, hlen, hc with
  | [c0, c1, c2, c3, c4, c5], _, hc =>
    obtain ⟨k, rfl, l0, u0⟩ := cell_int Try.underlying3 (hc 0 c0 3 rfl rfl)
    obtain ⟨r, rfl, l1, u1⟩ := cell_int Try.underlying23 (hc 1 c1 23 rfl rfl)
    obtain ⟨s, rfl, l2, u2⟩ := cell_int Try.underlying3 (hc 2 c2 3 rfl rfl)
    obtain ⟨p, rfl, l3, u3⟩ := cell_int Try.underlying23 (hc 3 c3 23 rfl rfl)
    obtain ⟨q, n, c, rfl⟩ := cell_slice Try.underlying47 (hc 4 c4 47 rfl rfl)
    obtain ⟨y, rfl⟩ := cell_bool Try.underlying4 (hc 5 c5 4 rfl rfl)
    exact ⟨k, r, s, p, q, n, c, y, rfl⟩
theorem read_nil (w : World) (a s : Int) : Calls Try.prog 12 #[.pointer none, .int .u32 a, .int .i64 s] w fun e w' => e = .returned (.tuple #[.int .u32 0, .int .i64 1]) ∧ w = w' := by
  go_enter Try.func12, Try.ntmps12
  go_wp2_with fail
  go_ret2
  exact ⟨rfl, rfl⟩
theorem write_nil (w : World) (a s x : Int) : Calls Try.prog 10 #[.pointer none, .int .u32 a, .int .i64 s, .int .u32 x] w fun e w' => e = .returned (.int .i64 1) ∧ w = w' := by
  go_enter Try.func10, Try.ntmps10
  go_wp2_with fail
  go_ret
  exact ⟨rfl, rfl⟩
theorem rom_nil (w : World) (s : Int) (y : Bool) : Calls Try.prog 13 #[.pointer none, .int .i64 s, .bool y] w fun e w' => e = .returned (.int .i64 1) ∧ w = w' := by
  go_enter Try.func13, Try.ntmps13
  go_wp2_with fail
  go_ret
  exact ⟨rfl, rfl⟩
theorem load_nil (w : World) (a : Int) (v : Value) : Calls Try.prog 22 #[.pointer none, .int .u32 a, v] w fun e w' => e = .returned (.tuple #[]) ∧ w = w' := by
  go_enter Try.func22, Try.ntmps22
  go_wp2_with fail
  go_returns
  exact ⟨rfl, rfl⟩
theorem dump_nil (w : World) (a s : Int) : Calls Try.prog 23 #[.pointer none, .int .u32 a, .int .i64 s] w fun e w' => e = .returned (.slice none 0 0) ∧ w = w' := by
  go_enter Try.func23, Try.ntmps23
  go_wp2_with fail
  go_ret
  exact ⟨rfl, rfl⟩
theorem len_nil (w : World) : Calls Try.prog 20 #[.pointer none] w fun e w' => e = .returned (.int .i64 0) ∧ w = w' := by
  go_enter Try.func20, Try.ntmps20
  go_wp2_with fail
  go_ret
  exact ⟨rfl, rfl⟩
set_option maxHeartbeats 2000000 in
theorem walk (k a s x : Int) (p : Option Addr) (n c : Nat) (y : Bool) (w : World) :
    Calls Try.prog 7 #[.agg #[.int .i64 k, .int .u32 a, .int .i64 s, .int .u32 x, .slice p n c, .bool y]] w fun e w' => e = .returned (.bool true) ∧ Below w.heap.size w w' := by
  go_enter Try.func7, Try.ntmps7
  go_wp2_with fail
  refine (awake_any _).mono ?_
  rintro e w1 ⟨rfl, hb1⟩
  have hB1 : Below w.heap.size w w1 := step_below (by go_grown) hb1 (Nat.le_refl _)
  obtain ⟨hc1, hf1⟩ := bcell hb1
  have hz1 := hb1.size
  simp only [World.size_alloc] at hz1 hc1 hf1
  have hz0 : w.heap.size < w1.heap.size := by omega
  go_wp2_with fail
  refine (read_nil _ _ _).mono ?_
  rintro e w2 ⟨rfl, rfl⟩
  go_wp2_with fail
  refine (gate_nil _ _).mono ?_
  rintro e w2 ⟨rfl, rfl⟩
  go_wp2_with fail
  refine (watch_nil _ _).mono ?_
  rintro e w2 ⟨rfl, rfl⟩
  go_wp2_with fail
  refine (load_nil _ _ _).mono ?_
  rintro e w2 ⟨rfl, rfl⟩
  go_wp2_with fail
  refine (write_nil _ _ _ _).mono ?_
  rintro e w2 ⟨rfl, rfl⟩
  go_wp2_with fail
  refine (rom_nil _ _ _).mono ?_
  rintro e w2 ⟨rfl, rfl⟩
  go_wp2_with fail
  refine (watched_nil _ _).mono ?_
  rintro e w2 ⟨rfl, rfl⟩
  go_wp2_with fail
  refine (written_nil _).mono ?_
  rintro e w2 ⟨rfl, rfl⟩
  go_wp2_with fail
  refine (dump_nil _ _ _).mono ?_
  rintro e w2 ⟨rfl, rfl⟩
  go_wp2_with fail
  refine (len_nil _).mono ?_
  rintro e w2 ⟨rfl, rfl⟩
  go_wp2_with fail
  go_returns
  exact ⟨rfl, by go_grown⟩

set_option maxRecDepth 100000 in
theorem lifted (os : Os) (started : os.Started) (H : Type) (enc : TypeId × Value → H) :
    ReturnsInHanded {} Try.checked os 7 .any (Rows.ramNilSpec.pre6 enc Try.prog Try.f7 Rows.ramNilRow.domain false) (Rows.ramNilSpec.post enc Try.prog Try.f7 false true false false) := by
  refine returnsInHanded_of_change (C := Try.checked) own started (by kernel_rfl) Try.func7
    (ChangeSpec.witness6 (enc := enc) (C := Try.checked) false ⟨#[], #[.agg #[.int .i64 0, .int .u32 0, .int .i64 0, .int .u32 0, .slice none 0 0, .bool false]], []⟩ 8 (by kernel_rfl) (by kernel_rfl) (by kernel_rfl) (by kernel_rfl)) ?_
  intro W base args ds gs before hval0 hW hcnd _
  have hval : ∀ (j : Nat) t v, Try.f7.params[j]? = some t → args[j]? = some v → Value.okWide Try.prog W .any base t v := hval0
  have hW' := hW
  obtain ⟨p, q, hA0, hV, rfl, hfz, hnd⟩ := hW
  have hA : DataW.TrodAll enc Try.prog W 0 (fun _ => true) true Try.f7.params.toList args.toList ds p := hA0
  rw [Try.params7] at hA hval
  obtain ⟨v0, vs0, d0, ds0, p0, q0, hargs, rfl, rfl, h0, r0⟩ := trodAll_cons hA
  obtain ⟨rfl, rfl, rfl⟩ := trodAll_nil r0
  obtain rfl : args = #[v0] := by cases args; simp_all
  clear hA0 hval0
  obtain ⟨k0, a0, s0, x0, p0, n0, c0, y0, rfl⟩ := open_op (hval 0 49 v0 rfl rfl)
  exact law_end (by kernel_rfl) hW' rfl (by kernel_rfl) Try.underlying4 rfl rfl (walk k0 a0 s0 x0 p0 n0 c0 y0 W)

theorem proved : Rows.RamNilSaid :=
  OpenClaim.holds_of_wide 7 Try.f7 rfl rfl rfl rfl rfl rfl rfl ⟨rfl, rfl, rfl, rfl, rfl⟩ rfl rfl rfl rfl rfl (by kernel_rfl) Try.func7 (by kernel_rfl)
    (of_decide_eq_true (by kernel_rfl)) (by unfold Func.isWrapper; first | (rw [if_pos (by decide +kernel)]; kernel_rfl) | (rw [if_neg (by decide +kernel)]; exact ⟨rfl, rfl⟩))
    (fun os started H enc _ => lifted os started H enc)
#print axioms proved
end Go.Proofs.Ytfdeojefcfnogaa.ramNil
