/- ram: one number is sorted. -/
import Derived.Test.YtfdeojefcfnogaaRamI
namespace Go.Proofs.Ytfdeojefcfnogaa
open Go.RowKit
set_option linter.unusedVariables false

set_option maxRecDepth 100000 in
theorem len64_one (w : World) : Calls Try.prog 49 #[.int .u64 1] w fun e w' => e = .returned (.int .i64 1) ∧ w = w' := by
  go_enter Try.func49, Try.ntmps49
  go_wp2_with fail
  go_ret
  exact ⟨by kernel_rfl, rfl⟩
theorem len_one (w : World) : Calls Try.prog 36 #[.int .u64 1] w fun e w' => e = .returned (.int .i64 1) ∧ w = w' := by
  go_enter Try.func36, Try.ntmps36
  go_wp2_with fail
  refine (len64_one _).mono ?_
  rintro e w1 ⟨rfl, rfl⟩
  go_wp2_with fail
  go_ret
  exact ⟨rfl, rfl⟩
theorem insertion_one (w : World) (v : Value) : Calls Try.prog 39 #[v, .int .i64 0, .int .i64 1] w fun e w' => e = .returned (.tuple #[]) ∧ w = w' := by
  go_enter Try.func39, Try.ntmps39
  go_wp2_with fail
  refine wp_loop_rounds 1 ?_
  rw [rounds_succ]
  go_wp2_with fail
  go_end0
  exact ⟨rfl, rfl⟩
theorem pdq_one (w : World) (v : Value) : Calls Try.prog 35 #[v, .int .i64 0, .int .i64 1, .int .i64 1] w fun e w' => e = .returned (.tuple #[]) ∧ w = w' := by
  go_enter Try.func35, Try.ntmps35
  go_wp2_with fail
  refine wp_loop_rounds 1 ?_
  rw [rounds_succ]
  go_wp2_with fail
  refine (insertion_one _ _).mono ?_
  rintro e w1 ⟨rfl, rfl⟩
  go_wp2_with fail
  go_returns
  exact ⟨rfl, rfl⟩
theorem sort_one (w : World) (a : Option Addr) (c : Nat) : Calls Try.prog 27 #[.slice a 1 c] w fun e w' => e = .returned (.tuple #[]) ∧ w = w' := by
  go_enter Try.func27, Try.ntmps27
  go_wp2_with fail
  refine (len_one _).mono ?_
  rintro e w1 ⟨rfl, rfl⟩
  go_wp2_with fail
  refine (pdq_one _ _).mono ?_
  rintro e w1 ⟨rfl, rfl⟩
  go_wp2_with fail
  go_end0
  exact ⟨rfl, rfl⟩
theorem sorts_one : Sorts 1 := by
  intro L wr B g c h1 h0 hx hn hr
  have hl : L.length = 1 := by omega
  rw [hl] at hr ⊢
  refine (sort_one wr _ c).mono ?_
  rintro e w1 ⟨rfl, rfl⟩
  refine ⟨rfl, L, List.Perm.refl _, ?_, by rw [hl]; exact hr, Keeps.refl _ _⟩
  match L, hl with
  | [x], _ => exact List.pairwise_singleton _ _
end Go.Proofs.Ytfdeojefcfnogaa
