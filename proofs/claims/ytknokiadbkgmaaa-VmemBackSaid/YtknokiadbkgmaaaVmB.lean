/- vmem: giving up, and what is caught. -/
import Derived.Test.YtknokiadbkgmaaaVmA
import Derived.Recover
import Derived.Laws.Pointers
namespace Go.Proofs.Ytknokiadbkgmaaa
open Go.RowKit
set_option linter.unusedVariables false

/-- What deep code gives up with. -/
def faultV (vec cd : Int) (cr2 : Nat) : Value := .iface 117 (.agg #[.int .i64 vec, .int .i64 cd, .int .u32 (cr2 : Nat)])
def gaveUp (vec cd : Int) (cr2 : Nat) : Ending := .panicked [{ v := faultV vec cd cr2, recovered := false }]
theorem general_any (vec : Int) (w : World) : Calls Try.prog 35 #[.int .i64 vec] w fun e w' => e = gaveUp vec 0 0 ∧ w = w' := by
  go_enter Try.func35, Try.ntmps35
  go_wp2_with fail
  exact ⟨rfl, rfl, rfl⟩
theorem assert_yes (W : World) (v : Value) : (Instr.typeAssert (.iface 117 v) 20 117 true).run Try.prog W = .ok (.tuple #[v, .bool true]) W := by kernel_rfl
theorem assert_nil (W : World) : (Instr.typeAssert .nilIface 20 117 true).run Try.prog W = .ok (.tuple #[.agg #[.int .i64 0, .int .i64 0, .int .u32 0], .bool false]) W := by kernel_rfl
set_option maxHeartbeats 1000000 in
theorem caught_panic (fb : Nat) (a b c : Value) (vec cd : Int) (cr2 : Nat) (older : List PanicEntry) (w : World) (hf : w.heap[fb]? = some (.cells #[a, b, c] 25)) :
    CallsD Try.prog 31 #[.pointer (some ⟨fb, 0, none⟩)] (.panicking ({ v := faultV vec cd cr2, recovered := false } :: older)) w fun e u' w' =>
      e = .returned (.tuple #[]) ∧ u' = .panicking ({ v := faultV vec cd cr2, recovered := true } :: older) ∧ w'.heap[fb]? = some (.cells #[.int .i64 vec, .int .i64 cd, .int .u32 (cr2 : Nat)] 25) ∧ Keeps (· = fb) w w' := by
  have c0 := cell_at (k := 0) hf
  have c1 := cell_at (k := 1) hf
  have c2 := cell_at (k := 2) hf
  have cf : ∀ k, w.frozen? ⟨fb, k, none⟩ = false := fun k => free_at hf
  have cl := heap_lt hf
  simp at c0 c1 c2
  have HF := Lib.hid hf
  clear hf
  refine callsD_of_wpS Try.func31 rfl fun c₀ cs hu => ?_
  apply wpS_seq
  apply wpS_region
  simp [wpOpsS, go_sem, recoverD, hu, Try.ntmps31, Exit.thenS]
  refine wpS_of_wp ?_
  have ha := fun W v => assert_yes W v
  unfold faultV
  change Code.wp _ _ _ ⟨#[.pointer (some ⟨fb, 0, none⟩), undef, .iface 117 (.agg #[.int .i64 vec, .int .i64 cd, .int .u32 (cr2 : Nat)]), undef, undef, .iface 117 (.agg #[.int .i64 vec, .int .i64 cd, .int .u32 (cr2 : Nat)]), undef, undef, undef, undef, undef, undef, undef, undef, undef, undef, undef, undef, undef], []⟩ w
  go_wp2_with fail
  refine ⟨rfl, _, rfl, .tuple #[], by simp [results, Try.results31, go_sem], rfl, rfl, ?_, ?_⟩
  · exact heap_alloc_lt (by rw [heap_set_map, heap_set_map, heap_set_map, HF.out]; rfl)
  · exact ((((Keeps.refl (· = fb) w).setOne 0 _).setOne 1 _).setOne 2 _).alloc _
set_option maxHeartbeats 1000000 in
theorem caught_idle (fb : Nat) (w : World) :
    CallsD Try.prog 31 #[.pointer (some ⟨fb, 0, none⟩)] .returning w fun e u' w' => e = .returned (.tuple #[]) ∧ u' = .returning ∧ Below w.heap.size w w' := by
  refine callsD_of_wpS Try.func31 rfl fun c₀ cs hu => ?_
  apply wpS_seq
  apply wpS_region
  simp [wpOpsS, go_sem, recoverD, hu, Try.ntmps31, Exit.thenS]
  refine wpS_of_wp ?_
  have ha := fun W => assert_nil W
  change Code.wp _ _ _ ⟨#[.pointer (some ⟨fb, 0, none⟩), undef, .nilIface, undef, undef, .nilIface, undef, undef, undef, undef, undef, undef, undef, undef, undef, undef, undef, undef, undef], []⟩ w
  go_wp2_with fail
  refine ⟨rfl, .returning, by rw [← hu], .tuple #[], by simp [results, Try.results31, go_sem], rfl, rfl, ?_⟩
  exact (Below.refl _ w).alloc (Nat.le_refl _) _
end Go.Proofs.Ytknokiadbkgmaaa
