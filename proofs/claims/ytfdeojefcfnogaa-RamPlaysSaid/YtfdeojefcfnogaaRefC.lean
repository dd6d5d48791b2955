/- the document's memory: New. -/
import Derived.Test.YtfdeojefcfnogaaRefB
namespace Go.Proofs.Ytfdeojefcfnogaa
open Go.RowKit Go.MapKept
set_option linter.unusedVariables false

theorem make_bools (w : World) (n : Nat) (h : n ≤ 281474976710656) (x y : Int) (hx : x = (n : Int)) (hy : y = (n : Int)) :
    (Instr.makeSlice 51 (.int .i64 x) (.int .i64 y)).run Try.prog w = .ok (.slice (some ⟨w.heap.size, 0, .none⟩) n n) (w.alloc (.cells (fresh n (.bool false)) 4)) :=
  make_run w _ _ _ 1 n Try.underlying51 (by kernel_rfl) rfl (by omega) (by omega) x y hx hy
theorem alloc_heap (w : World) (o : Obj) : (w.alloc o).heap = w.heap.push o := rfl
theorem rnew_close {w w' : World} {n b g0 g1 g2 g3 : Nat} (h1 : 1 ≤ n) (h2 : n ≤ 256)
    (o : w'.heap[b]? = some (.cells #[.slice (some ⟨g0, 0, none⟩) (n * 4096) (n * 4096), .slice (some ⟨g1, 0, none⟩) n n, .slice (some ⟨g2, 0, none⟩) (n * 64) (n * 64), .slice (some ⟨g3, 0, none⟩) (n * 64) (n * 64), .bool false] 53))
    (r0 : w'.heap[g0]? = some (.cells (fresh (n * 4096) (.int .u8 0)) 5)) (r1 : w'.heap[g1]? = some (.cells (fresh n (.bool false)) 4)) (r2 : w'.heap[g2]? = some (.cells (fresh (n * 64) (.bool false)) 4)) (r3 : w'.heap[g3]? = some (.cells (fresh (n * 64) (.bool false)) 4))
    (d : g1 ≠ g2 ∧ g1 ≠ g3 ∧ g2 ≠ g3) (lo : w.heap.size ≤ b ∧ w.heap.size ≤ g0 ∧ w.heap.size ≤ g1 ∧ w.heap.size ≤ g2 ∧ w.heap.size ≤ g3) (hb : Below w.heap.size w w') :
    ∃ b' S, Ending.returned (.tuple #[.pointer (some ⟨b, 0, .none⟩), .int .i64 0]) = .returned (.tuple #[.pointer (some ⟨b', 0, .none⟩), .int .i64 0]) ∧ Ref w' b' S (RS.new n) ∧ (∀ k, S k → w.heap.size ≤ k) ∧ Below w.heap.size w w' := by
  refine ⟨b, RefOwned b g0 g1 g2 g3, rfl, ⟨g0, g1, g2, g3, { obj := o, r0 := ?_, r1 := ?_, r2 := ?_, r3 := ?_, d1 := d.1, d2 := d.2.1, d3 := d.2.2, ok := RS.new_ok h1 h2 }, fun k => Iff.rfl⟩, ?_, hb⟩
  · rw [r0, byteCells_zero]; rfl
  · rw [r1, boolCells_no]; rfl
  · rw [r2, boolCells_no]; rfl
  · rw [r3, boolCells_no]; rfl
  · rintro k (rfl | rfl | rfl | rfl | rfl)
    · exact lo.1
    · exact lo.2.1
    · exact lo.2.2.1
    · exact lo.2.2.2.1
    · exact lo.2.2.2.2
set_option maxHeartbeats 8000000 in
theorem rnew_any (w : World) (n : Nat) (h1 : 1 ≤ n) (h2 : n ≤ 256) :
    Calls Try.prog 18 #[.int .i64 n] w fun e w' => ∃ b S, e = .returned (.tuple #[.pointer (some ⟨b, 0, .none⟩), .int .i64 0]) ∧ Ref w' b S (RS.new n) ∧ (∀ k, S k → w.heap.size ≤ k) ∧ Below w.heap.size w w' := by
  have e64 : IntKind.i64.wrap (((n : Int) * 4096).tdiv 64) = ((n * 64 : Nat) : Int) := by rw [Int.tdiv_eq_ediv_of_nonneg (by omega), IntKind.wrap_i64]; omega
  have m0 := fun w => make_bytes w (n * 4096) (by omega) ((n : Int) * 4096) ((n : Int) * 4096) (by omega) (by omega)
  have m1 := fun w => make_bools w n (by omega) (n : Int) (n : Int) (by omega) (by omega)
  have m2 := fun w => make_bools w (n * 64) (by omega) (IntKind.i64.wrap (((n : Int) * 4096).tdiv 64)) (IntKind.i64.wrap (((n : Int) * 4096).tdiv 64)) e64 e64
  clear e64
  go_enter Try.func18, Try.ntmps18
  go_wp2_with fail
  go_region_held3 (fun w' => True) (trivial) (fail)
  all_goals
    clear m0 m1 m2
    go_wp2_with fail
    go_ret2
    refine rnew_close h1 h2 (by rw [heap_drew]; exact heap_at _ _ _ (by simp)) ?_ ?_ ?_ ?_ (by omega) (by omega) (by go_grown)
    all_goals simp only [heap_drew, alloc_heap, Array.getElem?_push, Array.size_push]
    all_goals (repeat (first | rw [if_neg (by omega)] | rw [if_pos (by omega)]))
set_option maxHeartbeats 1000000 in
theorem rnew_bad (w : World) (n : Int) (h : n < 1 ∨ 256 < n) :
    Calls Try.prog 18 #[.int .i64 n] w fun e w' => e = .returned (.tuple #[.pointer .none, .int .i64 50]) ∧ w = w' := by
  rcases h with h | h
  all_goals
    go_enter Try.func18, Try.ntmps18
    go_wp2_with fail
    go_ret2
    exact ⟨rfl, rfl⟩
end Go.Proofs.Ytfdeojefcfnogaa
