/- uart: a new one; a register is written. -/
import Derived.Test.YtliiccmpfmgioaaUartC
import Derived.Deep.CutRange
namespace Go.Proofs.Ytliiccmpfmgioaa
open Go.RowKit Go.Conc
set_option linter.unusedVariables false

def Ut.new : Ut := ⟨[], false, false, false, 0, 0, 0, 0, 0, 0, []⟩
theorem Ut.new_ok : Ut.new.ok := ⟨by decide, (fun x hx => by cases hx), by decide, by decide, by decide, by decide, by decide, by decide, (fun x hx => by cases hx)⟩
theorem bytes8 : ∃ i, Try.prog.info? 5 = some i ∧ i.bytes = 1 := by
  have h : (Try.prog.info? 5).map (·.bytes) = some 1 := by kernel_rfl
  obtain ⟨i, hi, hb⟩ := Option.map_eq_some_iff.1 h
  exact ⟨i, hi, hb⟩
theorem mk16 (w : World) : (Instr.makeChan 41 (.int .i64 16)).run Try.prog w = .ok (.chan (some w.heap.size)) (w.alloc (.chan 16 #[] false 0 0 false)) := by
  obtain ⟨i, hi, hb⟩ := bytes8
  simpa using run_makeChan (P := Try.prog) (w := w) Try.underlying41 hi .i64 16 (by omega) (by rw [hb]; omega)
theorem new_any (w : World) : Calls Try.prog 9 #[] w fun e w' => ∃ b q, e = .returned (.pointer (some ⟨b, 0, none⟩)) ∧ UtIn w' b q (.slice none 0 0) Ut.new ∧ w.heap.size ≤ b ∧ w.heap.size ≤ q ∧ Below w.heap.size w w' := by
  have hmk := mk16
  go_enter Try.func9, Try.ntmps9
  go_wp2_with fail
  go_ret
  refine ⟨w.heap.size + 1, w.heap.size, rfl, ⟨?_, ⟨0, 0, ?_⟩, World.ownsRow_nil _ _ _ _, Ut.new_ok⟩, by omega, Nat.le_refl _, ((Below.refl _ _).alloc (Nat.le_refl _) _).alloc (by simp) _⟩
  · have := heap_new (w.alloc (.chan 16 #[] false 0 0 false)) (.cells (Ut.new.cells w.heap.size (.slice none 0 0)).toArray 44)
    rw [World.size_alloc] at this
    exact this
  · exact heap_alloc_lt (heap_new w _)
end Go.Proofs.Ytliiccmpfmgioaa
