/- Three objects side by side, each with blocks of its own, all made behind a world. -/
import Derived.Test.YtknokiadbkgmaaaRamB
namespace Go.Proofs.Ytknokiadbkgmaaa
open Go.RowKit
set_option linter.unusedVariables false

structure Sep (w0 w : World) (A B C : Nat → Prop) : Prop where
  ab : ∀ k, A k → ¬ B k
  bc : ∀ k, B k → ¬ C k
  ca : ∀ k, C k → ¬ A k
  la : ∀ k, A k → w0.heap.size ≤ k
  lb : ∀ k, B k → w0.heap.size ≤ k
  lc : ∀ k, C k → w0.heap.size ≤ k
  ha : ∀ k, A k → k < w.heap.size
  hb : ∀ k, B k → k < w.heap.size
  hc : ∀ k, C k → k < w.heap.size
  B : Below w0.heap.size w0 w
def none_ : Nat → Prop := fun _ => False
section
variable {w0 w w' : World} {A A' B C : Nat → Prop}
theorem Sep.rot (s : Sep w0 w A B C) : Sep w0 w B C A := ⟨s.bc, s.ca, s.ab, s.lb, s.lc, s.la, s.hb, s.hc, s.ha, s.B⟩
theorem Sep.zero (w : World) : Sep w w none_ none_ none_ :=
  ⟨fun _ h => h.elim, fun _ h => h.elim, fun _ h => h.elim, fun _ h => h.elim, fun _ h => h.elim, fun _ h => h.elim, fun _ h => h.elim, fun _ h => h.elim, fun _ h => h.elim, Below.refl _ _⟩
/-- The first one moves. -/
theorem Sep.move (s : Sep w0 w A B C) (M : Moves A A' w w') (hl : ∀ k, A' k → k < w'.heap.size) : Sep w0 w' A' B C := by
  have hsz := M.1.size
  have h0 := s.B.size
  refine ⟨fun k h b => ?_, s.bc, fun k c h => ?_, fun k h => ?_, s.lb, s.lc, hl, fun k h => Nat.lt_of_lt_of_le (s.hb k h) hsz, fun k h => Nat.lt_of_lt_of_le (s.hc k h) hsz, Keeps.toBelow s.B M.1 h0 s.la⟩
  · rcases M.2 k h with h | h
    · exact s.ab k h b
    · have := s.hb k b; omega
  · rcases M.2 k h with h | h
    · exact s.ca k c h
    · have := s.hc k c; omega
  · rcases M.2 k h with h | h
    · exact s.la k h
    · exact Nat.le_trans h0 h
theorem Sep.same_b (s : Sep w0 w A B C) (M : Moves A A' w w') {k : Nat} (h : B k) : w'.heap[k]? = w.heap[k]? := M.1.block k (s.hb k h) fun a => s.ab k a h
theorem Sep.same_c (s : Sep w0 w A B C) (M : Moves A A' w w') {k : Nat} (h : C k) : w'.heap[k]? = w.heap[k]? := M.1.block k (s.hc k h) fun a => s.ca k h a
theorem Sep.below (s : Sep w0 w A B C) (hb : Below w.heap.size w w') : Sep w0 w' A B C :=
  ⟨s.ab, s.bc, s.ca, s.la, s.lb, s.lc, fun k h => Nat.lt_of_lt_of_le (s.ha k h) hb.size, fun k h => Nat.lt_of_lt_of_le (s.hb k h) hb.size, fun k h => Nat.lt_of_lt_of_le (s.hc k h) hb.size, step_below s.B hb (Nat.le_refl _)⟩
/-- A new one comes. -/
theorem Sep.new (s : Sep w0 w none_ B C) (hb : Below w.heap.size w w') (hn : ∀ k, A k → w.heap.size ≤ k ∧ k < w'.heap.size) : Sep w0 w' A B C := by
  have h0 := s.B.size
  have s' := s.below hb
  exact ⟨fun k h b => by have := s.hb k b; have := hn k h; omega, s.bc, fun k c h => by have := s.hc k c; have := hn k h; omega, fun k h => Nat.le_trans h0 (hn k h).1, s.lb, s.lc, fun k h => (hn k h).2, s'.hb, s'.hc, s'.B⟩
end
theorem Moves.below {S S' : Nat → Prop} {w w1 w2 : World} (M : Moves S S' w w1) (hb : Below w1.heap.size w1 w2) : Moves S S' w w2 := ⟨M.1.below hb, M.2⟩
end Go.Proofs.Ytknokiadbkgmaaa
