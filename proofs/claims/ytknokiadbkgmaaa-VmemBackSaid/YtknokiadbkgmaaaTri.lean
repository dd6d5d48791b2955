/- Three objects side by side, whatever they are, and boxes beside them that stay as they are. -/
import Derived.Test.YtknokiadbkgmaaaSep
namespace Go.Proofs.Ytknokiadbkgmaaa
open Go.RowKit
set_option linter.unusedVariables false

/-- What says something of an object's own blocks alone. -/
def Local (P : World → (Nat → Prop) → Prop) : Prop := ∀ w w' H, P w H → (∀ k, H k → w'.heap[k]? = w.heap[k]?) → P w' H
def Nothing : World → (Nat → Prop) → Prop := fun _ H => ∀ k, ¬ H k
theorem Nothing.local : Local Nothing := fun _ _ _ h _ => h
/-- Three objects, and boxes F, which are as they were in wF. -/
def Tri (w0 w : World) (PA PB PC : World → (Nat → Prop) → Prop) (F : Nat → Prop) (wF : World) : Prop :=
  ∃ A B C, Sep w0 w A B C ∧ PA w A ∧ PB w B ∧ PC w C ∧ ∀ k, F k → k < w.heap.size ∧ ¬ A k ∧ ¬ B k ∧ ¬ C k ∧ w0.heap.size ≤ k ∧ w.heap[k]? = wF.heap[k]?
section
variable {w0 w w' wF : World} {PA PA' PB PC : World → (Nat → Prop) → Prop} {F : Nat → Prop}
theorem Tri.rot (T : Tri w0 w PA PB PC F wF) : Tri w0 w PB PC PA F wF := by
  obtain ⟨A, B, C, s, a, b, c, f⟩ := T
  exact ⟨B, C, A, s.rot, b, c, a, fun k h => ⟨(f k h).1, (f k h).2.2.1, (f k h).2.2.2.1, (f k h).2.1, (f k h).2.2.2.2⟩⟩
theorem Tri.B (T : Tri w0 w PA PB PC F wF) : Below w0.heap.size w0 w := by
  obtain ⟨A, B, C, s, _⟩ := T; exact s.B
theorem Tri.zero (w : World) : Tri w w Nothing Nothing Nothing none_ w := ⟨none_, none_, none_, Sep.zero w, fun _ h => h, fun _ h => h, fun _ h => h, fun _ h => h.elim⟩
theorem Tri.below (T : Tri w0 w PA PB PC F wF) (LA : Local PA) (LB : Local PB) (LC : Local PC) (hb : Below w.heap.size w w') : Tri w0 w' PA PB PC F wF := by
  obtain ⟨A, B, C, s, a, b, c, f⟩ := T
  exact ⟨A, B, C, s.below hb, LA _ _ _ a fun k h => hb.block k (s.ha k h), LB _ _ _ b fun k h => hb.block k (s.hb k h), LC _ _ _ c fun k h => hb.block k (s.hc k h),
    fun k h => ⟨Nat.lt_of_lt_of_le (f k h).1 hb.size, (f k h).2.1, (f k h).2.2.1, (f k h).2.2.2.1, (f k h).2.2.2.2.1, (hb.block k (f k h).1).trans (f k h).2.2.2.2.2⟩⟩
/-- Other boxes: some of the old ones, and new blocks. -/
theorem Tri.boxes (T : Tri w0 w PA PB PC F wF) (LA : Local PA) (LB : Local PB) (LC : Local PC) (hb : Below w.heap.size w w') {F' : Nat → Prop} (hF : ∀ k, F' k → F k ∨ (w.heap.size ≤ k ∧ k < w'.heap.size)) : Tri w0 w' PA PB PC F' w' := by
  obtain ⟨A, B, C, s, a, b, c, f⟩ := T.below LA LB LC hb
  obtain ⟨A1, B1, C1, s1, a1, b1, c1, f1⟩ := T
  refine ⟨A1, B1, C1, s1.below hb, LA _ _ _ a1 fun k h => hb.block k (s1.ha k h), LB _ _ _ b1 fun k h => hb.block k (s1.hb k h), LC _ _ _ c1 fun k h => hb.block k (s1.hc k h), fun k h => ?_⟩
  rcases hF k h with h | ⟨h1, h2⟩
  · exact ⟨Nat.lt_of_lt_of_le (f1 k h).1 hb.size, (f1 k h).2.1, (f1 k h).2.2.1, (f1 k h).2.2.2.1, (f1 k h).2.2.2.2.1, rfl⟩
  · exact ⟨h2, fun h => by have := s1.ha k h; omega, fun h => by have := s1.hb k h; omega, fun h => by have := s1.hc k h; omega, Nat.le_trans s1.B.size h1, rfl⟩
theorem Tri.drop (T : Tri w0 w PA PB PC F wF) : Tri w0 w PA PB PC none_ w := by
  obtain ⟨A, B, C, s, a, b, c, f⟩ := T
  exact ⟨A, B, C, s, a, b, c, fun _ h => h.elim⟩
/-- A box is as it was. -/
theorem Tri.box (T : Tri w0 w PA PB PC F wF) {k : Nat} (h : F k) : w.heap[k]? = wF.heap[k]? := by
  obtain ⟨A, B, C, s, a, b, c, f⟩ := T
  exact (f k h).2.2.2.2.2
/-- A box is written to. -/
theorem Tri.touch (T : Tri w0 w PA PB PC F wF) (LA : Local PA) (LB : Local PB) (LC : Local PC) {g : Nat} (hg : F g) (hk : Keeps (· = g) w w') : Tri w0 w' PA PB PC F w' := by
  obtain ⟨A, B, C, s, a, b, c, f⟩ := T
  obtain ⟨g1, g2, g3, g4, g5, -⟩ := f g hg
  have hh : ∀ k, k < w.heap.size → k ≠ g → w'.heap[k]? = w.heap[k]? := fun k h1 h2 => hk.block k h1 h2
  refine ⟨A, B, C, ⟨s.ab, s.bc, s.ca, s.la, s.lb, s.lc, fun k h => Nat.lt_of_lt_of_le (s.ha k h) hk.size, fun k h => Nat.lt_of_lt_of_le (s.hb k h) hk.size, fun k h => Nat.lt_of_lt_of_le (s.hc k h) hk.size, Keeps.toBelow s.B hk s.B.size fun i h => by rw [h]; exact g5⟩,
    LA _ _ _ a fun k h => hh k (s.ha k h) (fun e => g2 (by rw [← e]; exact h)), LB _ _ _ b fun k h => hh k (s.hb k h) (fun e => g3 (by rw [← e]; exact h)), LC _ _ _ c fun k h => hh k (s.hc k h) (fun e => g4 (by rw [← e]; exact h)), fun k h => ?_⟩
  obtain ⟨h1, h2, h3, h4, h5, -⟩ := f k h
  exact ⟨Nat.lt_of_lt_of_le h1 hk.size, h2, h3, h4, h5, rfl⟩
/-- What is done to the first one. -/
theorem Tri.call {P : Program} {f : FuncId} {args : Array Value} {Q : Ending → Prop} (T : Tri w0 w PA PB PC F wF) (LB : Local PB) (LC : Local PC)
    (hc : ∀ A, PA w A → Calls P f args w fun e w' => Q e ∧ ∃ A', PA' w' A' ∧ Moves A A' w w' ∧ ∀ k, A' k → k < w'.heap.size) : Calls P f args w fun e w' => Q e ∧ Tri w0 w' PA' PB PC F wF := by
  obtain ⟨A, B, C, s, a, b, c, g⟩ := T
  refine (hc A a).mono ?_
  rintro e w' ⟨hq, A', a', M, hl⟩
  refine ⟨hq, A', B, C, s.move M hl, a', LB _ _ _ b fun k h => s.same_b M h, LC _ _ _ c fun k h => s.same_c M h, fun k h => ?_⟩
  obtain ⟨h1, h2, h3, h4, h6, h5⟩ := g k h
  refine ⟨Nat.lt_of_lt_of_le h1 M.1.size, fun h => ?_, h3, h4, h6, (M.1.block k h1 h2).trans h5⟩
  rcases M.2 k h with h | h
  · exact h2 h
  · omega
/-- A question to the first one. -/
theorem Tri.ask {P : Program} {f : FuncId} {args : Array Value} {Q : Ending → World → Prop} (T : Tri w0 w PA PB PC F wF) (hc : ∀ A, PA w A → Calls P f args w Q) : Calls P f args w Q := by
  obtain ⟨A, B, C, s, a, b, c, g⟩ := T
  exact hc A a
/-- A new first one. -/
theorem Tri.new (T : Tri w0 w Nothing PB PC F wF) (LB : Local PB) (LC : Local PC) (hb : Below w.heap.size w w') {A : Nat → Prop} (a : PA' w' A) (hA : ∀ k, A k → w.heap.size ≤ k ∧ k < w'.heap.size) : Tri w0 w' PA' PB PC F wF := by
  obtain ⟨A0, B, C, s, a0, b, c, g⟩ := T
  have h0 := s.B.size
  have s' := s.below hb
  refine ⟨A, B, C, ⟨fun k h b => by have := s.hb k b; have := hA k h; omega, s.bc, fun k c h => by have := s.hc k c; have := hA k h; omega, fun k h => Nat.le_trans h0 (hA k h).1, s.lb, s.lc, fun k h => (hA k h).2, s'.hb, s'.hc, s'.B⟩, a,
    LB _ _ _ b fun k h => hb.block k (s.hb k h), LC _ _ _ c fun k h => hb.block k (s.hc k h), fun k h => ?_⟩
  obtain ⟨h1, h2, h3, h4, h6, h5⟩ := g k h
  exact ⟨Nat.lt_of_lt_of_le h1 hb.size, fun h => by have := hA k h; omega, h3, h4, h6, (hb.block k h1).trans h5⟩
end
end Go.Proofs.Ytknokiadbkgmaaa
