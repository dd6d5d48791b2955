/- Objects side by side: one becomes two, some are left, rows. -/
import Derived.Test.YtfdeojefcfnogaaHeap
import Derived.Test.YtfdeojefcfnogaaRow
namespace Go.Proofs.Ytfdeojefcfnogaa
open Go.RowKit
set_option linter.unusedVariables false

theorem Side.iff : ∀ (os : List Ob) {w : World} {H H' : Nat → Prop}, Side os w H → (∀ k, H' k ↔ H k) → Side os w H'
  | [], w, H, H', S, h => fun k hk => S k ((h k).1 hk)
  | o :: os, w, H, H', S, h => by
    obtain ⟨A, B, a, b, d, e⟩ := S
    exact ⟨A, B, a, b, d, fun k => (h k).trans (e k)⟩
theorem Side.append : ∀ (l1 l2 : List Ob) {w : World} {H : Nat → Prop}, Side (l1 ++ l2) w H → ∃ A B, Side l1 w A ∧ Side l2 w B ∧ (∀ k, A k → ¬ B k) ∧ ∀ k, H k ↔ A k ∨ B k
  | [], l2, w, H, S => ⟨fun _ => False, H, fun _ h => h, S, fun _ h => h.elim, fun k => ⟨.inr, fun h => h.elim False.elim id⟩⟩
  | x :: l1, l2, w, H, S => by
    obtain ⟨C, D, c, d, f, e⟩ := S
    obtain ⟨A, B, a, b, g, h⟩ := Side.append l1 l2 d
    refine ⟨fun k => C k ∨ A k, B, ⟨C, A, c, a, fun k h1 h2 => f k h1 ((h k).2 (.inl h2)), fun k => Iff.rfl⟩, b, fun k h1 h2 => ?_, fun k => ?_⟩
    · rcases h1 with h1 | h1
      · exact f k h1 ((h k).2 (.inr h2))
      · exact g k h1 h2
    · rw [e k, h k, or_assoc]
theorem Side.join : ∀ (l1 l2 : List Ob) {w : World} {A B : Nat → Prop}, Side l1 w A → Side l2 w B → (∀ k, A k → ¬ B k) → Side (l1 ++ l2) w (fun k => A k ∨ B k)
  | [], l2, w, A, B, a, b, d => Side.iff l2 b fun k => ⟨fun h => h.elim (fun h => (a k h).elim) id, .inr⟩
  | x :: l1, l2, w, A, B, a, b, d => by
    obtain ⟨C, D, c, dd, f, e⟩ := a
    refine ⟨C, fun k => D k ∨ B k, c, Side.join l1 l2 dd b (fun k h => d k ((e k).2 (.inr h))), fun k h1 h2 => ?_, fun k => ?_⟩
    · rcases h2 with h2 | h2
      · exact f k h1 h2
      · exact d k ((e k).2 (.inl h1)) h2
    · show (A k ∨ B k) ↔ _
      rw [e k, or_assoc]
theorem Side.two (os : List Ob) : ∀ (i : Nat) {x y : Ob} {w : World} {H : Nat → Prop}, os[i]? = some (Ob.all [x, y]) → Side os w H → Side (os.set i x ++ [y]) w H := by
  induction os with
  | nil => intro i x y w H hi S; simp at hi
  | cons o os ih =>
    intro i x y w H hi S
    cases i with
    | zero =>
      have hx : o = Ob.all [x, y] := by simpa using hi
      subst hx
      obtain ⟨A, B, ⟨A1, A2, a1, ⟨A3, A4, a3, a4, f3, e3⟩, f1, e1⟩, b, d, e⟩ := S
      refine ⟨A1, fun k => B k ∨ A3 k, a1, Side.snoc os b a3 (fun k h1 h2 => d k ((e1 k).2 (.inr ((e3 k).2 (.inl h2)))) h1), fun k h1 h2 => ?_, fun k => ?_⟩
      · rcases h2 with h2 | h2
        · exact d k ((e1 k).2 (.inl h1)) h2
        · exact f1 k h1 ((e3 k).2 (.inl h2))
      · rw [e k, e1 k, e3 k]
        have := a4 k
        constructor
        · rintro ((h | h | h) | h)
          · exact .inl h
          · exact .inr (.inr h)
          · exact (this h).elim
          · exact .inr (.inl h)
        · rintro (h | h | h)
          · exact .inl (.inl h)
          · exact .inr h
          · exact .inl (.inr (.inl h))
    | succ i =>
      obtain ⟨A, B, a, b, d, e⟩ := S
      exact ⟨A, B, a, ih i (by simpa using hi) b, d, e⟩
section
variable {w0 w w' : World} {A0 : Nat → Prop} {os : List Ob} {o x y : Ob}
theorem Hp.two (T : Hp w0 A0 w os) (i : Nat) (h : os[i]? = some (Ob.all [x, y])) : Hp w0 A0 w (os.set i x ++ [y]) := by
  obtain ⟨A, a, M⟩ := T
  exact ⟨A, Side.two os i h a, M⟩
/-- The first ones of them. -/
theorem Hp.left {l1 l2 : List Ob} (T : Hp w0 A0 w (l1 ++ l2)) : Hp w0 A0 w l1 := by
  obtain ⟨A, a, M⟩ := T
  obtain ⟨B, C, b, c, d, e⟩ := Side.append l1 l2 a
  exact ⟨B, b, M.1, fun k hk => M.2 k ((e k).2 (.inl hk))⟩
theorem Hp.right {l1 l2 : List Ob} (T : Hp w0 A0 w (l1 ++ l2)) : Hp w0 A0 w l2 := by
  obtain ⟨A, a, M⟩ := T
  obtain ⟨B, C, b, c, d, e⟩ := Side.append l1 l2 a
  exact ⟨C, c, M.1, fun k hk => M.2 k ((e k).2 (.inr hk))⟩
/-- The first ones of them become one. -/
theorem Hp.pack {l1 l2 : List Ob} (T : Hp w0 A0 w (l1 ++ l2)) (h : ∀ A, Side l1 w A → o.P w A) : Hp w0 A0 w (o :: l2) := by
  obtain ⟨A, a, M⟩ := T
  obtain ⟨B, C, b, c, d, e⟩ := Side.append l1 l2 a
  exact ⟨A, ⟨B, C, h B b, c, d, e⟩, M⟩
theorem Hp.open_ {l1 l2 : List Ob} (T : Hp w0 A0 w (Ob.all l1 :: l2)) : Hp w0 A0 w (l1 ++ l2) := by
  obtain ⟨A, ⟨B, C, b, c, d, e⟩, M⟩ := T
  exact ⟨A, Side.iff _ (Side.join l1 l2 b c d) e, M⟩
/-- Something else is said of one of them. -/
theorem Hp.alter (T : Hp w0 A0 w os) (i : Nat) (h : os[i]? = some o) (hc : ∀ A, o.P w A → x.P w A) : Hp w0 A0 w (os.set i x) := by
  obtain ⟨A, a, g⟩ := T.turn i h
  exact g _ _ _ (hc A a) (Moves.refl _ _)
end
theorem row_of_heap' {w w' : World} {B : Nat} {E : TypeId} {s n : Nat} {v : Value} {xs : List Value} (h : w.ownsRow B E s v n xs) (hh : ∀ k, v.ownBlock = some k → w'.heap[k]? = w.heap[k]?) : w'.ownsRow B E s v n xs := by
  refine ⟨h.1, ?_⟩
  rcases h.2 with h2 | ⟨g, cap, cur, rfl, hb, hg, r⟩
  · exact .inl h2
  · exact .inr ⟨g, cap, cur, rfl, hb, by rw [hh g rfl]; exact hg, r⟩
theorem row_down' {w : World} {B C : Nat} {E : TypeId} {s n : Nat} {v : Value} {xs : List Value} (h : w.ownsRow B E s v n xs) (hBC : C ≤ B) : w.ownsRow C E s v n xs := by
  refine ⟨h.1, ?_⟩
  rcases h.2 with h2 | ⟨g, cap, cur, rfl, hb, hg, r⟩
  · exact .inl h2
  · exact .inr ⟨g, cap, cur, rfl, Nat.le_trans hBC hb, hg, r⟩
/-- A row of one block, or of none. -/
def oRow (E : TypeId) (v : Value) (n : Nat) (xs : List Value) : Ob := ⟨fun w H => w.ownsRow 0 E 1 v n xs ∧ ∀ k, H k ↔ v.ownBlock = some k,
  fun h g => ⟨row_of_heap' h.1 fun k hk => g k ((h.2 k).2 hk), h.2⟩, fun h k hk => (World.ownsRow.lt h.1 k ((h.2 k).1 hk)).2⟩
end Go.Proofs.Ytfdeojefcfnogaa
