/- Objects side by side, any number of them: each with blocks of its own. -/
import Derived.Test.YtfdeojefcfnogaaRamB
namespace Go.Proofs.Ytfdeojefcfnogaa
open Go.RowKit
set_option linter.unusedVariables false

/-- What says something of an object's own blocks alone. -/
structure Ob where
  P : World → (Nat → Prop) → Prop
  loc : ∀ {w w' : World} {H : Nat → Prop}, P w H → (∀ k, H k → w'.heap[k]? = w.heap[k]?) → P w' H
  lt : ∀ {w : World} {H : Nat → Prop}, P w H → ∀ k, H k → k < w.heap.size

def Side : List Ob → World → (Nat → Prop) → Prop
  | [], _, H => ∀ k, ¬ H k
  | o :: os, w, H => ∃ A B, o.P w A ∧ Side os w B ∧ (∀ k, A k → ¬ B k) ∧ ∀ k, H k ↔ A k ∨ B k

theorem Side.lt : ∀ (os : List Ob) {w : World} {H : Nat → Prop}, Side os w H → ∀ k, H k → k < w.heap.size
  | [], w, H, S => fun k hk => (S k hk).elim
  | o :: os, w, H, S => fun k hk => by
    obtain ⟨A, B, a, b, d, e⟩ := S
    rcases (e k).1 hk with h | h
    · exact o.lt a k h
    · exact Side.lt os b k h
theorem Side.loc : ∀ (os : List Ob) {w w' : World} {H : Nat → Prop}, Side os w H → (∀ k, H k → w'.heap[k]? = w.heap[k]?) → Side os w' H
  | [], w, w', H, S, h => S
  | o :: os, w, w', H, S, h => by
    obtain ⟨A, B, a, b, d, e⟩ := S
    exact ⟨A, B, o.loc a fun k hk => h k ((e k).2 (.inl hk)), Side.loc os b fun k hk => h k ((e k).2 (.inr hk)), d, e⟩
/-- Objects as one. -/
def Ob.all (os : List Ob) : Ob := ⟨Side os, fun h g => Side.loc os h g, fun h => Side.lt os h⟩
/-- An object, whatever something is. -/
def Ob.any {α : Type} (o : α → Ob) : Ob := ⟨fun w H => ∃ a, (o a).P w H, fun ⟨a, h⟩ g => ⟨a, (o a).loc h g⟩, fun ⟨a, h⟩ => (o a).lt h⟩
/-- An object, of which something plain holds. -/
def Ob.and (o : Ob) (p : Prop) : Ob := ⟨fun w H => o.P w H ∧ p, fun h g => ⟨o.loc h.1 g, h.2⟩, fun h => o.lt h.1⟩
/-- One block, all of it. -/
def Ob.box (b : Nat) (x : Obj) : Ob := ⟨fun w H => w.heap[b]? = some x ∧ ∀ k, H k ↔ k = b, fun h g => ⟨(g b ((h.2 b).2 rfl)).trans h.1, h.2⟩, fun h k hk => by rw [(h.2 k).1 hk]; exact heap_lt h.1⟩

/-- One of them moves. -/
theorem Side.split : ∀ (os : List Ob) (i : Nat) {o : Ob} {w : World} {H : Nat → Prop}, os[i]? = some o → Side os w H →
    ∃ A, o.P w A ∧ (∀ k, A k → H k) ∧ ∀ (w' : World) (A' : Nat → Prop) (o' : Ob), o'.P w' A' → Moves A A' w w' → ∃ H', Side (os.set i o') w' H' ∧ Moves H H' w w'
  | [], i, o, w, H, hi, S => by simp at hi
  | x :: os, 0, o, w, H, hi, S => by
    have hx : x = o := by simpa using hi
    subst hx
    obtain ⟨A, B, a, b, d, e⟩ := S
    refine ⟨A, a, fun k hk => (e k).2 (.inl hk), fun w' A' o' a' M => ⟨fun k => A' k ∨ B k, ⟨A', B, a', Side.loc os b fun k hk => M.1.block k (Side.lt os b k hk) fun h => d k h hk, fun k h1 h2 => ?_, fun k => Iff.rfl⟩, M.1.mono fun k _ h => (e k).2 (.inl h), fun k hk => ?_⟩⟩
    · rcases M.2 k h1 with h | h
      · exact d k h h2
      · have := Side.lt os b k h2; omega
    · rcases hk with hk | hk
      · exact (M.2 k hk).imp (fun h => (e k).2 (.inl h)) id
      · exact .inl ((e k).2 (.inr hk))
  | x :: os, i + 1, o, w, H, hi, S => by
    obtain ⟨A, B, a, b, d, e⟩ := S
    obtain ⟨C, c, cb, h⟩ := Side.split os i (by simpa using hi) b
    refine ⟨C, c, fun k hk => (e k).2 (.inr (cb k hk)), fun w' C' o' c' M => ?_⟩
    obtain ⟨B', b', N⟩ := h w' C' o' c' M
    refine ⟨fun k => A k ∨ B' k, ⟨A, B', x.loc a fun k hk => N.1.block k (x.lt a k hk) (d k hk), b', fun k h1 h2 => ?_, fun k => Iff.rfl⟩, N.1.mono fun k _ h => (e k).2 (.inr h), fun k hk => ?_⟩
    · rcases N.2 k h2 with h | h
      · exact d k h1 h
      · have := x.lt a k h1; omega
    · rcases hk with hk | hk
      · exact .inl ((e k).2 (.inl hk))
      · exact (N.2 k hk).imp (fun h => (e k).2 (.inr h)) id
/-- A new one at the end. -/
theorem Side.snoc {o : Ob} : ∀ (os : List Ob) {w : World} {H A : Nat → Prop}, Side os w H → o.P w A → (∀ k, H k → ¬ A k) → Side (os ++ [o]) w (fun k => H k ∨ A k)
  | [], w, H, A, S, a, d => ⟨A, H, a, S, fun k _ h => S k h, fun k => ⟨fun h => h.symm, fun h => h.symm⟩⟩
  | x :: os, w, H, A, S, a, d => by
    obtain ⟨C, B, c, b, f, e⟩ := S
    refine ⟨C, fun k => B k ∨ A k, c, Side.snoc os b a fun k h => d k ((e k).2 (.inr h)), fun k h1 h2 => ?_, fun k => ?_⟩
    · rcases h2 with h2 | h2
      · exact f k h1 h2
      · exact d k ((e k).2 (.inl h1)) h2
    · show (H k ∨ A k) ↔ _
      rw [e k, or_assoc]

/-- Objects in a world that came of another, of whose blocks they had these. -/
def Hp (w0 : World) (A0 : Nat → Prop) (w : World) (os : List Ob) : Prop := ∃ A, Side os w A ∧ Moves A0 A w0 w
section
variable {w0 w w' : World} {A0 : Nat → Prop} {os : List Ob} {o : Ob}
theorem Hp.zero (w : World) : Hp w (fun _ => False) w [] := ⟨fun _ => False, fun _ h => h, Moves.refl _ _⟩
theorem Hp.start {A : Nat → Prop} (h : (Ob.all os).P w A) : Hp w A w os := ⟨A, h, Moves.refl _ _⟩
theorem Hp.end_ (T : Hp w0 A0 w os) : ∃ A, (Ob.all os).P w A ∧ Moves A0 A w0 w := T
/-- Objects become one. -/
theorem Hp.as (T : Hp w0 A0 w os) (h : ∀ A, Side os w A → o.P w A) : Hp w0 A0 w [o] := by
  obtain ⟨A, a, M⟩ := T
  exact ⟨A, ⟨A, fun _ => False, h A a, fun _ h => h, fun _ _ h => h, fun k => ⟨.inl, fun h => h.elim id False.elim⟩⟩, M⟩
theorem Hp.below (T : Hp w0 (fun _ => False) w os) : Below w0.heap.size w0 w := by
  obtain ⟨A, a, M⟩ := T
  exact Keeps.toBelow (Below.refl _ _) M.1 (Nat.le_refl _) fun k h => h.elim
theorem Hp.grow (T : Hp w0 A0 w os) (hb : Below w.heap.size w w') : Hp w0 A0 w' os := by
  obtain ⟨A, a, M⟩ := T
  exact ⟨A, Side.loc os a fun k hk => hb.block k (Side.lt os a k hk), M.1.below hb, M.2⟩
theorem Hp.alloc (T : Hp w0 A0 w os) (x : Obj) : Hp w0 A0 (w.alloc x) os := T.grow ((Below.refl _ _).alloc (Nat.le_refl _) _)
theorem Hp.drew (T : Hp w0 A0 w os) : Hp w0 A0 w.drew os := T.grow ⟨rfl, rfl, rfl, Nat.le_refl _, fun _ _ => rfl⟩
theorem Hp.drewN (T : Hp w0 A0 w os) (n : Nat) : Hp w0 A0 (w.drewN n) os := T.grow ⟨rfl, rfl, rfl, Nat.le_refl _, fun _ _ => rfl⟩
/-- What an object says. -/
theorem Hp.get (T : Hp w0 A0 w os) (i : Nat) (h : os[i]? = some o) : ∃ A, o.P w A := by
  obtain ⟨A, a, M⟩ := T
  obtain ⟨C, c, _⟩ := Side.split os i h a
  exact ⟨C, c⟩
/-- One of them moves. -/
theorem Hp.turn (T : Hp w0 A0 w os) (i : Nat) (h : os[i]? = some o) : ∃ A, o.P w A ∧ ∀ (w' : World) (A' : Nat → Prop) (o' : Ob), o'.P w' A' → Moves A A' w w' → Hp w0 A0 w' (os.set i o') := by
  obtain ⟨A, a, M⟩ := T
  obtain ⟨C, c, _, g⟩ := Side.split os i h a
  refine ⟨C, c, fun w' C' o' c' N => ?_⟩
  obtain ⟨H', s', M'⟩ := g w' C' o' c' N
  exact ⟨H', s', M.trans M'⟩
/-- A call of one of them. -/
theorem Hp.call (T : Hp w0 A0 w os) (i : Nat) {f : FuncId} {args : Array Value} {Q : Ending → Ob → Prop} (h : os[i]? = some o)
    (hc : ∀ A, o.P w A → Calls Try.prog f args w fun e w' => ∃ o', Q e o' ∧ ∃ A', o'.P w' A' ∧ Moves A A' w w') :
    Calls Try.prog f args w fun e w' => ∃ o', Q e o' ∧ Hp w0 A0 w' (os.set i o') := by
  obtain ⟨C, c, g⟩ := T.turn i h
  refine (hc C c).mono ?_
  rintro e w' ⟨o', q, A', a', M⟩
  exact ⟨o', q, g _ _ _ a' M⟩
/-- A new one at the end. -/
theorem Hp.new {A : Nat → Prop} (T : Hp w0 A0 w os) (hb : Below w.heap.size w w') (a : o.P w' A) (hA : ∀ k, A k → w.heap.size ≤ k) : Hp w0 A0 w' (os ++ [o]) := by
  obtain ⟨H, s, M⟩ := T
  have s' := Side.loc os s fun k hk => hb.block k (Side.lt os s k hk)
  refine ⟨fun k => H k ∨ A k, s'.snoc os a fun k h1 h2 => by have := Side.lt os s k h1; have := hA k h2; omega, M.1.below hb, fun k hk => ?_⟩
  rcases hk with hk | hk
  · exact M.2 k hk
  · exact .inr (Nat.le_trans M.1.size (hA k hk))
theorem Hp.make (T : Hp w0 A0 w os) (x : Obj) : Hp w0 A0 (w.alloc x) (os ++ [Ob.box w.heap.size x]) :=
  T.new ((Below.refl _ _).alloc (Nat.le_refl _) _) (A := fun k => k = w.heap.size) ⟨heap_new w x, fun k => Iff.rfl⟩ fun k h => by omega
/-- A block's cells. -/
theorem Hp.box (T : Hp w0 A0 w os) (i : Nat) {b : Nat} {x : Obj} (h : os[i]? = some (Ob.box b x)) : w.heap[b]? = some x := by
  obtain ⟨A, a⟩ := T.get i h; exact a.1
theorem Hp.set (T : Hp w0 A0 w os) (i : Nat) {b : Nat} {xs : Array Value} {T0 : TypeId} (h : os[i]? = some (Ob.box b (.cells xs T0))) (k : Nat) (v : Value) :
    Hp w0 A0 (w.setCell ⟨b, k, none⟩ v) (os.set i (Ob.box b (.cells (xs.setIfInBounds k v) T0))) := by
  obtain ⟨A, ⟨a, e⟩, g⟩ := T.turn i h
  refine g _ A _ ⟨?_, e⟩ ⟨((Keeps.refl _ _).setCell (.inl ((e b).2 rfl)) _), fun k hk => .inl hk⟩
  rw [heap_set_map, a]; rfl
end
/-- A call that leads from one object to another, with an answer. -/
def Acts (f : FuncId) (args : Array Value) (o : Ob) (r : Value) (o' : Ob) : Prop := ∀ w A, o.P w A → Calls Try.prog f args w fun e w' => e = .returned r ∧ ∃ A', o'.P w' A' ∧ Moves A A' w w'
theorem Hp.act {w0 w : World} {A0 : Nat → Prop} {os : List Ob} {o o' : Ob} {f : FuncId} {args : Array Value} {r : Value} (T : Hp w0 A0 w os) (i : Nat) (h : os[i]? = some o) (c : Acts f args o r o') :
    Calls Try.prog f args w fun e w' => e = .returned r ∧ Hp w0 A0 w' (os.set i o') := by
  obtain ⟨C, a, g⟩ := T.turn i h
  refine (c _ C a).mono ?_
  rintro e w' ⟨rfl, A', a', M⟩
  exact ⟨rfl, g _ _ _ a' M⟩
end Go.Proofs.Ytfdeojefcfnogaa
