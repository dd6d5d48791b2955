/- page.Find. -/
import Derived.Test.YtknokiadbkgmaaaRamF
import Derived.LoopN
import Derived.StillTailTactics
namespace Go.Proofs.Ytknokiadbkgmaaa
open Go.RowKit Go.MapKept
set_option linter.unusedVariables false

structure WalkR where
  frame : Nat
  pde : Nat
  pte : Nat
  w : Bool
  u : Bool
def WalkR.val (x : WalkR) : Value := .agg #[.int .u32 x.frame, .int .u32 x.pde, .int .u32 x.pte, .bool x.w, .bool x.u]
def walk0 : WalkR := ⟨0, 0, 0, false, false⟩
def pdeOf (cr3 lin : Nat) : Nat := cr3 / 4096 * 4096 + lin / 4194304 * 4
def pteOf (one lin : Nat) : Nat := one / 4096 * 4096 + lin / 4096 % 1024 * 4
def codeOf (wr us : Bool) : Int := (if wr then 2 else 0) + (if us then 4 else 0)
/-- A word's marks are set, where one lacks. -/
def RS.mark (R : RS) (a m : Nat) : RS := if R.read a 4 ||| m = R.read a 4 then R else R.write a (R.read a 4 ||| m) 4
def bad (w u wr us wp : Bool) : Bool := us && !u || wr && !w && (us || wp)
def find (R : RS) (cr3 lin : Nat) (wr us wp : Bool) : WalkR × Int × RS :=
  if R.read (pdeOf cr3 lin) 4 % 2 = 0 then (walk0, codeOf wr us, R) else
  if R.read (pteOf (R.read (pdeOf cr3 lin) 4) lin) 4 % 2 = 0 then (walk0, codeOf wr us, R) else
  let one := R.read (pdeOf cr3 lin) 4
  let pte := pteOf one lin
  let two := R.read pte 4
  let w := one / 2 % 2 == 1 && two / 2 % 2 == 1
  let u := one / 4 % 2 == 1 && two / 4 % 2 == 1
  if bad w u wr us wp then (walk0, codeOf wr us + 1, R) else
  (⟨two / 4096 * 4096, pdeOf cr3 lin, pte, w, u⟩, -1, (R.mark (pdeOf cr3 lin) 32).mark pte (if wr then 96 else 32))

theorem a4095 (x : Nat) (h : x < 4294967296) : bits .andNot .u32 (x : Int) 4095 = ((x / 4096 * 4096 : Nat) : Int) := by
  have e := u32_andNot_nat x 4095 h (by decide)
  rw [show ((4095 : Nat) : Int) = 4095 from rfl] at e
  rw [e]
  congr 1
  have h2 : x &&& (4294967295 - 4095) = 2 ^ 12 * (x / 2 ^ 12) + 0 := by
    refine Nat.eq_of_testBit_eq fun j => ?_
    rw [Nat.testBit_and, Nat.testBit_two_pow_mul_add _ (by decide), Nat.testBit_div_two_pow]
    by_cases hj : j < 32
    · have hh : ∀ j : Fin 32, (4294967295 - 4095 : Nat).testBit j.val = !decide (j.val < 12) := by decide +kernel
      rw [hh ⟨j, hj⟩]
      by_cases h1 : j < 12
      · simp [h1]
      · rw [if_neg h1, decide_eq_false h1, show j - 12 + 12 = j by omega]; simp
    · have hz : x.testBit j = false := Nat.testBit_lt_two_pow (Nat.lt_of_lt_of_le h (Nat.pow_le_pow_right (n := 2) (by decide) (by omega) : 2 ^ 32 ≤ 2 ^ j))
      rw [hz, if_neg (by omega), show j - 12 + 12 = j by omega, hz]; simp
  rw [h2]; omega
theorem s22 (lin : Nat) (h : lin < 4294967296) : bits .and .u32 ((lin : Int) / 4194304) 1023 = ((lin / 4194304 : Nat) : Int) := by
  have e := u32_and_nat (lin / 4194304) 1023 (by omega) (by decide)
  rw [nat_mask10, Nat.mod_eq_of_lt (by omega)] at e
  rw [← e]; rfl
theorem s12 (lin : Nat) (h : lin < 4294967296) : bits .and .u32 ((lin : Int) / 4096) 1023 = ((lin / 4096 % 1024 : Nat) : Int) := by
  have e := u32_and_nat (lin / 4096) 1023 (by omega) (by decide)
  rw [nat_mask10] at e
  rw [← e]; rfl
theorem and_all (x : Nat) (h : x < 4294967296) : bits .and .u32 4294967295 (x : Int) = (x : Int) := by
  have e := u32_and_nat 4294967295 x (by decide) h
  have h2 : 4294967295 &&& x = x := by rw [Nat.and_comm]; exact (Nat.and_two_pow_sub_one_eq_mod x 32).trans (Nat.mod_eq_of_lt h)
  rw [h2] at e
  exact e
theorem and_1 (x : Nat) (h : x < 4294967296) : bits .and .u32 (x : Int) 1 = ((x % 2 : Nat) : Int) := by
  have e := u32_and_nat x 1 h (by decide)
  rw [nat_mask1] at e
  rw [← e]; rfl
theorem and_2 (x : Nat) (h : x < 4294967296) : bits .and .u32 (x : Int) 2 = ((x / 2 % 2 * 2 : Nat) : Int) := by
  have e := u32_and_nat x 2 h (by decide)
  have := nat_bit 1 x
  rw [show (2 : Nat) ^ 1 = 2 from rfl] at this
  rw [this] at e
  rw [← e]; rfl
theorem and_4 (x : Nat) (h : x < 4294967296) : bits .and .u32 (x : Int) 4 = ((x / 4 % 2 * 4 : Nat) : Int) := by
  have e := u32_and_nat x 4 h (by decide)
  have := nat_bit 2 x
  rw [show (2 : Nat) ^ 2 = 4 from rfl] at this
  rw [this] at e
  rw [← e]; rfl
theorem and_bit (x y i : Nat) : ((x &&& y) / 2 ^ i % 2 == 1) = (x / 2 ^ i % 2 == 1 && y / 2 ^ i % 2 == 1) := by
  have h := Nat.testBit_and x y i
  rw [Nat.testBit_eq_decide_div_mod_eq, Nat.testBit_eq_decide_div_mod_eq, Nat.testBit_eq_decide_div_mod_eq] at h
  rw [Bool.eq_iff_iff] at h ⊢
  simp at h ⊢
  exact h
theorem bit_ne (x m : Nat) (hm : 0 < m) : (((x % 2 * m : Nat) : Int) != 0) = (x % 2 == 1) := by
  rcases Nat.mod_two_eq_zero_or_one x with h | h
  · rw [h]; simp
  · rw [h, Nat.one_mul]; simp; omega
theorem read_4v {w : World} {b : Nat} {S : Nat → Prop} {R : RS} (H : Ram w b S R) (a : Nat) (ha : a < 4294967296) (x : Int) (hx : x = (a : Int)) :
    Calls Try.prog 45 #[.pointer (some ⟨b, 0, .none⟩), .int .u32 x, .int .i64 4] w fun e w' => e = .returned (.tuple #[.int .u32 (R.read a 4 : Nat), .int .i64 0]) ∧ ∃ n, w' = w.drewN n := by
  rw [hx]; exact read_4 H a ha
theorem pde_lt (cr3 lin : Nat) (hc : cr3 < 4294967296) (hl : lin < 4294967296) : pdeOf cr3 lin < 4294967296 := by unfold pdeOf; omega
theorem pte_lt (one lin : Nat) (hc : one < 4294967296) : pteOf one lin < 4294967296 := by unfold pteOf; omega
/-- What Find does, as its end. -/
def FindEnd (w : World) (b : Nat) (S : Nat → Prop) (r : WalkR × Int × RS) (e : Ending) (w' : World) : Prop :=
  e = .returned (.tuple #[r.1.val, .int .i64 r.2.1, .int .i64 0]) ∧ ∃ S', Ram w' b S' r.2.2 ∧ Moves S S' w w'

theorem both_bit (x y : Nat) (h : ¬ x % 2 = 0) : (x &&& y) % 2 = y % 2 := by
  have hx : x % 2 = 1 := by omega
  have h1 := and_bit x y 0
  simp only [Nat.pow_zero, Nat.div_one, hx] at h1
  rcases Nat.mod_two_eq_zero_or_one (x &&& y) with a | a <;> rcases Nat.mod_two_eq_zero_or_one y with c | c <;> (rw [a, c] at h1) <;> (first | (simp at h1; done) | (rw [a, c]))
theorem setCell_heap (w : World) (b k : Nat) (v : Value) : (w.setCell ⟨b, k, .none⟩ v).heap = w.heap.modify b (putObj k v) := by
  unfold World.setCell
  congr 1
theorem heap_drewN' (w : World) (n : Nat) : (w.drewN n).heap = w.heap := rfl
theorem alloc_heap' (w : World) (o : Obj) : (w.alloc o).heap = w.heap.push o := rfl
/-- What Find's own blocks hold while it marks the words. -/
structure FHeld (wr : World) (A M X Z P T m : Nat) (x : WalkR) : Prop where
  a : wr.heap[A]? = some (.cells #[.int .u32 P, .int .u32 T] 87)
  m : wr.heap[M]? = some (.cells #[.int .u32 32, .int .u32 m] 87)
  x : wr.heap[X]? = some (.cells #[.int .u32 x.frame, .int .u32 x.pde, .int .u32 x.pte, .bool x.w, .bool x.u] 123)
  z : wr.heap[Z]? = some (.cells #[.int .u32 0, .int .u32 0, .int .u32 0, .bool false, .bool false] 123)
theorem FHeld.keeps {wr w' : World} {A M X Z P T m : Nat} {x : WalkR} (h : FHeld wr A M X Z P T m x) {S : Nat → Prop} (k : Keeps S wr w') (n : ∀ i, S i → i ≠ A ∧ i ≠ M ∧ i ≠ X ∧ i ≠ Z) : FHeld w' A M X Z P T m x :=
  ⟨heap_keeps k (fun hs => (n _ hs).1 rfl) h.a, heap_keeps k (fun hs => (n _ hs).2.1 rfl) h.m, heap_keeps k (fun hs => (n _ hs).2.2.1 rfl) h.x, heap_keeps k (fun hs => (n _ hs).2.2.2 rfl) h.z⟩
theorem FHeld.quiet {wr : World} {A M X Z P T m : Nat} {x : WalkR} (h : FHeld wr A M X Z P T m x) (n : Nat) : FHeld (wr.drewN n) A M X Z P T m x := ⟨h.a, h.m, h.x, h.z⟩
theorem cell_set_same {w : World} {b k : Nat} {cs : List Value} {T : TypeId} {fz : Nat × Nat} (h : w.heap[b]? = some (.cells cs.toArray T fz)) (hk : k < cs.length) (v : Value) : (w.setCell ⟨b, k, .none⟩ v).cell? ⟨b, k, .none⟩ = some v := by
  have e : (w.setCell ⟨b, k, .none⟩ v).heap[b]? = some (.cells (cs.set k v).toArray T fz) := by rw [heap_set_map, h]; simp [putObj]
  rw [cell_at e]
  simp [hk]
def sets5 (w : World) (b : Nat) (v0 v1 v2 v3 v4 : Value) : World := ((((w.setCell ⟨b, 0, .none⟩ v0).setCell ⟨b, 1, .none⟩ v1).setCell ⟨b, 2, .none⟩ v2).setCell ⟨b, 3, .none⟩ v3).setCell ⟨b, 4, .none⟩ v4
/-- Five cells are stored; each is read as it was stored. -/
theorem cell_sets {w : World} {b : Nat} {a0 a1 a2 a3 a4 : Value} {T : TypeId} (h : w.heap[b]? = some (.cells #[a0, a1, a2, a3, a4] T (0, 0))) (v0 v1 v2 v3 v4 : Value) :
    (sets5 w b v0 v1 v2 v3 v4).cell? ⟨b, 0, .none⟩ = some v0 ∧ (sets5 w b v0 v1 v2 v3 v4).cell? ⟨b, 1, .none⟩ = some v1 ∧ (sets5 w b v0 v1 v2 v3 v4).cell? ⟨b, 2, .none⟩ = some v2 ∧ (sets5 w b v0 v1 v2 v3 v4).cell? ⟨b, 3, .none⟩ = some v3 ∧ (sets5 w b v0 v1 v2 v3 v4).cell? ⟨b, 4, .none⟩ = some v4 := by
  have h0 : w.heap[b]? = some (.cells [a0, a1, a2, a3, a4].toArray T (0, 0)) := h
  have h1 : (w.setCell ⟨b, 0, .none⟩ v0).heap[b]? = some (.cells [v0, a1, a2, a3, a4].toArray T (0, 0)) := by rw [heap_set_map, h0]; rfl
  have h2 : ((w.setCell ⟨b, 0, .none⟩ v0).setCell ⟨b, 1, .none⟩ v1).heap[b]? = some (.cells [v0, v1, a2, a3, a4].toArray T (0, 0)) := by rw [heap_set_map, h1]; rfl
  have h3 : (((w.setCell ⟨b, 0, .none⟩ v0).setCell ⟨b, 1, .none⟩ v1).setCell ⟨b, 2, .none⟩ v2).heap[b]? = some (.cells [v0, v1, v2, a3, a4].toArray T (0, 0)) := by rw [heap_set_map, h2]; rfl
  have h4 : ((((w.setCell ⟨b, 0, .none⟩ v0).setCell ⟨b, 1, .none⟩ v1).setCell ⟨b, 2, .none⟩ v2).setCell ⟨b, 3, .none⟩ v3).heap[b]? = some (.cells [v0, v1, v2, v3, a4].toArray T (0, 0)) := by rw [heap_set_map, h3]; rfl
  have h5 : (sets5 w b v0 v1 v2 v3 v4).heap[b]? = some (.cells [v0, v1, v2, v3, v4].toArray T (0, 0)) := by unfold sets5; rw [heap_set_map, h4]; rfl
  refine ⟨?_, ?_, ?_, ?_, ?_⟩ <;> (rw [cell_at h5]; rfl)
def marks (R : RS) (P T m k : Nat) : RS := if k = 0 then R else if k = 1 then R.mark P 32 else (R.mark P 32).mark T m
theorem marks_zero (R : RS) (P T m : Nat) : marks R P T m 0 = R := if_pos rfl
theorem marks_one (R : RS) (P T m : Nat) : marks R P T m 1 = R.mark P 32 := by unfold marks; rw [if_neg (by decide), if_pos rfl]
theorem marks_two (R : RS) (P T m : Nat) : marks R P T m 2 = (R.mark P 32).mark T m := by unfold marks; rw [if_neg (by decide), if_neg (by decide)]
structure FRel (w wr : World) (b : Nat) (S : Nat → Prop) (A M X Z P T m : Nat) (x : WalkR) (R : RS) : Prop where
  r : ∃ S', Ram wr b S' R ∧ Moves S S' w wr ∧ ∀ i, S' i → i ≠ A ∧ i ≠ M ∧ i ≠ X ∧ i ≠ Z
  h : FHeld wr A M X Z P T m x
theorem Moves.ofBelow {S : Nat → Prop} {w w' : World} (hb : Below w.heap.size w w') : Moves S S w w' := ⟨Keeps.ofBelow hb, fun k h => .inl h⟩
section
variable {w w' : World} {b : Nat} {S : Nat → Prop} {R : RS} {cr3 lin one two : Nat} {wr us wp : Bool}
theorem find_no (H : Ram w b S R) (h1 : one % 2 = 0) (hone : R.read (pdeOf cr3 lin) 4 = one) (hb : Below w.heap.size w w') :
    FindEnd w b S (find R cr3 lin wr us wp) (.returned (.tuple #[walk0.val, .int .i64 (codeOf wr us), .int .i64 0])) w' := by
  have e : find R cr3 lin wr us wp = (walk0, codeOf wr us, R) := by unfold find; rw [hone, if_pos h1]
  rw [e]
  exact ⟨rfl, S, H.below hb, Moves.ofBelow hb⟩
theorem find_no2 (H : Ram w b S R) (h1 : ¬ one % 2 = 0) (hone : R.read (pdeOf cr3 lin) 4 = one) (h2 : two % 2 = 0) (htwo : R.read (pteOf one lin) 4 = two) (hb : Below w.heap.size w w') :
    FindEnd w b S (find R cr3 lin wr us wp) (.returned (.tuple #[walk0.val, .int .i64 (codeOf wr us), .int .i64 0])) w' := by
  have e : find R cr3 lin wr us wp = (walk0, codeOf wr us, R) := by unfold find; rw [hone, if_neg h1, htwo, if_pos h2]
  rw [e]
  exact ⟨rfl, S, H.below hb, Moves.ofBelow hb⟩
end
theorem mark_same (R : RS) (a m : Nat) (h : R.read a 4 ||| m = R.read a 4) : R.mark a m = R := by unfold RS.mark; rw [if_pos h]
theorem mark_new (R : RS) (a m : Nat) (h : ¬ R.read a 4 ||| m = R.read a 4) : R.mark a m = R.write a (R.read a 4 ||| m) 4 := by unfold RS.mark; rw [if_neg h]
theorem FRel.quiet {w wr : World} {b : Nat} {S : Nat → Prop} {A M X Z P T m : Nat} {x : WalkR} {R : RS} (h : FRel w wr b S A M X Z P T m x R) (n : Nat) : FRel w (wr.drewN n) b S A M X Z P T m x R := by
  obtain ⟨⟨S', H, Mv, n'⟩, hh⟩ := h
  exact ⟨⟨S', H.drewN n, Mv.trans (Moves.drewN S' wr n), n'⟩, ⟨hh.a, hh.m, hh.x, hh.z⟩⟩
theorem FRel.wrote {w wr w' : World} {b : Nat} {S S' S'' : Nat → Prop} {A M X Z P T m : Nat} {x : WalkR} {R' : RS} (hh : FHeld wr A M X Z P T m x) (Mv : Moves S S' w wr) (n' : ∀ i, S' i → i ≠ A ∧ i ≠ M ∧ i ≠ X ∧ i ≠ Z)
    (H' : Ram w' b S'' R') (Mw : Moves S' S'' wr w') : FRel w w' b S A M X Z P T m x R' := by
  refine ⟨⟨S'', H', Mv.trans Mw, fun i hi => ?_⟩, hh.keeps Mw.1 n'⟩
  rcases Mw.2 i hi with h | h
  · exact n' i h
  · have h1 := heap_lt hh.a
    have h2 := heap_lt hh.m
    have h3 := heap_lt hh.x
    have h4 := heap_lt hh.z
    omega
theorem find_bad {w w' : World} {b : Nat} {S : Nat → Prop} {R : RS} {cr3 lin one two : Nat} {wr us wp wB uB : Bool} (H : Ram w b S R) (h1 : ¬ one % 2 = 0) (hone : R.read (pdeOf cr3 lin) 4 = one) (h2 : ¬ two % 2 = 0) (htwo : R.read (pteOf one lin) 4 = two)
    (hw : wB = (one / 2 % 2 == 1 && two / 2 % 2 == 1)) (hu : uB = (one / 4 % 2 == 1 && two / 4 % 2 == 1)) (hbad : bad wB uB wr us wp = true) (hb : Below w.heap.size w w') :
    FindEnd w b S (find R cr3 lin wr us wp) (.returned (.tuple #[walk0.val, .int .i64 (codeOf wr us + 1), .int .i64 0])) w' := by
  have e : find R cr3 lin wr us wp = (walk0, codeOf wr us + 1, R) := by
    unfold find
    simp only [hone, htwo, if_neg h1, if_neg h2, ← hw, ← hu, hbad, if_true]
  rw [e]
  exact ⟨rfl, S, H.below hb, Moves.ofBelow hb⟩
theorem Moves.sets5 {S S' : Nat → Prop} {w w1 : World} (M : Moves S S' w w1) {g : Nat} (hg : w.heap.size ≤ g) (i1 i2 i3 i4 i5 : Nat) (v1 v2 v3 v4 v5 : Value) :
    Moves S S' w (((((w1.setCell ⟨g, i1, .none⟩ v1).setCell ⟨g, i2, .none⟩ v2).setCell ⟨g, i3, .none⟩ v3).setCell ⟨g, i4, .none⟩ v4).setCell ⟨g, i5, .none⟩ v5) :=
  ⟨((((M.1.setCell (.inr hg) _).setCell (.inr hg) _).setCell (.inr hg) _).setCell (.inr hg) _).setCell (.inr hg) _, M.2⟩
theorem find_good {w w' : World} {b : Nat} {S S' : Nat → Prop} {R : RS} {cr3 lin one two : Nat} {wr us wp wB uB : Bool} (h1 : ¬ one % 2 = 0) (hone : R.read (pdeOf cr3 lin) 4 = one) (h2 : ¬ two % 2 = 0) (htwo : R.read (pteOf one lin) 4 = two)
    (hw : wB = (one / 2 % 2 == 1 && two / 2 % 2 == 1)) (hu : uB = (one / 4 % 2 == 1 && two / 4 % 2 == 1)) (hbad : bad wB uB wr us wp = false)
    (H' : Ram w' b S' (marks R (pdeOf cr3 lin) (pteOf one lin) (if wr then 96 else 32) 2)) (Mv : Moves S S' w w') :
    FindEnd w b S (find R cr3 lin wr us wp) (.returned (.tuple #[WalkR.val ⟨two / 4096 * 4096, pdeOf cr3 lin, pteOf one lin, wB, uB⟩, .int .i64 (-1), .int .i64 0])) w' := by
  have e : find R cr3 lin wr us wp = (⟨two / 4096 * 4096, pdeOf cr3 lin, pteOf one lin, wB, uB⟩, -1, marks R (pdeOf cr3 lin) (pteOf one lin) (if wr then 96 else 32) 2) := by
    rw [marks_two]
    unfold find
    simp only [hone, htwo, if_neg h1, if_neg h2, ← hw, ← hu, hbad, Bool.false_eq_true, if_false]
  rw [e]
  exact ⟨rfl, S', H', Mv⟩

theorem find_good' {w w' : World} {b : Nat} {S S' : Nat → Prop} {R : RS} {cr3 lin one two P T : Nat} {wr us wp wB uB : Bool} (hP : pdeOf cr3 lin = P) (hT : pteOf one lin = T) (h1 : ¬ one % 2 = 0) (hone : R.read P 4 = one) (h2 : ¬ two % 2 = 0) (htwo : R.read T 4 = two)
    (hw : wB = (one / 2 % 2 == 1 && two / 2 % 2 == 1)) (hu : uB = (one / 4 % 2 == 1 && two / 4 % 2 == 1)) (hbad : bad wB uB wr us wp = false)
    (H' : Ram w' b S' (marks R P T (if wr then 96 else 32) 2)) (Mv : Moves S S' w w') :
    FindEnd w b S (find R cr3 lin wr us wp) (.returned (.tuple #[WalkR.val ⟨two / 4096 * 4096, P, T, wB, uB⟩, .int .i64 (-1), .int .i64 0])) w' := by
  subst hP hT
  exact find_good h1 hone h2 htwo hw hu hbad H' Mv
end Go.Proofs.Ytknokiadbkgmaaa
