/- tlb, in plain words: what a walk marks, where some pages are read alone; an entry that is kept is what a walk finds. -/
import Derived.Test.YtknokiadbkgmaaaPMarks
import Derived.Test.YtknokiadbkgmaaaKeyB
namespace Go.Proofs.Ytknokiadbkgmaaa
open Go.RowKit
set_option linter.unusedVariables false

/-- The gate is open. -/
structure Wide (R : RS) : Prop where
  ok : R.ok
  c : R.closed = false
theorem Wide.place {R : RS} (h : Wide R) (a : Nat) : R.place a = a := by unfold RS.place; rw [h.c]; rfl
theorem Wide.get {R : RS} (h : Wide R) (a : Nat) : R.get a = if a < R.size then R.byte a else 255 := by unfold RS.get; rw [h.place]
theorem Wide.wr {R : RS} (h : Wide R) (a v : Nat) (hv : v < 256) : Wide (R.wr a v) ∧ (R.wr a v).size = R.size ∧ (R.wr a v).only = R.only ∧ ∀ c, (R.wr a v).get c = if c = a ∧ a < R.size ∧ R.only (a / 4096) = false then v else R.get c := by
  unfold RS.wr
  rw [h.place]
  by_cases hs : a < R.size ∧ R.only (a / 4096) = false
  · rw [if_pos hs]
    have hp : Wide (R.lay a v) := ⟨RS.lay_ok h.ok a v hv, h.c⟩
    refine ⟨hp, rfl, rfl, fun c => ?_⟩
    rw [hp.get, h.get]
    show (if c < R.size then (if c = a then v else R.byte c) else 255) = _
    by_cases e : c = a
    · subst e; rw [if_pos hs.1, if_pos rfl, if_pos ⟨rfl, hs⟩]
    · simp [e]
  · rw [if_neg hs]
    exact ⟨h, rfl, rfl, fun c => by rw [if_neg (fun x => hs x.2)]⟩
theorem Wide.write4 {R : RS} (h : Wide R) (a v : Nat) (ha : a < 4294967296) (h4 : a % 4 = 0) :
    Wide (R.write a v 4) ∧ (R.write a v 4).size = R.size ∧ ∀ c, (R.write a v 4).get c = if a ≤ c ∧ c < a + 4 ∧ a < R.size ∧ R.only (a / 4096) = false then v / 256 ^ (c - a) % 256 else R.get c := by
  have hsz : R.size % 4 = 0 := by unfold RS.size; omega
  have key : ∀ k, k ≤ 4 → Wide (R.write a v k) ∧ (R.write a v k).size = R.size ∧ (R.write a v k).only = R.only ∧ ∀ c, (R.write a v k).get c = if a ≤ c ∧ c < a + k ∧ a < R.size ∧ R.only (a / 4096) = false then v / 256 ^ (c - a) % 256 else R.get c := by
    intro k hk
    induction k with
    | zero =>
      refine ⟨h, rfl, rfl, fun c => ?_⟩
      rw [if_neg (by omega)]; rfl
    | succ k ih =>
      obtain ⟨i1, i2, i4, i3⟩ := ih (by omega)
      obtain ⟨j1, j2, j4, j3⟩ := i1.wr (at32 a k) (v / 256 ^ k % 256) (Nat.mod_lt _ (by decide))
      refine ⟨j1, j2.trans i2, j4.trans i4, fun c => ?_⟩
      show ((R.write a v k).wr (at32 a k) (v / 256 ^ k % 256)).get c = _
      have hpg : (a + k) / 4096 = a / 4096 := by omega
      rw [j3, i2, i3, i4, at32_of ha h4 (by omega), hpg]
      by_cases e : c = a + k
      · subst e
        by_cases hs : a < R.size ∧ R.only (a / 4096) = false
        · rw [if_pos ⟨rfl, by omega, hs.2⟩, if_pos ⟨by omega, by omega, hs⟩, show a + k - a = k by omega]
        · rw [if_neg (fun x => hs ⟨by omega, x.2.2⟩), if_neg (fun x => hs x.2.2), if_neg (fun x => hs x.2.2)]
      · rw [if_neg (fun x => e x.1)]
        by_cases hin : a ≤ c ∧ c < a + k ∧ a < R.size ∧ R.only (a / 4096) = false
        · rw [if_pos hin, if_pos ⟨hin.1, by omega, hin.2.2⟩]
        · rw [if_neg hin, if_neg (fun x => hin ⟨x.1, by omega, x.2.2⟩)]
  obtain ⟨k1, k2, _, k3⟩ := key 4 (Nat.le_refl _)
  exact ⟨k1, k2, k3⟩
/-- A word that is written is as it was, or what was written. -/
theorem Wide.read_write {R : RS} (h : Wide R) (a b v : Nat) (ha : a < 4294967296) (h4 : a % 4 = 0) (hb : b < 4294967296) (hb4 : b % 4 = 0) (hv : v < 4294967296) :
    (R.write a v 4).read b 4 = R.read b 4 ∨ (b = a ∧ (R.write a v 4).read b 4 = v) := by
  obtain ⟨_, _, g⟩ := h.write4 a v ha h4
  by_cases e : b = a ∧ a < R.size ∧ R.only (a / 4096) = false
  · right
    obtain ⟨rfl, e⟩ := e
    refine ⟨rfl, ?_⟩
    rw [read4 _ b hb hb4, g, g, g, g, if_pos ⟨by omega, by omega, e⟩, if_pos ⟨by omega, by omega, e⟩, if_pos ⟨by omega, by omega, e⟩, if_pos ⟨by omega, by omega, e⟩,
      show b - b = 0 by omega, show b + 1 - b = 1 by omega, show b + 2 - b = 2 by omega, show b + 3 - b = 3 by omega]
    simp only [Nat.pow_zero, Nat.pow_one, Nat.div_one]
    rw [show (256 : Nat) ^ 2 = 65536 from rfl, show (256 : Nat) ^ 3 = 16777216 from rfl]
    omega
  · left
    have hn : ∀ i, i < 4 → ¬ (a ≤ b + i ∧ b + i < a + 4 ∧ a < R.size ∧ R.only (a / 4096) = false) := fun i hi x => e ⟨by omega, x.2.2⟩
    rw [read4 _ b hb hb4, read4 _ b hb hb4, g, g, g, g, if_neg (by simpa using hn 0 (by decide)), if_neg (hn 1 (by decide)), if_neg (hn 2 (by decide)), if_neg (hn 3 (by decide))]
theorem Wide.mark {R : RS} (h : Wide R) (a m : Nat) (ha : a < 4294967296) (h4 : a % 4 = 0) (hm : m < 4294967296) :
    Wide (R.mark a m) ∧ ∀ b, b < 4294967296 → b % 4 = 0 → ((R.mark a m).read b 4 = R.read b 4 ∨ (R.mark a m).read b 4 = R.read b 4 ||| m) := by
  by_cases hsame : R.read a 4 ||| m = R.read a 4
  · rw [mark_same R a m hsame]
    exact ⟨h, fun b _ _ => .inl rfl⟩
  · rw [mark_new R a m hsame]
    have hlt : R.read a 4 ||| m < 4294967296 := Nat.or_lt_two_pow (n := 32) (RS.read_lt h.ok a 4) hm
    refine ⟨(h.write4 a _ ha h4).1, fun b hb hb4 => ?_⟩
    rcases h.read_write a b (R.read a 4 ||| m) ha h4 hb hb4 hlt with e | ⟨rfl, e⟩
    · exact .inl e
    · exact .inr e
/-- All but the marks. -/
def Same (a b : Nat) : Prop := a / 4096 = b / 4096 ∧ a % 8 = b % 8
theorem Same.refl (a : Nat) : Same a a := ⟨rfl, rfl⟩
theorem Same.trans {a b c : Nat} (h : Same a b) (k : Same b c) : Same a c := ⟨h.1.trans k.1, h.2.trans k.2⟩
theorem or_low (n m : Nat) (hm : m % 8 = 0) : (n ||| m) % 8 = n % 8 := by
  have h := Nat.or_mod_two_pow (a := n) (b := m) (n := 3)
  rw [show (2 : Nat) ^ 3 = 8 from rfl, hm] at h
  rw [h]; simp
theorem same_or (n m : Nat) (h1 : m < 4096) (h2 : m % 8 = 0) : Same (n ||| m) n := ⟨or_page n m h1, or_low n m h2⟩
theorem Wide.marks_same {R : RS} (h : Wide R) (P T : Nat) (hP : P < 4294967296) (hP4 : P % 4 = 0) (hT : T < 4294967296) (hT4 : T % 4 = 0) (m : Nat) (h1 : m < 4096) (h2 : m % 8 = 0) :
    Wide ((R.mark P 32).mark T m) ∧ ∀ b, b < 4294967296 → b % 4 = 0 → Same (((R.mark P 32).mark T m).read b 4) (R.read b 4) := by
  obtain ⟨g1, g2⟩ := h.mark P 32 hP hP4 (by decide)
  obtain ⟨k1, k2⟩ := g1.mark T m hT hT4 (by omega)
  refine ⟨k1, fun b hb hb4 => ?_⟩
  have e1 : Same ((R.mark P 32).read b 4) (R.read b 4) := by
    rcases g2 b hb hb4 with e | e <;> rw [e]
    · exact Same.refl _
    · exact same_or _ _ (by decide) (by decide)
  refine Same.trans ?_ e1
  rcases k2 b hb hb4 with e | e <;> rw [e]
  · exact Same.refl _
  · exact same_or _ _ h1 h2
/-- What is kept at a page: where its words say what they said, a walk finds it, and changes nothing. -/
def Good (c p : Nat) (wr us wp : Bool) (x : WalkR) (a b : Nat) : Prop :=
  ∀ (R : RS) (lin : Nat), lin / 4096 = p → R.read x.pde 4 = a → R.read x.pte 4 = b → find R c lin wr us wp = (x, -1, R)
theorem mark_none {R : RS} (a m : Nat) (h : R.read a 4 ||| m = R.read a 4) : R.mark a m = R := mark_same R a m h
theorem or_of_and {n m : Nat} (h : n &&& m = m) : n ||| m = n := by
  refine Nat.eq_of_testBit_eq fun i => ?_
  have := congrArg (fun x => x.testBit i) h
  simp only [Nat.testBit_and] at this
  rw [Nat.testBit_or]
  cases e1 : n.testBit i <;> cases e2 : m.testBit i <;> simp_all
theorem pde_same (c : Nat) {l m : Nat} (h : m / 4096 = l / 4096) : pdeOf c m = pdeOf c l := by unfold pdeOf; omega
/-- What a walk found, and is kept. -/
theorem good_of {R : RS} (h : Wide R) (c lin : Nat) (hc : c < 4294967296) (hl : lin < 4294967296) (wr us wp : Bool) (x : WalkR) (R' : RS) (hf : find R c lin wr us wp = (x, -1, R'))
    (ha : R'.read x.pde 4 &&& 32 = 32) (hb : R'.read x.pte 4 &&& (if wr then 96 else 32) = (if wr then 96 else 32)) (hx : R'.read x.pte 4 / 4096 * 4096 = x.frame) :
    Wide R' ∧ Good c (lin / 4096) wr us wp x (R'.read x.pde 4) (R'.read x.pte 4) := by
  have hcode : 0 ≤ codeOf wr us := by unfold codeOf; (repeat' split) <;> decide
  unfold find at hf
  split at hf
  · have := congrArg (fun r => r.2.1) hf; simp only at this; omega
  · rename_i h1
    split at hf
    · have := congrArg (fun r => r.2.1) hf; simp only at this; omega
    · rename_i h2
      simp only at hf
      split at hf
      · have := congrArg (fun r => r.2.1) hf; simp only at this; omega
      · rename_i h3
        obtain ⟨a0, ha0⟩ : ∃ a0, a0 = R.read (pdeOf c lin) 4 := ⟨_, rfl⟩
        rw [← ha0] at hf h1 h2 h3
        obtain ⟨b0, hb0⟩ : ∃ b0, b0 = R.read (pteOf a0 lin) 4 := ⟨_, rfl⟩
        rw [← hb0] at hf h2 h3
        have ha0l : a0 < 4294967296 := by rw [ha0]; exact RS.read_lt h.ok _ 4
        have hP := pde_lt c lin hc hl
        have hT := pte_lt a0 lin ha0l
        simp only [Prod.mk.injEq, true_and] at hf
        obtain ⟨hx1, hR⟩ := hf
        subst hx1
        obtain ⟨w1, w2⟩ := h.marks_same (pdeOf c lin) (pteOf a0 lin) hP (pde_4 _ _) hT (pte_4 _ _) (if wr then 96 else 32) (by split <;> decide) (by split <;> decide)
        rw [hR] at w1 w2
        have sa := w2 (pdeOf c lin) hP (pde_4 _ _)
        have sb := w2 (pteOf a0 lin) hT (pte_4 _ _)
        rw [← ha0] at sa
        rw [← hb0] at sb
        simp only at ha hb hx
        refine ⟨w1, ?_⟩
        show Good c (lin / 4096) wr us wp _ (R'.read (pdeOf c lin) 4) (R'.read (pteOf a0 lin) 4)
        generalize R'.read (pdeOf c lin) 4 = a at *
        generalize R'.read (pteOf a0 lin) 4 = b at *
        intro Q lin' hlin hqa hqb
        simp only at hqa hqb
        have eP : pdeOf c lin' = pdeOf c lin := pde_same c hlin
        have eT : pteOf a lin' = pteOf a0 lin := by unfold pteOf; rw [hlin, sa.1]
        have a2 : a % 2 = a0 % 2 := by have := sa.2; omega
        have b2 : b % 2 = b0 % 2 := by have := sb.2; omega
        have aw : a / 2 % 2 = a0 / 2 % 2 := by have := sa.2; omega
        have bw : b / 2 % 2 = b0 / 2 % 2 := by have := sb.2; omega
        have au : a / 4 % 2 = a0 / 4 % 2 := by have := sa.2; omega
        have bu : b / 4 % 2 = b0 / 4 % 2 := by have := sb.2; omega
        unfold find
        simp only [eP, hqa, eT, hqb]
        rw [if_neg (by rw [a2]; exact h1), if_neg (by rw [b2]; exact h2)]
        rw [aw, bw, au, bu, if_neg h3, hx]
        have m1 : Q.mark (pdeOf c lin) 32 = Q := mark_none _ _ (by rw [hqa]; exact or_of_and ha)
        rw [m1]
        have m2 : Q.mark (pteOf a0 lin) (if wr = true then 96 else 32) = Q := mark_none _ _ (by rw [hqb]; exact or_of_and hb)
        rw [m2]
end Go.Proofs.Ytknokiadbkgmaaa
