/- memory as a plain thing: what is written is read; what a walk marks leaves the place that a word tells. -/
import Derived.Test.YtknokiadbkgmaaaFindZ
import Derived.Test.YtknokiadbkgmaaaBoth
namespace Go.Proofs.Ytknokiadbkgmaaa
open Go.RowKit
set_option linter.unusedVariables false

/-- The gate is open, and every page may be written. -/
structure Plain (R : RS) : Prop where
  ok : R.ok
  c : R.closed = false
  o : ∀ k, R.only k = false
theorem Plain.place {R : RS} (h : Plain R) (a : Nat) : R.place a = a := by unfold RS.place; rw [h.c]; rfl
theorem Plain.get {R : RS} (h : Plain R) (a : Nat) : R.get a = if a < R.size then R.byte a else 255 := by unfold RS.get; rw [h.place]
theorem Plain.wr {R : RS} (h : Plain R) (a v : Nat) (hv : v < 256) : Plain (R.wr a v) ∧ (R.wr a v).size = R.size ∧ ∀ c, (R.wr a v).get c = if c = a ∧ a < R.size then v else R.get c := by
  unfold RS.wr
  rw [h.place]
  by_cases hs : a < R.size
  · rw [if_pos ⟨hs, h.o _⟩]
    have hp : Plain (R.lay a v) := ⟨RS.lay_ok h.ok a v hv, h.c, h.o⟩
    refine ⟨hp, rfl, fun c => ?_⟩
    rw [hp.get, h.get]
    show (if c < R.size then (if c = a then v else R.byte c) else 255) = _
    by_cases e : c = a
    · subst e; rw [if_pos hs, if_pos rfl, if_pos ⟨rfl, hs⟩]
    · simp [e]
  · rw [if_neg (fun x => hs x.1)]
    exact ⟨h, rfl, fun c => by rw [if_neg (fun x => hs x.2)]⟩
theorem at32_of {a i : Nat} (ha : a < 4294967296) (h4 : a % 4 = 0) (hi : i < 4) : at32 a i = a + i := by unfold at32; omega
theorem Plain.write4 {R : RS} (h : Plain R) (a v : Nat) (ha : a < 4294967296) (h4 : a % 4 = 0) :
    Plain (R.write a v 4) ∧ (R.write a v 4).size = R.size ∧ ∀ c, (R.write a v 4).get c = if a ≤ c ∧ c < a + 4 ∧ a < R.size then v / 256 ^ (c - a) % 256 else R.get c := by
  have hsz : R.size % 4 = 0 := by unfold RS.size; omega
  have key : ∀ k, k ≤ 4 → Plain (R.write a v k) ∧ (R.write a v k).size = R.size ∧ ∀ c, (R.write a v k).get c = if a ≤ c ∧ c < a + k ∧ a < R.size then v / 256 ^ (c - a) % 256 else R.get c := by
    intro k hk
    induction k with
    | zero =>
      refine ⟨h, rfl, fun c => ?_⟩
      rw [if_neg (by omega)]; rfl
    | succ k ih =>
      obtain ⟨i1, i2, i3⟩ := ih (by omega)
      obtain ⟨j1, j2, j3⟩ := i1.wr (at32 a k) (v / 256 ^ k % 256) (Nat.mod_lt _ (by decide))
      refine ⟨j1, j2.trans i2, fun c => ?_⟩
      show ((R.write a v k).wr (at32 a k) (v / 256 ^ k % 256)).get c = _
      rw [j3, i2, i3, at32_of ha h4 (by omega)]
      by_cases e : c = a + k
      · subst e
        by_cases hs : a < R.size
        · rw [if_pos ⟨rfl, by omega⟩, if_pos ⟨by omega, by omega, hs⟩, show a + k - a = k by omega]
        · rw [if_neg (fun x => hs (by omega)), if_neg (fun x => hs x.2.2), if_neg (fun x => hs x.2.2)]
      · rw [if_neg (fun x => e x.1)]
        by_cases hin : a ≤ c ∧ c < a + k ∧ a < R.size
        · rw [if_pos hin, if_pos ⟨hin.1, by omega, hin.2.2⟩]
        · rw [if_neg hin, if_neg (fun x => hin ⟨x.1, by omega, x.2.2⟩)]
  exact key 4 (Nat.le_refl _)
theorem read4 (R : RS) (a : Nat) (ha : a < 4294967296) (h4 : a % 4 = 0) : R.read a 4 = R.get a + R.get (a + 1) * 256 + R.get (a + 2) * 65536 + R.get (a + 3) * 16777216 := by
  show 0 + R.get (at32 a 0) * 256 ^ 0 + R.get (at32 a 1) * 256 ^ 1 + R.get (at32 a 2) * 256 ^ 2 + R.get (at32 a 3) * 256 ^ 3 = _
  rw [at32_of ha h4 (by decide), at32_of ha h4 (by decide), at32_of ha h4 (by decide), at32_of ha h4 (by decide)]
  simp
theorem Plain.read_same {R : RS} (h : Plain R) (a v : Nat) (ha : a < 4294967296) (h4 : a % 4 = 0) (hs : a < R.size) (hv : v < 4294967296) : (R.write a v 4).read a 4 = v := by
  obtain ⟨_, _, g⟩ := h.write4 a v ha h4
  rw [read4 _ a ha h4, g, g, g, g, if_pos ⟨by omega, by omega, hs⟩, if_pos ⟨by omega, by omega, hs⟩, if_pos ⟨by omega, by omega, hs⟩, if_pos ⟨by omega, by omega, hs⟩,
    show a - a = 0 by omega, show a + 1 - a = 1 by omega, show a + 2 - a = 2 by omega, show a + 3 - a = 3 by omega]
  simp only [Nat.pow_zero, Nat.pow_one, Nat.div_one]
  rw [show (256 : Nat) ^ 2 = 65536 from rfl, show (256 : Nat) ^ 3 = 16777216 from rfl]
  omega
theorem Plain.read_other {R : RS} (h : Plain R) (a b v : Nat) (ha : a < 4294967296) (h4 : a % 4 = 0) (hb : b < 4294967296) (hb4 : b % 4 = 0) (hne : a ≠ b) : (R.write a v 4).read b 4 = R.read b 4 := by
  obtain ⟨_, _, g⟩ := h.write4 a v ha h4
  rw [read4 _ b hb hb4, read4 _ b hb hb4, g, g, g, g, if_neg (by omega), if_neg (by omega), if_neg (by omega), if_neg (by omega)]
theorem or_ones (m : Nat) (hm : m < 4294967296) : 4294967295 ||| m = 4294967295 := by
  refine Nat.eq_of_testBit_eq fun i => ?_
  rw [Nat.testBit_or]
  by_cases hi : i < 32
  · have : (4294967295 : Nat).testBit i = true := by
      have h := Nat.testBit_two_pow_sub_one 32 i
      rw [show (2 : Nat) ^ 32 - 1 = 4294967295 from rfl] at h
      rw [h]; simp [hi]
    rw [this]; rfl
  · rw [Nat.testBit_lt_two_pow (Nat.lt_of_lt_of_le hm (Nat.pow_le_pow_right (n := 2) (by decide) (by omega) : 2 ^ 32 ≤ 2 ^ i))]; simp
theorem Plain.read_out {R : RS} (h : Plain R) (a : Nat) (ha : a < 4294967296) (h4 : a % 4 = 0) (hs : ¬ a < R.size) : R.read a 4 = 4294967295 := by
  rw [read4 _ a ha h4, h.get, h.get, h.get, h.get, if_neg hs, if_neg (by omega), if_neg (by omega), if_neg (by omega)]
theorem Plain.mark {R : RS} (h : Plain R) (a m : Nat) (ha : a < 4294967296) (h4 : a % 4 = 0) (hm : m < 4294967296) :
    Plain (R.mark a m) ∧ (R.mark a m).size = R.size ∧ (R.mark a m).read a 4 = R.read a 4 ||| m ∧ ∀ b, b < 4294967296 → b % 4 = 0 → a ≠ b → (R.mark a m).read b 4 = R.read b 4 := by
  by_cases hsame : R.read a 4 ||| m = R.read a 4
  · rw [mark_same R a m hsame]
    exact ⟨h, rfl, hsame.symm, fun b _ _ _ => rfl⟩
  · have hs : a < R.size := by
      by_cases hs : a < R.size
      · exact hs
      · exfalso
        rw [h.read_out a ha h4 hs, or_ones m hm] at hsame
        exact hsame rfl
    rw [mark_new R a m hsame]
    have hlt : R.read a 4 ||| m < 4294967296 := Nat.or_lt_two_pow (n := 32) (RS.read_lt h.ok a 4) hm
    obtain ⟨g1, g2, _⟩ := h.write4 a (R.read a 4 ||| m) ha h4
    exact ⟨g1, g2, h.read_same a _ ha h4 hs hlt, fun b hb hb4 hne => h.read_other a b _ ha h4 hb hb4 hne⟩
theorem or_page (n m : Nat) (hm : m < 4096) : (n ||| m) / 4096 = n / 4096 := by
  have h := Nat.shiftRight_or_distrib (a := n) (b := m) (i := 12)
  rw [Nat.shiftRight_eq_div_pow, Nat.shiftRight_eq_div_pow, Nat.shiftRight_eq_div_pow] at h
  rw [show (4096 : Nat) = 2 ^ 12 from rfl, h, show m / 2 ^ 12 = 0 from Nat.div_eq_of_lt hm]; simp
theorem pde_4 (cr3 lin : Nat) : pdeOf cr3 lin % 4 = 0 := by unfold pdeOf; omega
theorem pte_4 (one lin : Nat) : pteOf one lin % 4 = 0 := by unfold pteOf; omega
/-- Behind a walk the second word tells the same page. -/
theorem Plain.marked {R : RS} (h : Plain R) (P T : Nat) (hP : P < 4294967296) (hP4 : P % 4 = 0) (hT : T < 4294967296) (hT4 : T % 4 = 0) (m : Nat) (hm : m < 4096) : ((R.mark P 32).mark T m).read T 4 / 4096 = R.read T 4 / 4096 := by
  obtain ⟨g1, g2, g3, g4⟩ := h.mark P 32 hP hP4 (by decide)
  obtain ⟨_, _, k3, _⟩ := g1.mark T m hT hT4 (by omega)
  rw [k3, or_page _ _ hm]
  by_cases e : P = T
  · subst e; rw [g3, or_page _ _ (by decide)]
  · rw [g4 T hT hT4 e]
theorem Plain.new (n : Nat) (h1 : 1 ≤ n) (h2 : n ≤ 256) : Plain (RS.new n) := ⟨RS.new_ok h1 h2, rfl, fun _ => rfl⟩
theorem Plain.wrk {R : RS} (h : Plain R) (a v k : Nat) : Plain (R.write a v k) := by
  induction k with
  | zero => exact h
  | succ k ih => exact (ih.wr _ _ (Nat.mod_lt _ (by decide))).1
theorem Plain.writes {R : RS} (h : Plain R) (at_ v : Nat → Nat) (k : Nat) : Plain (R.writes at_ v k) := by
  induction k with
  | zero => exact h
  | succ k ih => exact ih.wrk _ _ _
theorem Plain.both (n : Int) (at_ v : Nat → Nat) (l : Nat) (o : Nat → Int) : Plain (bothR n at_ v l o 0) := by
  have := bothPages_ok n
  exact (Plain.new _ this.1 (by omega)).writes at_ v l
/-- Lowest bits change nothing. -/
theorem find_low (R : RS) (cr3 lin cr3' lin' : Nat) (hc : cr3' / 4096 = cr3 / 4096) (hl : lin' / 4096 = lin / 4096) (wr us wp : Bool) : find R cr3' lin' wr us wp = find R cr3 lin wr us wp := by
  have e1 : pdeOf cr3' lin' = pdeOf cr3 lin := by unfold pdeOf; rw [hc]; omega
  have e2 : ∀ one, pteOf one lin' = pteOf one lin := fun one => by unfold pteOf; rw [hl]
  unfold find
  simp only [e1, e2]
/-- What is found, if something is. -/
theorem find_ok (R : RS) (h : Plain R) (cr3 lin : Nat) (hc : cr3 < 4294967296) (hl : lin < 4294967296) (wr us wp : Bool) :
    (0 ≤ (find R cr3 lin wr us wp).2.1) ∨
    ((find R cr3 lin wr us wp).2.1 = -1 ∧ (find R cr3 lin wr us wp).1.frame % 4096 = 0 ∧ (find R cr3 lin wr us wp).1.frame < 4294967296 ∧ (find R cr3 lin wr us wp).1.pde < 4294967296 ∧ (find R cr3 lin wr us wp).1.pte < 4294967296 ∧
      (find R cr3 lin wr us wp).2.2.read (find R cr3 lin wr us wp).1.pte 4 / 4096 * 4096 = (find R cr3 lin wr us wp).1.frame ∧ (find R cr3 lin wr us wp).1.pte % 4096 / 4 = lin / 4096 % 1024 ∧ (find R cr3 lin wr us wp).1.pde % 4096 / 4 = lin / 4194304) := by
  have hcode : 0 ≤ codeOf wr us := by unfold codeOf; (repeat' split) <;> decide
  unfold find
  split
  · exact .inl hcode
  · split
    · exact .inl hcode
    · simp only
      split
      · left; show 0 ≤ codeOf wr us + 1; omega
      · right
        have t32 : R.read (pteOf (R.read (pdeOf cr3 lin) 4) lin) 4 < 4294967296 := RS.read_lt h.ok _ 4
        have o32 : R.read (pdeOf cr3 lin) 4 < 4294967296 := RS.read_lt h.ok _ 4
        refine ⟨rfl, ?_, ?_, pde_lt _ _ hc hl, pte_lt _ _ o32, ?_, ?_, ?_⟩
        · show R.read (pteOf (R.read (pdeOf cr3 lin) 4) lin) 4 / 4096 * 4096 % 4096 = 0
          omega
        · show R.read (pteOf (R.read (pdeOf cr3 lin) 4) lin) 4 / 4096 * 4096 < 4294967296
          omega
        · show ((R.mark (pdeOf cr3 lin) 32).mark (pteOf (R.read (pdeOf cr3 lin) 4) lin) (if wr = true then 96 else 32)).read (pteOf (R.read (pdeOf cr3 lin) 4) lin) 4 / 4096 * 4096 = R.read (pteOf (R.read (pdeOf cr3 lin) 4) lin) 4 / 4096 * 4096
          rw [h.marked _ _ (pde_lt _ _ hc hl) (pde_4 _ _) (pte_lt _ _ o32) (pte_4 _ _) _ (by split <;> decide)]
        · show pteOf (R.read (pdeOf cr3 lin) 4) lin % 4096 / 4 = lin / 4096 % 1024
          unfold pteOf; omega
        · show pdeOf cr3 lin % 4096 / 4 = lin / 4194304
          unfold pdeOf; omega
end Go.Proofs.Ytknokiadbkgmaaa
