/- vmem's laws in plain words: a wide value is its bytes. -/
import Derived.Test.YtknokiadbkgmaaaVmV
namespace Go.Proofs.Ytknokiadbkgmaaa
open Go.RowKit
set_option linter.unusedVariables false

theorem find_ok_parts {R R' : RS} {c l : Nat} {wr us wp : Bool} {x : WalkR} (h : find R c l wr us wp = (x, -1, R')) :
    x.pde = pdeOf c l ∧ x.pte = pteOf (R.read (pdeOf c l) 4) l ∧ x.frame = R.read x.pte 4 / 4096 * 4096 ∧ R' = (R.mark x.pde 32).mark x.pte (if wr then 96 else 32) := by
  have cn : ∀ a b : Bool, codeOf a b ≠ -1 := by decide
  have cn1 : ∀ a b : Bool, codeOf a b + 1 ≠ -1 := by decide
  unfold find at h
  split at h
  · exact absurd (Prod.mk.inj (Prod.mk.inj h).2).1 (cn _ _)
  · split at h
    · exact absurd (Prod.mk.inj (Prod.mk.inj h).2).1 (cn _ _)
    · simp only at h
      split at h
      · exact absurd (Prod.mk.inj (Prod.mk.inj h).2).1 (cn1 _ _)
      · obtain ⟨rfl, h2⟩ := Prod.mk.inj h
        obtain ⟨_, rfl⟩ := Prod.mk.inj h2
        exact ⟨rfl, rfl, rfl, rfl⟩
theorem and_or_self (n : Nat) : (n ||| 32) &&& 32 = 32 := by
  refine Nat.eq_of_testBit_eq fun i => ?_
  rw [Nat.testBit_and, Nat.testBit_or]
  cases h : (32 : Nat).testBit i <;> simp
theorem mark_keep {R : RS} (P : Plain R) {a b : Nat} (ha : a < 4294967296) (h4 : a % 4 = 0) (hb : b < 4294967296) (hb4 : b % 4 = 0) (h : R.read b 4 &&& 32 = 32) : (R.mark a 32).read b 4 = R.read b 4 := by
  obtain ⟨_, _, g3, g4⟩ := P.mark a 32 ha h4 (by decide)
  by_cases e : a = b
  · subst e; rw [g3, or_of_and h]
  · exact g4 b hb hb4 e
/-- A page that was found is found again, and nothing changes; also behind another walk. -/
theorem find_words {R R' : RS} (P : Plain R) {c l : Nat} {us wp : Bool} {x : WalkR} (hc : c < 4294967296) (hl : l < 4294967296) (h : find R c l false us wp = (x, -1, R')) :
    Plain R' ∧ x.pde < 4294967296 ∧ x.pde % 4 = 0 ∧ x.pte < 4294967296 ∧ x.pte % 4 = 0 ∧ R'.read x.pde 4 &&& 32 = 32 ∧ R'.read x.pte 4 &&& 32 = 32 ∧ Good c (l / 4096) false us wp x (R'.read x.pde 4) (R'.read x.pte 4) := by
  obtain ⟨e1, e2, e3, e4⟩ := find_ok_parts h
  have hone : R.read (pdeOf c l) 4 < 4294967296 := RS.read_lt P.ok _ 4
  have p1 : x.pde < 4294967296 := by rw [e1]; exact pde_lt c l hc hl
  have p2 : x.pde % 4 = 0 := by rw [e1]; exact pde_4 c l
  have t1 : x.pte < 4294967296 := by rw [e2]; exact pte_lt _ l hone
  have t2 : x.pte % 4 = 0 := by rw [e2]; exact pte_4 _ l
  have e4 : R' = (R.mark x.pde 32).mark x.pte 32 := e4
  obtain ⟨g1, g2, g3, g4⟩ := P.mark x.pde 32 p1 p2 (by decide)
  obtain ⟨k1, k2, k3, k4⟩ := g1.mark x.pte 32 t1 t2 (by decide)
  have hP : R'.read x.pde 4 &&& 32 = 32 := by
    rw [e4]
    by_cases e : x.pte = x.pde
    · rw [show ((R.mark x.pde 32).mark x.pte 32).read x.pde 4 = ((R.mark x.pde 32).mark x.pte 32).read x.pte 4 by rw [e], k3]; exact and_or_self _
    · rw [k4 x.pde p1 p2 e, g3]; exact and_or_self _
  have hT : R'.read x.pte 4 &&& 32 = 32 := by rw [e4, k3]; exact and_or_self _
  have hx : R'.read x.pte 4 / 4096 * 4096 = x.frame := by rw [e4, P.marked x.pde x.pte p1 p2 t1 t2 32 (by decide), e3]
  have hw : Wide R := ⟨P.ok, P.c⟩
  exact ⟨by rw [e4]; exact k1, p1, p2, t1, t2, hP, hT, (good_of hw c l hc hl false us wp x R' h hP hT hx).2⟩
theorem find_again {R R' : RS} (P : Plain R) {c l l' : Nat} {us wp : Bool} {x : WalkR} (hc : c < 4294967296) (hl : l < 4294967296) (h : find R c l false us wp = (x, -1, R')) (e : l' / 4096 = l / 4096) : find R' c l' false us wp = (x, -1, R') := by
  obtain ⟨_, _, _, _, _, _, _, G⟩ := find_words P hc hl h
  exact G R' l' e rfl rfl
theorem find_still {R R1 R2 : RS} (P : Plain R) {c l m l' : Nat} {us wp : Bool} {x y : WalkR} (hc : c < 4294967296) (hl : l < 4294967296) (hm : m < 4294967296) (h : find R c l false us wp = (x, -1, R1)) (h2 : find R1 c m false us wp = (y, -1, R2)) (e : l' / 4096 = l / 4096) : find R2 c l' false us wp = (x, -1, R2) := by
  obtain ⟨P1, p1, p2, t1, t2, hP, hT, G⟩ := find_words P hc hl h
  obtain ⟨P2, q1, q2, s1, s2, _, _, _⟩ := find_words P1 hc hm h2
  obtain ⟨_, _, _, e4⟩ := find_ok_parts h2
  have e4 : R2 = (R1.mark y.pde 32).mark y.pte 32 := e4
  have PM := (P1.mark y.pde 32 q1 q2 (by decide)).1
  have a1 := mark_keep P1 q1 q2 p1 p2 hP
  have a2 := mark_keep P1 q1 q2 t1 t2 hT
  have b1 : R2.read x.pde 4 = R1.read x.pde 4 := by rw [e4, mark_keep PM s1 s2 p1 p2 (by rw [a1]; exact hP), a1]
  have b2 : R2.read x.pte 4 = R1.read x.pte 4 := by rw [e4, mark_keep PM s1 s2 t1 t2 (by rw [a2]; exact hT), a2]
  exact G R2 l' e b1 b2
def partC (k : Int) (pages : Bool) : CpuS := { flatC k with cr0 := if pages then 2147483649 else 1, cr3 := if pages then 4096 else 0 }
theorem part_reach (k : Int) (pages : Bool) (off size : Nat) : ((partC k pages).seg 3).reach off size false = decide ((off : Int) + size - 1 ≤ 4294967295) := by
  show reach 4294967295 2 false true true off size false = _
  unfold reach
  have h1 : lR 2 false = true := by decide
  have h2 : lD 2 false = false := by decide
  rw [h1, h2]
  simp
theorem part_sg {R : RS} {k : Int} {pages : Bool} {off size : Nat} (ho : off < 4294967296) (hs : size = 1 ∨ size = 2 ∨ size = 4) :
    sg R (partC k pages) 3 off size false = if off + size ≤ 4294967296 then (SegGot.of (pg R (partC k pages) off size false (partC k pages).user).1, (pg R (partC k pages) off size false (partC k pages).user).2) else (.no 13 0 0, R) := by
  rw [show (3 : Int) = ((3 : Nat) : Int) from rfl, sg_in hs (by decide)]
  unfold sg2
  rw [part_reach]
  have e : ((((partC k pages).seg 3).base + off) % 4294967296) = off := by show (0 + off) % 4294967296 = off; omega
  rw [e]
  by_cases h : off + size ≤ 4294967296
  · rw [if_pos h, if_pos ⟨rfl, by simp; omega⟩]
  · rw [if_neg h, if_neg (fun hh => h (by have := hh.2; simp at this; omega))]
    rfl
theorem first_one (lin : Nat) : first lin 1 = 1 := by unfold first; omega
theorem part_cr3 (k : Int) (pages : Bool) : (partC k pages).cr3 < 4294967296 := by
  show (if pages then 4096 else 0) < 4294967296
  cases pages <;> decide
theorem find_gone {R R' : RS} {c l : Nat} {a b d : Bool} {x : WalkR} {cd : Int} (h : find R c l a b d = (x, cd, R')) (h0 : 0 ≤ cd) : R' = R := by
  unfold find at h
  split at h
  · exact (Prod.mk.inj (Prod.mk.inj h).2).2.symm
  · split at h
    · exact (Prod.mk.inj (Prod.mk.inj h).2).2.symm
    · simp only at h
      split at h
      · exact (Prod.mk.inj (Prod.mk.inj h).2).2.symm
      · have := (Prod.mk.inj (Prod.mk.inj h).2).1; omega
theorem Plain.wide {R : RS} (P : Plain R) : Wide R := ⟨P.ok, P.c⟩
/-- A byte's place is found again. -/
theorem pg_again {R R' : RS} (P : Plain R) {C : CpuS} (hc : C.cr3 < 4294967296) {lin : Nat} (hl : lin < 4294967296) {u : Bool} {g : PgR} (h : pg R C lin 1 false u = (g, R')) : pg R' C lin 1 false u = (g, R') ∧ Plain R' := by
  cases hp : C.paged with
  | false =>
    unfold pg at h ⊢
    rw [hp] at h ⊢
    obtain ⟨rfl, rfl⟩ := Prod.mk.inj h
    exact ⟨rfl, P⟩
  | true =>
    rw [pg_on hp] at h ⊢
    obtain ⟨⟨x, cd, R1⟩, hr⟩ : ∃ r, find R C.cr3 lin false u C.wp = r := ⟨_, rfl⟩
    rw [hr] at h
    by_cases h0 : 0 ≤ cd
    · rw [pg1_fault h0] at h
      obtain ⟨rfl, rfl⟩ := Prod.mk.inj h
      have := find_gone hr h0
      subst this
      rw [hr, pg1_fault h0]
      exact ⟨rfl, P⟩
    · obtain rfl := find_no_code P.wide hc hl hr h0
      rw [pg1_one h0 (first_one lin).symm] at h
      obtain ⟨rfl, rfl⟩ := Prod.mk.inj h
      rw [find_again P hc hl hr rfl, pg1_one h0 (first_one lin).symm]
      exact ⟨rfl, (find_words P hc hl hr).1⟩
theorem part_ld {R : RS} {k : Int} {pages : Bool} {lin : Nat} (hl : lin < 4294967296) : ld R (partC k pages) 3 lin 1 = ldOf (SegGot.of (pg R (partC k pages) lin 1 false (partC k pages).user).1, (pg R (partC k pages) lin 1 false (partC k pages).user).2) := by
  have hs := part_sg (R := R) (k := k) (pages := pages) (off := lin) (size := 1) hl (.inl rfl)
  rw [if_pos (by omega)] at hs
  exact congrArg ldOf hs
theorem part_cd {R : RS} {k : Int} {pages : Bool} {lin : Nat} (hl : lin < 4294967296) : cdr R (partC k pages) lin = cdOf (pg R (partC k pages) lin 1 false (partC k pages).user) := by
  unfold cdr
  rw [if_neg (show ¬ ((partC k pages).seg 1).lim < lin by show ¬ 4294967295 < lin; omega)]
  have e : ((((partC k pages).seg 1).base + lin) % 4294967296) = lin := by show (0 + lin) % 4294967296 = lin; omega
  rw [e]
/-- A byte is found as code is. -/
theorem part_step {R : RS} (P : Plain R) (k : Int) (pages : Bool) (lin : Nat) (hl : lin < 4294967296) :
    ∃ v a f R', ld R (partC k pages) 3 lin 1 = ((v, f), R') ∧ cdr R' (partC k pages) lin = ((v, a, f), R') ∧ Plain R' ∧ v < 256 ∧ (f = noF ∨ 0 ≤ f.vec) := by
  rw [part_ld hl]
  obtain ⟨⟨g, R'⟩, h⟩ : ∃ r, pg R (partC k pages) lin 1 false (partC k pages).user = r := ⟨_, rfl⟩
  obtain ⟨h2, P'⟩ := pg_again P (part_cr3 k pages) hl h
  rw [h]
  cases g with
  | ok s =>
    obtain ⟨hs, hn⟩ := pg_fits P.wide hl (by decide) (part_cr3 k pages) h
    refine ⟨getN R' s (s.n0 + s.n1), s.a0, noF, R', rfl, by rw [part_cd hl, h2]; rfl, P', ?_, .inl rfl⟩
    have := getN_lt P'.ok s (s.n0 + s.n1)
    rw [hn] at this ⊢
    simpa using this
  | fault cd a => exact ⟨0, 0, ⟨14, cd, a⟩, R', rfl, by rw [part_cd hl, h2]; rfl, P', by decide, .inr (by show (0 : Int) ≤ 14; decide)⟩
/-- The bytes of a wide value are found one by one where they lie. -/
theorem pg_bytes {R R' : RS} (P : Plain R) {C : CpuS} (hc : C.cr3 < 4294967296) {off : Nat} (hl : off + 4 ≤ 4294967296) {u : Bool} {s : SpanS} (h : pg R C off 4 false u = (.ok s, R')) :
    Plain R' ∧ ∀ i, i < 4 → ∃ t, pg R' C (off + i) 1 false u = (.ok t, R') ∧ t.at 0 = s.at i ∧ t.n0 + t.n1 = 1 := by
  have ho : off < 4294967296 := by omega
  have hf : first off 4 = min 4 (4096 - off % 4096) := rfl
  have hl2 : lin2 off 4 = (off + first off 4) % 4294967296 := rfl
  have hll : lin2 off 4 < 4294967296 := by rw [hl2]; omega
  cases hp : C.paged with
  | false =>
    unfold pg at h
    rw [hp] at h
    obtain ⟨h1, h2⟩ := Prod.mk.inj h
    injection h1 with h1
    subst h1 h2
    refine ⟨P, fun i hi => ⟨⟨off + i, lin2 (off + i) 1, first (off + i) 1, 1 - first (off + i) 1⟩, by unfold pg; rw [hp]; rfl, ?_, by show first (off + i) 1 + (1 - first (off + i) 1) = 1; rw [first_one]⟩⟩
    unfold SpanS.at at32
    simp only [first_one]
    split <;> split <;> omega
  | true =>
    rw [pg_on hp] at h
    obtain ⟨⟨x, cd, R1⟩, hr⟩ : ∃ r, find R C.cr3 off false u C.wp = r := ⟨_, rfl⟩
    obtain ⟨fr, pd, pt, xw, xu⟩ := x
    rw [hr] at h
    obtain ⟨f1, f2⟩ := find_frame P.wide hr
    by_cases h0 : 0 ≤ cd
    · rw [pg1_fault h0] at h; cases h
    · obtain rfl := find_no_code P.wide hc ho hr h0
      have P1 := (find_words P hc ho hr).1
      by_cases h1 : 4 = first off 4
      · rw [pg1_one h0 h1] at h
        obtain ⟨h2, h3⟩ := Prod.mk.inj h
        injection h2 with h2
        subst h2 h3
        refine ⟨P1, fun i hi => ⟨⟨onPage fr (off + i), lin2 (off + i) 1, first (off + i) 1, 0⟩, ?_, ?_, by show first (off + i) 1 + 0 = 1; rw [first_one]⟩⟩
        · rw [pg_on hp, find_again P hc ho hr (show (off + i) / 4096 = off / 4096 by omega), pg1_one h0 (first_one _).symm]
        · unfold SpanS.at at32 onPage
          simp only [first_one]
          split <;> split <;> omega
      · rw [pg1_two h0 h1] at h
        obtain ⟨⟨y, cd2, R2⟩, hr2⟩ : ∃ r, find R1 C.cr3 (lin2 off 4) false u C.wp = r := ⟨_, rfl⟩
        obtain ⟨fr2, pd2, pt2, xw2, xu2⟩ := y
        rw [hr2] at h
        obtain ⟨k1, k2⟩ := find_frame P1.wide hr2
        by_cases h5 : 0 ≤ cd2
        · rw [pg2_fault h5] at h; cases h
        · obtain rfl := find_no_code P1.wide hc hll hr2 h5
          have P2 := (find_words P1 hc hll hr2).1
          rw [pg2_ok h5] at h
          obtain ⟨h2, h3⟩ := Prod.mk.inj h
          injection h2 with h2
          subst h2 h3
          refine ⟨P2, fun i hi => ?_⟩
          by_cases hi2 : i < first off 4
          · refine ⟨⟨onPage fr (off + i), lin2 (off + i) 1, first (off + i) 1, 0⟩, ?_, ?_, by show first (off + i) 1 + 0 = 1; rw [first_one]⟩
            · rw [pg_on hp, find_still P hc ho hll hr hr2 (show (off + i) / 4096 = off / 4096 by omega), pg1_one h0 (first_one _).symm]
            · unfold SpanS.at at32 onPage
              simp only [first_one]
              rw [if_pos (by decide), if_pos hi2]
              omega
          · refine ⟨⟨onPage fr2 (off + i), lin2 (off + i) 1, first (off + i) 1, 0⟩, ?_, ?_, by show first (off + i) 1 + 0 = 1; rw [first_one]⟩
            · rw [pg_on hp, find_again P1 hc hll hr2 (show (off + i) / 4096 = lin2 off 4 / 4096 by omega), pg1_one h5 (first_one _).symm]
            · unfold SpanS.at at32 onPage
              simp only [first_one]
              rw [if_pos (by decide), if_neg hi2]
              omega
/-- A wide value's bytes. -/
theorem part_wide {R R' : RS} (P : Plain R) {k : Int} {pages : Bool} {off x : Nat} (ho : off < 4294967296) {f : FaultS} (h : ld R (partC k pages) 3 off 4 = ((x, f), R')) :
    (0 ≤ f.vec ∨ (f = noF ∧ ∃ b : Nat → Nat, (∀ i, i < 4 → b i < 256 ∧ ∃ a, ld R' (partC k pages) 3 ((off + i) % 4294967296) 1 = ((b i, noF), R') ∧ cdr R' (partC k pages) ((off + i) % 4294967296) = ((b i, a, noF), R')) ∧ x = b 0 + b 1 * 256 + b 2 * 65536 + b 3 * 16777216)) ∧ Plain R' := by
  have hs := part_sg (R := R) (k := k) (pages := pages) (off := off) (size := 4) ho (.inr (.inr rfl))
  have h' : ldOf (sg R (partC k pages) 3 off ((4 : Nat) : Int) false) = ((x, f), R') := h
  rw [hs] at h'
  by_cases hfit : off + 4 ≤ 4294967296
  · rw [if_pos hfit] at h'
    obtain ⟨⟨g, R1⟩, hg⟩ : ∃ r, pg R (partC k pages) off 4 false (partC k pages).user = r := ⟨_, rfl⟩
    rw [hg] at h'
    cases g with
    | fault cd a =>
      obtain ⟨h1, h2⟩ := Prod.mk.inj h'
      obtain ⟨_, h3⟩ := Prod.mk.inj h1
      have hR : R1 = R' := h2
      subst hR
      refine ⟨.inl (by rw [← h3]; show (0 : Int) ≤ 14; decide), ?_⟩
      -- a fault behind the first page leaves its marks
      cases hp : (partC k pages).paged with
      | false => unfold pg at hg; rw [hp] at hg; cases (Prod.mk.inj hg).1
      | true =>
        rw [pg_on hp] at hg
        obtain ⟨⟨y, cd1, R2⟩, hr⟩ : ∃ r, find R (partC k pages).cr3 off false (partC k pages).user (partC k pages).wp = r := ⟨_, rfl⟩
        rw [hr] at hg
        by_cases h0 : 0 ≤ cd1
        · rw [pg1_fault h0] at hg
          have h4 : R2 = R1 := (Prod.mk.inj hg).2
          rw [← h4, find_gone hr h0]; exact P
        · obtain rfl := find_no_code P.wide (part_cr3 k pages) ho hr h0
          have P1 := (find_words P (part_cr3 k pages) ho hr).1
          by_cases h5 : 4 = first off 4
          · rw [pg1_one h0 h5] at hg; cases (Prod.mk.inj hg).1
          · rw [pg1_two h0 h5] at hg
            obtain ⟨⟨z, cd2, R3⟩, hr2⟩ : ∃ r, find R2 (partC k pages).cr3 (lin2 off 4) false (partC k pages).user (partC k pages).wp = r := ⟨_, rfl⟩
            rw [hr2] at hg
            by_cases h6 : 0 ≤ cd2
            · rw [pg2_fault h6] at hg
              have h4 : R3 = R1 := (Prod.mk.inj hg).2
              rw [← h4, find_gone hr2 h6]; exact P1
            · rw [pg2_ok h6] at hg; cases (Prod.mk.inj hg).1
    | ok s =>
      obtain ⟨h1, h2⟩ := Prod.mk.inj h'
      obtain ⟨hx, h3⟩ := Prod.mk.inj h1
      have hR : R1 = R' := h2
      subst hR
      obtain ⟨P', hb⟩ := pg_bytes P (part_cr3 k pages) hfit hg
      obtain ⟨hs4, hn⟩ := pg_fits P.wide ho (by decide) (part_cr3 k pages) hg
      refine ⟨.inr ⟨h3.symm, fun i => R1.get (s.at i), fun i hi => ?_, ?_⟩, P'⟩
      · obtain ⟨t, ht, hat, hnt⟩ := hb i hi
        have hlt : off + i < 4294967296 := by omega
        have e : (off + i) % 4294967296 = off + i := Nat.mod_eq_of_lt hlt
        have hv : getN R1 t (t.n0 + t.n1) = R1.get (s.at i) := by
          rw [hnt]
          show 0 + R1.get (t.at 0) * 256 ^ 0 = _
          rw [hat]; omega
        refine ⟨RS.get_lt P'.ok _, t.a0, ?_, ?_⟩
        · rw [e, part_ld hlt, ht]
          show ((getN R1 t (t.n0 + t.n1), noF), R1) = _
          rw [hv]
        · rw [e, part_cd hlt, ht]
          show ((getN R1 t (t.n0 + t.n1), t.a0, noF), R1) = _
          rw [hv]
      · rw [← hx, hn]
        show 0 + R1.get (s.at 0) * 256 ^ 0 + R1.get (s.at 1) * 256 ^ 1 + R1.get (s.at 2) * 256 ^ 2 + R1.get (s.at 3) * 256 ^ 3 = R1.get (s.at 0) + R1.get (s.at 1) * 256 + R1.get (s.at 2) * 65536 + R1.get (s.at 3) * 16777216
        omega
  · rw [if_neg hfit] at h'
    obtain ⟨h1, h2⟩ := Prod.mk.inj h'
    obtain ⟨_, h3⟩ := Prod.mk.inj h1
    have hR : R = R' := h2
    subst hR
    exact ⟨.inl (by rw [← h3]; show (0 : Int) ≤ 13; decide), P⟩
end Go.Proofs.Ytknokiadbkgmaaa
