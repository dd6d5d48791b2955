/- except's law Ends, plainly. -/
import Derived.Test.YtmpcafdgkbpneaaGreatS26
namespace Go.Proofs.YtmpcafdgkbpneaaGreat
open Go.RowKit
set_option linter.unusedVariables false

section
variable {s s1 : Es}
theorem typ_code (t : Int) (h0 : 0 ≤ t) (h1 : t ≤ 15) (h : tb t 8 = true) : 8 ≤ t := by
  obtain ⟨k, rfl⟩ : ∃ k : Nat, t = (k : Int) := ⟨t.toNat, by omega⟩
  have hk : k ≤ 15 := by omega
  have key : ∀ k : Nat, k ≤ 7 → tb ((k : Nat) : Int) 8 = false := fun k h => by
    rcases (show k = 0 ∨ k = 1 ∨ k = 2 ∨ k = 3 ∨ k = 4 ∨ k = 5 ∨ k = 6 ∨ k = 7 by omega) with rfl | rfl | rfl | rfl | rfl | rfl | rfl | rfl <;> rfl
  by_cases h8 : k ≤ 7
  · rw [key k h8] at h; cases h
  · omega
theorem Safe.when (hg : s.good) {p : Bool} {m : Ex Unit} {Q : Unit → Es → Prop} (h1 : p = true → Safe m s Q) (h2 : p = false → Q () s) : Safe (whenE p m) s Q := by
  cases p
  · exact Safe.done hg (h2 rfl)
  · exact h1 rfl
theorem Safe.inner (hg : s.good) (rn : Nat) (x : Int) : Safe (innerE rn x) s fun _ s1 => s1.C.dead = s.C.dead := by
  unfold innerE
  refine Safe.here ((Safe.need hg _ _ _ (by decide)).bind fun _ t1 g1 e1 => ?_)
  obtain ⟨rfl, _⟩ := e1
  refine (Safe.sys4 g1 _ (Nat.mod_lt _ (by decide))).bind fun sp t2 g2 e2 => ?_
  refine (Safe.sys2 g2 _ (Nat.mod_lt _ (by decide))).bind fun sel t3 g3 e3 => ?_
  refine (Safe.need g3 _ _ _ (by decide)).bind fun _ t4 g4 e4 => ?_
  obtain ⟨rfl, _⟩ := e4
  refine (Safe.desc g4 sel e3.1 _ _ (by decide)).bind fun d t5 g5 e5 => ?_
  refine (Safe.need g5 _ _ _ (by decide)).bind fun _ t6 g6 e6 => ?_
  obtain ⟨rfl, _⟩ := e6
  refine (Safe.need g6 _ _ _ (by decide)).bind fun _ t7 g7 e7 => ?_
  obtain ⟨rfl, _⟩ := e7
  refine Safe.turn ⟨g7.wide, setR_ok (setSeg_ok g7.ok 2 d e5.2.1) 4 sp e2.1⟩ ?_
  show t7.C.dead = t1.C.dead
  rw [e5.1, e3.2, e2.2]
/-- The same but for a register. -/
def SameR (C D : CpuS) : Prop := D.dead = C.dead ∧ D.seg = C.seg ∧ D.eip = C.eip ∧ D.flags = C.flags
theorem SameR.refl (C : CpuS) : SameR C C := ⟨rfl, rfl, rfl, rfl⟩
theorem SameR.trans {A B C : CpuS} (h : SameR A B) (g : SameR B C) : SameR A C := ⟨g.1.trans h.1, g.2.1.trans h.2.1, g.2.2.1.trans h.2.2.1, g.2.2.2.trans h.2.2.2⟩
theorem Safe.push' (hg : s.good) (v : Nat) : Safe (pushE v) s fun _ s1 => SameR s.C s1.C := (Safe.push hg v).mono fun _ s1 g e => by rw [e]; exact ⟨rfl, rfl, rfl, rfl⟩
theorem Safe.pushes (hg : s.good) (old : CpuS) (other : Bool) (num : Int) : Safe (pushesE old other num) s fun _ s1 => SameR s.C s1.C := by
  unfold pushesE
  refine (Safe.when hg (Q := fun _ s1 => SameR s.C s1.C) (fun _ => (Safe.push' hg _).bind fun _ t1 g1 e1 => (Safe.push' g1 _).mono fun _ t2 g2 e2 => e1.trans e2) (fun _ => SameR.refl _)).bind fun _ t1 g1 e1 => ?_
  refine (Safe.push' g1 _).bind fun _ t2 g2 e2 => (Safe.push' g2 _).bind fun _ t3 g3 e3 => (Safe.push' g3 _).bind fun _ t4 g4 e4 => ?_
  have e := ((e1.trans e2).trans e3).trans e4
  exact Safe.when g4 (fun _ => (Safe.push' g4 _).mono fun _ t5 g5 e5 => e.trans e5) (fun _ => e)
/-- The processor is at a gate's place. -/
def AtGate (C D : CpuS) : Prop := D.dead = C.dead ∧ D.eip ≤ (D.seg 1).lim ∧ (D.seg 1).sys = false ∧ 8 ≤ (D.seg 1).typ ∧ D.halted = false ∧ D.shadow = false
theorem placed_seg (C : CpuS) (p k : Nat) : (C.placed p k).seg = C.seg ∧ (C.placed p k).eip = p ∧ (C.placed p k).halted = false ∧ (C.placed p k).shadow = false ∧ (C.placed p k).dead = C.dead := ⟨rfl, rfl, rfl, rfl, rfl⟩
theorem placed_ok {C : CpuS} (h : C.ok) (p k : Nat) (hp : p < 4294967296) : (C.placed p k).ok := by
  refine ⟨h.r, hp, ?_, h.seg, h.cr0, h.cr2, h.cr3, h.gb, h.gl, h.ib, h.il, h.tr⟩
  show (if k = 14 then clr (clr C.flags 16640) 512 else clr C.flags 16640) < _
  have h1 : ∀ a m, a < 4294967296 → clr a m < 4294967296 := fun a m ha => Nat.lt_of_le_of_lt Nat.and_le_left ha
  split
  · exact h1 _ _ (h1 _ _ h.flags)
  · exact h1 _ _ h.flags
theorem Safe.enter3 (hg : s.good) (num x : Int) (kind sel place : Nat) (d : SegR) (hd : d.ok) (hs : sel < 65536) (hp : place < 4294967296) (hl : place ≤ d.lim) (h0 : d.sys = false) (h8 : 8 ≤ d.typ) :
    Safe (enter3 num x kind sel place d) s fun _ s1 => AtGate s.C s1.C := by
  unfold Go.Proofs.YtmpcafdgkbpneaaGreat.enter3
  refine Safe.here ((Safe.when hg (Q := fun _ s1 => s1.C.dead = s.C.dead) (fun _ => Safe.inner hg _ _) (fun _ => rfl)).bind fun _ t1 g1 e1 => ?_)
  have hr4 : toRing d s.C.ring < 4 := by
    unfold toRing
    split
    · rename_i h
      simp only [Bool.and_eq_true, decide_eq_true_eq] at h
      have : s.C.ring < 4 := Nat.mod_lt _ (by decide)
      omega
    · exact Nat.mod_lt _ (by decide)
  have hsr : sel - sel % 4 + toRing d s.C.ring < 65536 := by omega
  have hok : ({ d with sel := sel - sel % 4 + toRing d s.C.ring } : SegR).ok := ⟨hsr, hd.base, hd.lim, hd.typ, hd.dpl⟩
  refine (Safe.turn (Q := fun _ s2 => s2.C.dead = s.C.dead ∧ s2.C.seg 1 = { d with sel := sel - sel % 4 + toRing d s.C.ring }) ⟨g1.wide, setSeg_ok g1.ok 1 _ hok⟩ ⟨e1, rfl⟩).bind fun _ t2 g2 e2 => ?_
  refine (Safe.pushes g2 _ _ _).bind fun _ t3 g3 e3 => Safe.turn ⟨g3.wide, placed_ok g3.ok place kind hp⟩ ?_
  have e4 : t3.C.seg 1 = { d with sel := sel - sel % 4 + toRing d s.C.ring } := by rw [e3.2.1]; exact e2.2
  refine ⟨e3.1.trans e2.1, ?_, ?_, ?_, rfl, rfl⟩
  · show place ≤ (t3.C.seg 1).lim
    rw [e4]; exact hl
  · show (t3.C.seg 1).sys = false
    rw [e4]; exact h0
  · show 8 ≤ (t3.C.seg 1).typ
    rw [e4]; exact h8
theorem Safe.enter (hg : s.good) (vec num : Int) (soft : Bool) : Safe (enterE vec num soft) s fun _ s1 => AtGate s.C s1.C := by
  unfold enterE
  refine (Safe.need hg _ _ _ (by decide)).bind fun _ t1 g1 e1 => ?_
  obtain ⟨rfl, _⟩ := e1
  unfold enter1
  refine Safe.here ((Safe.need g1 _ _ _ (by decide)).bind fun _ t2 g2 e2 => ?_)
  obtain ⟨rfl, _⟩ := e2
  refine (Safe.sys4 g2 _ (Nat.mod_lt _ (by decide))).bind fun lo t3 g3 e3 => ?_
  refine (Safe.sys4 g3 _ (Nat.mod_lt _ (by decide))).bind fun hi t4 g4 e4 => ?_
  unfold enter2
  refine Safe.here ((Safe.need g4 _ _ _ (by decide)).bind fun _ t5 g5 e5 => ?_)
  obtain ⟨rfl, _⟩ := e5
  refine (Safe.need g5 _ _ _ (by decide)).bind fun _ t6 g6 e6 => ?_
  obtain ⟨rfl, _⟩ := e6
  refine (Safe.need g6 _ _ _ (by decide)).bind fun _ t7 g7 e7 => ?_
  obtain ⟨rfl, _⟩ := e7
  have hlo := e3.1
  have hhi := e4.1
  refine (Safe.desc g7 (lo / 65536) (by omega) _ _ (by decide)).bind fun d t8 g8 e8 => ?_
  refine (Safe.need g8 _ _ _ (by decide)).bind fun _ t9 g9 e9 => ?_
  obtain ⟨rfl, hcode⟩ := e9
  refine (Safe.need g9 _ _ _ (by decide)).bind fun _ t10 g10 e10 => ?_
  obtain ⟨rfl, _⟩ := e10
  refine (Safe.need g10 _ _ _ (by decide)).bind fun _ t11 g11 e11 => ?_
  obtain ⟨rfl, hlim⟩ := e11
  simp only [Bool.and_eq_true, SegR.isCode, Bool.not_eq_true'] at hcode
  refine (Safe.enter3 g11 num _ _ _ _ d e8.2.1 (by omega) (by omega) (of_decide_eq_true hlim) hcode.1.1.1 (typ_code _ e8.2.2.2.2.2.1 e8.2.2.2.2.2.2.1 hcode.1.1.2)).mono fun _ s1 gs ea => ?_
  have hC : t11.C = t2.C := by rw [e8.1, e4.2, e3.2]
  rw [hC] at ea
  exact ea
/-- The processor is as it was, but for the place of a fault. -/
def SameC (C D : CpuS) : Prop := D.r = C.r ∧ D.eip = C.eip ∧ D.flags = C.flags ∧ D.seg = C.seg ∧ D.dead = C.dead
/-- What Ends says. -/
def EndsP (C D : CpuS) : Prop := (D.dead = true ∧ D.r = C.r ∧ D.eip = C.eip ∧ D.flags = C.flags ∧ D.seg = C.seg) ∨ (D.dead = false ∧ D.eip ≤ (D.seg 1).lim ∧ (D.seg 1).sys = false ∧ 8 ≤ (D.seg 1).typ ∧ D.halted = false ∧ D.shadow = false)
def mu (f : FaultS) : Nat := if f.vec = 8 then 0 else if f.vec = 14 then 1 else if 10 ≤ f.vec ∧ f.vec ≤ 13 then 2 else 3
theorem cls_one (v : Int) (h : 10 ≤ v ∧ v ≤ 13) : clsE v = 1 := by unfold clsE; rw [if_pos (.inr h)]
theorem cls_two : clsE 14 = 2 := by decide
theorem cls_pos (v : Int) (h : 10 ≤ v ∧ v ≤ 14) : 0 < clsE v := by
  by_cases h1 : v ≤ 13
  · rw [cls_one v ⟨h.1, h1⟩]; decide
  · rw [show v = 14 by omega, cls_two]; decide
theorem fault_step (C : CpuS) (f : FaultS) (s : Es) (hg : s.good) (hC : SameC C s.C) (h0 : C.dead = false) (hv : 0 ≤ f.vec) (hc : f.cr2 < 4294967296) :
    (∃ s1, fault1 f s = (none, s1) ∧ EndsP C s1.C) ∨ (∃ g s1, fault1 f s = (some g, s1) ∧ s1.good ∧ SameC C s1.C ∧ 0 ≤ g.vec ∧ g.cr2 < 4294967296 ∧ mu g < mu f) := by
  have hs0 : ∃ s0 : Es, s0 = (if f.vec = 14 then ⟨{ s.C with cr2 := f.cr2 }, s.R⟩ else s) ∧ s0.good ∧ SameC C s0.C := by
    refine ⟨_, rfl, ?_⟩
    split
    · exact ⟨⟨hg.wide, ⟨hg.ok.r, hg.ok.eip, hg.ok.flags, hg.ok.seg, hg.ok.cr0, hc, hg.ok.cr3, hg.ok.gb, hg.ok.gl, hg.ok.ib, hg.ok.il, hg.ok.tr⟩⟩, hC⟩
    · exact ⟨hg, hC⟩
  obtain ⟨s0, e0, g0, c0⟩ := hs0
  rcases he : enterE f.vec f.cd false s0 with ⟨g | u, s2⟩
  · obtain ⟨h1, _, h3⟩ := Safe.enter g0 f.vec f.cd false _ _ he
    have hgv := h3 g rfl
    have hcr := CrB.enter f.vec f.cd false _ _ _ he
    have ht : triedE (enterE f.vec f.cd false) s0 = (g, ⟨s0.C, s2.R⟩) := by unfold triedE; rw [he]
    have hgood : (⟨s0.C, s2.R⟩ : Es).good := ⟨h1.wide, g0.ok⟩
    by_cases h8 : f.vec = 8
    · left
      refine ⟨⟨{ s0.C with dead := true }, s2.R⟩, ?_, .inl ⟨rfl, c0.1, c0.2.1, c0.2.2.1, c0.2.2.2.1⟩⟩
      unfold fault1
      simp only [← e0, ht]
      rw [if_neg (by omega), if_pos h8]
    · right
      by_cases hcl : clsE f.vec = 1 ∧ clsE g.vec = 1 ∨ clsE f.vec = 2 ∧ 0 < clsE g.vec
      · refine ⟨⟨8, 0, 0⟩, ⟨s0.C, s2.R⟩, ?_, hgood, c0, by decide, by decide, ?_⟩
        · unfold fault1
          simp only [← e0, ht]
          rw [if_neg (by omega), if_neg h8, if_pos hcl]
        · show (0 : Nat) < mu f
          unfold mu
          rw [if_neg h8]
          split
          · decide
          · split <;> decide
      · refine ⟨g, ⟨s0.C, s2.R⟩, ?_, hgood, c0, by omega, hcr, ?_⟩
        · unfold fault1
          simp only [← e0, ht]
          rw [if_neg (by omega), if_neg h8, if_neg hcl]
        · have hp := cls_pos g.vec hgv
          have h14 : f.vec ≠ 14 := fun e => hcl (.inr ⟨by rw [e]; exact cls_two, hp⟩)
          unfold mu
          rw [if_neg h8, if_neg h14, if_neg (show ¬ g.vec = 8 by omega)]
          by_cases hg14 : g.vec = 14
          · rw [if_pos hg14]
            split <;> decide
          · rw [if_neg hg14, if_pos (show 10 ≤ g.vec ∧ g.vec ≤ 13 by omega)]
            have hn : ¬ (10 ≤ f.vec ∧ f.vec ≤ 13) := fun e => hcl (.inl ⟨cls_one _ e, cls_one _ (by omega)⟩)
            rw [if_neg hn]
            decide
  · obtain ⟨h1, h2, _⟩ := Safe.enter g0 f.vec f.cd false _ _ he
    have ha := h2 u rfl
    left
    refine ⟨s2, ?_, .inr ⟨?_, ha.2⟩⟩
    · have ht : triedE (enterE f.vec f.cd false) s0 = (noF, s2) := by unfold triedE; rw [he]
      unfold fault1
      simp only [← e0, ht]
      rw [if_pos (by decide)]
    · rw [ha.1, c0.2.2.2.2, h0]
theorem fault_ends (C : CpuS) (h0 : C.dead = false) : ∀ (k : Nat) (f : FaultS) (s : Es), mu f < k → s.good → SameC C s.C → 0 ≤ f.vec → f.cr2 < 4294967296 → ∃ s1, faultN k f s = (none, s1) ∧ EndsP C s1.C
  | 0, f, s, hm, _, _, _, _ => absurd hm (Nat.not_lt_zero _)
  | k + 1, f, s, hm, hg, hC, hv, hc => by
    rcases fault_step C f s hg hC h0 hv hc with ⟨s1, e, h⟩ | ⟨g, s1, e, h1, h2, h3, h4, h5⟩
    · refine ⟨s1, ?_, h⟩
      unfold faultN
      rw [if_neg (by omega), e]
    · obtain ⟨s2, e2, h6⟩ := fault_ends C h0 k g s1 (by omega) h1 h2 h3 h4
      refine ⟨s2, ?_, h6⟩
      unfold faultN
      rw [if_neg (by omega), e]
      exact e2
theorem fault_four (C : CpuS) (R : RS) (hw : Wide R) (hC : C.ok) (h0 : C.dead = false) (f : FaultS) (hv : 0 ≤ f.vec) (hc : f.cr2 < 4294967296) : ∃ s1, faultN 4 f ⟨C, R⟩ = (none, s1) ∧ EndsP C s1.C :=
  fault_ends C h0 4 f ⟨C, R⟩ (by unfold mu; split; decide; split; decide; split <;> decide) ⟨hw, hC⟩ ⟨rfl, rfl, rfl, rfl, rfl⟩ hv hc
end
end Go.Proofs.YtmpcafdgkbpneaaGreat
