/- vmem's laws in plain words: rings; what is stored is loaded. -/
import Derived.Test.YtknokiadbkgmaaaVmIO
import Derived.Test.YtknokiadbkgmaaaVmTop
namespace Go.Proofs.Ytknokiadbkgmaaa
open Go.RowKit
set_option linter.unusedVariables false

theorem ring_find {R R' : RS} {c l : Nat} {wr wp : Bool} {x : WalkR} (h : find R c l wr true false = (x, -1, R')) : find R c l wr false wp = (x, -1, R') := by
  have cn : ∀ a b : Bool, codeOf a b ≠ -1 := by decide
  have cn1 : ∀ a b : Bool, codeOf a b + 1 ≠ -1 := by decide
  unfold find at h ⊢
  by_cases h1 : R.read (pdeOf c l) 4 % 2 = 0
  · rw [if_pos h1] at h
    exact absurd (Prod.mk.inj (Prod.mk.inj h).2).1 (cn _ _)
  · rw [if_neg h1] at h ⊢
    by_cases h2 : R.read (pteOf (R.read (pdeOf c l) 4) l) 4 % 2 = 0
    · rw [if_pos h2] at h
      exact absurd (Prod.mk.inj (Prod.mk.inj h).2).1 (cn _ _)
    · rw [if_neg h2] at h ⊢
      simp only at h ⊢
      generalize (R.read (pdeOf c l) 4 / 2 % 2 == 1 && R.read (pteOf (R.read (pdeOf c l) 4) l) 4 / 2 % 2 == 1) = w at *
      generalize (R.read (pdeOf c l) 4 / 4 % 2 == 1 && R.read (pteOf (R.read (pdeOf c l) 4) l) 4 / 4 % 2 == 1) = u at *
      have hb : bad w u wr true false = false := by
        cases hb : bad w u wr true false with
        | false => rfl
        | true =>
          rw [if_pos hb] at h
          exact absurd (Prod.mk.inj (Prod.mk.inj h).2).1 (cn1 _ _)
      rw [if_neg (by rw [hb]; decide)] at h
      rw [if_neg (by revert hb; cases w <;> cases u <;> cases wr <;> cases wp <;> decide)]
      exact h
theorem find_no_code {R R' : RS} {c l : Nat} {a b d : Bool} {x : WalkR} {cd : Int} (hw : Wide R) (hc : c < 4294967296) (hl : l < 4294967296) (h : find R c l a b d = (x, cd, R')) (h0 : ¬ 0 ≤ cd) : cd = -1 := by
  rcases (find_parts hw hc hl h).2.2.2 with h | h <;> omega
theorem ring_pg {R R' : RS} {C D : CpuS} {lin size : Nat} {wr : Bool} {s : SpanS} (hw : Wide R) (hl : lin < 4294967296) (hc : C.cr3 < 4294967296) (h1 : C.paged = true) (h2 : D.paged = true) (h3 : D.cr3 = C.cr3) (h4 : C.wp = false) (h : pg R C lin size wr true = (.ok s, R')) :
    pg R D lin size wr false = (.ok s, R') := by
  rw [pg_on h1, h4] at h
  rw [pg_on h2, h3]
  have hl2 : lin2 lin size < 4294967296 := by unfold lin2; omega
  obtain ⟨⟨x, cd, R1⟩, hr⟩ : ∃ r, find R C.cr3 lin wr true false = r := ⟨_, rfl⟩
  rw [hr] at h
  by_cases h0 : 0 ≤ cd
  · rw [pg1_fault h0] at h; cases h
  · obtain rfl := find_no_code hw hc hl hr h0
    rw [ring_find hr]
    by_cases hone : size = first lin size
    · rw [pg1_one h0 hone] at h ⊢; exact h
    · rw [pg1_two h0 hone] at h ⊢
      rw [h4] at h
      rw [h3]
      obtain ⟨⟨x2, cd2, R2⟩, hr2⟩ : ∃ r, find R1 C.cr3 (lin2 lin size) wr true false = r := ⟨_, rfl⟩
      rw [hr2] at h
      by_cases h5 : 0 ≤ cd2
      · rw [pg2_fault h5] at h; cases h
      · obtain rfl := find_no_code (find_parts hw hc hl hr).1 hc hl2 hr2 h5
        rw [ring_find hr2]
        rw [pg2_ok h5] at h ⊢
        exact h
def outerC : CpuS := { flatC 3 with cr0 := 2147483649, cr3 := 4096 }
def innerC (wp : Bool) : CpuS := { flatC 0 with cr0 := if wp then 2147549185 else 2147483649, cr3 := 4096 }
theorem inner_paged (wp : Bool) : (innerC wp).paged = true := by cases wp <;> decide
theorem inner_user (wp : Bool) : (innerC wp).user = false := by cases wp <;> decide
theorem outer_reach (off size : Nat) (wr wp : Bool) : (outerC.seg 3).reach off size wr = ((innerC wp).seg 3).reach off size wr := rfl
/-- What ring 3 finds, the inner rings and the processor itself find. -/
theorem ring_sg {R R' : RS} {off : Nat} {size : Int} {wr wp : Bool} {s : SpanS} (hw : Wide R) (ho : off < 4294967296) (h : sg R outerC 3 off size wr = (.ok s, R')) :
    sg R (innerC wp) 3 off size wr = (.ok s, R') ∧ sy R outerC off size wr = (.ok s, R') := by
  have hz : (0 + off) % 4294967296 = off := by omega
  unfold sg at h ⊢
  split at h
  · rename_i hh
    rw [if_pos hh]
    unfold sg2 at h ⊢
    split at h
    · rename_i h2
      rw [if_pos (show ((innerC wp).seg (3 : Int).toNat).nul = false ∧ ((innerC wp).seg (3 : Int).toNat).reach off size.toNat wr = true from ⟨rfl, (outer_reach off size.toNat wr wp).symm.trans h2.2⟩)]
      have e1 : pg R outerC (((outerC.seg (3 : Int).toNat).base + off) % 4294967296) size.toNat wr outerC.user = pg R outerC off size.toNat wr true := by
        rw [show (outerC.seg (3 : Int).toNat).base = 0 from rfl, hz, show outerC.user = true from rfl]
      have e2 : pg R (innerC wp) ((((innerC wp).seg (3 : Int).toNat).base + off) % 4294967296) size.toNat wr (innerC wp).user = pg R (innerC wp) off size.toNat wr false := by
        rw [show ((innerC wp).seg (3 : Int).toNat).base = 0 from rfl, hz, inner_user wp]
      rw [e1] at h
      rw [e2]
      obtain ⟨⟨g, R1⟩, hg⟩ : ∃ r, pg R outerC off size.toNat wr true = r := ⟨_, rfl⟩
      rw [hg] at h
      cases g with
      | fault cd a => cases h
      | ok s' =>
        obtain ⟨h3, h4⟩ := Prod.mk.inj h
        injection h3 with h3
        have h4' : R1 = R' := h4
        subst h3 h4'
        refine ⟨by rw [ring_pg (C := outerC) (D := innerC wp) hw ho (by decide) (by decide) (inner_paged wp) rfl (by decide) hg]; rfl, ?_⟩
        unfold sy
        rw [if_pos hh.1, ring_pg (C := outerC) (D := outerC) hw ho (by decide) (by decide) (by decide) rfl (by decide) hg]
        rfl
    · cases h
  · cases h
theorem pg_vec {R R' : RS} {C : CpuS} {lin size : Nat} {wr us : Bool} {v cd : Int} {a : Nat} (h : (SegGot.of (pg R C lin size wr us).1, (pg R C lin size wr us).2) = (SegGot.no v cd a, R')) : v = 14 := by
  obtain ⟨h1, _⟩ := Prod.mk.inj h
  cases hp : (pg R C lin size wr us).1 with
  | ok s => rw [hp] at h1; cases h1
  | fault c b => rw [hp] at h1; injection h1 with h2; exact h2.symm
theorem sg_vec {R R' : RS} {C : CpuS} {seg : Int} {off : Nat} {size : Int} {wr : Bool} {v cd : Int} {a : Nat} (h : sg R C seg off size wr = (.no v cd a, R')) : v = 12 ∨ v = 13 ∨ v = 14 := by
  unfold sg at h
  split at h
  · unfold sg2 at h
    split at h
    · exact .inr (.inr (pg_vec h))
    · obtain ⟨h1, _⟩ := Prod.mk.inj h
      injection h1 with h2
      split at h2 <;> omega
  · obtain ⟨h1, _⟩ := Prod.mk.inj h
    injection h1 with h2
    exact .inr (.inl h2.symm)
end Go.Proofs.Ytknokiadbkgmaaa
