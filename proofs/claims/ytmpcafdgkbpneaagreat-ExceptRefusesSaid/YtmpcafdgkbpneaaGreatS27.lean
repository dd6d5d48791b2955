/- Steps of a proof: ExFault, ExVk, together. -/
import Derived.Test.YtmpcafdgkbpneaaGreatS26
/- except: Fault. -/
set_option maxHeartbeats 4000000
set_option maxRecDepth 20000
namespace Go.Proofs.YtmpcafdgkbpneaaGreat
open Go.RowKit Go.MapKept
set_option linter.unusedVariables false
attribute [local go_sem ↓] Go.wp_at_zero Go.wp_at_succ

section
variable {w W w' w0 : World} {A A0 : Nat → Prop} {os bs loc : List Ob} {eb vb bb gf : Nat} {pl : Pl} {n n' N : Nat} {s s1 s' : Es}
theorem env_cr2 (C : CpuS) (vb bb v : Nat) : (envCells C vb bb).setIfInBounds 65 (.int .u32 (v : Nat)) = envCells { C with cr2 := v } vb bb := by kernel_rfl
theorem env_dead (C : CpuS) (vb bb : Nat) : (envCells C vb bb).setIfInBounds 82 (.bool true) = envCells { C with dead := true } vb bb := by kernel_rfl
theorem CpuAt.marks {w : World} {b : Nat} {C : CpuS} (h : CpuAt w b C) : w.cell? ⟨b, 65, none⟩ = some (.int .u32 (C.cr2 : Nat)) ∧ w.cell? ⟨b, 82, none⟩ = some (.bool C.dead) ∧ (∀ k, w.frozen? ⟨b, k, none⟩ = false) ∧ b < w.heap.size :=
 ⟨(h.cell 65 (by decide)).trans rfl, (h.cell 82 (by decide)).trans rfl, fun k => h.free k, h.lt⟩
theorem Hp.setCr2 (T : Hp w0 A0 w os) (i : Nat) (hi : os[i]? = some (oEn eb vb bb pl n s)) (v : Nat) (hv : v < 4294967296) : Hp w0 A0 (w.setCell ⟨eb, 65, none⟩ (.int .u32 (v : Nat))) (os.set i (oEn eb vb bb pl n ⟨{ s.C with cr2 := v }, s.R⟩)) :=
 have h := (T.cpu i hi).1
 T.setC i hi 65 _ (env_cr2 s.C vb bb v) ⟨h.r, h.eip, h.flags, h.seg, h.cr0, hv, h.cr3, h.gb, h.gl, h.ib, h.il, h.tr⟩
theorem Hp.setDead (T : Hp w0 A0 w os) (i : Nat) (hi : os[i]? = some (oEn eb vb bb pl n s)) : Hp w0 A0 (w.setCell ⟨eb, 82, none⟩ (.bool true)) (os.set i (oEn eb vb bb pl n ⟨{ s.C with dead := true }, s.R⟩)) :=
 have h := (T.cpu i hi).1
 T.setC i hi 82 _ (env_dead s.C vb bb) ⟨h.r, h.eip, h.flags, h.seg, h.cr0, h.cr2, h.cr3, h.gb, h.gl, h.ib, h.il, h.tr⟩
def Es.cr2d (s : Es) (f : FaultS) : Es := if f.vec = 14 then ⟨{ s.C with cr2 := f.cr2 }, s.R⟩ else s
def next1 (f g : FaultS) (s : Es) : Option FaultS × Es :=
 if g.vec < 0 then (none, s) else
 if f.vec = 8 then (none, ⟨{ s.C with dead := true }, s.R⟩) else
 if clsE f.vec = 1 ∧ clsE g.vec = 1 ∨ clsE f.vec = 2 ∧ 0 < clsE g.vec then (some ⟨8, 0, 0⟩, s) else (some g, s)
theorem fault1_eq (f : FaultS) (s : Es) : fault1 f s = next1 f (triedE (enterE f.vec f.cd false) (s.cr2d f)).1 (triedE (enterE f.vec f.cd false) (s.cr2d f)).2 := rfl
def goN (k : Nat) (r : Option FaultS × Es) (s1 : Es) : Prop := match r with
 | (none, s2) => s2 = s1
 | (some g, s2) => faultN k g s2 = (none, s1)
noncomputable def lbOf : Code → Code
 | .loop c => c
 | c => c
noncomputable def lb (f : Func) (n : Nat) : Code := lbOf (lp f n)
theorem fault_8 {k gg : Nat} {f g : FaultS} (T : Hp w A W ([oEn eb vb bb pl n s, fBox gf f] ++ [fBox gg g])) (hn : n + 40 * k ≤ N) (hg : ¬ g.vec < 0) (hc : g.cr2 < 4294967296) (hr : goN k (next1 f g s) s1) (IH : ∀ (g : FaultS) (s2 : Es) (n2 : Nat) (W2 : World) (v1 v2 v4 v5 v6 v7 v8 v9 v10 v11 v12 v13 v14 v15 v16 v17 v18 v19 v20 v21 v22 v23 v24 v25 v26 v27 v28 v29 v30 v31 v32 v33 v34 v35 v36 v37 v38 v39 v40 v41 v42 v43 v44 v45 v46 v47 v48 v49 v50 v51 v52 v53 v54 v55 v56 v57 v58 v59 v60 v61 v62 v63 v64 v65 v66 v67 v68 v69 v70 v71 v72 v73 v74 v75 : Value), Hp w A W2 [oEn eb vb bb pl n2 s2, fBox gf g] → faultN k g s2 = (none, s1) → n2 + 40 * k ≤ N → g.cr2 < 4294967296 → (Code.rounds Tryz.prog (lb Tryz.f16 2) (Exit.inBlock 0 (bodyPost Tryz.prog Tryz.f16 (fun e w' => e = .returned (.tuple #[]) ∧ ∃ A', (oEn eb vb bb pl N s1).P w' A' ∧ Moves A A' w w'))) k) ⟨#[.pointer (some ⟨eb, 0, none⟩), v1, v2, .pointer (some ⟨gf, 0, none⟩), v4, v5, v6, v7, v8, v9, v10, v11, v12, v13, v14, v15, v16, v17, v18, v19, v20, v21, v22, v23, v24, v25, v26, v27, v28, v29, v30, v31, v32, v33, v34, v35, v36, v37, v38, v39, v40, v41, v42, v43, v44, v45, v46, v47, v48, v49, v50, v51, v52, v53, v54, v55, v56, v57, v58, v59, v60, v61, v62, v63, v64, v65, v66, v67, v68, v69, v70, v71, v72, v73, v74, v75], []⟩ W2) {h1 h2 h3 h4 h5 h6 h7 a3 a4 a5 a6 a7 a8 a9 b0 u18 u19 u20 u21 u22 b3 b4 b5 b6 b7 b8 b9 c0 c1 a0 c2 c3 c4 c5 c6 c7 c8 c9 d0 d1 d2 d3 d4 d5 d6 d7 d8 d9 e0 e1 e2 e3 e4 e5 e6 e7 e8 e9 f3 f4 f5 f6 f7 f8 f9 g3 g4 g5 g6 g7 g8 g9 h0 : Value} {K8 : Act → World → Prop} (hK8 : ∀ a w1, Code.wp Tryz.prog (tl Tryz.f16 8) (Exit.inBlock 2 (Exit.inBlock 1 (Exit.then (Code.rounds Tryz.prog (lb Tryz.f16 2) (Exit.inBlock 0 (bodyPost Tryz.prog Tryz.f16 (fun e w' => e = .returned (.tuple #[]) ∧ ∃ A', (oEn eb vb bb pl N s1).P w' A' ∧ Moves A A' w w'))) k) (Exit.inBlock 0 (bodyPost Tryz.prog Tryz.f16 (fun e w' => e = .returned (.tuple #[]) ∧ ∃ A', (oEn eb vb bb pl N s1).P w' A' ∧ Moves A A' w w')))))) a w1 → K8 a w1) :
    Code.wp Tryz.prog (rg Tryz.f16 8) (Exit.then K8 (Exit.inBlock 2 (Exit.inBlock 1 (Exit.then (Code.rounds Tryz.prog (lb Tryz.f16 2) (Exit.inBlock 0 (bodyPost Tryz.prog Tryz.f16 (fun e w' => e = .returned (.tuple #[]) ∧ ∃ A', (oEn eb vb bb pl N s1).P w' A' ∧ Moves A A' w w'))) k) (Exit.inBlock 0 (bodyPost Tryz.prog Tryz.f16 (fun e w' => e = .returned (.tuple #[]) ∧ ∃ A', (oEn eb vb bb pl N s1).P w' A' ∧ Moves A A' w w'))))))) ⟨#[.pointer (some ⟨eb, 0, none⟩), h1, h2, .pointer (some ⟨gf, 0, none⟩), .pointer (some ⟨gg, 0, none⟩), h3, h4, h5, h6, h7, a3, a4, a5, a6, a7, a8, a9, b0, u18, u19, u20, u21, u22, b3, b4, b5, b6, b7, b8, b9, c0, c1, a0, c2, c3, c4, c5, c6, c7, c8, c9, d0, d1, d2, d3, d4, d5, d6, d7, d8, d9, e0, e1, e2, e3, e4, e5, e6, e7, e8, e9, f3, f4, f5, f6, f7, f8, f9, g3, g4, g5, g6, g7, g8, g9, h0], []⟩ W := by
 have HT := Lib.hid T
 have HN := Lib.hid (And.intro hn hc)
 have HI := Lib.hid IH
 obtain ⟨f0, f1, f2, ff, fl⟩ := T.fbox (f := f) 1 rfl
 obtain ⟨g0, g1, g2, gf1, gl⟩ := T.fbox (f := g) 2 rfl
 obtain ⟨-, k82, kf, kl⟩ := (T.cpu 0 rfl).marks
 clear T hn IH hc
 conv => arg 2; whnf
 conv at hK8 => enter [a, w1, 1, 2]; whnf
 by_cases h8 : f.vec = 8
 ·have HR := Lib.hid (show (⟨{ s.C with dead := true }, s.R⟩ : Es) = s1 by rw [next1, if_neg hg, if_pos h8] at hr; exact hr)
  have hb : (f.vec == 8) = true := beq_iff_eq.2 h8
  have HT2 := Lib.hid (HT.out.setDead 0 rfl)
  clear hr h8 HI
  go_wp2_with fail
  refine bodyPost_ret (results_none rfl _ _ _) rfl ⟨rfl, ?_⟩
  rw [← HR.out]
  exact (Hp.moreN HT2.out (n' := N) 0 rfl (by have := HN.out.1; omega)).first
 ·have HR := Lib.hid (show goN k (if clsE f.vec = 1 ∧ clsE g.vec = 1 ∨ clsE f.vec = 2 ∧ 0 < clsE g.vec then (some ⟨8, 0, 0⟩, s) else (some g, s)) s1 by rw [next1, if_neg hg, if_neg h8] at hr; exact hr)
  have hb : (f.vec == 8) = false := beq_eq_false_iff_ne.2 h8
  clear hr h8 hg
  by_cases a1 : clsE f.vec = 1
  ·have ha : (clsE f.vec == 1) = true := beq_iff_eq.2 a1
   go_wp2_with fail
   refine (class_x f.vec _).mono ?_
   rintro e W2 ⟨rfl, hb2⟩
   have HT2 := Lib.hid (HT.out.grow hb2)
   clear f0 f1 f2 ff fl g0 g1 g2 gf1 gl k82 kf kl hb2 HT
   obtain ⟨f0, f1, f2, ff, fl⟩ := HT2.out.fbox (f := f) 1 rfl
   obtain ⟨g0, g1, g2, gf1, gl⟩ := HT2.out.fbox (f := g) 2 rfl
   obtain ⟨-, k82, kf, kl⟩ := (HT2.out.cpu 0 rfl).marks
   go_wp2_with fail
   refine (class_x g.vec _).mono ?_
   rintro e W3 ⟨rfl, hb3⟩
   have HT3 := Lib.hid (HT2.out.grow hb3)
   clear f0 f1 f2 ff fl g0 g1 g2 gf1 gl k82 kf kl hb3 HT2
   obtain ⟨f0, f1, f2, ff, fl⟩ := HT3.out.fbox (f := f) 1 rfl
   obtain ⟨g0, g1, g2, gf1, gl⟩ := HT3.out.fbox (f := g) 2 rfl
   obtain ⟨-, k82, kf, kl⟩ := (HT3.out.cpu 0 rfl).marks
   by_cases b1 : clsE g.vec = 1
   ·have hb : (clsE g.vec == 1) = true := beq_iff_eq.2 b1
    have HR2 := Lib.hid (show faultN k ⟨8, 0, 0⟩ s = (none, s1) by have h := HR.out; rw [if_pos (.inl ⟨a1, b1⟩)] at h; exact h)
    have HT9 := Lib.hid (show Hp w A (sets3 W3 gf (.int .i64 (⟨8, 0, 0⟩ : FaultS).vec) (.int .i64 (⟨8, 0, 0⟩ : FaultS).cd) (.int .u32 ((⟨8, 0, 0⟩ : FaultS).cr2 : Nat))) [oEn eb vb bb pl n s, fBox gf ⟨8, 0, 0⟩] from Hp.left (l1 := [oEn eb vb bb pl n s, fBox gf ⟨8, 0, 0⟩]) (l2 := [fBox gg g]) (HT3.out.fset 1 rfl ⟨8, 0, 0⟩))
    go_wp2_with fail
    exact HI.out ⟨8, 0, 0⟩ s n _ _ _ _ _ _ _ _ _ _ _ _ _ _ _ _ _ _ _ _ _ _ _ _ _ _ _ _ _ _ _ _ _ _ _ _ _ _ _ _ _ _ _ _ _ _ _ _ _ _ _ _ _ _ _ _ _ _ _ _ _ _ _ _ _ _ _ _ _ _ _ _ _ _ _ HT9.out HR2.out HN.out.1 (by decide)
   ·have hb : (clsE g.vec == 1) = false := beq_eq_false_iff_ne.2 b1
    have ha2 : (clsE f.vec == 2) = false := beq_eq_false_iff_ne.2 (by omega)
    go_wp2_with fail
    refine (class_x f.vec _).mono ?_
    rintro e W4 ⟨rfl, hb4⟩
    have HT4 := Lib.hid (HT3.out.grow hb4)
    clear f0 f1 f2 ff fl g0 g1 g2 gf1 gl k82 kf kl hb4 HT3
    obtain ⟨f0, f1, f2, ff, fl⟩ := HT4.out.fbox (f := f) 1 rfl
    obtain ⟨g0, g1, g2, gf1, gl⟩ := HT4.out.fbox (f := g) 2 rfl
    obtain ⟨-, k82, kf, kl⟩ := (HT4.out.cpu 0 rfl).marks
    have HR2 := Lib.hid (show faultN k g s = (none, s1) by have h := HR.out; rw [if_neg (by omega)] at h; exact h)
    have HT9 := Lib.hid (show Hp w A (sets3 W4 gf (.int .i64 (g : FaultS).vec) (.int .i64 (g : FaultS).cd) (.int .u32 ((g : FaultS).cr2 : Nat))) [oEn eb vb bb pl n s, fBox gf g] from Hp.left (l1 := [oEn eb vb bb pl n s, fBox gf g]) (l2 := [fBox gg g]) (HT4.out.fset 1 rfl g))
    go_wp2_with fail
    exact HI.out g s n _ _ _ _ _ _ _ _ _ _ _ _ _ _ _ _ _ _ _ _ _ _ _ _ _ _ _ _ _ _ _ _ _ _ _ _ _ _ _ _ _ _ _ _ _ _ _ _ _ _ _ _ _ _ _ _ _ _ _ _ _ _ _ _ _ _ _ _ _ _ _ _ _ _ _ HT9.out HR2.out HN.out.1 HN.out.2
  ·have ha : (clsE f.vec == 1) = false := beq_eq_false_iff_ne.2 a1
   go_wp2_with fail
   refine (class_x f.vec _).mono ?_
   rintro e W2 ⟨rfl, hb2⟩
   have HT2 := Lib.hid (HT.out.grow hb2)
   clear f0 f1 f2 ff fl g0 g1 g2 gf1 gl k82 kf kl hb2 HT
   obtain ⟨f0, f1, f2, ff, fl⟩ := HT2.out.fbox (f := f) 1 rfl
   obtain ⟨g0, g1, g2, gf1, gl⟩ := HT2.out.fbox (f := g) 2 rfl
   obtain ⟨-, k82, kf, kl⟩ := (HT2.out.cpu 0 rfl).marks
   go_wp2_with fail
   refine (class_x f.vec _).mono ?_
   rintro e W3 ⟨rfl, hb3⟩
   have HT3 := Lib.hid (HT2.out.grow hb3)
   clear f0 f1 f2 ff fl g0 g1 g2 gf1 gl k82 kf kl hb3 HT2
   obtain ⟨f0, f1, f2, ff, fl⟩ := HT3.out.fbox (f := f) 1 rfl
   obtain ⟨g0, g1, g2, gf1, gl⟩ := HT3.out.fbox (f := g) 2 rfl
   obtain ⟨-, k82, kf, kl⟩ := (HT3.out.cpu 0 rfl).marks
   by_cases a2 : clsE f.vec = 2
   ·have ha2 : (clsE f.vec == 2) = true := beq_iff_eq.2 a2
    go_wp2_with fail
    refine (class_x g.vec _).mono ?_
    rintro e W4 ⟨rfl, hb4⟩
    have HT4 := Lib.hid (HT3.out.grow hb4)
    clear f0 f1 f2 ff fl g0 g1 g2 gf1 gl k82 kf kl hb4 HT3
    obtain ⟨f0, f1, f2, ff, fl⟩ := HT4.out.fbox (f := f) 1 rfl
    obtain ⟨g0, g1, g2, gf1, gl⟩ := HT4.out.fbox (f := g) 2 rfl
    obtain ⟨-, k82, kf, kl⟩ := (HT4.out.cpu 0 rfl).marks
    by_cases b2 : 0 < clsE g.vec
    ·have HR2 := Lib.hid (show faultN k ⟨8, 0, 0⟩ s = (none, s1) by have h := HR.out; rw [if_pos (.inr ⟨a2, b2⟩)] at h; exact h)
     have HT9 := Lib.hid (show Hp w A (sets3 W4 gf (.int .i64 (⟨8, 0, 0⟩ : FaultS).vec) (.int .i64 (⟨8, 0, 0⟩ : FaultS).cd) (.int .u32 ((⟨8, 0, 0⟩ : FaultS).cr2 : Nat))) [oEn eb vb bb pl n s, fBox gf ⟨8, 0, 0⟩] from Hp.left (l1 := [oEn eb vb bb pl n s, fBox gf ⟨8, 0, 0⟩]) (l2 := [fBox gg g]) (HT4.out.fset 1 rfl ⟨8, 0, 0⟩))
     go_wp2_with fail
     exact HI.out ⟨8, 0, 0⟩ s n _ _ _ _ _ _ _ _ _ _ _ _ _ _ _ _ _ _ _ _ _ _ _ _ _ _ _ _ _ _ _ _ _ _ _ _ _ _ _ _ _ _ _ _ _ _ _ _ _ _ _ _ _ _ _ _ _ _ _ _ _ _ _ _ _ _ _ _ _ _ _ _ _ _ _ HT9.out HR2.out HN.out.1 (by decide)
    ·have HR2 := Lib.hid (show faultN k g s = (none, s1) by have h := HR.out; rw [if_neg (by omega)] at h; exact h)
     have HT9 := Lib.hid (show Hp w A (sets3 W4 gf (.int .i64 (g : FaultS).vec) (.int .i64 (g : FaultS).cd) (.int .u32 ((g : FaultS).cr2 : Nat))) [oEn eb vb bb pl n s, fBox gf g] from Hp.left (l1 := [oEn eb vb bb pl n s, fBox gf g]) (l2 := [fBox gg g]) (HT4.out.fset 1 rfl g))
     go_wp2_with fail
     exact HI.out g s n _ _ _ _ _ _ _ _ _ _ _ _ _ _ _ _ _ _ _ _ _ _ _ _ _ _ _ _ _ _ _ _ _ _ _ _ _ _ _ _ _ _ _ _ _ _ _ _ _ _ _ _ _ _ _ _ _ _ _ _ _ _ _ _ _ _ _ _ _ _ _ _ _ _ _ HT9.out HR2.out HN.out.1 HN.out.2
   ·have ha2 : (clsE f.vec == 2) = false := beq_eq_false_iff_ne.2 a2
    have HR2 := Lib.hid (show faultN k g s = (none, s1) by have h := HR.out; rw [if_neg (by omega)] at h; exact h)
    have HT9 := Lib.hid (show Hp w A (sets3 W3 gf (.int .i64 (g : FaultS).vec) (.int .i64 (g : FaultS).cd) (.int .u32 ((g : FaultS).cr2 : Nat))) [oEn eb vb bb pl n s, fBox gf g] from Hp.left (l1 := [oEn eb vb bb pl n s, fBox gf g]) (l2 := [fBox gg g]) (HT3.out.fset 1 rfl g))
    go_wp2_with fail
    exact HI.out g s n _ _ _ _ _ _ _ _ _ _ _ _ _ _ _ _ _ _ _ _ _ _ _ _ _ _ _ _ _ _ _ _ _ _ _ _ _ _ _ _ _ _ _ _ _ _ _ _ _ _ _ _ _ _ _ _ _ _ _ _ _ _ _ _ _ _ _ _ _ _ _ _ _ _ _ HT9.out HR2.out HN.out.1 HN.out.2
theorem fault_5 {k : Nat} {f : FaultS} (T : Hp w A W [oEn eb vb bb pl n s, fBox gf f]) (hn : n + 40 * (k + 1) ≤ N) (hN : N * 12 ≤ 140737488355328) (hr : goN k (next1 f (triedE (enterE f.vec f.cd false) s).1 (triedE (enterE f.vec f.cd false) s).2) s1) (IH : ∀ (g : FaultS) (s2 : Es) (n2 : Nat) (W2 : World) (v1 v2 v4 v5 v6 v7 v8 v9 v10 v11 v12 v13 v14 v15 v16 v17 v18 v19 v20 v21 v22 v23 v24 v25 v26 v27 v28 v29 v30 v31 v32 v33 v34 v35 v36 v37 v38 v39 v40 v41 v42 v43 v44 v45 v46 v47 v48 v49 v50 v51 v52 v53 v54 v55 v56 v57 v58 v59 v60 v61 v62 v63 v64 v65 v66 v67 v68 v69 v70 v71 v72 v73 v74 v75 : Value), Hp w A W2 [oEn eb vb bb pl n2 s2, fBox gf g] → faultN k g s2 = (none, s1) → n2 + 40 * k ≤ N → g.cr2 < 4294967296 → (Code.rounds Tryz.prog (lb Tryz.f16 2) (Exit.inBlock 0 (bodyPost Tryz.prog Tryz.f16 (fun e w' => e = .returned (.tuple #[]) ∧ ∃ A', (oEn eb vb bb pl N s1).P w' A' ∧ Moves A A' w w'))) k) ⟨#[.pointer (some ⟨eb, 0, none⟩), v1, v2, .pointer (some ⟨gf, 0, none⟩), v4, v5, v6, v7, v8, v9, v10, v11, v12, v13, v14, v15, v16, v17, v18, v19, v20, v21, v22, v23, v24, v25, v26, v27, v28, v29, v30, v31, v32, v33, v34, v35, v36, v37, v38, v39, v40, v41, v42, v43, v44, v45, v46, v47, v48, v49, v50, v51, v52, v53, v54, v55, v56, v57, v58, v59, v60, v61, v62, v63, v64, v65, v66, v67, v68, v69, v70, v71, v72, v73, v74, v75], []⟩ W2) {g7 g8 g9 h0 h1 h2 h3 h4 a1 a2 a3 a4 a5 a6 a7 a8 u18 u19 u20 u21 u22 a9 b0 b1 b2 b3 b4 b5 b6 b7 a0 b8 b9 c0 c1 c2 c3 c4 c5 c6 c7 c8 c9 d0 d1 d2 d3 d4 d5 d6 d7 d8 d9 e0 e1 e2 e3 e4 e5 e6 e7 e8 e9 f3 f4 f5 f6 f7 f8 f9 g3 g4 g5 g6 : Value} {K5 : Act → World → Prop} (hK5 : ∀ a w1, Code.wp Tryz.prog (tl Tryz.f16 5) (Exit.inBlock 1 (Exit.then (Code.rounds Tryz.prog (lb Tryz.f16 2) (Exit.inBlock 0 (bodyPost Tryz.prog Tryz.f16 (fun e w' => e = .returned (.tuple #[]) ∧ ∃ A', (oEn eb vb bb pl N s1).P w' A' ∧ Moves A A' w w'))) k) (Exit.inBlock 0 (bodyPost Tryz.prog Tryz.f16 (fun e w' => e = .returned (.tuple #[]) ∧ ∃ A', (oEn eb vb bb pl N s1).P w' A' ∧ Moves A A' w w'))))) a w1 → K5 a w1) :
    Code.wp Tryz.prog (rg Tryz.f16 5) (Exit.then K5 (Exit.inBlock 1 (Exit.then (Code.rounds Tryz.prog (lb Tryz.f16 2) (Exit.inBlock 0 (bodyPost Tryz.prog Tryz.f16 (fun e w' => e = .returned (.tuple #[]) ∧ ∃ A', (oEn eb vb bb pl N s1).P w' A' ∧ Moves A A' w w'))) k) (Exit.inBlock 0 (bodyPost Tryz.prog Tryz.f16 (fun e w' => e = .returned (.tuple #[]) ∧ ∃ A', (oEn eb vb bb pl N s1).P w' A' ∧ Moves A A' w w')))))) ⟨#[.pointer (some ⟨eb, 0, none⟩), g7, g8, .pointer (some ⟨gf, 0, none⟩), g9, h0, h1, h2, h3, h4, a1, a2, a3, a4, a5, a6, a7, a8, u18, u19, u20, u21, u22, a9, b0, b1, b2, b3, b4, b5, b6, b7, a0, b8, b9, c0, c1, c2, c3, c4, c5, c6, c7, c8, c9, d0, d1, d2, d3, d4, d5, d6, d7, d8, d9, e0, e1, e2, e3, e4, e5, e6, e7, e8, e9, f3, f4, f5, f6, f7, f8, f9, g3, g4, g5, g6], []⟩ W := by
 have HT := Lib.hid T
 have HN := Lib.hid (And.intro hn hN)
 have HI := Lib.hid IH
 have hcr := tried_cr f.vec f.cd false s
 have hx := enter_x (eb := eb) (vb := vb) (bb := bb) (pl := pl) (n := n) (s := s) f.vec f.cd false (by omega)
 obtain ⟨⟨g, s2⟩, hg⟩ : ∃ r, triedE (enterE f.vec f.cd false) s = r := ⟨_, rfl⟩
 rw [hg] at hcr hx hr
 have HX := Lib.hid hx
 have HR := Lib.hid hr
 have HC := Lib.hid hcr
 obtain ⟨f0, f1, f2, ff, fl⟩ := T.fbox (f := f) 1 rfl
 clear T hn hN IH hcr hx hg hr
 conv => arg 2; whnf
 conv at hK5 => enter [a, w1, 1, 2]; whnf
 go_wp2_with fail
 refine (HT.out.act 0 rfl HX.out).mono ?_
 rintro e W2 ⟨rfl, T2⟩
 have HT2 := Lib.hid (show Hp w A (W2.alloc (.cells #[.int .i64 g.vec, .int .i64 g.cd, .int .u32 (g.cr2 : Nat)] 42)) ([oEn eb vb bb pl (n + 40) s2, fBox gf f] ++ [fBox W2.heap.size g]) from Hp.make (os := [oEn eb vb bb pl (n + 40) s2, fBox gf f]) T2 _)
 clear T2 HT HX f0 f1 f2 ff fl
 unfold FaultS.val
 go_upto_region 7 with (fail)
 change Code.wp _ _ _ _ (W2.alloc (.cells #[.int .i64 g.vec, .int .i64 g.cd, .int .u32 (g.cr2 : Nat)] 42))
 generalize W2.alloc (.cells #[.int .i64 g.vec, .int .i64 g.cd, .int .u32 (g.cr2 : Nat)] 42) = W3 at *
 generalize W2.heap.size = gg at *
 obtain ⟨g0, g1, g2, gf1, gl⟩ := HT2.out.fbox (f := g) 2 rfl
 by_cases hg : g.vec < 0
 ·have HR2 := Lib.hid (show s2 = s1 by have h := HR.out; rw [next1, if_pos hg] at h; exact h)
  go_wp2_with fail
  refine bodyPost_ret (results_none rfl _ _ _) rfl ⟨rfl, ?_⟩
  rw [← HR2.out]
  exact (Hp.moreN HT2.out (n' := N) 0 rfl (by have := HN.out.1; omega)).first
 ·have hgn : 0 ≤ g.vec := by omega
  go_upto_region 8 with (fail)
  exact fault_8 HT2.out (by have := HN.out.1; omega) hg HC.out HR.out HI.out (by assumption)
theorem fault_rounds (hN : N * 12 ≤ 140737488355328) : ∀ (k : Nat) (f : FaultS) (s : Es) (n : Nat) (W : World) (v1 v2 v4 v5 v6 v7 v8 v9 v10 v11 v12 v13 v14 v15 v16 v17 v18 v19 v20 v21 v22 v23 v24 v25 v26 v27 v28 v29 v30 v31 v32 v33 v34 v35 v36 v37 v38 v39 v40 v41 v42 v43 v44 v45 v46 v47 v48 v49 v50 v51 v52 v53 v54 v55 v56 v57 v58 v59 v60 v61 v62 v63 v64 v65 v66 v67 v68 v69 v70 v71 v72 v73 v74 v75 : Value), Hp w A W [oEn eb vb bb pl n s, fBox gf f] → faultN k f s = (none, s1) → n + 40 * k ≤ N → f.cr2 < 4294967296 → (Code.rounds Tryz.prog (lb Tryz.f16 2) (Exit.inBlock 0 (bodyPost Tryz.prog Tryz.f16 (fun e w' => e = .returned (.tuple #[]) ∧ ∃ A', (oEn eb vb bb pl N s1).P w' A' ∧ Moves A A' w w'))) k) ⟨#[.pointer (some ⟨eb, 0, none⟩), v1, v2, .pointer (some ⟨gf, 0, none⟩), v4, v5, v6, v7, v8, v9, v10, v11, v12, v13, v14, v15, v16, v17, v18, v19, v20, v21, v22, v23, v24, v25, v26, v27, v28, v29, v30, v31, v32, v33, v34, v35, v36, v37, v38, v39, v40, v41, v42, v43, v44, v45, v46, v47, v48, v49, v50, v51, v52, v53, v54, v55, v56, v57, v58, v59, v60, v61, v62, v63, v64, v65, v66, v67, v68, v69, v70, v71, v72, v73, v74, v75], []⟩ W := by
 intro k
 induction k with
 | zero => intro f s n W v1 v2 v4 v5 v6 v7 v8 v9 v10 v11 v12 v13 v14 v15 v16 v17 v18 v19 v20 v21 v22 v23 v24 v25 v26 v27 v28 v29 v30 v31 v32 v33 v34 v35 v36 v37 v38 v39 v40 v41 v42 v43 v44 v45 v46 v47 v48 v49 v50 v51 v52 v53 v54 v55 v56 v57 v58 v59 v60 v61 v62 v63 v64 v65 v66 v67 v68 v69 v70 v71 v72 v73 v74 v75 T hr; cases hr
 | succ k ih =>
  intro f s n W v1 v2 v4 v5 v6 v7 v8 v9 v10 v11 v12 v13 v14 v15 v16 v17 v18 v19 v20 v21 v22 v23 v24 v25 v26 v27 v28 v29 v30 v31 v32 v33 v34 v35 v36 v37 v38 v39 v40 v41 v42 v43 v44 v45 v46 v47 v48 v49 v50 v51 v52 v53 v54 v55 v56 v57 v58 v59 v60 v61 v62 v63 v64 v65 v66 v67 v68 v69 v70 v71 v72 v73 v74 v75 T hr hn hc
  have HT := Lib.hid T
  have HN := Lib.hid (And.intro hn (And.intro hN hc))
  have HI := Lib.hid ih
  obtain ⟨f0, f1, f2, ff, fl⟩ := T.fbox (f := f) 1 rfl
  obtain ⟨k65, -, kf, kl⟩ := (T.cpu 0 rfl).marks
  clear T hn ih hc
  conv => arg 2; whnf
  conv => arg 3; whnf
  rw [rounds_succ]
  by_cases h0 : f.vec < 0
  ·have HR := Lib.hid (show s = s1 by unfold faultN at hr; rw [if_pos h0] at hr; exact (Prod.mk.inj hr).2)
   clear hr
   go_wp2_with fail
   go_end0
   refine ⟨rfl, ?_⟩
   rw [← HR.out]
   exact (Hp.moreN HT.out (n' := N) 0 rfl (by have := HN.out.1; omega)).first
  ·have HR := Lib.hid (show goN k (next1 f (triedE (enterE f.vec f.cd false) (s.cr2d f)).1 (triedE (enterE f.vec f.cd false) (s.cr2d f)).2) s1 by
     unfold faultN at hr
     rw [if_neg h0, fault1_eq] at hr
     unfold goN
     split at hr
     ·rename_i e
      rw [e]
      exact (Prod.mk.inj hr).2
     ·rename_i e
      rw [e]
      exact hr)
   have hge : 0 ≤ f.vec := by omega
   clear hr
   by_cases h14 : f.vec = 14
   ·have hb : (f.vec == 14) = true := beq_iff_eq.2 h14
    have HR2 := Lib.hid (show goN k (next1 f (triedE (enterE f.vec f.cd false) ⟨{ s.C with cr2 := f.cr2 }, s.R⟩).1 (triedE (enterE f.vec f.cd false) ⟨{ s.C with cr2 := f.cr2 }, s.R⟩).2) s1 by have h := HR.out; rw [Es.cr2d, if_pos h14] at h; exact h)
    have HT2 := Lib.hid (show Hp w A (W.setCell ⟨eb, 65, none⟩ (.int .u32 (f.cr2 : Nat))) [oEn eb vb bb pl n ⟨{ s.C with cr2 := f.cr2 }, s.R⟩, fBox gf f] from HT.out.setCr2 0 rfl f.cr2 HN.out.2.2)
    clear h14 HR
    go_upto_region 5 with (fail)
    exact fault_5 HT2.out HN.out.1 HN.out.2.1 HR2.out HI.out (by assumption)
   ·have hb : (f.vec == 14) = false := beq_eq_false_iff_ne.2 h14
    have HR2 := Lib.hid (show goN k (next1 f (triedE (enterE f.vec f.cd false) s).1 (triedE (enterE f.vec f.cd false) s).2) s1 by have h := HR.out; rw [Es.cr2d, if_neg h14] at h; exact h)
    clear h14 HR
    go_upto_region 5 with (fail)
    exact fault_5 HT.out HN.out.1 HN.out.2.1 HR2.out HI.out (by assumption)
theorem fault_x (f : FaultS) (k : Nat) (hr : faultN k f s = (none, s1)) (hn : n + 40 * k ≤ N) (hN : N * 12 ≤ 140737488355328) (hc : f.cr2 < 4294967296) :
    Acts 16 #[.pointer (some ⟨eb, 0, none⟩), f.val] (oEn eb vb bb pl n s) (.tuple #[]) (oEn eb vb bb pl N s1) := by
 rintro w A T
 have T0 := Hp.solo T
 have HT := Lib.hid (show Hp w A (w.alloc (.cells #[.int .i64 f.vec, .int .i64 f.cd, .int .u32 (f.cr2 : Nat)] 42)) [oEn eb vb bb pl n s, fBox w.heap.size f] from T0.make _)
 have HN := Lib.hid (And.intro hr (And.intro hn (And.intro hN hc)))
 obtain ⟨k3, k4, kl⟩ := T0.en 0 rfl
 clear T T0 hr hn hN hc
 unfold FaultS.val
 go_enter Tryz.func16, Tryz.ntmps16
 go_upto_region 1 with (fail)
 change Code.wp _ _ _ _ (w.alloc (.cells #[.int .i64 f.vec, .int .i64 f.cd, .int .u32 (f.cr2 : Nat)] 42))
 generalize w.alloc (.cells #[.int .i64 f.vec, .int .i64 f.cd, .int .u32 (f.cr2 : Nat)] 42) = W1 at *
 generalize w.heap.size = gf at *
 clear k3 k4 kl
 obtain ⟨k3, k4, kl⟩ := HT.out.en 0 rfl
 go_wp2_with fail
 refine wp_loop_rounds k ?_
 exact fault_rounds HN.out.2.2.1 k f s n _ _ _ _ _ _ _ _ _ _ _ _ _ _ _ _ _ _ _ _ _ _ _ _ _ _ _ _ _ _ _ _ _ _ _ _ _ _ _ _ _ _ _ _ _ _ _ _ _ _ _ _ _ _ _ _ _ _ _ _ _ _ _ _ _ _ _ _ _ _ _ _ _ _ _ HT.out HN.out.1 HN.out.2.1 HN.out.2.2.2
theorem fault_none (f : FaultS) (w : World) : Calls Tryz.prog 16 #[.pointer none, .agg #[.int .i64 f.vec, .int .i64 f.cd, .int .u32 (f.cr2 : Nat)]] w fun e w' => e = .returned (.tuple #[]) ∧ Below w.heap.size w w' := by
 go_enter Tryz.func16, Tryz.ntmps16
 go_wp2_with fail
 refine bodyPost_ret (results_none rfl _ _ _) rfl ⟨rfl, below_on (Below.refl _ w) _⟩
theorem fault_bare (f : FaultS) (eb : Nat) (w : World) (h : w.cell? ⟨eb, 83, none⟩ = some (.pointer none)) (hl : eb < w.heap.size) : Calls Tryz.prog 16 #[.pointer (some ⟨eb, 0, none⟩), .agg #[.int .i64 f.vec, .int .i64 f.cd, .int .u32 (f.cr2 : Nat)]] w fun e w' => e = .returned (.tuple #[]) ∧ Below w.heap.size w w' := by
 go_enter Tryz.func16, Tryz.ntmps16
 go_wp2_with fail
 refine bodyPost_ret (results_none rfl _ _ _) rfl ⟨rfl, below_on (Below.refl _ w) _⟩
end
end Go.Proofs.YtmpcafdgkbpneaaGreat

/- except: a memory as programs see it, beside the memory itself. -/
namespace Go.Proofs.YtmpcafdgkbpneaaGreat
open Go.RowKit Go.MapKept
set_option linter.unusedVariables false

structure VkIn (w : World) (vb : Nat) (pl : Pl) (n : Nat) (t mb : Nat) (ov : Value) (cnt : Nat) (all : PKey → Option Ent) (order : List PKey) : Prop where
 box : w.heap[vb]? = some (.cells #[.pointer (some ⟨pl.rb, 0, none⟩), .pointer (some ⟨t, 0, none⟩)] 89)
 obj : w.heap[t]? = some (.cells #[.pointer (some ⟨pl.rb, 0, none⟩), .int .i64 (pl.n : Nat), .map (some mb), ov] 231)
 map : MapK w mb PKey.val (fun K => (all K).map Ent.val) cnt
 ord : RowC w 312 5 ov order.length (keysV order)
 sub : ∀ K e, all K = some e → K ∈ order
 good : ∀ K e, all K = some e → e.x.pde < 4294967296 ∧ e.x.pte < 4294967296 ∧ Good K.c K.p K.wr K.us K.wp e.x e.a e.b
 c1 : cnt ≤ pl.n
 c2 : pl.n ≤ 64
 len : order.length ≤ n
 d1 : vb ≠ t
 d2 : vb ≠ mb
 d3 : ov.ownBlock ≠ some vb
def VkHeld (vb t mb : Nat) (ov : Value) (k : Nat) : Prop := k = vb ∨ k = t ∨ k = mb ∨ ov.ownBlock = some k
def VkP (vb : Nat) (pl : Pl) (n : Nat) (w : World) (A : Nat → Prop) : Prop := ∃ t mb ov cnt all order, VkIn w vb pl n t mb ov cnt all order ∧ ∀ k, A k ↔ VkHeld vb t mb ov k
section
variable {w w' : World} {vb n : Nat} {pl : Pl} {A S H : Nat → Prop} {R : RS}
theorem vm_split (h : Vm w vb pl n H R) : ∃ A S, VkP vb pl n w A ∧ Ram w pl.rb S R ∧ (∀ k, A k → ¬ S k) ∧ ∀ k, H k ↔ A k ∨ S k := by
 obtain ⟨t, rb, G, ho, ⟨mb, S, ov, cnt, all, order, T, ⟨hl, rfl⟩, hG⟩, hv, hH⟩ := h
 have n1 : vb ≠ t := fun e => hv ((hG vb).2 (.inl e))
 have n2 : vb ≠ mb := fun e => hv ((hG vb).2 (.inr (.inl e)))
 have n3 : ov.ownBlock ≠ some vb := fun e => hv ((hG vb).2 (.inr (.inr (.inl e))))
 have n4 : ¬ S vb := fun e => hv ((hG vb).2 (.inr (.inr (.inr e))))
 refine ⟨VkHeld vb t mb ov, S, ⟨t, mb, ov, cnt, all, order, ⟨ho, T.obj, T.map, T.ord, T.sub, T.good, T.c1, T.c2, hl, n1, n2, n3⟩, fun k => Iff.rfl⟩, T.ram, ?_, fun k => ?_⟩
 ·rintro k (rfl | rfl | rfl | h) hs
  ·exact n4 hs
  ·exact T.d1 hs
  ·exact T.d2 hs
  ·exact T.d3 k h hs
 ·rw [hH k, hG k]
  unfold VkHeld THeld
  constructor
  ·rintro (h | h | h | h | h)
   ·exact .inl (.inl h)
   ·exact .inl (.inr (.inl h))
   ·exact .inl (.inr (.inr (.inl h)))
   ·exact .inl (.inr (.inr (.inr h)))
   ·exact .inr h
  ·rintro ((h | h | h | h) | h)
   ·exact .inl h
   ·exact .inr (.inl h)
   ·exact .inr (.inr (.inl h))
   ·exact .inr (.inr (.inr (.inl h)))
   ·exact .inr (.inr (.inr (.inr h)))
theorem vm_join (a : VkP vb pl n w A) (r : Ram w pl.rb S R) (d : ∀ k, A k → ¬ S k) (hw : Wide R) : Vm w vb pl n (fun k => A k ∨ S k) R := by
 obtain ⟨t, mb, ov, cnt, all, order, I, hA⟩ := a
 refine ⟨t, pl.rb, THeld t mb S ov, I.box, ⟨mb, S, ov, cnt, all, order, ⟨I.obj, r, I.map, I.ord, I.sub, I.good, I.c1, I.c2, hw, d t ((hA t).2 (.inr (.inl rfl))), d mb ((hA mb).2 (.inr (.inr (.inl rfl)))), fun k h => d k ((hA k).2 (.inr (.inr (.inr h))))⟩, ⟨I.len, rfl⟩, fun k => Iff.rfl⟩, ?_, fun k => ?_⟩
 ·rintro (h | h | h | h)
  ·exact I.d1 h
  ·exact I.d2 h
  ·exact I.d3 h
  ·exact d vb ((hA vb).2 (.inl rfl)) h
 ·show (A k ∨ S k) ↔ _
  rw [hA k]
  unfold VkHeld THeld
  constructor
  ·rintro ((h | h | h | h) | h)
   ·exact .inl h
   ·exact .inr (.inl h)
   ·exact .inr (.inr (.inl h))
   ·exact .inr (.inr (.inr (.inl h)))
   ·exact .inr (.inr (.inr (.inr h)))
  ·rintro (h | h | h | h | h)
   ·exact .inl (.inl h)
   ·exact .inl (.inr (.inl h))
   ·exact .inl (.inr (.inr (.inl h)))
   ·exact .inl (.inr (.inr (.inr h)))
   ·exact .inr h
theorem VkP.loc (h : VkP vb pl n w A) (g : ∀ k, A k → w'.heap[k]? = w.heap[k]?) : VkP vb pl n w' A := by
 obtain ⟨t, mb, ov, cnt, all, order, I, hA⟩ := h
 refine ⟨t, mb, ov, cnt, all, order, ⟨?_, ?_, ?_, ?_, I.sub, I.good, I.c1, I.c2, I.len, I.d1, I.d2, I.d3⟩, hA⟩
 ·rw [g vb ((hA vb).2 (.inl rfl))]; exact I.box
 ·rw [g t ((hA t).2 (.inr (.inl rfl)))]; exact I.obj
 ·exact I.map.of_heap (g mb ((hA mb).2 (.inr (.inr (.inl rfl)))))
 ·exact I.ord.of_heap fun k hk => g k ((hA k).2 (.inr (.inr (.inr hk))))
theorem VkP.lt (h : VkP vb pl n w A) (k : Nat) (hk : A k) : k < w.heap.size := by
 obtain ⟨t, mb, ov, cnt, all, order, I, hA⟩ := h
 rcases (hA k).1 hk with rfl | rfl | rfl | h
 ·exact heap_lt I.box
 ·exact heap_lt I.obj
 ·exact I.map.lt
 ·exact I.ord.lt h
end
def oVk (vb : Nat) (pl : Pl) (n : Nat) : Ob := ⟨VkP vb pl n, VkP.loc, VkP.lt⟩
end Go.Proofs.YtmpcafdgkbpneaaGreat

