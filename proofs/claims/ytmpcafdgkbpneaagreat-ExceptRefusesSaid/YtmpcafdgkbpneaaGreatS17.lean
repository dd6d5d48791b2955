/- Steps of a proof: ExE, ExH, together. -/
import Derived.Test.YtmpcafdgkbpneaaGreatS16
import Derived.Test.YtmpcafdgkbpneaaGreatS6
/- except: an inner ring's stack. -/
set_option maxHeartbeats 4000000
set_option maxRecDepth 20000
namespace Go.Proofs.YtmpcafdgkbpneaaGreat
open Go.RowKit Go.MapKept
set_option linter.unusedVariables false
attribute [local go_sem ↓] Go.wp_at_zero Go.wp_at_succ

section
variable {w w' w0 : World} {A A0 : Nat → Prop} {os : List Ob} {eb vb bb : Nat} {pl : Pl} {n n' : Nat} {s s' : Es}
def inner2 (rn : Nat) (x : Int) (sp sel : Nat) : Ex Unit :=
 (needE (codeOfN sel != 0) 10 x).then fun _ =>
 (descE sel 10 ((codeOfN sel : Nat) + x)).then fun d =>
 (needE (d.isStack rn) 10 ((codeOfN sel : Nat) + x)).then fun _ =>
 (needE d.pre 12 ((codeOfN sel : Nat) + x)).then fun _ => Ex.upd fun s1 => ⟨(s1.C.setSeg 2 d).setR 4 sp, s1.R⟩
def InEnd (w : World) (A : Nat → Prop) (eb vb bb : Nat) (pl : Pl) (N : Nat) (r : Except FaultS Unit × Es) (e : Ending) (w' : World) : Prop :=
 ((∀ a, r.1 = .ok a → e = .returned (.tuple #[])) ∧ (∀ x, r.1 = .error x → e = gaveX x)) ∧ ∃ A', (oEn eb vb bb pl N r.2).P w' A' ∧ Moves A A' w w'
variable {W : World} {N : Nat} {r : Except FaultS Unit × Es} {s1 : Es} {d : SegR}
theorem inner_9 {sp sel g2 : Nat} {x cd : Int} (T : Hp w A W [oEn eb vb bb pl n s1, Ob.box g2 (descO d)]) (hn : n ≤ N) (hs : sel < 65536) (hsp : sp < 4294967296) (hd : d.ok) (hds : d.sel = sel) (hdn : d.nul = false)
    (hr : r = ((needE d.pre 12 cd).then fun _ => Ex.upd fun s1 => ⟨(s1.C.setSeg 2 d).setR 4 sp, s1.R⟩) s1) {h8 h3 h4 h5 h6 h7 a2 a3 a4 a5 a1 a6 a7 a8 a9 b0 b1 b2 b3 b4 b5 b6 b7 b8 b9 c0 a0 c1 c2 c3 c4 c5 c6 c7 c8 c9 d0 d1 d2 d3 d4 d5 d6 d7 d8 d9 e0 e1 e2 e3 e4 e5 e6 e7 e8 e9 f0 f1 f2 f3 f4 f5 f6 f7 f8 f9 g0 g1 g3 g4 g5 g6 g7 g8 g9 h0 h1 h2 : Value} {K1 : Act → World → Prop} (hK : ∀ a w1, Code.wp Tryz.prog (tl Tryz.f33 9) (bodyPost Tryz.prog Tryz.f33 (InEnd w A eb vb bb pl N r)) a w1 → K1 a w1) :
    Code.wp Tryz.prog (rg Tryz.f33 9) (Exit.then K1 (bodyPost Tryz.prog Tryz.f33 (InEnd w A eb vb bb pl N r))) ⟨#[.pointer (some ⟨eb, 0, none⟩), h8, .int .i64 x, h3, h4, h5, h6, h7, .int .u32 (sp : Nat), .int .u16 (sel : Nat), .int .i64 cd, .pointer (some ⟨g2, 0, none⟩), a2, a3, a4, a5, a1, a6, a7, a8, a9, b0, b1, b2, b3, b4, b5, b6, b7, b8, b9, c0, a0, c1, c2, c3, c4, c5, c6, c7, c8, c9, d0, d1, d2, d3, d4, d5, d6, d7, d8, d9, e0, e1, e2, e3, e4, e5, e6, e7, e8, e9, f0, f1, f2, f3, f4, f5, f6, f7, f8, f9, g0, g1, g3, g4, g5, g6, g7, g8, g9, h0, h1, h2], []⟩ W := by
 obtain ⟨z0, z1, z2, z3, z4, z5, z6, zf, zl⟩ := T.dbox 1 rfl
 have HT := Lib.hid T
 have HN := Lib.hid hn
 have HR := Lib.hid hr
 have HD := Lib.hid (And.intro hd (And.intro hds (And.intro hdn hsp)))
 clear T hn hr hd hdn
 conv => arg 2; whnf
 conv at hK => enter [a, w1, 1, 2]; whnf
 cases hp : d.pre
 ·have HR2 := Lib.hid (HR.out.trans (Ex.then_no (need_no hp _ _ _)))
  rw [hp] at z5
  go_wp2_with (go_at_call 26; refine (need_not _ _ _).mono ?_; rintro e w' ⟨he, rfl⟩; unfold gaveX faultX at he; subst he)
  exact ⟨rfl, goes_no (HT.out.moreN 0 rfl HN.out) HR2.out⟩
 ·have HR2 := Lib.hid (show r = (.ok (), ⟨(s1.C.setSeg 2 d).setR 4 sp, s1.R⟩) from HR.out.trans (Ex.then_ok (need_ok hp _ _ _)))
  rw [hp] at z5
  obtain ⟨y0, y1, y2, y3, y4, y5, y6, y7, y8, yf, yl⟩ := (HT.out.cpu 0 rfl).stackSeg
  go_upto_region 10 with (go_at_call 26; refine (need_yes _ _ _).mono ?_; rintro e w' ⟨rfl, rfl⟩)
  have hd' : (⟨sel, false, d.base, d.lim, d.typ, d.sys, d.dpl, true, d.big⟩ : SegR) = d := by
   obtain ⟨a, b, c⟩ := HD.out.2
   cases d
   simp_all
  have HT3 := Lib.hid (show Hp w A (setsG w' eb 28 ⟨sel, false, d.base, d.lim, d.typ, d.sys, d.dpl, true, d.big⟩).drew [oEn eb vb bb pl n ⟨s1.C.setSeg 2 d, s1.R⟩, Ob.box g2 (descO d)] from by rw [hd']; exact (HT.out.setSs 0 rfl d HD.out.1).drew)
  clear hd' hds
  go_region
  all_goals
   change Exit.then _ _ _ _ (setsG w' eb 28 ⟨sel, false, d.base, d.lim, d.typ, d.sys, d.dpl, true, d.big⟩).drew
   clear z0 z1 z2 z3 z4 z5 z6 zf zl y0 y1 y2 y3 y4 y5 y6 y7 y8 yf yl
   generalize (setsG w' eb 28 ⟨sel, false, d.base, d.lim, d.typ, d.sys, d.dpl, true, d.big⟩).drew = W3 at *
   obtain ⟨k4, kf⟩ := (HT3.out.cpu 0 rfl).esp
   have kl := (HT3.out.en 0 rfl).2.2
   have HT6 := Lib.hid (HT3.out.setC 0 rfl 4 (.int .u32 (sp : Nat)) (env_setR _ vb bb sp) (setR_ok (HT3.out.cpu 0 rfl).1 4 sp hsp))
   go_wp2_with fail
   go_end0
   exact goes_ok (enc := fun _ => .tuple #[]) (HT6.out.moreN 0 rfl HN.out) HR2.out
theorem inner_7 {sp sel rn : Nat} {x cd : Int} (T : Hp w A W (oEn eb vb bb pl n s1 :: os)) (hn : n + 4 ≤ N) (hN : N * 12 ≤ 140737488355328) (hs : sel < 65536) (hsp : sp < 4294967296)
    (hr : r = ((descE sel 10 cd).then fun d => (needE (d.isStack rn) 10 cd).then fun _ => (needE d.pre 12 cd).then fun _ => Ex.upd fun s1 => ⟨(s1.C.setSeg 2 d).setR 4 sp, s1.R⟩) s1) {h6 h7 h8 h9 i0 a2 a3 a4 a5 a6 a0 a7 a8 a9 b0 b1 b2 b3 b4 b5 b6 b7 b8 b9 c0 c1 a1 c2 c3 c4 c5 c6 c7 c8 c9 d0 d1 d2 d3 d4 d5 d6 d7 d8 d9 e0 e1 e2 e3 e4 e5 e6 e7 e8 e9 f0 f1 f2 f4 f5 f6 f7 f8 f9 g0 g1 g3 g4 g5 g6 g7 g8 g9 h0 h1 h2 h4 h5 : Value} {K1 : Act → World → Prop} (hK : ∀ a w1, Code.wp Tryz.prog (tl Tryz.f33 7) (bodyPost Tryz.prog Tryz.f33 (InEnd w A eb vb bb pl N r)) a w1 → K1 a w1) :
    Code.wp Tryz.prog (rg Tryz.f33 7) (Exit.then K1 (bodyPost Tryz.prog Tryz.f33 (InEnd w A eb vb bb pl N r))) ⟨#[.pointer (some ⟨eb, 0, none⟩), .int .i64 (rn : Nat), .int .i64 x, h6, h7, h8, h9, i0, .int .u32 (sp : Nat), .int .u16 (sel : Nat), .int .i64 cd, a2, a3, a4, a5, a6, a0, a7, a8, a9, b0, b1, b2, b3, b4, b5, b6, b7, b8, b9, c0, c1, a1, c2, c3, c4, c5, c6, c7, c8, c9, d0, d1, d2, d3, d4, d5, d6, d7, d8, d9, e0, e1, e2, e3, e4, e5, e6, e7, e8, e9, f0, f1, f2, f4, f5, f6, f7, f8, f9, g0, g1, g3, g4, g5, g6, g7, g8, g9, h0, h1, h2, h4, h5], []⟩ W := by
 have HT := Lib.hid (Hp.left (l1 := [oEn eb vb bb pl n s1]) T)
 have HN := Lib.hid (And.intro hn hN)
 have HR := Lib.hid hr
 have HS := Lib.hid (And.intro hs hsp)
 have HG := Lib.hid (show s1.good from ⟨T.wide 0 rfl, (T.cpu 0 rfl).1⟩)
 clear T hn hN hr hsp
 conv => arg 2; whnf
 conv at hK => enter [a, w1, 1, 2]; whnf
 go_wp2_with fail
 rcases h3 : descE sel 10 cd s1 with ⟨f3 | d, s3⟩
 ·refine (HT.out.go_no 0 rfl (desc_x sel HS.out.1 10 _ (by have := HN.out; omega)) h3).mono ?_
  rintro e w6 ⟨rfl, T4⟩
  go_wp2_with fail
  exact ⟨rfl, goes_no (T4.moreN (n' := N) 0 rfl HN.out.1) (HR.out.trans (Ex.then_no h3))⟩
 ·refine (HT.out.go_ok 0 rfl (desc_x sel HS.out.1 10 _ (by have := HN.out; omega)) h3).mono ?_
  rintro e w6 ⟨rfl, T4⟩
  have HDD := Lib.hid ((Safe.desc HG.out sel HS.out.1 10 cd (by decide) _ _ h3).2.1 d rfl)
  have HE5 := Lib.hid (HR.out.trans (Ex.then_ok h3))
  have T5 : Hp w A (w6.alloc (descO d)) [oEn eb vb bb pl (n + 4) s3, Ob.box w6.heap.size (descO d)] := Hp.make (os := [oEn eb vb bb pl (n + 4) s3]) T4 _
  have HT5 := Lib.hid T5
  clear T4 T5 h3
  obtain ⟨z0, z1, z2, z3, z4, z5, z6, zf, zl⟩ := HT5.out.dbox 1 rfl
  unfold SegR.dval
  go_upto_region 8 with (fail)
  change Code.wp _ _ _ _ (w6.alloc (descO d))
  generalize w6.alloc (descO d) = w7 at *
  generalize w6.heap.size = g2 at *
  go_wp2_with fail
  refine (isStack_x d (by rw [HDD.out.2.2.1]; exact HS.out.1) (rn : Nat) _ (by rw [HDD.out.2.2.1]) _).mono ?_
  rintro e w8 ⟨rfl, hb⟩
  have HT8 := Lib.hid (HT5.out.grow hb)
  clear z0 z1 z2 z3 z4 z5 z6 zf zl hb HT5
  cases hst : d.isStack (rn : Nat)
  ·have HE6 := Lib.hid (HE5.out.trans (Ex.then_no (need_no hst _ _ _)))
   clear hst
   go_wp2_with (go_at_call 26; refine (need_not _ _ _).mono ?_; rintro e w' ⟨he, rfl⟩; unfold gaveX faultX at he; subst he)
   exact ⟨rfl, goes_no (HT8.out.moreN (n' := N) 0 rfl HN.out.1) HE6.out⟩
  ·have HE6 := Lib.hid (HE5.out.trans (Ex.then_ok (need_ok hst _ _ _)))
   clear hst
   go_upto_region 9 with (go_at_call 26; refine (need_yes _ _ _).mono ?_; rintro e w' ⟨rfl, rfl⟩)
   exact inner_9 HT8.out HN.out.1 HS.out.1 HS.out.2 HDD.out.2.1 HDD.out.2.2.1 HDD.out.2.2.2.2.2.2.2 HE6.out (by assumption)
theorem inner_x (rn : Nat) (hr : rn < 4) (x : Int) (hx : x = 0 ∨ x = 1) (hn : (n + 12) * 12 ≤ 140737488355328) :
    Goes 33 #[.pointer (some ⟨eb, 0, none⟩), .int .i64 (rn : Nat), .int .i64 x] (oEn eb vb bb pl n s) (innerE rn x s) (fun _ => .tuple #[]) (oEn eb vb bb pl (n + 12)) := by
 rintro w A T
 have HO := Lib.hid (oEn_ok T)
 have HW := Lib.hid (oEn_wide T)
 have T1 : Hp w A (w.alloc (segO s.C.tr)) [oEn eb vb bb pl n s, Ob.box w.heap.size (segO s.C.tr)] := (Hp.solo T).make _
 have HT := Lib.hid T1
 obtain ⟨t0, t1, t2, t3, t4, t5, t6, t7, t8, tl⟩ := ((Hp.solo T).cpu 0 rfl).task
 have HA := Lib.hid (And.intro hr (And.intro hx hn))
 clear T T1 hn
 go_enter Tryz.func33, Tryz.ntmps33
 go_upto_region 1 with (fail)
 change Code.wp _ _ _ _ (w.alloc (segO s.C.tr))
 clear t0 t1 t2 t3 t4 t5 t6 t7 t8 tl
 generalize w.alloc (segO s.C.tr) = w2 at *
 generalize w.heap.size = g at *
 obtain ⟨z0, z1, z2, z3, -, -, -, -, -, zf, zl⟩ := HT.out.gbox 1 rfl
 have hsel := HO.out.tr.sel
 have hlim := HO.out.tr.lim
 have hbase := HO.out.tr.base
 have hcd : codeOfN s.C.tr.sel ≤ s.C.tr.sel := Nat.sub_le _ _
 have QC := Lib.hid (show IntKind.i64.wrap (((codeOfN s.C.tr.sel : Nat) : Int) + x) = ((codeOfN s.C.tr.sel : Nat) : Int) + x from IntWalk.i64_in _ (by omega))
 have QD := Lib.hid (show decide (IntKind.u32.wrap (IntKind.i64.wrap (IntKind.i64.wrap (8 * (rn : Int)) + 11)) ≤ (s.C.tr.lim : Int)) = decide (8 * rn + 11 ≤ s.C.tr.lim) from by
  rw [IntWalk.i64_in (8 * (rn : Int)) (by omega), IntWalk.i64_in (8 * (rn : Int) + 11) (by omega), IntWalk.u32_in (8 * (rn : Int) + 11) (by omega)]
  by_cases h : 8 * rn + 11 ≤ s.C.tr.lim
  ·rw [decide_eq_true h, decide_eq_true (by omega)]
  ·rw [decide_eq_false h, decide_eq_false (by omega)])
 have TA := Lib.hid HT.out.drew
 by_cases hp : 8 * rn + 11 ≤ s.C.tr.lim
 ·have QE := Lib.hid (QD.out.trans (decide_eq_true hp))
  go_region_held3 (fun w' => w'.cell? ⟨g, 0, none⟩ = some (.int .u16 (s.C.tr.sel : Nat)) ∧ w'.cell? ⟨g, 3, none⟩ = some (.int .u32 (s.C.tr.lim : Nat))) (first | exact ⟨(TA.out.gbox 1 rfl).1, (TA.out.gbox 1 rfl).2.2.2.1⟩ | go_keep)
   (first
    | (go_at_call 29; refine (code_x s.C.tr.sel hsel _ rfl _).mono ?_; rintro e w' ⟨rfl, rfl⟩)
    | (go_at_call 26; rw [QE.out, QC.out]; refine (need_yes _ _ _).mono ?_; rintro e w' ⟨rfl, rfl⟩))
  have HE1 := Lib.hid (show innerE rn x s = ((sysE ((s.C.tr.base + (8 * rn + 4)) % 4294967296) 4).then fun sp => (sysE (((s.C.tr.base + (8 * rn + 4)) % 4294967296 + 4) % 4294967296) 2).then fun sel => inner2 rn x sp sel) s from Ex.then_ok (need_ok (decide_eq_true hp) _ _ _))
  have TB := Lib.hid HT.out.drew
  clear z0 z1 z2 z3 zf zl HT TA QE QD QC
  generalize w2.drew = w3 at *
  obtain ⟨z0, z1, z2, z3, -, -, -, -, -, zf, zl⟩ := TB.out.gbox 1 rfl
  obtain ⟨a, ha⟩ : ∃ a, a = (s.C.tr.base + (8 * rn + 4)) % 4294967296 := ⟨_, rfl⟩
  have ha1 : ((s.C.tr.base : Int) + (8 * (rn : Int) + 4)) % 4294967296 = (a : Int) := by omega
  have ha2 : a < 4294967296 := by omega
  rw [← ha] at HE1
  clear ha
  go_upto_region 3 with (fail)
  rw [ha1]
  go_wp2_with fail
  rcases h1 : sysE a 4 s with ⟨f1 | sp, s1⟩
  ·refine (TB.out.go_no 0 rfl (sys_x a ha2 4 (by have := HA.out.2.2; omega)) h1).mono ?_
   rintro e w4 ⟨rfl, T2⟩
   go_wp2_with fail
   exact ⟨rfl, goes_no (T2.moreN (n' := n + 12) 0 rfl (by omega)) (HE1.out.trans (Ex.then_no h1))⟩
  ·refine (TB.out.go_ok 0 rfl (sys_x a ha2 4 (by have := HA.out.2.2; omega)) h1).mono ?_
   rintro e w4 ⟨rfl, T2⟩
   have HT2 := Lib.hid (show Hp w A w4 [oEn eb vb bb pl (n + 2) s1, Ob.box g (segO s.C.tr)] from T2)
   have hsp := sysE_ok (k := 4) HW.out (HT2.out.wide 0 rfl) HO.out ha2 (.inr (.inr rfl)) h1
   have HSP := Lib.hid hsp
   have HE2 := Lib.hid (HE1.out.trans (Ex.then_ok h1))
   clear T2 z0 z1 z2 z3 zf zl h1 hsp TB HE1
   obtain ⟨a4, ha4⟩ : ∃ a4, a4 = (a + 4) % 4294967296 := ⟨_, rfl⟩
   have ha5 : ((a : Int) + 4) % 4294967296 = (a4 : Int) := by omega
   have ha6 : a4 < 4294967296 := by omega
   rw [← ha4] at HE2
   clear ha4
   go_wp2_with fail
   rw [ha5]
   rcases h2 : sysE a4 2 s1 with ⟨f2 | sel, s2⟩
   ·refine (HT2.out.go_no 0 rfl (sys_x a4 ha6 2 (by have := HA.out.2.2; omega)) h2).mono ?_
    rintro e w5 ⟨rfl, T3⟩
    go_wp2_with fail
    exact ⟨rfl, goes_no (T3.moreN (n' := n + 12) 0 rfl (by omega)) (HE2.out.trans (Ex.then_no h2))⟩
   ·refine (HT2.out.go_ok 0 rfl (sys_x a4 ha6 2 (by have := HA.out.2.2; omega)) h2).mono ?_
    rintro e w5 ⟨rfl, T3⟩
    have HT3 := Lib.hid (show Hp w A w5 [oEn eb vb bb pl (n + 2 + 2) s2, Ob.box g (segO s.C.tr)] from T3)
    have hse := sysE_ok (k := 2) (HT2.out.wide 0 rfl) (HT3.out.wide 0 rfl) (by rw [HSP.out.2]; exact HO.out) ha6 (.inr (.inl rfl)) h2
    have HSE := Lib.hid hse
    have HE3 := Lib.hid (show innerE rn x s = inner2 rn x sp sel s2 from HE2.out.trans (Ex.then_ok h2))
    have hs16 : sel < 65536 := hse.1
    have hs17 : (sel : Int) < 65536 := by omega
    clear T3 h2 hse HT2 HE2
    have hcs : codeOfN sel ≤ sel := Nat.sub_le _ _
    go_wp2_with fail
    refine (code_x sel hs16 _ (by first | rfl | omega) _).mono ?_
    rintro e w' ⟨rfl, rfl⟩
    go_wp2_with fail
    refine (code_x sel hs16 _ (by first | rfl | omega) _).mono ?_
    rintro e w' ⟨rfl, rfl⟩
    have HS := Lib.hid (And.intro hs16 hcs)
    by_cases hc : codeOfN sel = 0
    ·have hc1 : (((codeOfN sel : Nat) : Int) != 0) = false := by rw [hc]; rfl
     have HE4 := Lib.hid (HE3.out.trans (Ex.then_no (need_no (by rw [hc]; rfl) _ _ _)))
     clear hc hs16 hs17 hcs
     go_wp2_with (go_at_call 26; refine (need_not _ _ _).mono ?_; rintro e w' ⟨he, rfl⟩; unfold gaveX faultX at he; subst he)
     exact ⟨rfl, goes_no (HT3.out.moreN (n' := n + 12) 0 rfl (by omega)) HE4.out⟩
    ·have hc1 : (((codeOfN sel : Nat) : Int) != 0) = true := by simpa using hc
     have HE4 := Lib.hid (show innerE rn x s = ((descE sel 10 ((codeOfN sel : Nat) + x)).then fun d => (needE (d.isStack rn) 10 ((codeOfN sel : Nat) + x)).then fun _ => (needE d.pre 12 ((codeOfN sel : Nat) + x)).then fun _ => Ex.upd fun s1 => ⟨(s1.C.setSeg 2 d).setR 4 sp, s1.R⟩) s2 from HE3.out.trans (Ex.then_ok (need_ok (by simpa using hc) _ _ _)))
     clear hc
     go_upto_region 7 with (go_at_call 26; refine (need_yes _ _ _).mono ?_; rintro e w' ⟨rfl, rfl⟩)
     exact inner_7 HT3.out (N := n + 12) (by omega) (by have := HA.out.2.2; omega) HS.out.1 HSP.out.1 HE4.out (by assumption)
 ·have QE := Lib.hid (QD.out.trans (decide_eq_false hp))
  have HE := Lib.hid (show innerE rn x s = (.error ⟨10, ((codeOfN s.C.tr.sel : Nat) : Int) + x, 0⟩, s) from Ex.then_no (need_no (decide_eq_false hp) _ _ _))
  refine wp_region_held_drew (S := fun w' => w'.cell? ⟨g, 0, none⟩ = some (.int .u16 (s.C.tr.sel : Nat)) ∧ w'.cell? ⟨g, 3, none⟩ = some (.int .u32 (s.C.tr.lim : Nat))) (by kernel_rfl) ⟨(TA.out.gbox 1 rfl).1, (TA.out.gbox 1 rfl).2.2.2.1⟩ (fun hHeld => ?_)
  refine wpAnyH_take (i := 0) (oi := _) (v := ?_) rfl (by kernel_rfl) (by kernel_rfl) (by kernel_rfl) (fun _ _ _ h => h) (Or.inl ⟨by rfl, ?_⟩) (by assumption) ?_
  rotate_left
  ·(intro w hSw; (try dsimp only at hSw); go_simp <;> rfl)
  refine wpAnyH_take (i := 1) (oi := _) (v := ?_) rfl (by kernel_rfl) (by kernel_rfl) (by kernel_rfl) (fun _ _ _ h => h) (Or.inl ⟨by rfl, ?_⟩) (by assumption) ?_
  rotate_left
  ·(intro w hSw; (try dsimp only at hSw); go_simp <;> rfl)
  refine wpAnyH_take (i := 2) (oi := _) (v := ?_) rfl (by kernel_rfl) (by kernel_rfl) (by kernel_rfl) (fun _ _ _ h => h) (Or.inl ⟨by rfl, ?_⟩) (by assumption) ?_
  rotate_left
  ·(intro w hSw; (try dsimp only at hSw); go_simp <;> rfl)
  refine wpAnyH_take (i := 3) (oi := _) (v := ?_) rfl (by kernel_rfl) (by kernel_rfl) (by kernel_rfl) (fun _ _ _ h => h) (Or.inl ⟨by rfl, ?_⟩) (by assumption) ?_
  rotate_left
  ·(intro w hSw; (try dsimp only at hSw); go_simp <;> rfl)
  refine wpAnyH_take (i := 4) (oi := _) (v := ?_) rfl (by kernel_rfl) (by kernel_rfl) (by kernel_rfl) (fun _ _ _ h => h) (Or.inl ⟨by rfl, ?_⟩) (by assumption) ?_
  rotate_left
  ·(intro w hSw; (try dsimp only at hSw); go_simp <;> rfl)
  refine wpAnyH_take (i := 5) (oi := _) (v := ?_) rfl (by kernel_rfl) (by kernel_rfl) (by kernel_rfl) (fun _ _ _ h => h) (Or.inl ⟨by rfl, ?_⟩) (by assumption) ?_
  rotate_left
  ·(intro w hSw; (try dsimp only at hSw); go_simp <;> rfl)
  refine wpAnyH_take (i := 6) (oi := _) (v := ?_) rfl (by kernel_rfl) (by kernel_rfl) (by kernel_rfl) (fun _ _ _ h => h) (Or.inl ⟨by rfl, ?_⟩) (by assumption) ?_
  rotate_left
  ·(intro w hSw; (try dsimp only at hSw); go_simp <;> rfl)
  refine wpAnyH_take (i := 7) (oi := _) (v := ?_) rfl (by kernel_rfl) (by kernel_rfl) (by kernel_rfl) (fun _ _ _ h => h) (Or.inl ⟨by rfl, ?_⟩) (by assumption) ?_
  rotate_left
  ·(intro w hSw; (try dsimp only at hSw); go_simp <;> rfl)
  refine wpAnyH_take (i := 8) (oi := _) (v := ?_) rfl (by kernel_rfl) (by kernel_rfl) (by kernel_rfl) (fun _ _ _ h => h) (Or.inl ⟨by rfl, ?_⟩) (by assumption) ?_
  rotate_left
  ·(intro w hSw; (try dsimp only at hSw); go_simp <;> rfl)
  refine wpAnyH_take (i := 9) (oi := _) (v := ?_) rfl (by kernel_rfl) (by kernel_rfl) (by kernel_rfl) (fun _ _ _ h => h) (Or.inl ⟨by rfl, ?_⟩) (by assumption) ?_
  rotate_left
  ·(intro w hSw; (try dsimp only at hSw); go_simp <;> rfl)
  refine wpAnyH_take (i := 11) (oi := _) (v := ?_) rfl (by kernel_rfl) (by kernel_rfl) (by kernel_rfl) (fun _ _ _ h => h) (Or.inl ⟨by rfl, ?_⟩) (by assumption) ?_
  rotate_left
  ·(intro w hSw; (try dsimp only at hSw); go_simp <;> rfl)
  simp only [Act.put, List.getElem_toArray, List.getElem_cons_zero, List.getElem_cons_succ, List.setIfInBounds_toArray, List.set_cons_zero, List.set_cons_succ]
  refine wpAnyH_ready (rs := [10]) (by kernel_rfl) (by decide) (AllReadyH.cons rfl (fun K hK => ?_) AllReadyH.nil)
  go_simp
  refine (code_x s.C.tr.sel hsel _ rfl _).mono ?_
  rintro e w' ⟨rfl, rfl⟩
  go_wp2_with fail
  refine hK.out _ _ hHeld (fun _ => ?_)
  clear hK K
  try simp only [Act.put, List.getElem_toArray, List.getElem_cons_zero, List.getElem_cons_succ, List.setIfInBounds_toArray, List.set_cons_zero, List.set_cons_succ]
  refine wpAnyH_take (i := 12) (oi := _) (v := ?_) rfl (by kernel_rfl) (by kernel_rfl) (by kernel_rfl) (fun _ _ _ h => h) (Or.inl ⟨by rfl, ?_⟩) (by assumption) ?_
  rotate_left
  ·(intro w hSw; (try dsimp only at hSw); go_simp <;> rfl)
  simp only [Act.put, List.getElem_toArray, List.getElem_cons_zero, List.getElem_cons_succ, List.setIfInBounds_toArray, List.set_cons_zero, List.set_cons_succ]
  refine wpAnyH_ready (rs := [13]) (by kernel_rfl) (by decide) (AllReadyH.cons rfl (fun K hK => ?_) AllReadyH.nil)
  go_simp
  rw [QE.out, QC.out]
  refine (need_not _ _ _).mono ?_
  rintro e w' ⟨he, rfl⟩
  unfold gaveX faultX at he; subst he
  go_wp2_with fail
  exact ⟨rfl, goes_no (TA.out.moreN (n' := n + 12) 0 rfl (by omega)) HE.out⟩
end
end Go.Proofs.YtmpcafdgkbpneaaGreat

/- except: Enter's inner function: the new code segment; an inner ring's stack. -/
namespace Go.Proofs.YtmpcafdgkbpneaaGreat
open Go.RowKit Go.MapKept
set_option linter.unusedVariables false
attribute [local go_sem ↓] Go.wp_at_zero Go.wp_at_succ

section
variable {w W w' w0 : World} {A A0 : Nat → Prop} {os bs loc : List Ob} {eb vb bb : Nat} {pl : Pl} {n n' N : Nat} {s s1 s' : Es} {r : Except FaultS Unit × Es} {x : FaultS}
theorem whenE_no {β : Type} (m : Ex Unit) (k : Unit → Ex β) : (whenE false m).then k = k () := rfl
theorem whenE_yes {β : Type} (m : Ex Unit) (k : Unit → Ex β) : (whenE true m).then k = m.then k := rfl
variable {be bv bn bt gd go : Nat} {vec num : Int} {soft : Bool} {d : SegR} {old : CpuS}
theorem enter_24 (T : Hp w A W (oEn eb vb bb pl n s1 :: (enterB eb be bv bn bt vec num soft ++ [Ob.box gd (descO d), Ob.box go (cpuO old)]))) (hn : n + 12 ≤ N) (hN : N * 12 ≤ 140737488355328) {place kind rn : Nat} (hp : place < 4294967296) (hrn : rn < 4) (ok : old.ok) (hr : r = e24 old (rn != old.ring) num place kind s1) {y6 y1 y2 y3 y4 y5 o1 o2 o3 o5 o6 o7 o8 o9 p0 p1 p2 p4 p5 p6 p7 p8 p9 q0 q1 p3 q2 q3 q4 q5 q6 q7 q8 q9 r0 r1 r2 r3 r4 r5 r6 r7 r8 r9 s0 s2 s3 s4 s5 s6 s7 s8 s9 t0 t3 t4 t5 t6 t7 t8 t9 u2 u3 u5 u9 v0 v1 v2 v3 v4 v5 v6 v7 v8 v9 w0 w4 w5 w6 w7 w8 w9 x0 x1 x2 x3 x4 x5 x6 x7 x8 x9 y0 a0 a1 a2 a3 a4 a5 a6 a7 a8 a9 b1 b2 b3 b4 b5 b6 b7 b8 b9 c0 c1 c2 c3 c4 c5 c6 c7 c8 c9 d0 d1 d2 d3 d4 d5 d6 d7 d8 d9 e0 e1 e2 e3 e4 e5 e6 e7 e8 e9 f0 f1 f2 f3 f4 f5 f6 f7 f8 f9 g0 g1 g2 g3 g4 g5 g6 g7 g8 g9 h2 h3 h4 h5 h6 h7 h8 h9 i0 i1 i2 i3 i4 i5 i6 i7 i8 i9 j0 j1 j2 j3 j4 j5 j6 j7 j8 j9 k0 k1 k2 k3 k4 k5 k6 k7 k8 k9 l0 l1 l2 l3 l4 l5 l6 l7 l8 l9 m0 m1 m2 m3 m4 m5 m6 m7 m8 m9 n0 n1 n2 n3 n4 n5 n6 n7 n8 n9 o0 : Value}
    {K27 : Act → World → Prop} (hK27 : ∀ a w1, Code.wp Tryz.prog (.seq (.seq (rg Tryz.f25 27) (tl Tryz.f25 27)) (.seq (.seq (rg Tryz.f25 32) (tl Tryz.f25 32)) (.seq (rg Tryz.f25 34) (tl Tryz.f25 34)))) (bodyPost Tryz.prog Tryz.f25 (EnEnd w A eb vb bb pl N (enterB eb be bv bn bt vec num soft) r)) a w1 → K27 a w1) {K24 : Act → World → Prop} (hK24 : ∀ a w1, Code.wp Tryz.prog (tl Tryz.f25 24) (Exit.then K27 (bodyPost Tryz.prog Tryz.f25 (EnEnd w A eb vb bb pl N (enterB eb be bv bn bt vec num soft) r))) a w1 → K24 a w1) :
    Code.wp Tryz.prog (rg Tryz.f25 24) (Exit.then K24 (Exit.then K27 (bodyPost Tryz.prog Tryz.f25 (EnEnd w A eb vb bb pl N (enterB eb be bv bn bt vec num soft) r)))) ⟨#[y6, y1, .pointer (some ⟨be, 0, none⟩), .pointer (some ⟨bn, 0, none⟩), y2, .pointer (some ⟨eb, 0, none⟩), y3, y4, y5, .int .u32 (kind : Nat), o1, .int .u32 (place : Nat), o2, .pointer (some ⟨go, 0, none⟩), .int .i64 (rn : Nat), o3, o5, o6, o7, o8, o9, p0, p1, p2, p4, p5, p6, p7, p8, p9, q0, q1, p3, q2, q3, q4, q5, q6, q7, q8, q9, r0, r1, r2, r3, r4, r5, r6, r7, r8, r9, s0, s2, s3, s4, s5, s6, s7, s8, s9, t0, t3, t4, t5, t6, t7, t8, t9, u2, u3, u5, u9, v0, v1, v2, v3, v4, v5, v6, v7, v8, v9, w0, w4, w5, w6, w7, w8, w9, x0, x1, x2, x3, x4, x5, x6, x7, x8, x9, y0, a0, a1, a2, a3, a4, a5, a6, a7, a8, a9, b1, b2, b3, b4, b5, b6, b7, b8, b9, c0, c1, c2, c3, c4, c5, c6, c7, c8, c9, d0, d1, d2, d3, d4, d5, d6, d7, d8, d9, e0, e1, e2, e3, e4, e5, e6, e7, e8, e9, f0, f1, f2, f3, f4, f5, f6, f7, f8, f9, g0, g1, g2, g3, g4, g5, g6, g7, g8, g9, h2, h3, h4, h5, h6, h7, h8, h9, i0, i1, i2, i3, i4, i5, i6, i7, i8, i9, j0, j1, j2, j3, j4, j5, j6, j7, j8, j9, k0, k1, k2, k3, k4, k5, k6, k7, k8, k9, l0, l1, l2, l3, l4, l5, l6, l7, l8, l9, m0, m1, m2, m3, m4, m5, m6, m7, m8, m9, n0, n1, n2, n3, n4, n5, n6, n7, n8, n9, o0], []⟩ W := by
 have HT := Lib.hid T
 have HN := Lib.hid (And.intro hn hN)
 have HP := Lib.hid hp
 have HO := Lib.hid ok
 obtain ⟨o19, o20, -, -, -, -, -, -, -, of, ol⟩ := (T.ocpu 6 rfl ok).codeSeg
 obtain ⟨o28, -⟩ := (T.ocpu 6 rfl ok).stackSeg
 obtain ⟨o4, -⟩ := (T.ocpu 6 rfl ok).esp
 obtain ⟨b0, bf, bl⟩ := T.lone 1 rfl
 have hse := (ok.seg 1).sel
 have hs2 := (ok.seg 2).sel
 have ha := and_3 (old.seg 1).sel hse
 have hor : old.ring = (old.seg 1).sel % 4 := rfl
 rw [hor] at hr
 obtain ⟨m, hm⟩ : ∃ m, m = (old.seg 1).sel % 4 := ⟨_, rfl⟩
 rw [← hm] at ha hr
 have hm4 : m < 4 := by omega
 have hw : wrap64 ((m : Nat) : Int) = ((m : Nat) : Int) := IntWalk.wrap64_in _ (by omega)
 have HR := Lib.hid hr
 clear T hn hN hr hp ok hm hor
 conv => arg 2; whnf
 conv at hK24 => enter [a, w1, 1, 2]; whnf
 conv at hK27 => enter [a, w1, 1, 2, 1, 1]; whnf
 conv at hK27 => enter [a, w1, 1, 2, 1, 2]; whnf
 conv at hK27 => enter [a, w1, 1, 2, 2, 1, 1]; whnf
 conv at hK27 => enter [a, w1, 1, 2, 2, 1, 2]; whnf
 conv at hK27 => enter [a, w1, 1, 2, 2, 2, 1]; whnf
 conv at hK27 => enter [a, w1, 1, 2, 2, 2, 2]; whnf
 by_cases he : rn = m
 ·have hb : (((rn : Nat) : Int) != ((m : Nat) : Int)) = false := by rw [he]; simp
  have HR2 := Lib.hid (show r = e27 old num place kind s1 by rw [HR.out, e24, show (rn != m) = false by rw [he]; simp, whenE_no])
  clear he
  go_upto_region 27 with (fail)
  exact enter_27 HT.out (by have := HN.out; omega) HN.out.2 HP.out HO.out HR2.out (by assumption) (by assumption)
 ·have hb : (((rn : Nat) : Int) != ((m : Nat) : Int)) = true := by simp only [bne_iff_ne, ne_eq]; omega
  have HR2 := Lib.hid (show r = ((pushE (old.seg 2).sel).then fun _ => (pushE (old.r 4)).then fun _ => e27 old num place kind) s1 by rw [HR.out, e24, show (rn != m) = true by simpa using he, whenE_yes, Ex.assoc])
  have hr4 := HO.out.r 4
  clear he
  go_wp2_with fail
  rcases h0 : pushE (old.seg 2).sel s1 with ⟨f | u, t1⟩
  ·refine (HT.out.go_no 0 rfl (push_y _ (by omega) (by have := HN.out; omega) _ (by rfl)) h0).mono ?_
   rintro e w2 ⟨rfl, T2⟩
   go_wp2_with fail
   exact ⟨rfl, env_no T2 (by have := HN.out; omega) (HR2.out.trans (Ex.then_no h0))⟩
  ·refine (HT.out.go_ok 0 rfl (push_y _ (by omega) (by have := HN.out; omega) _ (by rfl)) h0).mono ?_
   rintro e w2 ⟨rfl, T2⟩
   have HT2 := Lib.hid (show Hp w A w2 (oEn eb vb bb pl (n + 2) t1 :: (enterB eb be bv bn bt vec num soft ++ [Ob.box gd (descO d), Ob.box go (cpuO old)])) from T2)
   have HR3 := Lib.hid (HR2.out.trans (Ex.then_ok h0))
   clear T2 h0 HT HR HR2 o19 o20 of ol o28 o4 b0 bf bl
   obtain ⟨o4, -⟩ := (HT2.out.ocpu 6 rfl HO.out).esp
   obtain ⟨b0, bf, bl⟩ := HT2.out.lone 1 rfl
   have ol := (HT2.out.ocpu 6 rfl HO.out).lt
   go_wp2_with fail
   rcases h1 : pushE (old.r 4) t1 with ⟨f | u, t2⟩
   ·refine (HT2.out.go_no 0 rfl (push_y _ (HO.out.r 4) (by have := HN.out; omega) _ (by rfl)) h1).mono ?_
    rintro e w3 ⟨rfl, T3⟩
    go_wp2_with fail
    exact ⟨rfl, env_no T3 (by have := HN.out; omega) (HR3.out.trans (Ex.then_no h1))⟩
   ·refine (HT2.out.go_ok 0 rfl (push_y _ (HO.out.r 4) (by have := HN.out; omega) _ (by rfl)) h1).mono ?_
    rintro e w3 ⟨rfl, T3⟩
    have HT3 := Lib.hid (show Hp w A w3 (oEn eb vb bb pl (n + 2 + 2) t2 :: (enterB eb be bv bn bt vec num soft ++ [Ob.box gd (descO d), Ob.box go (cpuO old)])) from T3)
    have HR4 := Lib.hid (HR3.out.trans (Ex.then_ok h1))
    clear T3 h1 HT2 HR3 o4 b0 bf bl ol
    go_upto_region 27 with (fail)
    exact enter_27 HT3.out (by have := HN.out; omega) HN.out.2 HP.out HO.out HR4.out (by assumption) (by assumption)
theorem sel_bits (sel rn : Nat) (hs : sel < 65536) (hr : rn < 4) : bits .or .u16 (bits .andNot .u16 (sel : Int) 3) ((rn : Nat) : Int) = ((sel - sel % 4 + rn : Nat) : Int) := by
 have e := u16_andNot_nat sel 3 hs (by decide)
 have f := nat_field sel 2 14
 have hc : sel - sel % 4 = 2 ^ 2 * (sel / 4) := by omega
 rw [show (3 : Int) = ((3 : Nat) : Int) from rfl, e, show 65535 - 3 = (2 ^ 14 - 1) * 2 ^ 2 by decide, f]
 have g : sel / 2 ^ 2 % 2 ^ 14 * 2 ^ 2 = 2 ^ 2 * (sel / 4) := by omega
 rw [g, u16_or_nat _ rn (by omega) (by omega), hc, Nat.two_pow_add_eq_or_of_lt hr]
def SegR.atRing (d : SegR) (sel rn : Nat) : SegR := { d with sel := sel - sel % 4 + rn }
def e23 (old : CpuS) (d : SegR) (sel rn : Nat) (num : Int) (place kind : Nat) : Ex Unit := (Ex.upd fun s1 => ⟨s1.C.setSeg 1 (d.atRing sel rn), s1.R⟩).then fun _ => e24 old (rn != old.ring) num place kind
theorem enter_23 (T : Hp w A W (oEn eb vb bb pl n s1 :: (enterB eb be bv bn bt vec num soft ++ [Ob.box gd (descO d), Ob.box go (cpuO old)]))) (hn : n + 12 ≤ N) (hN : N * 12 ≤ 140737488355328) {place kind rn sel : Nat} (hp : place < 4294967296) (hrn : rn < 4) (hs : sel < 65536) (ok : old.ok) (hd : d.ok) (hdn : d.nul = false) (hr : r = e23 old d sel rn num place kind s1) {x8 x3 x4 x5 x6 x7 o1 o0 o2 o3 o4 o5 o6 o7 o8 p0 p1 p2 p3 p4 p5 p6 p7 o9 p8 p9 q0 q1 q2 q3 q4 q5 q6 q7 q8 q9 r0 r1 r2 r3 r4 r5 r6 r7 r8 r9 s0 s2 s3 s4 s5 s6 s7 s8 s9 t0 t1 t2 t3 t4 t5 t6 t7 t8 t9 u2 u3 u5 u9 v0 v1 v2 v3 v4 v5 v6 v7 v8 v9 w0 w2 w3 w4 w5 w6 w7 w8 w9 x0 x1 x2 a0 a1 a2 a3 a4 a5 a6 a7 a8 a9 b0 b1 b2 b3 b4 b5 b6 b7 b8 b9 c0 c1 c2 c3 c4 c5 c6 c7 c8 c9 d0 d1 d2 d3 d4 d5 d6 d7 d8 d9 e0 e3 e4 e5 e6 e7 e8 e9 f0 f1 f2 f3 f4 f5 f6 f7 f8 f9 g0 g1 g2 g3 g4 g5 g6 g7 g8 g9 h0 h1 h2 h3 h4 h5 h6 h7 h8 h9 i0 i1 i2 i3 i4 i5 i6 i7 i8 i9 j0 j1 j2 j3 j4 j5 j6 j7 j8 j9 k0 k1 k2 k3 k4 k5 k6 k7 k8 k9 l0 l1 l2 l3 l4 l5 l6 l7 l8 l9 m0 m1 m2 m3 m4 m5 m6 m7 m8 m9 n0 n1 n2 n3 n4 n5 n6 n7 n8 n9 : Value} {K23 : Act → World → Prop} (hK23 : ∀ a w1, Code.wp Tryz.prog (tl Tryz.f25 23) (bodyPost Tryz.prog Tryz.f25 (EnEnd w A eb vb bb pl N (enterB eb be bv bn bt vec num soft) r)) a w1 → K23 a w1) :
    Code.wp Tryz.prog (rg Tryz.f25 23) (Exit.then K23 (bodyPost Tryz.prog Tryz.f25 (EnEnd w A eb vb bb pl N (enterB eb be bv bn bt vec num soft) r))) ⟨#[x8, x3, .pointer (some ⟨be, 0, none⟩), .pointer (some ⟨bn, 0, none⟩), x4, .pointer (some ⟨eb, 0, none⟩), x5, x6, x7, .int .u32 (kind : Nat), .int .u16 (sel : Nat), .int .u32 (place : Nat), .pointer (some ⟨gd, 0, none⟩), .pointer (some ⟨go, 0, none⟩), .int .i64 (rn : Nat), o1, o0, o2, o3, o4, o5, o6, o7, o8, p0, p1, p2, p3, p4, p5, p6, p7, o9, p8, p9, q0, q1, q2, q3, q4, q5, q6, q7, q8, q9, r0, r1, r2, r3, r4, r5, r6, r7, r8, r9, s0, s2, s3, s4, s5, s6, s7, s8, s9, t0, t1, t2, t3, t4, t5, t6, t7, t8, t9, u2, u3, u5, u9, v0, v1, v2, v3, v4, v5, v6, v7, v8, v9, w0, w2, w3, w4, w5, w6, w7, w8, w9, x0, x1, x2, a0, a1, a2, a3, a4, a5, a6, a7, a8, a9, b0, b1, b2, b3, b4, b5, b6, b7, b8, b9, c0, c1, c2, c3, c4, c5, c6, c7, c8, c9, d0, d1, d2, d3, d4, d5, d6, d7, d8, d9, e0, e3, e4, e5, e6, e7, e8, e9, f0, f1, f2, f3, f4, f5, f6, f7, f8, f9, g0, g1, g2, g3, g4, g5, g6, g7, g8, g9, h0, h1, h2, h3, h4, h5, h6, h7, h8, h9, i0, i1, i2, i3, i4, i5, i6, i7, i8, i9, j0, j1, j2, j3, j4, j5, j6, j7, j8, j9, k0, k1, k2, k3, k4, k5, k6, k7, k8, k9, l0, l1, l2, l3, l4, l5, l6, l7, l8, l9, m0, m1, m2, m3, m4, m5, m6, m7, m8, m9, n0, n1, n2, n3, n4, n5, n6, n7, n8, n9], []⟩ W := by
 have HN := Lib.hid (And.intro hn hN)
 have HP := Lib.hid (And.intro hp hrn)
 have HO := Lib.hid ok
 have hsr : sel - sel % 4 + rn < 65536 := by omega
 have hd' : (⟨sel - sel % 4 + rn, false, d.base, d.lim, d.typ, d.sys, d.dpl, d.pre, d.big⟩ : SegR) = d.atRing sel rn := by
  cases d
  simp_all [SegR.atRing]
 have hok : (d.atRing sel rn).ok := ⟨hsr, hd.base, hd.lim, hd.typ, hd.dpl⟩
 have HR := Lib.hid (show r = e24 old (rn != old.ring) num place kind ⟨s1.C.setSeg 1 (d.atRing sel rn), s1.R⟩ from hr)
 have e1 := sel_bits sel rn hs hrn
 have e2 : IntKind.u16.wrap ((rn : Nat) : Int) = ((rn : Nat) : Int) := IntWalk.u16_in _ (by omega)
 obtain ⟨z0, z1, z2, z3, z4, z5, z6, zf, zl⟩ := T.dbox 5 rfl
 obtain ⟨y0, y1, y2, y3, y4, y5, y6, y7, y8, yf, yl⟩ := (T.cpu 0 rfl).codeSeg
 obtain ⟨q, hq⟩ : ∃ q, q = sel - sel % 4 + rn := ⟨_, rfl⟩
 rw [← hq] at e1 hd'
 have HT := Lib.hid (show Hp w A (setsG W eb 19 ⟨q, false, d.base, d.lim, d.typ, d.sys, d.dpl, d.pre, d.big⟩).drew (oEn eb vb bb pl n ⟨s1.C.setSeg 1 (d.atRing sel rn), s1.R⟩ :: (enterB eb be bv bn bt vec num soft ++ [Ob.box gd (descO d), Ob.box go (cpuO old)])) from by rw [hd']; exact (T.setCs 0 rfl _ hok).drew)
 clear T hn hN hr hp ok hd hdn hd' hok hsr hq hrn
 conv => arg 2; whnf
 conv at hK23 => enter [a, w1, 1, 2]; whnf
 go_region
 all_goals
  change Exit.then _ _ _ _ (setsG W eb 19 ⟨q, false, d.base, d.lim, d.typ, d.sys, d.dpl, d.pre, d.big⟩).drew
  clear z0 z1 z2 z3 z4 z5 z6 zf zl y0 y1 y2 y3 y4 y5 y6 y7 y8 yf yl
  generalize (setsG W eb 19 ⟨q, false, d.base, d.lim, d.typ, d.sys, d.dpl, d.pre, d.big⟩).drew = W3 at *
  go_upto_region 24 with (fail)
  exact enter_24 HT.out HN.out.1 HN.out.2 HP.out.1 HP.out.2 HO.out HR.out (by assumption) (by assumption)
def e20 (old : CpuS) (d : SegR) (sel : Nat) (num x : Int) (place kind : Nat) : Ex Unit := (whenE (!d.conf && decide (d.dpl < old.ring)) (innerE (toRing d old.ring) x)).then fun _ => e23 old d sel (toRing d old.ring) num place kind
theorem enter3_eq (num x : Int) (kind sel place : Nat) (d : SegR) (s : Es) : enter3 num x kind sel place d s = e20 s.C d sel num x place kind s := by
 unfold enter3 Ex.at e20 e23 e24 e27 e32 finE pushesE SegR.atRing
 simp only [Ex.assoc]
theorem enter_20 {y : Int} (T : Hp w A W (oEn eb vb bb pl n s1 :: (enterB eb be bv bn bt vec num soft ++ [Ob.box gd (descO d), Ob.box go (cpuO old)]))) (hn : n + 24 ≤ N) (hN : N * 12 ≤ 140737488355328) {place kind sel : Nat} (hp : place < 4294967296) (hs : sel < 65536) (ok : old.ok) (hd : d.ok) (hdn : d.nul = false) (hd0 : 0 ≤ d.dpl ∧ d.dpl ≤ 3) (hx : y = 0 ∨ y = 1) (hr : r = e20 old d sel num y place kind s1) {x8 x4 x5 x6 x7 o1 o0 o2 o3 o4 o5 o6 o7 o8 p0 p1 p2 p3 p4 p5 p6 p7 o9 p8 p9 q0 q1 q2 q3 q4 q5 q6 q7 q8 q9 r0 r1 r2 r3 r4 r5 r6 r7 r8 r9 s0 s2 s3 s4 s5 s6 s7 s8 s9 t0 t2 t3 t4 t5 t6 t7 t8 t9 u2 u3 u4 u5 u9 v0 v1 v2 v3 v4 v5 v6 v7 v8 v9 w0 w2 w4 w5 w6 w7 w8 w9 x0 x1 x2 x3 a0 a1 a2 a3 a4 a5 a6 a7 a8 a9 b1 b2 b3 b4 b5 b6 b7 b8 b9 c0 c1 c2 c3 c4 c5 c6 c7 c8 c9 d0 d1 d2 d3 d4 d5 d6 d7 d8 d9 e0 e1 e2 e3 e4 e5 e6 e7 e8 e9 f0 f1 f2 f3 f4 f5 f6 f7 f8 f9 g0 g1 g2 g3 g4 g5 g6 g7 g8 g9 h0 h2 h3 h4 h5 h6 h7 h8 h9 i0 i1 i2 i3 i4 i5 i6 i7 i8 i9 j0 j1 j2 j3 j4 j5 j6 j7 j8 j9 k0 k1 k2 k3 k4 k5 k6 k7 k8 k9 l0 l1 l2 l3 l4 l5 l6 l7 l8 l9 m0 m1 m2 m3 m4 m5 m6 m7 m8 m9 n0 n1 n2 n3 n4 n5 n6 n7 n8 n9 : Value} {K23 : Act → World → Prop} (hK23 : ∀ a w1, Code.wp Tryz.prog (.seq (rg Tryz.f25 23) (tl Tryz.f25 23)) (bodyPost Tryz.prog Tryz.f25 (EnEnd w A eb vb bb pl N (enterB eb be bv bn bt vec num soft) r)) a w1 → K23 a w1) {K20 : Act → World → Prop} (hK20 : ∀ a w1, Code.wp Tryz.prog (tl Tryz.f25 20) (Exit.then K23 (bodyPost Tryz.prog Tryz.f25 (EnEnd w A eb vb bb pl N (enterB eb be bv bn bt vec num soft) r))) a w1 → K20 a w1) :
    Code.wp Tryz.prog (rg Tryz.f25 20) (Exit.then K20 (Exit.then K23 (bodyPost Tryz.prog Tryz.f25 (EnEnd w A eb vb bb pl N (enterB eb be bv bn bt vec num soft) r)))) ⟨#[x8, x4, .pointer (some ⟨be, 0, none⟩), .pointer (some ⟨bn, 0, none⟩), .int .i64 y, .pointer (some ⟨eb, 0, none⟩), x5, x6, x7, .int .u32 (kind : Nat), .int .u16 (sel : Nat), .int .u32 (place : Nat), .pointer (some ⟨gd, 0, none⟩), .pointer (some ⟨go, 0, none⟩), .int .i64 (old.ring : Nat), o1, o0, o2, o3, o4, o5, o6, o7, o8, p0, p1, p2, p3, p4, p5, p6, p7, o9, p8, p9, q0, q1, q2, q3, q4, q5, q6, q7, q8, q9, r0, r1, r2, r3, r4, r5, r6, r7, r8, r9, s0, s2, s3, s4, s5, s6, s7, s8, s9, t0, t2, t3, t4, t5, t6, t7, t8, t9, u2, u3, u4, u5, u9, v0, v1, v2, v3, v4, v5, v6, v7, v8, v9, w0, w2, w4, w5, w6, w7, w8, w9, x0, x1, x2, x3, a0, a1, a2, a3, a4, a5, a6, a7, a8, a9, b1, b2, b3, b4, b5, b6, b7, b8, b9, c0, c1, c2, c3, c4, c5, c6, c7, c8, c9, d0, d1, d2, d3, d4, d5, d6, d7, d8, d9, e0, e1, e2, e3, e4, e5, e6, e7, e8, e9, f0, f1, f2, f3, f4, f5, f6, f7, f8, f9, g0, g1, g2, g3, g4, g5, g6, g7, g8, g9, h0, h2, h3, h4, h5, h6, h7, h8, h9, i0, i1, i2, i3, i4, i5, i6, i7, i8, i9, j0, j1, j2, j3, j4, j5, j6, j7, j8, j9, k0, k1, k2, k3, k4, k5, k6, k7, k8, k9, l0, l1, l2, l3, l4, l5, l6, l7, l8, l9, m0, m1, m2, m3, m4, m5, m6, m7, m8, m9, n0, n1, n2, n3, n4, n5, n6, n7, n8, n9], []⟩ W := by
 have HN := Lib.hid (And.intro hn hN)
 have HP := Lib.hid (And.intro hp hs)
 have HO := Lib.hid (And.intro ok (And.intro hd hdn))
 have HT := Lib.hid T
 have HR := Lib.hid hr
 have HX := Lib.hid hx
 have hor : old.ring < 4 := Nat.mod_lt _ (by decide)
 obtain ⟨z0, z1, z2, z3, z4, z5, z6, zf, zl⟩ := T.dbox 5 rfl
 clear T hn hN hr hp ok hd hdn hs hx
 conv => arg 2; whnf
 conv at hK20 => enter [a, w1, 1, 2]; whnf
 conv at hK23 => enter [a, w1, 1, 2, 1]; whnf
 conv at hK23 => enter [a, w1, 1, 2, 2]; whnf
 go_wp2_with fail
 refine (conforms_x d _).mono ?_
 rintro e W2 ⟨rfl, hb⟩
 have HT2 := Lib.hid (HT.out.grow hb)
 clear z0 z1 z2 z3 z4 z5 z6 zf zl hb HT
 obtain ⟨z0, z1, z2, z3, z4, z5, z6, zf, zl⟩ := HT2.out.dbox (d := d) 5 rfl
 obtain ⟨q, hq⟩ : ∃ q : Nat, d.dpl = (q : Int) := ⟨d.dpl.toNat, by omega⟩
 have HQ := Lib.hid hq
 rw [hq] at z4 hd0
 clear hq
 have hq4 : q < 4 := by omega
 generalize hR : old.ring = R at *
 cases hc : d.conf
 ·by_cases hlt : (q : Int) < (R : Int)
  ·have htr : toRing d R = q := by unfold toRing; rw [hc, HQ.out, decide_eq_true hlt]; rfl
   have HR2 := Lib.hid (show r = ((innerE q y).then fun _ => e23 old d sel q num place kind) s1 by rw [HR.out, e20, hR, htr, hc, HQ.out, decide_eq_true hlt, Bool.not_false, Bool.and_self, whenE_yes])
   obtain ⟨b0, bf, bl⟩ := HT2.out.lone 1 rfl
   clear htr HR
   go_wp2_with fail
   rcases h1 : innerE q y s1 with ⟨f | u, t1⟩
   ·refine (HT2.out.go_no 0 rfl (inner_x q hq4 y HX.out (by have := HN.out; omega)) h1).mono ?_
    rintro e w3 ⟨rfl, T3⟩
    go_wp2_with fail
    exact ⟨rfl, env_no T3 (by have := HN.out; omega) (HR2.out.trans (Ex.then_no h1))⟩
   ·refine (HT2.out.go_ok 0 rfl (inner_x q hq4 y HX.out (by have := HN.out; omega)) h1).mono ?_
    rintro e w3 ⟨rfl, T3⟩
    have HT3 := Lib.hid (show Hp w A w3 (oEn eb vb bb pl (n + 12) t1 :: (enterB eb be bv bn bt vec num soft ++ [Ob.box gd (descO d), Ob.box go (cpuO old)])) from T3)
    have HR3 := Lib.hid (HR2.out.trans (Ex.then_ok h1))
    clear T3 h1 HT2 HR2 z0 z1 z2 z3 z4 z5 z6 zf zl b0 bf bl
    go_upto_region 23 with (fail)
    exact enter_23 HT3.out (by have := HN.out; omega) HN.out.2 HP.out.1 hq4 HP.out.2 HO.out.1 HO.out.2.1 HO.out.2.2 HR3.out (by assumption)
  ·have htr : toRing d R = R := by unfold toRing; rw [hc, HQ.out, decide_eq_false hlt]; rfl
   have HR2 := Lib.hid (show r = e23 old d sel R num place kind s1 by rw [HR.out, e20, hR, htr, hc, HQ.out, decide_eq_false hlt, Bool.and_false, whenE_no])
   clear htr HR
   go_upto_region 23 with (fail)
   exact enter_23 HT2.out (by have := HN.out; omega) HN.out.2 HP.out.1 hor HP.out.2 HO.out.1 HO.out.2.1 HO.out.2.2 HR2.out (by assumption)
 ·have htr : toRing d R = R := by unfold toRing; rw [hc]; rfl
  have HR2 := Lib.hid (show r = e23 old d sel R num place kind s1 by rw [HR.out, e20, hR, htr, hc, Bool.not_true, Bool.false_and, whenE_no])
  clear htr HR
  go_upto_region 23 with (fail)
  exact enter_23 HT2.out (by have := HN.out; omega) HN.out.2 HP.out.1 hor HP.out.2 HO.out.1 HO.out.2.1 HO.out.2.2 HR2.out (by assumption)
end
end Go.Proofs.YtmpcafdgkbpneaaGreat

