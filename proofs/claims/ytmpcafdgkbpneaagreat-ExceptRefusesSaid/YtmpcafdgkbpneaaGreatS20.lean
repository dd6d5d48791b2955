/- Steps of a proof: ExO, together. -/
import Derived.Test.YtmpcafdgkbpneaaGreatS19
/- except: Return's inner function: the segments that an outer ring may not have. -/
set_option maxHeartbeats 4000000
set_option maxRecDepth 20000
namespace Go.Proofs.YtmpcafdgkbpneaaGreat
open Go.RowKit Go.MapKept
set_option linter.unusedVariables false
set_option linter.unusedSimpArgs false
attribute [local go_sem ↓] Go.wp_at_zero Go.wp_at_succ

section
variable {w W w' w0 : World} {A A0 : Nat → Prop} {os bs loc : List Ob} {eb vb bb be bz bc ba at_ : Nat} {pl : Pl} {n n' N : Nat} {s s1 s' : Es} {sz : Int} {r : Except FaultS Unit × Es} {rn : Nat}
def CpuS.drop1 (C : CpuS) (i rn : Nat) : CpuS := if (C.seg i).drops rn = true then C.setSeg i nullSeg else C
theorem drops_no (d : SegR) (rn : Nat) (h : (!d.nul && (!d.sys && decide (0 ≤ d.typ) && decide (d.typ < 16) && (bits .and .i64 d.typ 12 != 12)) && decide (d.dpl < rn)) = false) (C : CpuS) (i : Nat) (hd : C.seg i = d) : C.drop1 i rn = C := by
 unfold CpuS.drop1
 rw [hd, if_neg]
 unfold SegR.drops
 rw [h]; decide
theorem drops_yes (d : SegR) (rn : Nat) (h : (!d.nul && (!d.sys && decide (0 ≤ d.typ) && decide (d.typ < 16) && (bits .and .i64 d.typ 12 != 12)) && decide (d.dpl < rn)) = true) (C : CpuS) (i : Nat) (hd : C.seg i = d) : C.drop1 i rn = C.setSeg i nullSeg := by
 unfold CpuS.drop1
 rw [hd, if_pos]
 unfold SegR.drops
 rw [h]
theorem CpuAt.segC0 {w : World} {b : Nat} {C : CpuS} (h : CpuAt w b C) : w.cell? ⟨b, 10, none⟩ = some (.int .u16 ((C.seg 0).sel : Nat)) ∧ w.cell? ⟨b, 11, none⟩ = some (.bool (C.seg 0).nul) ∧ w.cell? ⟨b, 12, none⟩ = some (.int .u32 ((C.seg 0).base : Nat)) ∧ w.cell? ⟨b, 13, none⟩ = some (.int .u32 ((C.seg 0).lim : Nat)) ∧ w.cell? ⟨b, 14, none⟩ = some (.int .i64 (C.seg 0).typ) ∧ w.cell? ⟨b, 15, none⟩ = some (.bool (C.seg 0).sys) ∧ w.cell? ⟨b, 16, none⟩ = some (.int .i64 (C.seg 0).dpl) ∧ w.cell? ⟨b, 17, none⟩ = some (.bool (C.seg 0).pre) ∧ w.cell? ⟨b, 18, none⟩ = some (.bool (C.seg 0).big) ∧ (∀ k, w.frozen? ⟨b, k, none⟩ = false) ∧ b < w.heap.size :=
 have ⟨a0, a1, a2, a3, a4, a5, a6, a7, a8⟩ := h.segAt 0 (by decide)
 ⟨a0, a1, a2, a3, a4, a5, a6, a7, a8, fun k => h.free k, h.lt⟩
theorem env_null0 (C : CpuS) (vb bb : Nat) : ((((((((((envCells C vb bb).setIfInBounds 10 (.int .u16 0)).setIfInBounds 11 (.bool true)).setIfInBounds 12 (.int .u32 0)).setIfInBounds 13 (.int .u32 0)).setIfInBounds 14 (.int .i64 0)).setIfInBounds 15 (.bool false)).setIfInBounds 16 (.int .i64 0)).setIfInBounds 17 (.bool false)).setIfInBounds 18 (.bool false)) = envCells (C.setSeg 0 nullSeg) vb bb := by kernel_rfl
theorem Hp.null0 (T : Hp w0 A0 w os) (i : Nat) (hi : os[i]? = some (oEn eb vb bb pl n s)) : Hp w0 A0 (setsG w eb 10 nullSeg) (os.set i (oEn eb vb bb pl n ⟨s.C.setSeg 0 nullSeg, s.R⟩)) := by
 obtain ⟨A, H, E, e⟩ := T.get i hi
 refine T.setCpu i hi ?_ (setSeg_ok E.cok 0 _ ⟨by decide, by decide, by decide, by decide, by decide⟩) (keeps_setsG w eb 10 _)
 unfold setsG
 rw [← env_null0]
 simp only [heap_set_map, E.box, Option.map_some]
 rfl
theorem ret_round0 (T : Hp w A W (oEn eb vb bb pl n s1 :: (retB eb be bz sz ++ (retL eb bc ba at_ ++ loc)))) {Q : Exit → Act → World → Prop} {C9 C2 C3 C4 C5 C6 C7 C8 q6 q7 q8 q9 r0 q5 r4 r1 r2 r3 r5 r6 r7 r8 r9 s0 s3 s4 s5 s6 s7 s2 s8 s9 t0 t1 t2 t3 t4 t5 t6 t7 t8 t9 u2 u9 v0 v1 v2 v3 v4 v5 v6 v7 v8 v9 w0 w2 w3 w4 w5 w6 w7 w8 w9 x9 y9 z0 z1 z2 z3 z4 z5 z6 z7 z8 z9 A0 A1 A2 A3 A4 A5 A6 A7 A8 A9 B0 B1 B2 B3 B4 B5 B6 B7 B8 B9 C0 C1 a0 a1 a2 a3 a4 a5 a6 a7 a8 a9 b0 b1 b2 b3 b4 b5 b6 b7 b8 b9 c1 c2 c3 c4 c5 c6 c7 c8 c9 d0 d1 d2 d3 d4 d5 d6 d7 d8 d9 e0 e1 e2 e3 e4 e5 e6 e7 e8 e9 f0 f1 f2 f3 f4 f5 f6 f7 f8 f9 g0 g1 g2 g3 g4 g5 g6 g7 g8 g9 h0 h1 h2 h3 h4 h5 h6 h7 h8 h9 i0 i1 i2 i3 i4 i5 i6 i7 i8 i9 j0 j1 j2 j3 j4 j5 j6 j7 j8 j9 k0 k1 k2 k3 k4 k5 k6 k7 k8 k9 l0 l1 l2 l3 l4 l5 l7 l8 l9 m0 m1 m2 m3 m4 m5 m6 m7 m8 m9 n0 n1 n2 n3 n4 n5 n6 n7 n8 n9 o0 o1 o2 o3 o4 o5 o6 o7 o8 o9 p0 p1 p2 p3 p4 p5 p6 p7 p8 p9 q0 q1 q2 q3 q4 l6 : Value}
    (hK : ∀ w' (v16 v17 v215 v216 v217 v218 v219 v220 v221 v222 v223 v224 v225 v226 v227 v228 v229 v230 v231 v232 v233 v234 v235 v236 v237 v238 v239 v240 v241 v242 v243 v244 v245 v246 v247 v248 v249 v250 v251 v252 v253 v254 v255 v256 v257 v258 v259 v260 v261 v262 : Value), Hp w A w' (oEn eb vb bb pl n ⟨s1.C.drop1 0 rn, s1.R⟩ :: (retB eb be bz sz ++ (retL eb bc ba at_ ++ loc))) → Q .normal ⟨#[C9, C2, .pointer (some ⟨bc, 0, none⟩), C3, C4, C5, C6, C7, C8, .int .i64 (rn : Nat), q6, q7, q8, q9, r0, .int .i64 0, v16, v17, r1, r2, r3, r5, r6, r7, r8, r9, s0, s3, s4, s5, s6, s7, s2, s8, s9, t0, t1, t2, t3, t4, t5, t6, t7, t8, t9, u2, u9, v0, v1, v2, v3, v4, v5, v6, v7, v8, v9, w0, w2, w3, w4, w5, w6, w7, w8, w9, x9, y9, z0, z1, z2, z3, z4, z5, z6, z7, z8, z9, A0, A1, A2, A3, A4, A5, A6, A7, A8, A9, B0, B1, B2, B3, B4, B5, B6, B7, B8, B9, C0, C1, a0, a1, a2, a3, a4, a5, a6, a7, a8, a9, b0, b1, b2, b3, b4, b5, b6, b7, b8, b9, c1, c2, c3, c4, c5, c6, c7, c8, c9, d0, d1, d2, d3, d4, d5, d6, d7, d8, d9, e0, e1, e2, e3, e4, e5, e6, e7, e8, e9, f0, f1, f2, f3, f4, f5, f6, f7, f8, f9, g0, g1, g2, g3, g4, g5, g6, g7, g8, g9, h0, h1, h2, h3, h4, h5, h6, h7, h8, h9, i0, i1, i2, i3, i4, i5, i6, i7, i8, i9, j0, j1, j2, j3, j4, j5, j6, j7, j8, j9, k0, k1, k2, k3, k4, k5, k6, k7, k8, k9, l0, l1, l2, l3, l4, l5, v215, v216, v217, v218, v219, v220, v221, v222, v223, v224, v225, v226, v227, v228, v229, v230, v231, v232, v233, v234, v235, v236, v237, v238, v239, v240, v241, v242, v243, v244, v245, v246, v247, v248, v249, v250, v251, v252, v253, v254, v255, v256, v257, v258, v259, v260, v261, v262, l6], []⟩ w')
    {K41 : Act → World → Prop} (hK41 : ∀ a w1, Code.wp Tryz.prog (tl Tryz.f47 41) Q a w1 → K41 a w1) :
    Code.wp Tryz.prog (rg Tryz.f47 41) (Exit.then K41 Q) ⟨#[C9, C2, .pointer (some ⟨bc, 0, none⟩), C3, C4, C5, C6, C7, C8, .int .i64 (rn : Nat), q6, q7, q8, q9, r0, .int .i64 0, q5, r4, r1, r2, r3, r5, r6, r7, r8, r9, s0, s3, s4, s5, s6, s7, s2, s8, s9, t0, t1, t2, t3, t4, t5, t6, t7, t8, t9, u2, u9, v0, v1, v2, v3, v4, v5, v6, v7, v8, v9, w0, w2, w3, w4, w5, w6, w7, w8, w9, x9, y9, z0, z1, z2, z3, z4, z5, z6, z7, z8, z9, A0, A1, A2, A3, A4, A5, A6, A7, A8, A9, B0, B1, B2, B3, B4, B5, B6, B7, B8, B9, C0, C1, a0, a1, a2, a3, a4, a5, a6, a7, a8, a9, b0, b1, b2, b3, b4, b5, b6, b7, b8, b9, c1, c2, c3, c4, c5, c6, c7, c8, c9, d0, d1, d2, d3, d4, d5, d6, d7, d8, d9, e0, e1, e2, e3, e4, e5, e6, e7, e8, e9, f0, f1, f2, f3, f4, f5, f6, f7, f8, f9, g0, g1, g2, g3, g4, g5, g6, g7, g8, g9, h0, h1, h2, h3, h4, h5, h6, h7, h8, h9, i0, i1, i2, i3, i4, i5, i6, i7, i8, i9, j0, j1, j2, j3, j4, j5, j6, j7, j8, j9, k0, k1, k2, k3, k4, k5, k6, k7, k8, k9, l0, l1, l2, l3, l4, l5, l7, l8, l9, m0, m1, m2, m3, m4, m5, m6, m7, m8, m9, n0, n1, n2, n3, n4, n5, n6, n7, n8, n9, o0, o1, o2, o3, o4, o5, o6, o7, o8, o9, p0, p1, p2, p3, p4, p5, p6, p7, p8, p9, q0, q1, q2, q3, q4, l6], []⟩ W := by
 have HKK := Lib.hid hK
 have HT := Lib.hid T
 obtain ⟨c0, cf, cl⟩ := T.lone 3 rfl
 obtain ⟨y0, y1, y2, y3, y4, y5, y6, y7, y8, yf, yl⟩ := (T.cpu 0 rfl).segC0
 clear T hK
 conv => arg 2; whnf
 conv at hK41 => enter [a, w1, 1, 2]; whnf
 obtain ⟨d, hd⟩ : ∃ d, d = s1.C.seg 0 := ⟨_, rfl⟩
 rw [← hd] at y0 y1 y2 y3 y4 y5 y6 y7 y8
 have HD := Lib.hid hd.symm
 clear hd
 have HG2 := Lib.hid (show Hp w A (W.alloc (.cells #[.int .u16 (d.sel : Nat), .bool d.nul, .int .u32 (d.base : Nat), .int .u32 (d.lim : Nat), .int .i64 d.typ, .bool d.sys, .int .i64 d.dpl, .bool d.pre, .bool d.big] 31)) ((oEn eb vb bb pl n s1 :: (retB eb be bz sz ++ (retL eb bc ba at_ ++ loc))) ++ [Ob.box W.heap.size (segO d)]) from HT.out.make _)
 have HT2 := Lib.hid (Hp.left HG2.out)
 go_upto_region 42 with (fail)
 change Code.wp _ _ _ _ (W.alloc (.cells #[.int .u16 (d.sel : Nat), .bool d.nul, .int .u32 (d.base : Nat), .int .u32 (d.lim : Nat), .int .i64 d.typ, .bool d.sys, .int .i64 d.dpl, .bool d.pre, .bool d.big] 31))
 clear y0 y1 y2 y3 y4 y5 y6 y7 y8 yf yl c0 cf cl HT
 have hg := HG2.out.rot.gbox (d := d) 0 rfl
 clear HG2
 generalize W.alloc (.cells #[.int .u16 (d.sel : Nat), .bool d.nul, .int .u32 (d.base : Nat), .int .u32 (d.lim : Nat), .int .i64 d.typ, .bool d.sys, .int .i64 d.dpl, .bool d.pre, .bool d.big] 31) = W2 at *
 generalize W.heap.size = g at *
 obtain ⟨x0, x1, x2, x3, x4, x5, x6, x7, x8, xf, xl⟩ := hg
 obtain ⟨dsel, dnul, dbase, dlim, dtyp, dsys, ddpl, dpre, dbig⟩ := d
 dsimp only at x0 x1 x2 x3 x4 x5 x6 x7 x8
 have no : (!dnul && (!dsys && decide (0 ≤ dtyp) && decide (dtyp < 16) && (bits .and .i64 dtyp 12 != 12)) && decide (ddpl < rn)) = false → Hp w A W2 (oEn eb vb bb pl n ⟨s1.C.drop1 0 rn, s1.R⟩ :: (retB eb be bz sz ++ (retL eb bc ba at_ ++ loc))) := fun h => by
  rw [drops_no ⟨dsel, dnul, dbase, dlim, dtyp, dsys, ddpl, dpre, dbig⟩ rn h s1.C 0 HD.out]; exact HT2.out
 have yes : (!dnul && (!dsys && decide (0 ≤ dtyp) && decide (dtyp < 16) && (bits .and .i64 dtyp 12 != 12)) && decide (ddpl < rn)) = true → Hp w A (setsG W2 eb 10 nullSeg) (oEn eb vb bb pl n ⟨s1.C.drop1 0 rn, s1.R⟩ :: (retB eb be bz sz ++ (retL eb bc ba at_ ++ loc))) := fun h => by
  rw [drops_yes ⟨dsel, dnul, dbase, dlim, dtyp, dsys, ddpl, dpre, dbig⟩ rn h s1.C 0 HD.out]; exact HT2.out.null0 0 rfl
 have HNO := Lib.hid no
 have HYES := Lib.hid yes
 obtain ⟨c0, cf, cl⟩ := HT2.out.lone 3 rfl
 obtain ⟨y0, y1, y2, y3, y4, y5, y6, y7, y8, yf, yl⟩ := (HT2.out.cpu 0 rfl).segC0
 clear no yes HD
 cases dsys
 ·by_cases ht0 : 0 ≤ dtyp
  ·by_cases ht1 : dtyp < 16
   ·cases hbt : (bits .and .i64 dtyp 12 != 12)
    ·cases dnul
     ·have HP := Lib.hid (HNO.out (by rw [hbt]; simp))
      clear HNO HYES
      go_wp2_with fail
      exact HKK.out _ _ _ _ _ _ _ _ _ _ _ _ _ _ _ _ _ _ _ _ _ _ _ _ _ _ _ _ _ _ _ _ _ _ _ _ _ _ _ _ _ _ _ _ _ _ _ _ _ _ _ HP.out
     ·have HP := Lib.hid (HNO.out (by simp))
      clear HNO HYES
      go_wp2_with fail
      exact HKK.out _ _ _ _ _ _ _ _ _ _ _ _ _ _ _ _ _ _ _ _ _ _ _ _ _ _ _ _ _ _ _ _ _ _ _ _ _ _ _ _ _ _ _ _ _ _ _ _ _ _ _ HP.out
    ·cases dnul
     ·by_cases hlt : ddpl < (rn : Int)
      ·have HP := Lib.hid (HYES.out (by rw [hbt, decide_eq_true ht0, decide_eq_true ht1, decide_eq_true hlt]; rfl))
       clear HNO HYES
       go_wp2_with fail
       exact HKK.out _ _ _ _ _ _ _ _ _ _ _ _ _ _ _ _ _ _ _ _ _ _ _ _ _ _ _ _ _ _ _ _ _ _ _ _ _ _ _ _ _ _ _ _ _ _ _ _ _ _ _ HP.out
      ·have HP := Lib.hid (HNO.out (by rw [decide_eq_false hlt]; simp))
       clear HNO HYES
       go_wp2_with fail
       exact HKK.out _ _ _ _ _ _ _ _ _ _ _ _ _ _ _ _ _ _ _ _ _ _ _ _ _ _ _ _ _ _ _ _ _ _ _ _ _ _ _ _ _ _ _ _ _ _ _ _ _ _ _ HP.out
     ·have HP := Lib.hid (HNO.out (by simp))
      clear HNO HYES
      go_wp2_with fail
      exact HKK.out _ _ _ _ _ _ _ _ _ _ _ _ _ _ _ _ _ _ _ _ _ _ _ _ _ _ _ _ _ _ _ _ _ _ _ _ _ _ _ _ _ _ _ _ _ _ _ _ _ _ _ HP.out
   ·cases dnul
    ·have HP := Lib.hid (HNO.out (by rw [decide_eq_false ht1]; simp))
     clear HNO HYES
     go_wp2_with fail
     exact HKK.out _ _ _ _ _ _ _ _ _ _ _ _ _ _ _ _ _ _ _ _ _ _ _ _ _ _ _ _ _ _ _ _ _ _ _ _ _ _ _ _ _ _ _ _ _ _ _ _ _ _ _ HP.out
    ·have HP := Lib.hid (HNO.out (by simp))
     clear HNO HYES
     go_wp2_with fail
     exact HKK.out _ _ _ _ _ _ _ _ _ _ _ _ _ _ _ _ _ _ _ _ _ _ _ _ _ _ _ _ _ _ _ _ _ _ _ _ _ _ _ _ _ _ _ _ _ _ _ _ _ _ _ HP.out
  ·cases dnul
   ·have HP := Lib.hid (HNO.out (by rw [decide_eq_false ht0]; simp))
    clear HNO HYES
    go_wp2_with fail
    exact HKK.out _ _ _ _ _ _ _ _ _ _ _ _ _ _ _ _ _ _ _ _ _ _ _ _ _ _ _ _ _ _ _ _ _ _ _ _ _ _ _ _ _ _ _ _ _ _ _ _ _ _ _ HP.out
   ·have HP := Lib.hid (HNO.out (by simp))
    clear HNO HYES
    go_wp2_with fail
    exact HKK.out _ _ _ _ _ _ _ _ _ _ _ _ _ _ _ _ _ _ _ _ _ _ _ _ _ _ _ _ _ _ _ _ _ _ _ _ _ _ _ _ _ _ _ _ _ _ _ _ _ _ _ HP.out
 ·cases dnul
  ·have HP := Lib.hid (HNO.out (by simp))
   clear HNO HYES
   go_wp2_with fail
   exact HKK.out _ _ _ _ _ _ _ _ _ _ _ _ _ _ _ _ _ _ _ _ _ _ _ _ _ _ _ _ _ _ _ _ _ _ _ _ _ _ _ _ _ _ _ _ _ _ _ _ _ _ _ HP.out
  ·have HP := Lib.hid (HNO.out (by simp))
   clear HNO HYES
   go_wp2_with fail
   exact HKK.out _ _ _ _ _ _ _ _ _ _ _ _ _ _ _ _ _ _ _ _ _ _ _ _ _ _ _ _ _ _ _ _ _ _ _ _ _ _ _ _ _ _ _ _ _ _ _ _ _ _ _ HP.out
theorem CpuAt.segC3 {w : World} {b : Nat} {C : CpuS} (h : CpuAt w b C) : w.cell? ⟨b, 37, none⟩ = some (.int .u16 ((C.seg 3).sel : Nat)) ∧ w.cell? ⟨b, 38, none⟩ = some (.bool (C.seg 3).nul) ∧ w.cell? ⟨b, 39, none⟩ = some (.int .u32 ((C.seg 3).base : Nat)) ∧ w.cell? ⟨b, 40, none⟩ = some (.int .u32 ((C.seg 3).lim : Nat)) ∧ w.cell? ⟨b, 41, none⟩ = some (.int .i64 (C.seg 3).typ) ∧ w.cell? ⟨b, 42, none⟩ = some (.bool (C.seg 3).sys) ∧ w.cell? ⟨b, 43, none⟩ = some (.int .i64 (C.seg 3).dpl) ∧ w.cell? ⟨b, 44, none⟩ = some (.bool (C.seg 3).pre) ∧ w.cell? ⟨b, 45, none⟩ = some (.bool (C.seg 3).big) ∧ (∀ k, w.frozen? ⟨b, k, none⟩ = false) ∧ b < w.heap.size :=
 have ⟨a0, a1, a2, a3, a4, a5, a6, a7, a8⟩ := h.segAt 3 (by decide)
 ⟨a0, a1, a2, a3, a4, a5, a6, a7, a8, fun k => h.free k, h.lt⟩
theorem env_null3 (C : CpuS) (vb bb : Nat) : ((((((((((envCells C vb bb).setIfInBounds 37 (.int .u16 0)).setIfInBounds 38 (.bool true)).setIfInBounds 39 (.int .u32 0)).setIfInBounds 40 (.int .u32 0)).setIfInBounds 41 (.int .i64 0)).setIfInBounds 42 (.bool false)).setIfInBounds 43 (.int .i64 0)).setIfInBounds 44 (.bool false)).setIfInBounds 45 (.bool false)) = envCells (C.setSeg 3 nullSeg) vb bb := by kernel_rfl
theorem Hp.null3 (T : Hp w0 A0 w os) (i : Nat) (hi : os[i]? = some (oEn eb vb bb pl n s)) : Hp w0 A0 (setsG w eb 37 nullSeg) (os.set i (oEn eb vb bb pl n ⟨s.C.setSeg 3 nullSeg, s.R⟩)) := by
 obtain ⟨A, H, E, e⟩ := T.get i hi
 refine T.setCpu i hi ?_ (setSeg_ok E.cok 3 _ ⟨by decide, by decide, by decide, by decide, by decide⟩) (keeps_setsG w eb 37 _)
 unfold setsG
 rw [← env_null3]
 simp only [heap_set_map, E.box, Option.map_some]
 rfl
theorem ret_round3 (T : Hp w A W (oEn eb vb bb pl n s1 :: (retB eb be bz sz ++ (retL eb bc ba at_ ++ loc)))) {Q : Exit → Act → World → Prop} {C9 C2 C3 C4 C5 C6 C7 C8 q6 q7 q8 q9 r0 q5 r4 r1 r2 r3 r5 r6 r7 r8 r9 s0 s3 s4 s5 s6 s7 s2 s8 s9 t0 t1 t2 t3 t4 t5 t6 t7 t8 t9 u2 u9 v0 v1 v2 v3 v4 v5 v6 v7 v8 v9 w0 w2 w3 w4 w5 w6 w7 w8 w9 x9 y9 z0 z1 z2 z3 z4 z5 z6 z7 z8 z9 A0 A1 A2 A3 A4 A5 A6 A7 A8 A9 B0 B1 B2 B3 B4 B5 B6 B7 B8 B9 C0 C1 a0 a1 a2 a3 a4 a5 a6 a7 a8 a9 b0 b1 b2 b3 b4 b5 b6 b7 b8 b9 c1 c2 c3 c4 c5 c6 c7 c8 c9 d0 d1 d2 d3 d4 d5 d6 d7 d8 d9 e0 e1 e2 e3 e4 e5 e6 e7 e8 e9 f0 f1 f2 f3 f4 f5 f6 f7 f8 f9 g0 g1 g2 g3 g4 g5 g6 g7 g8 g9 h0 h1 h2 h3 h4 h5 h6 h7 h8 h9 i0 i1 i2 i3 i4 i5 i6 i7 i8 i9 j0 j1 j2 j3 j4 j5 j6 j7 j8 j9 k0 k1 k2 k3 k4 k5 k6 k7 k8 k9 l0 l1 l2 l3 l4 l5 l7 l8 l9 m0 m1 m2 m3 m4 m5 m6 m7 m8 m9 n0 n1 n2 n3 n4 n5 n6 n7 n8 n9 o0 o1 o2 o3 o4 o5 o6 o7 o8 o9 p0 p1 p2 p3 p4 p5 p6 p7 p8 p9 q0 q1 q2 q3 q4 l6 : Value}
    (hK : ∀ w' (v16 v17 v215 v216 v217 v218 v219 v220 v221 v222 v223 v224 v225 v226 v227 v228 v229 v230 v231 v232 v233 v234 v235 v236 v237 v238 v239 v240 v241 v242 v243 v244 v245 v246 v247 v248 v249 v250 v251 v252 v253 v254 v255 v256 v257 v258 v259 v260 v261 v262 : Value), Hp w A w' (oEn eb vb bb pl n ⟨s1.C.drop1 3 rn, s1.R⟩ :: (retB eb be bz sz ++ (retL eb bc ba at_ ++ loc))) → Q .normal ⟨#[C9, C2, .pointer (some ⟨bc, 0, none⟩), C3, C4, C5, C6, C7, C8, .int .i64 (rn : Nat), q6, q7, q8, q9, r0, .int .i64 3, v16, v17, r1, r2, r3, r5, r6, r7, r8, r9, s0, s3, s4, s5, s6, s7, s2, s8, s9, t0, t1, t2, t3, t4, t5, t6, t7, t8, t9, u2, u9, v0, v1, v2, v3, v4, v5, v6, v7, v8, v9, w0, w2, w3, w4, w5, w6, w7, w8, w9, x9, y9, z0, z1, z2, z3, z4, z5, z6, z7, z8, z9, A0, A1, A2, A3, A4, A5, A6, A7, A8, A9, B0, B1, B2, B3, B4, B5, B6, B7, B8, B9, C0, C1, a0, a1, a2, a3, a4, a5, a6, a7, a8, a9, b0, b1, b2, b3, b4, b5, b6, b7, b8, b9, c1, c2, c3, c4, c5, c6, c7, c8, c9, d0, d1, d2, d3, d4, d5, d6, d7, d8, d9, e0, e1, e2, e3, e4, e5, e6, e7, e8, e9, f0, f1, f2, f3, f4, f5, f6, f7, f8, f9, g0, g1, g2, g3, g4, g5, g6, g7, g8, g9, h0, h1, h2, h3, h4, h5, h6, h7, h8, h9, i0, i1, i2, i3, i4, i5, i6, i7, i8, i9, j0, j1, j2, j3, j4, j5, j6, j7, j8, j9, k0, k1, k2, k3, k4, k5, k6, k7, k8, k9, l0, l1, l2, l3, l4, l5, v215, v216, v217, v218, v219, v220, v221, v222, v223, v224, v225, v226, v227, v228, v229, v230, v231, v232, v233, v234, v235, v236, v237, v238, v239, v240, v241, v242, v243, v244, v245, v246, v247, v248, v249, v250, v251, v252, v253, v254, v255, v256, v257, v258, v259, v260, v261, v262, l6], []⟩ w')
    {K41 : Act → World → Prop} (hK41 : ∀ a w1, Code.wp Tryz.prog (tl Tryz.f47 41) Q a w1 → K41 a w1) :
    Code.wp Tryz.prog (rg Tryz.f47 41) (Exit.then K41 Q) ⟨#[C9, C2, .pointer (some ⟨bc, 0, none⟩), C3, C4, C5, C6, C7, C8, .int .i64 (rn : Nat), q6, q7, q8, q9, r0, .int .i64 3, q5, r4, r1, r2, r3, r5, r6, r7, r8, r9, s0, s3, s4, s5, s6, s7, s2, s8, s9, t0, t1, t2, t3, t4, t5, t6, t7, t8, t9, u2, u9, v0, v1, v2, v3, v4, v5, v6, v7, v8, v9, w0, w2, w3, w4, w5, w6, w7, w8, w9, x9, y9, z0, z1, z2, z3, z4, z5, z6, z7, z8, z9, A0, A1, A2, A3, A4, A5, A6, A7, A8, A9, B0, B1, B2, B3, B4, B5, B6, B7, B8, B9, C0, C1, a0, a1, a2, a3, a4, a5, a6, a7, a8, a9, b0, b1, b2, b3, b4, b5, b6, b7, b8, b9, c1, c2, c3, c4, c5, c6, c7, c8, c9, d0, d1, d2, d3, d4, d5, d6, d7, d8, d9, e0, e1, e2, e3, e4, e5, e6, e7, e8, e9, f0, f1, f2, f3, f4, f5, f6, f7, f8, f9, g0, g1, g2, g3, g4, g5, g6, g7, g8, g9, h0, h1, h2, h3, h4, h5, h6, h7, h8, h9, i0, i1, i2, i3, i4, i5, i6, i7, i8, i9, j0, j1, j2, j3, j4, j5, j6, j7, j8, j9, k0, k1, k2, k3, k4, k5, k6, k7, k8, k9, l0, l1, l2, l3, l4, l5, l7, l8, l9, m0, m1, m2, m3, m4, m5, m6, m7, m8, m9, n0, n1, n2, n3, n4, n5, n6, n7, n8, n9, o0, o1, o2, o3, o4, o5, o6, o7, o8, o9, p0, p1, p2, p3, p4, p5, p6, p7, p8, p9, q0, q1, q2, q3, q4, l6], []⟩ W := by
 have HKK := Lib.hid hK
 have HT := Lib.hid T
 obtain ⟨c0, cf, cl⟩ := T.lone 3 rfl
 obtain ⟨y0, y1, y2, y3, y4, y5, y6, y7, y8, yf, yl⟩ := (T.cpu 0 rfl).segC3
 clear T hK
 conv => arg 2; whnf
 conv at hK41 => enter [a, w1, 1, 2]; whnf
 obtain ⟨d, hd⟩ : ∃ d, d = s1.C.seg 3 := ⟨_, rfl⟩
 rw [← hd] at y0 y1 y2 y3 y4 y5 y6 y7 y8
 have HD := Lib.hid hd.symm
 clear hd
 have HG2 := Lib.hid (show Hp w A (W.alloc (.cells #[.int .u16 (d.sel : Nat), .bool d.nul, .int .u32 (d.base : Nat), .int .u32 (d.lim : Nat), .int .i64 d.typ, .bool d.sys, .int .i64 d.dpl, .bool d.pre, .bool d.big] 31)) ((oEn eb vb bb pl n s1 :: (retB eb be bz sz ++ (retL eb bc ba at_ ++ loc))) ++ [Ob.box W.heap.size (segO d)]) from HT.out.make _)
 have HT2 := Lib.hid (Hp.left HG2.out)
 go_upto_region 42 with (fail)
 change Code.wp _ _ _ _ (W.alloc (.cells #[.int .u16 (d.sel : Nat), .bool d.nul, .int .u32 (d.base : Nat), .int .u32 (d.lim : Nat), .int .i64 d.typ, .bool d.sys, .int .i64 d.dpl, .bool d.pre, .bool d.big] 31))
 clear y0 y1 y2 y3 y4 y5 y6 y7 y8 yf yl c0 cf cl HT
 have hg := HG2.out.rot.gbox (d := d) 0 rfl
 clear HG2
 generalize W.alloc (.cells #[.int .u16 (d.sel : Nat), .bool d.nul, .int .u32 (d.base : Nat), .int .u32 (d.lim : Nat), .int .i64 d.typ, .bool d.sys, .int .i64 d.dpl, .bool d.pre, .bool d.big] 31) = W2 at *
 generalize W.heap.size = g at *
 obtain ⟨x0, x1, x2, x3, x4, x5, x6, x7, x8, xf, xl⟩ := hg
 obtain ⟨dsel, dnul, dbase, dlim, dtyp, dsys, ddpl, dpre, dbig⟩ := d
 dsimp only at x0 x1 x2 x3 x4 x5 x6 x7 x8
 have no : (!dnul && (!dsys && decide (0 ≤ dtyp) && decide (dtyp < 16) && (bits .and .i64 dtyp 12 != 12)) && decide (ddpl < rn)) = false → Hp w A W2 (oEn eb vb bb pl n ⟨s1.C.drop1 3 rn, s1.R⟩ :: (retB eb be bz sz ++ (retL eb bc ba at_ ++ loc))) := fun h => by
  rw [drops_no ⟨dsel, dnul, dbase, dlim, dtyp, dsys, ddpl, dpre, dbig⟩ rn h s1.C 3 HD.out]; exact HT2.out
 have yes : (!dnul && (!dsys && decide (0 ≤ dtyp) && decide (dtyp < 16) && (bits .and .i64 dtyp 12 != 12)) && decide (ddpl < rn)) = true → Hp w A (setsG W2 eb 37 nullSeg) (oEn eb vb bb pl n ⟨s1.C.drop1 3 rn, s1.R⟩ :: (retB eb be bz sz ++ (retL eb bc ba at_ ++ loc))) := fun h => by
  rw [drops_yes ⟨dsel, dnul, dbase, dlim, dtyp, dsys, ddpl, dpre, dbig⟩ rn h s1.C 3 HD.out]; exact HT2.out.null3 0 rfl
 have HNO := Lib.hid no
 have HYES := Lib.hid yes
 obtain ⟨c0, cf, cl⟩ := HT2.out.lone 3 rfl
 obtain ⟨y0, y1, y2, y3, y4, y5, y6, y7, y8, yf, yl⟩ := (HT2.out.cpu 0 rfl).segC3
 clear no yes HD
 cases dsys
 ·by_cases ht0 : 0 ≤ dtyp
  ·by_cases ht1 : dtyp < 16
   ·cases hbt : (bits .and .i64 dtyp 12 != 12)
    ·cases dnul
     ·have HP := Lib.hid (HNO.out (by rw [hbt]; simp))
      clear HNO HYES
      go_wp2_with fail
      exact HKK.out _ _ _ _ _ _ _ _ _ _ _ _ _ _ _ _ _ _ _ _ _ _ _ _ _ _ _ _ _ _ _ _ _ _ _ _ _ _ _ _ _ _ _ _ _ _ _ _ _ _ _ HP.out
     ·have HP := Lib.hid (HNO.out (by simp))
      clear HNO HYES
      go_wp2_with fail
      exact HKK.out _ _ _ _ _ _ _ _ _ _ _ _ _ _ _ _ _ _ _ _ _ _ _ _ _ _ _ _ _ _ _ _ _ _ _ _ _ _ _ _ _ _ _ _ _ _ _ _ _ _ _ HP.out
    ·cases dnul
     ·by_cases hlt : ddpl < (rn : Int)
      ·have HP := Lib.hid (HYES.out (by rw [hbt, decide_eq_true ht0, decide_eq_true ht1, decide_eq_true hlt]; rfl))
       clear HNO HYES
       go_wp2_with fail
       exact HKK.out _ _ _ _ _ _ _ _ _ _ _ _ _ _ _ _ _ _ _ _ _ _ _ _ _ _ _ _ _ _ _ _ _ _ _ _ _ _ _ _ _ _ _ _ _ _ _ _ _ _ _ HP.out
      ·have HP := Lib.hid (HNO.out (by rw [decide_eq_false hlt]; simp))
       clear HNO HYES
       go_wp2_with fail
       exact HKK.out _ _ _ _ _ _ _ _ _ _ _ _ _ _ _ _ _ _ _ _ _ _ _ _ _ _ _ _ _ _ _ _ _ _ _ _ _ _ _ _ _ _ _ _ _ _ _ _ _ _ _ HP.out
     ·have HP := Lib.hid (HNO.out (by simp))
      clear HNO HYES
      go_wp2_with fail
      exact HKK.out _ _ _ _ _ _ _ _ _ _ _ _ _ _ _ _ _ _ _ _ _ _ _ _ _ _ _ _ _ _ _ _ _ _ _ _ _ _ _ _ _ _ _ _ _ _ _ _ _ _ _ HP.out
   ·cases dnul
    ·have HP := Lib.hid (HNO.out (by rw [decide_eq_false ht1]; simp))
     clear HNO HYES
     go_wp2_with fail
     exact HKK.out _ _ _ _ _ _ _ _ _ _ _ _ _ _ _ _ _ _ _ _ _ _ _ _ _ _ _ _ _ _ _ _ _ _ _ _ _ _ _ _ _ _ _ _ _ _ _ _ _ _ _ HP.out
    ·have HP := Lib.hid (HNO.out (by simp))
     clear HNO HYES
     go_wp2_with fail
     exact HKK.out _ _ _ _ _ _ _ _ _ _ _ _ _ _ _ _ _ _ _ _ _ _ _ _ _ _ _ _ _ _ _ _ _ _ _ _ _ _ _ _ _ _ _ _ _ _ _ _ _ _ _ HP.out
  ·cases dnul
   ·have HP := Lib.hid (HNO.out (by rw [decide_eq_false ht0]; simp))
    clear HNO HYES
    go_wp2_with fail
    exact HKK.out _ _ _ _ _ _ _ _ _ _ _ _ _ _ _ _ _ _ _ _ _ _ _ _ _ _ _ _ _ _ _ _ _ _ _ _ _ _ _ _ _ _ _ _ _ _ _ _ _ _ _ HP.out
   ·have HP := Lib.hid (HNO.out (by simp))
    clear HNO HYES
    go_wp2_with fail
    exact HKK.out _ _ _ _ _ _ _ _ _ _ _ _ _ _ _ _ _ _ _ _ _ _ _ _ _ _ _ _ _ _ _ _ _ _ _ _ _ _ _ _ _ _ _ _ _ _ _ _ _ _ _ HP.out
 ·cases dnul
  ·have HP := Lib.hid (HNO.out (by simp))
   clear HNO HYES
   go_wp2_with fail
   exact HKK.out _ _ _ _ _ _ _ _ _ _ _ _ _ _ _ _ _ _ _ _ _ _ _ _ _ _ _ _ _ _ _ _ _ _ _ _ _ _ _ _ _ _ _ _ _ _ _ _ _ _ _ HP.out
  ·have HP := Lib.hid (HNO.out (by simp))
   clear HNO HYES
   go_wp2_with fail
   exact HKK.out _ _ _ _ _ _ _ _ _ _ _ _ _ _ _ _ _ _ _ _ _ _ _ _ _ _ _ _ _ _ _ _ _ _ _ _ _ _ _ _ _ _ _ _ _ _ _ _ _ _ _ HP.out
theorem CpuAt.segC4 {w : World} {b : Nat} {C : CpuS} (h : CpuAt w b C) : w.cell? ⟨b, 46, none⟩ = some (.int .u16 ((C.seg 4).sel : Nat)) ∧ w.cell? ⟨b, 47, none⟩ = some (.bool (C.seg 4).nul) ∧ w.cell? ⟨b, 48, none⟩ = some (.int .u32 ((C.seg 4).base : Nat)) ∧ w.cell? ⟨b, 49, none⟩ = some (.int .u32 ((C.seg 4).lim : Nat)) ∧ w.cell? ⟨b, 50, none⟩ = some (.int .i64 (C.seg 4).typ) ∧ w.cell? ⟨b, 51, none⟩ = some (.bool (C.seg 4).sys) ∧ w.cell? ⟨b, 52, none⟩ = some (.int .i64 (C.seg 4).dpl) ∧ w.cell? ⟨b, 53, none⟩ = some (.bool (C.seg 4).pre) ∧ w.cell? ⟨b, 54, none⟩ = some (.bool (C.seg 4).big) ∧ (∀ k, w.frozen? ⟨b, k, none⟩ = false) ∧ b < w.heap.size :=
 have ⟨a0, a1, a2, a3, a4, a5, a6, a7, a8⟩ := h.segAt 4 (by decide)
 ⟨a0, a1, a2, a3, a4, a5, a6, a7, a8, fun k => h.free k, h.lt⟩
theorem env_null4 (C : CpuS) (vb bb : Nat) : ((((((((((envCells C vb bb).setIfInBounds 46 (.int .u16 0)).setIfInBounds 47 (.bool true)).setIfInBounds 48 (.int .u32 0)).setIfInBounds 49 (.int .u32 0)).setIfInBounds 50 (.int .i64 0)).setIfInBounds 51 (.bool false)).setIfInBounds 52 (.int .i64 0)).setIfInBounds 53 (.bool false)).setIfInBounds 54 (.bool false)) = envCells (C.setSeg 4 nullSeg) vb bb := by kernel_rfl
theorem Hp.null4 (T : Hp w0 A0 w os) (i : Nat) (hi : os[i]? = some (oEn eb vb bb pl n s)) : Hp w0 A0 (setsG w eb 46 nullSeg) (os.set i (oEn eb vb bb pl n ⟨s.C.setSeg 4 nullSeg, s.R⟩)) := by
 obtain ⟨A, H, E, e⟩ := T.get i hi
 refine T.setCpu i hi ?_ (setSeg_ok E.cok 4 _ ⟨by decide, by decide, by decide, by decide, by decide⟩) (keeps_setsG w eb 46 _)
 unfold setsG
 rw [← env_null4]
 simp only [heap_set_map, E.box, Option.map_some]
 rfl
theorem ret_round4 (T : Hp w A W (oEn eb vb bb pl n s1 :: (retB eb be bz sz ++ (retL eb bc ba at_ ++ loc)))) {Q : Exit → Act → World → Prop} {C9 C2 C3 C4 C5 C6 C7 C8 q6 q7 q8 q9 r0 q5 r4 r1 r2 r3 r5 r6 r7 r8 r9 s0 s3 s4 s5 s6 s7 s2 s8 s9 t0 t1 t2 t3 t4 t5 t6 t7 t8 t9 u2 u9 v0 v1 v2 v3 v4 v5 v6 v7 v8 v9 w0 w2 w3 w4 w5 w6 w7 w8 w9 x9 y9 z0 z1 z2 z3 z4 z5 z6 z7 z8 z9 A0 A1 A2 A3 A4 A5 A6 A7 A8 A9 B0 B1 B2 B3 B4 B5 B6 B7 B8 B9 C0 C1 a0 a1 a2 a3 a4 a5 a6 a7 a8 a9 b0 b1 b2 b3 b4 b5 b6 b7 b8 b9 c1 c2 c3 c4 c5 c6 c7 c8 c9 d0 d1 d2 d3 d4 d5 d6 d7 d8 d9 e0 e1 e2 e3 e4 e5 e6 e7 e8 e9 f0 f1 f2 f3 f4 f5 f6 f7 f8 f9 g0 g1 g2 g3 g4 g5 g6 g7 g8 g9 h0 h1 h2 h3 h4 h5 h6 h7 h8 h9 i0 i1 i2 i3 i4 i5 i6 i7 i8 i9 j0 j1 j2 j3 j4 j5 j6 j7 j8 j9 k0 k1 k2 k3 k4 k5 k6 k7 k8 k9 l0 l1 l2 l3 l4 l5 l7 l8 l9 m0 m1 m2 m3 m4 m5 m6 m7 m8 m9 n0 n1 n2 n3 n4 n5 n6 n7 n8 n9 o0 o1 o2 o3 o4 o5 o6 o7 o8 o9 p0 p1 p2 p3 p4 p5 p6 p7 p8 p9 q0 q1 q2 q3 q4 l6 : Value}
    (hK : ∀ w' (v16 v17 v215 v216 v217 v218 v219 v220 v221 v222 v223 v224 v225 v226 v227 v228 v229 v230 v231 v232 v233 v234 v235 v236 v237 v238 v239 v240 v241 v242 v243 v244 v245 v246 v247 v248 v249 v250 v251 v252 v253 v254 v255 v256 v257 v258 v259 v260 v261 v262 : Value), Hp w A w' (oEn eb vb bb pl n ⟨s1.C.drop1 4 rn, s1.R⟩ :: (retB eb be bz sz ++ (retL eb bc ba at_ ++ loc))) → Q .normal ⟨#[C9, C2, .pointer (some ⟨bc, 0, none⟩), C3, C4, C5, C6, C7, C8, .int .i64 (rn : Nat), q6, q7, q8, q9, r0, .int .i64 4, v16, v17, r1, r2, r3, r5, r6, r7, r8, r9, s0, s3, s4, s5, s6, s7, s2, s8, s9, t0, t1, t2, t3, t4, t5, t6, t7, t8, t9, u2, u9, v0, v1, v2, v3, v4, v5, v6, v7, v8, v9, w0, w2, w3, w4, w5, w6, w7, w8, w9, x9, y9, z0, z1, z2, z3, z4, z5, z6, z7, z8, z9, A0, A1, A2, A3, A4, A5, A6, A7, A8, A9, B0, B1, B2, B3, B4, B5, B6, B7, B8, B9, C0, C1, a0, a1, a2, a3, a4, a5, a6, a7, a8, a9, b0, b1, b2, b3, b4, b5, b6, b7, b8, b9, c1, c2, c3, c4, c5, c6, c7, c8, c9, d0, d1, d2, d3, d4, d5, d6, d7, d8, d9, e0, e1, e2, e3, e4, e5, e6, e7, e8, e9, f0, f1, f2, f3, f4, f5, f6, f7, f8, f9, g0, g1, g2, g3, g4, g5, g6, g7, g8, g9, h0, h1, h2, h3, h4, h5, h6, h7, h8, h9, i0, i1, i2, i3, i4, i5, i6, i7, i8, i9, j0, j1, j2, j3, j4, j5, j6, j7, j8, j9, k0, k1, k2, k3, k4, k5, k6, k7, k8, k9, l0, l1, l2, l3, l4, l5, v215, v216, v217, v218, v219, v220, v221, v222, v223, v224, v225, v226, v227, v228, v229, v230, v231, v232, v233, v234, v235, v236, v237, v238, v239, v240, v241, v242, v243, v244, v245, v246, v247, v248, v249, v250, v251, v252, v253, v254, v255, v256, v257, v258, v259, v260, v261, v262, l6], []⟩ w')
    {K41 : Act → World → Prop} (hK41 : ∀ a w1, Code.wp Tryz.prog (tl Tryz.f47 41) Q a w1 → K41 a w1) :
    Code.wp Tryz.prog (rg Tryz.f47 41) (Exit.then K41 Q) ⟨#[C9, C2, .pointer (some ⟨bc, 0, none⟩), C3, C4, C5, C6, C7, C8, .int .i64 (rn : Nat), q6, q7, q8, q9, r0, .int .i64 4, q5, r4, r1, r2, r3, r5, r6, r7, r8, r9, s0, s3, s4, s5, s6, s7, s2, s8, s9, t0, t1, t2, t3, t4, t5, t6, t7, t8, t9, u2, u9, v0, v1, v2, v3, v4, v5, v6, v7, v8, v9, w0, w2, w3, w4, w5, w6, w7, w8, w9, x9, y9, z0, z1, z2, z3, z4, z5, z6, z7, z8, z9, A0, A1, A2, A3, A4, A5, A6, A7, A8, A9, B0, B1, B2, B3, B4, B5, B6, B7, B8, B9, C0, C1, a0, a1, a2, a3, a4, a5, a6, a7, a8, a9, b0, b1, b2, b3, b4, b5, b6, b7, b8, b9, c1, c2, c3, c4, c5, c6, c7, c8, c9, d0, d1, d2, d3, d4, d5, d6, d7, d8, d9, e0, e1, e2, e3, e4, e5, e6, e7, e8, e9, f0, f1, f2, f3, f4, f5, f6, f7, f8, f9, g0, g1, g2, g3, g4, g5, g6, g7, g8, g9, h0, h1, h2, h3, h4, h5, h6, h7, h8, h9, i0, i1, i2, i3, i4, i5, i6, i7, i8, i9, j0, j1, j2, j3, j4, j5, j6, j7, j8, j9, k0, k1, k2, k3, k4, k5, k6, k7, k8, k9, l0, l1, l2, l3, l4, l5, l7, l8, l9, m0, m1, m2, m3, m4, m5, m6, m7, m8, m9, n0, n1, n2, n3, n4, n5, n6, n7, n8, n9, o0, o1, o2, o3, o4, o5, o6, o7, o8, o9, p0, p1, p2, p3, p4, p5, p6, p7, p8, p9, q0, q1, q2, q3, q4, l6], []⟩ W := by
 have HKK := Lib.hid hK
 have HT := Lib.hid T
 obtain ⟨c0, cf, cl⟩ := T.lone 3 rfl
 obtain ⟨y0, y1, y2, y3, y4, y5, y6, y7, y8, yf, yl⟩ := (T.cpu 0 rfl).segC4
 clear T hK
 conv => arg 2; whnf
 conv at hK41 => enter [a, w1, 1, 2]; whnf
 obtain ⟨d, hd⟩ : ∃ d, d = s1.C.seg 4 := ⟨_, rfl⟩
 rw [← hd] at y0 y1 y2 y3 y4 y5 y6 y7 y8
 have HD := Lib.hid hd.symm
 clear hd
 have HG2 := Lib.hid (show Hp w A (W.alloc (.cells #[.int .u16 (d.sel : Nat), .bool d.nul, .int .u32 (d.base : Nat), .int .u32 (d.lim : Nat), .int .i64 d.typ, .bool d.sys, .int .i64 d.dpl, .bool d.pre, .bool d.big] 31)) ((oEn eb vb bb pl n s1 :: (retB eb be bz sz ++ (retL eb bc ba at_ ++ loc))) ++ [Ob.box W.heap.size (segO d)]) from HT.out.make _)
 have HT2 := Lib.hid (Hp.left HG2.out)
 go_upto_region 42 with (fail)
 change Code.wp _ _ _ _ (W.alloc (.cells #[.int .u16 (d.sel : Nat), .bool d.nul, .int .u32 (d.base : Nat), .int .u32 (d.lim : Nat), .int .i64 d.typ, .bool d.sys, .int .i64 d.dpl, .bool d.pre, .bool d.big] 31))
 clear y0 y1 y2 y3 y4 y5 y6 y7 y8 yf yl c0 cf cl HT
 have hg := HG2.out.rot.gbox (d := d) 0 rfl
 clear HG2
 generalize W.alloc (.cells #[.int .u16 (d.sel : Nat), .bool d.nul, .int .u32 (d.base : Nat), .int .u32 (d.lim : Nat), .int .i64 d.typ, .bool d.sys, .int .i64 d.dpl, .bool d.pre, .bool d.big] 31) = W2 at *
 generalize W.heap.size = g at *
 obtain ⟨x0, x1, x2, x3, x4, x5, x6, x7, x8, xf, xl⟩ := hg
 obtain ⟨dsel, dnul, dbase, dlim, dtyp, dsys, ddpl, dpre, dbig⟩ := d
 dsimp only at x0 x1 x2 x3 x4 x5 x6 x7 x8
 have no : (!dnul && (!dsys && decide (0 ≤ dtyp) && decide (dtyp < 16) && (bits .and .i64 dtyp 12 != 12)) && decide (ddpl < rn)) = false → Hp w A W2 (oEn eb vb bb pl n ⟨s1.C.drop1 4 rn, s1.R⟩ :: (retB eb be bz sz ++ (retL eb bc ba at_ ++ loc))) := fun h => by
  rw [drops_no ⟨dsel, dnul, dbase, dlim, dtyp, dsys, ddpl, dpre, dbig⟩ rn h s1.C 4 HD.out]; exact HT2.out
 have yes : (!dnul && (!dsys && decide (0 ≤ dtyp) && decide (dtyp < 16) && (bits .and .i64 dtyp 12 != 12)) && decide (ddpl < rn)) = true → Hp w A (setsG W2 eb 46 nullSeg) (oEn eb vb bb pl n ⟨s1.C.drop1 4 rn, s1.R⟩ :: (retB eb be bz sz ++ (retL eb bc ba at_ ++ loc))) := fun h => by
  rw [drops_yes ⟨dsel, dnul, dbase, dlim, dtyp, dsys, ddpl, dpre, dbig⟩ rn h s1.C 4 HD.out]; exact HT2.out.null4 0 rfl
 have HNO := Lib.hid no
 have HYES := Lib.hid yes
 obtain ⟨c0, cf, cl⟩ := HT2.out.lone 3 rfl
 obtain ⟨y0, y1, y2, y3, y4, y5, y6, y7, y8, yf, yl⟩ := (HT2.out.cpu 0 rfl).segC4
 clear no yes HD
 cases dsys
 ·by_cases ht0 : 0 ≤ dtyp
  ·by_cases ht1 : dtyp < 16
   ·cases hbt : (bits .and .i64 dtyp 12 != 12)
    ·cases dnul
     ·have HP := Lib.hid (HNO.out (by rw [hbt]; simp))
      clear HNO HYES
      go_wp2_with fail
      exact HKK.out _ _ _ _ _ _ _ _ _ _ _ _ _ _ _ _ _ _ _ _ _ _ _ _ _ _ _ _ _ _ _ _ _ _ _ _ _ _ _ _ _ _ _ _ _ _ _ _ _ _ _ HP.out
     ·have HP := Lib.hid (HNO.out (by simp))
      clear HNO HYES
      go_wp2_with fail
      exact HKK.out _ _ _ _ _ _ _ _ _ _ _ _ _ _ _ _ _ _ _ _ _ _ _ _ _ _ _ _ _ _ _ _ _ _ _ _ _ _ _ _ _ _ _ _ _ _ _ _ _ _ _ HP.out
    ·cases dnul
     ·by_cases hlt : ddpl < (rn : Int)
      ·have HP := Lib.hid (HYES.out (by rw [hbt, decide_eq_true ht0, decide_eq_true ht1, decide_eq_true hlt]; rfl))
       clear HNO HYES
       go_wp2_with fail
       exact HKK.out _ _ _ _ _ _ _ _ _ _ _ _ _ _ _ _ _ _ _ _ _ _ _ _ _ _ _ _ _ _ _ _ _ _ _ _ _ _ _ _ _ _ _ _ _ _ _ _ _ _ _ HP.out
      ·have HP := Lib.hid (HNO.out (by rw [decide_eq_false hlt]; simp))
       clear HNO HYES
       go_wp2_with fail
       exact HKK.out _ _ _ _ _ _ _ _ _ _ _ _ _ _ _ _ _ _ _ _ _ _ _ _ _ _ _ _ _ _ _ _ _ _ _ _ _ _ _ _ _ _ _ _ _ _ _ _ _ _ _ HP.out
     ·have HP := Lib.hid (HNO.out (by simp))
      clear HNO HYES
      go_wp2_with fail
      exact HKK.out _ _ _ _ _ _ _ _ _ _ _ _ _ _ _ _ _ _ _ _ _ _ _ _ _ _ _ _ _ _ _ _ _ _ _ _ _ _ _ _ _ _ _ _ _ _ _ _ _ _ _ HP.out
   ·cases dnul
    ·have HP := Lib.hid (HNO.out (by rw [decide_eq_false ht1]; simp))
     clear HNO HYES
     go_wp2_with fail
     exact HKK.out _ _ _ _ _ _ _ _ _ _ _ _ _ _ _ _ _ _ _ _ _ _ _ _ _ _ _ _ _ _ _ _ _ _ _ _ _ _ _ _ _ _ _ _ _ _ _ _ _ _ _ HP.out
    ·have HP := Lib.hid (HNO.out (by simp))
     clear HNO HYES
     go_wp2_with fail
     exact HKK.out _ _ _ _ _ _ _ _ _ _ _ _ _ _ _ _ _ _ _ _ _ _ _ _ _ _ _ _ _ _ _ _ _ _ _ _ _ _ _ _ _ _ _ _ _ _ _ _ _ _ _ HP.out
  ·cases dnul
   ·have HP := Lib.hid (HNO.out (by rw [decide_eq_false ht0]; simp))
    clear HNO HYES
    go_wp2_with fail
    exact HKK.out _ _ _ _ _ _ _ _ _ _ _ _ _ _ _ _ _ _ _ _ _ _ _ _ _ _ _ _ _ _ _ _ _ _ _ _ _ _ _ _ _ _ _ _ _ _ _ _ _ _ _ HP.out
   ·have HP := Lib.hid (HNO.out (by simp))
    clear HNO HYES
    go_wp2_with fail
    exact HKK.out _ _ _ _ _ _ _ _ _ _ _ _ _ _ _ _ _ _ _ _ _ _ _ _ _ _ _ _ _ _ _ _ _ _ _ _ _ _ _ _ _ _ _ _ _ _ _ _ _ _ _ HP.out
 ·cases dnul
  ·have HP := Lib.hid (HNO.out (by simp))
   clear HNO HYES
   go_wp2_with fail
   exact HKK.out _ _ _ _ _ _ _ _ _ _ _ _ _ _ _ _ _ _ _ _ _ _ _ _ _ _ _ _ _ _ _ _ _ _ _ _ _ _ _ _ _ _ _ _ _ _ _ _ _ _ _ HP.out
  ·have HP := Lib.hid (HNO.out (by simp))
   clear HNO HYES
   go_wp2_with fail
   exact HKK.out _ _ _ _ _ _ _ _ _ _ _ _ _ _ _ _ _ _ _ _ _ _ _ _ _ _ _ _ _ _ _ _ _ _ _ _ _ _ _ _ _ _ _ _ _ _ _ _ _ _ _ HP.out
theorem CpuAt.segC5 {w : World} {b : Nat} {C : CpuS} (h : CpuAt w b C) : w.cell? ⟨b, 55, none⟩ = some (.int .u16 ((C.seg 5).sel : Nat)) ∧ w.cell? ⟨b, 56, none⟩ = some (.bool (C.seg 5).nul) ∧ w.cell? ⟨b, 57, none⟩ = some (.int .u32 ((C.seg 5).base : Nat)) ∧ w.cell? ⟨b, 58, none⟩ = some (.int .u32 ((C.seg 5).lim : Nat)) ∧ w.cell? ⟨b, 59, none⟩ = some (.int .i64 (C.seg 5).typ) ∧ w.cell? ⟨b, 60, none⟩ = some (.bool (C.seg 5).sys) ∧ w.cell? ⟨b, 61, none⟩ = some (.int .i64 (C.seg 5).dpl) ∧ w.cell? ⟨b, 62, none⟩ = some (.bool (C.seg 5).pre) ∧ w.cell? ⟨b, 63, none⟩ = some (.bool (C.seg 5).big) ∧ (∀ k, w.frozen? ⟨b, k, none⟩ = false) ∧ b < w.heap.size :=
 have ⟨a0, a1, a2, a3, a4, a5, a6, a7, a8⟩ := h.segAt 5 (by decide)
 ⟨a0, a1, a2, a3, a4, a5, a6, a7, a8, fun k => h.free k, h.lt⟩
theorem env_null5 (C : CpuS) (vb bb : Nat) : ((((((((((envCells C vb bb).setIfInBounds 55 (.int .u16 0)).setIfInBounds 56 (.bool true)).setIfInBounds 57 (.int .u32 0)).setIfInBounds 58 (.int .u32 0)).setIfInBounds 59 (.int .i64 0)).setIfInBounds 60 (.bool false)).setIfInBounds 61 (.int .i64 0)).setIfInBounds 62 (.bool false)).setIfInBounds 63 (.bool false)) = envCells (C.setSeg 5 nullSeg) vb bb := by kernel_rfl
theorem Hp.null5 (T : Hp w0 A0 w os) (i : Nat) (hi : os[i]? = some (oEn eb vb bb pl n s)) : Hp w0 A0 (setsG w eb 55 nullSeg) (os.set i (oEn eb vb bb pl n ⟨s.C.setSeg 5 nullSeg, s.R⟩)) := by
 obtain ⟨A, H, E, e⟩ := T.get i hi
 refine T.setCpu i hi ?_ (setSeg_ok E.cok 5 _ ⟨by decide, by decide, by decide, by decide, by decide⟩) (keeps_setsG w eb 55 _)
 unfold setsG
 rw [← env_null5]
 simp only [heap_set_map, E.box, Option.map_some]
 rfl
theorem ret_round5 (T : Hp w A W (oEn eb vb bb pl n s1 :: (retB eb be bz sz ++ (retL eb bc ba at_ ++ loc)))) {Q : Exit → Act → World → Prop} {C9 C2 C3 C4 C5 C6 C7 C8 q6 q7 q8 q9 r0 q5 r4 r1 r2 r3 r5 r6 r7 r8 r9 s0 s3 s4 s5 s6 s7 s2 s8 s9 t0 t1 t2 t3 t4 t5 t6 t7 t8 t9 u2 u9 v0 v1 v2 v3 v4 v5 v6 v7 v8 v9 w0 w2 w3 w4 w5 w6 w7 w8 w9 x9 y9 z0 z1 z2 z3 z4 z5 z6 z7 z8 z9 A0 A1 A2 A3 A4 A5 A6 A7 A8 A9 B0 B1 B2 B3 B4 B5 B6 B7 B8 B9 C0 C1 a0 a1 a2 a3 a4 a5 a6 a7 a8 a9 b0 b1 b2 b3 b4 b5 b6 b7 b8 b9 c1 c2 c3 c4 c5 c6 c7 c8 c9 d0 d1 d2 d3 d4 d5 d6 d7 d8 d9 e0 e1 e2 e3 e4 e5 e6 e7 e8 e9 f0 f1 f2 f3 f4 f5 f6 f7 f8 f9 g0 g1 g2 g3 g4 g5 g6 g7 g8 g9 h0 h1 h2 h3 h4 h5 h6 h7 h8 h9 i0 i1 i2 i3 i4 i5 i6 i7 i8 i9 j0 j1 j2 j3 j4 j5 j6 j7 j8 j9 k0 k1 k2 k3 k4 k5 k6 k7 k8 k9 l0 l1 l2 l3 l4 l5 l7 l8 l9 m0 m1 m2 m3 m4 m5 m6 m7 m8 m9 n0 n1 n2 n3 n4 n5 n6 n7 n8 n9 o0 o1 o2 o3 o4 o5 o6 o7 o8 o9 p0 p1 p2 p3 p4 p5 p6 p7 p8 p9 q0 q1 q2 q3 q4 l6 : Value}
    (hK : ∀ w' (v16 v17 v215 v216 v217 v218 v219 v220 v221 v222 v223 v224 v225 v226 v227 v228 v229 v230 v231 v232 v233 v234 v235 v236 v237 v238 v239 v240 v241 v242 v243 v244 v245 v246 v247 v248 v249 v250 v251 v252 v253 v254 v255 v256 v257 v258 v259 v260 v261 v262 : Value), Hp w A w' (oEn eb vb bb pl n ⟨s1.C.drop1 5 rn, s1.R⟩ :: (retB eb be bz sz ++ (retL eb bc ba at_ ++ loc))) → Q .normal ⟨#[C9, C2, .pointer (some ⟨bc, 0, none⟩), C3, C4, C5, C6, C7, C8, .int .i64 (rn : Nat), q6, q7, q8, q9, r0, .int .i64 5, v16, v17, r1, r2, r3, r5, r6, r7, r8, r9, s0, s3, s4, s5, s6, s7, s2, s8, s9, t0, t1, t2, t3, t4, t5, t6, t7, t8, t9, u2, u9, v0, v1, v2, v3, v4, v5, v6, v7, v8, v9, w0, w2, w3, w4, w5, w6, w7, w8, w9, x9, y9, z0, z1, z2, z3, z4, z5, z6, z7, z8, z9, A0, A1, A2, A3, A4, A5, A6, A7, A8, A9, B0, B1, B2, B3, B4, B5, B6, B7, B8, B9, C0, C1, a0, a1, a2, a3, a4, a5, a6, a7, a8, a9, b0, b1, b2, b3, b4, b5, b6, b7, b8, b9, c1, c2, c3, c4, c5, c6, c7, c8, c9, d0, d1, d2, d3, d4, d5, d6, d7, d8, d9, e0, e1, e2, e3, e4, e5, e6, e7, e8, e9, f0, f1, f2, f3, f4, f5, f6, f7, f8, f9, g0, g1, g2, g3, g4, g5, g6, g7, g8, g9, h0, h1, h2, h3, h4, h5, h6, h7, h8, h9, i0, i1, i2, i3, i4, i5, i6, i7, i8, i9, j0, j1, j2, j3, j4, j5, j6, j7, j8, j9, k0, k1, k2, k3, k4, k5, k6, k7, k8, k9, l0, l1, l2, l3, l4, l5, v215, v216, v217, v218, v219, v220, v221, v222, v223, v224, v225, v226, v227, v228, v229, v230, v231, v232, v233, v234, v235, v236, v237, v238, v239, v240, v241, v242, v243, v244, v245, v246, v247, v248, v249, v250, v251, v252, v253, v254, v255, v256, v257, v258, v259, v260, v261, v262, l6], []⟩ w')
    {K41 : Act → World → Prop} (hK41 : ∀ a w1, Code.wp Tryz.prog (tl Tryz.f47 41) Q a w1 → K41 a w1) :
    Code.wp Tryz.prog (rg Tryz.f47 41) (Exit.then K41 Q) ⟨#[C9, C2, .pointer (some ⟨bc, 0, none⟩), C3, C4, C5, C6, C7, C8, .int .i64 (rn : Nat), q6, q7, q8, q9, r0, .int .i64 5, q5, r4, r1, r2, r3, r5, r6, r7, r8, r9, s0, s3, s4, s5, s6, s7, s2, s8, s9, t0, t1, t2, t3, t4, t5, t6, t7, t8, t9, u2, u9, v0, v1, v2, v3, v4, v5, v6, v7, v8, v9, w0, w2, w3, w4, w5, w6, w7, w8, w9, x9, y9, z0, z1, z2, z3, z4, z5, z6, z7, z8, z9, A0, A1, A2, A3, A4, A5, A6, A7, A8, A9, B0, B1, B2, B3, B4, B5, B6, B7, B8, B9, C0, C1, a0, a1, a2, a3, a4, a5, a6, a7, a8, a9, b0, b1, b2, b3, b4, b5, b6, b7, b8, b9, c1, c2, c3, c4, c5, c6, c7, c8, c9, d0, d1, d2, d3, d4, d5, d6, d7, d8, d9, e0, e1, e2, e3, e4, e5, e6, e7, e8, e9, f0, f1, f2, f3, f4, f5, f6, f7, f8, f9, g0, g1, g2, g3, g4, g5, g6, g7, g8, g9, h0, h1, h2, h3, h4, h5, h6, h7, h8, h9, i0, i1, i2, i3, i4, i5, i6, i7, i8, i9, j0, j1, j2, j3, j4, j5, j6, j7, j8, j9, k0, k1, k2, k3, k4, k5, k6, k7, k8, k9, l0, l1, l2, l3, l4, l5, l7, l8, l9, m0, m1, m2, m3, m4, m5, m6, m7, m8, m9, n0, n1, n2, n3, n4, n5, n6, n7, n8, n9, o0, o1, o2, o3, o4, o5, o6, o7, o8, o9, p0, p1, p2, p3, p4, p5, p6, p7, p8, p9, q0, q1, q2, q3, q4, l6], []⟩ W := by
 have HKK := Lib.hid hK
 have HT := Lib.hid T
 obtain ⟨c0, cf, cl⟩ := T.lone 3 rfl
 obtain ⟨y0, y1, y2, y3, y4, y5, y6, y7, y8, yf, yl⟩ := (T.cpu 0 rfl).segC5
 clear T hK
 conv => arg 2; whnf
 conv at hK41 => enter [a, w1, 1, 2]; whnf
 obtain ⟨d, hd⟩ : ∃ d, d = s1.C.seg 5 := ⟨_, rfl⟩
 rw [← hd] at y0 y1 y2 y3 y4 y5 y6 y7 y8
 have HD := Lib.hid hd.symm
 clear hd
 have HG2 := Lib.hid (show Hp w A (W.alloc (.cells #[.int .u16 (d.sel : Nat), .bool d.nul, .int .u32 (d.base : Nat), .int .u32 (d.lim : Nat), .int .i64 d.typ, .bool d.sys, .int .i64 d.dpl, .bool d.pre, .bool d.big] 31)) ((oEn eb vb bb pl n s1 :: (retB eb be bz sz ++ (retL eb bc ba at_ ++ loc))) ++ [Ob.box W.heap.size (segO d)]) from HT.out.make _)
 have HT2 := Lib.hid (Hp.left HG2.out)
 go_upto_region 42 with (fail)
 change Code.wp _ _ _ _ (W.alloc (.cells #[.int .u16 (d.sel : Nat), .bool d.nul, .int .u32 (d.base : Nat), .int .u32 (d.lim : Nat), .int .i64 d.typ, .bool d.sys, .int .i64 d.dpl, .bool d.pre, .bool d.big] 31))
 clear y0 y1 y2 y3 y4 y5 y6 y7 y8 yf yl c0 cf cl HT
 have hg := HG2.out.rot.gbox (d := d) 0 rfl
 clear HG2
 generalize W.alloc (.cells #[.int .u16 (d.sel : Nat), .bool d.nul, .int .u32 (d.base : Nat), .int .u32 (d.lim : Nat), .int .i64 d.typ, .bool d.sys, .int .i64 d.dpl, .bool d.pre, .bool d.big] 31) = W2 at *
 generalize W.heap.size = g at *
 obtain ⟨x0, x1, x2, x3, x4, x5, x6, x7, x8, xf, xl⟩ := hg
 obtain ⟨dsel, dnul, dbase, dlim, dtyp, dsys, ddpl, dpre, dbig⟩ := d
 dsimp only at x0 x1 x2 x3 x4 x5 x6 x7 x8
 have no : (!dnul && (!dsys && decide (0 ≤ dtyp) && decide (dtyp < 16) && (bits .and .i64 dtyp 12 != 12)) && decide (ddpl < rn)) = false → Hp w A W2 (oEn eb vb bb pl n ⟨s1.C.drop1 5 rn, s1.R⟩ :: (retB eb be bz sz ++ (retL eb bc ba at_ ++ loc))) := fun h => by
  rw [drops_no ⟨dsel, dnul, dbase, dlim, dtyp, dsys, ddpl, dpre, dbig⟩ rn h s1.C 5 HD.out]; exact HT2.out
 have yes : (!dnul && (!dsys && decide (0 ≤ dtyp) && decide (dtyp < 16) && (bits .and .i64 dtyp 12 != 12)) && decide (ddpl < rn)) = true → Hp w A (setsG W2 eb 55 nullSeg) (oEn eb vb bb pl n ⟨s1.C.drop1 5 rn, s1.R⟩ :: (retB eb be bz sz ++ (retL eb bc ba at_ ++ loc))) := fun h => by
  rw [drops_yes ⟨dsel, dnul, dbase, dlim, dtyp, dsys, ddpl, dpre, dbig⟩ rn h s1.C 5 HD.out]; exact HT2.out.null5 0 rfl
 have HNO := Lib.hid no
 have HYES := Lib.hid yes
 obtain ⟨c0, cf, cl⟩ := HT2.out.lone 3 rfl
 obtain ⟨y0, y1, y2, y3, y4, y5, y6, y7, y8, yf, yl⟩ := (HT2.out.cpu 0 rfl).segC5
 clear no yes HD
 cases dsys
 ·by_cases ht0 : 0 ≤ dtyp
  ·by_cases ht1 : dtyp < 16
   ·cases hbt : (bits .and .i64 dtyp 12 != 12)
    ·cases dnul
     ·have HP := Lib.hid (HNO.out (by rw [hbt]; simp))
      clear HNO HYES
      go_wp2_with fail
      exact HKK.out _ _ _ _ _ _ _ _ _ _ _ _ _ _ _ _ _ _ _ _ _ _ _ _ _ _ _ _ _ _ _ _ _ _ _ _ _ _ _ _ _ _ _ _ _ _ _ _ _ _ _ HP.out
     ·have HP := Lib.hid (HNO.out (by simp))
      clear HNO HYES
      go_wp2_with fail
      exact HKK.out _ _ _ _ _ _ _ _ _ _ _ _ _ _ _ _ _ _ _ _ _ _ _ _ _ _ _ _ _ _ _ _ _ _ _ _ _ _ _ _ _ _ _ _ _ _ _ _ _ _ _ HP.out
    ·cases dnul
     ·by_cases hlt : ddpl < (rn : Int)
      ·have HP := Lib.hid (HYES.out (by rw [hbt, decide_eq_true ht0, decide_eq_true ht1, decide_eq_true hlt]; rfl))
       clear HNO HYES
       go_wp2_with fail
       exact HKK.out _ _ _ _ _ _ _ _ _ _ _ _ _ _ _ _ _ _ _ _ _ _ _ _ _ _ _ _ _ _ _ _ _ _ _ _ _ _ _ _ _ _ _ _ _ _ _ _ _ _ _ HP.out
      ·have HP := Lib.hid (HNO.out (by rw [decide_eq_false hlt]; simp))
       clear HNO HYES
       go_wp2_with fail
       exact HKK.out _ _ _ _ _ _ _ _ _ _ _ _ _ _ _ _ _ _ _ _ _ _ _ _ _ _ _ _ _ _ _ _ _ _ _ _ _ _ _ _ _ _ _ _ _ _ _ _ _ _ _ HP.out
     ·have HP := Lib.hid (HNO.out (by simp))
      clear HNO HYES
      go_wp2_with fail
      exact HKK.out _ _ _ _ _ _ _ _ _ _ _ _ _ _ _ _ _ _ _ _ _ _ _ _ _ _ _ _ _ _ _ _ _ _ _ _ _ _ _ _ _ _ _ _ _ _ _ _ _ _ _ HP.out
   ·cases dnul
    ·have HP := Lib.hid (HNO.out (by rw [decide_eq_false ht1]; simp))
     clear HNO HYES
     go_wp2_with fail
     exact HKK.out _ _ _ _ _ _ _ _ _ _ _ _ _ _ _ _ _ _ _ _ _ _ _ _ _ _ _ _ _ _ _ _ _ _ _ _ _ _ _ _ _ _ _ _ _ _ _ _ _ _ _ HP.out
    ·have HP := Lib.hid (HNO.out (by simp))
     clear HNO HYES
     go_wp2_with fail
     exact HKK.out _ _ _ _ _ _ _ _ _ _ _ _ _ _ _ _ _ _ _ _ _ _ _ _ _ _ _ _ _ _ _ _ _ _ _ _ _ _ _ _ _ _ _ _ _ _ _ _ _ _ _ HP.out
  ·cases dnul
   ·have HP := Lib.hid (HNO.out (by rw [decide_eq_false ht0]; simp))
    clear HNO HYES
    go_wp2_with fail
    exact HKK.out _ _ _ _ _ _ _ _ _ _ _ _ _ _ _ _ _ _ _ _ _ _ _ _ _ _ _ _ _ _ _ _ _ _ _ _ _ _ _ _ _ _ _ _ _ _ _ _ _ _ _ HP.out
   ·have HP := Lib.hid (HNO.out (by simp))
    clear HNO HYES
    go_wp2_with fail
    exact HKK.out _ _ _ _ _ _ _ _ _ _ _ _ _ _ _ _ _ _ _ _ _ _ _ _ _ _ _ _ _ _ _ _ _ _ _ _ _ _ _ _ _ _ _ _ _ _ _ _ _ _ _ HP.out
 ·cases dnul
  ·have HP := Lib.hid (HNO.out (by simp))
   clear HNO HYES
   go_wp2_with fail
   exact HKK.out _ _ _ _ _ _ _ _ _ _ _ _ _ _ _ _ _ _ _ _ _ _ _ _ _ _ _ _ _ _ _ _ _ _ _ _ _ _ _ _ _ _ _ _ _ _ _ _ _ _ _ HP.out
  ·have HP := Lib.hid (HNO.out (by simp))
   clear HNO HYES
   go_wp2_with fail
   exact HKK.out _ _ _ _ _ _ _ _ _ _ _ _ _ _ _ _ _ _ _ _ _ _ _ _ _ _ _ _ _ _ _ _ _ _ _ _ _ _ _ _ _ _ _ _ _ _ _ _ _ _ _ HP.out
end
end Go.Proofs.YtmpcafdgkbpneaaGreat

