/- Steps of a proof: ExL, ExM, ExN, together. -/
import Derived.Test.YtmpcafdgkbpneaaGreatS18
/- except: Enter's inner function: its beginning; Enter. -/
set_option maxHeartbeats 4000000
set_option maxRecDepth 20000
namespace Go.Proofs.YtmpcafdgkbpneaaGreat
open Go.RowKit Go.MapKept
set_option linter.unusedVariables false
set_option linter.unusedSimpArgs false
attribute [local go_sem ↓] Go.wp_at_zero Go.wp_at_succ

section
variable {w W w' w0 : World} {A A0 : Nat → Prop} {os bs loc : List Ob} {eb vb bb : Nat} {pl : Pl} {n n' N : Nat} {s s1 s' : Es} {r : Except FaultS Unit × Es} {x : FaultS}
variable {be bv bn bt gd go : Nat} {vec num : Int} {soft : Bool} {d : SegR} {old : CpuS}
theorem kind_bits : ∀ k, k < 32 → ((k ||| 1 : Nat) == 15) = (k == 14 || k == 15) := by decide
def e9 (lo hi : Nat) (soft : Bool) (why y num : Int) : Ex Unit := Ex.at fun s =>
 (needE ((hi / 256 % 32 == 14 || hi / 256 % 32 == 15) && (!soft || decide (s.C.ring ≤ hi / 8192 % 4))) 13 why).then fun _ => e11 lo hi why y num (hi / 256 % 32)
theorem need_then {α : Type} (p : Bool) (v c : Int) (k : Unit → Ex α) (s : Es) : (needE p v c).then k s = if p then k () s else (.error ⟨v, c, 0⟩, s) := by
 cases p
 ·exact Ex.then_no (need_no rfl v c s)
 ·exact Ex.then_ok (need_ok rfl v c s)
theorem enter2_eq (v : Nat) (num : Int) (soft : Bool) (lo hi : Nat) (s : Es) : enter2 v num soft lo hi s = e9 lo hi soft (8 * (v : Int) + 2 + xOf soft) (xOf soft) num s := by
 unfold enter2 e9 e11 e15 e16 e17 Ex.at
 simp only [need_then]
 by_cases h1 : ((hi / 256 % 32 == 14 || hi / 256 % 32 == 15) && (!soft || decide (s.C.ring ≤ hi / 8192 % 4))) = true
 ·rw [if_pos h1, if_pos h1]
  by_cases h2 : (hi / 32768 % 2 == 1) = true
  ·rw [if_pos h2, if_pos h2]
   refine Eq.trans ?_ (need_then _ _ _ _ _).symm
   rfl
  ·rw [if_neg h2, if_neg h2]
 ·rw [if_neg h1, if_neg h1]
theorem enter_9 {y why : Int} (T : Hp w A W (oEn eb vb bb pl n s1 :: (enterB eb be bv bn bt vec num soft ++ []))) (hn : n + 28 ≤ N) (hN : N * 12 ≤ 140737488355328) {lo hi : Nat} (hl : lo < 4294967296) (hh : hi < 4294967296) (hx : y = 0 ∨ y = 1) (hr : r = e9 lo hi soft why y num s1) {y1 y0 o4 o5 o6 o7 o8 o9 p0 p1 p2 p3 p4 p5 p6 p7 p9 q0 q1 q2 q3 q4 q5 q6 p8 q7 q8 q9 r0 r1 r2 r3 r4 r5 r6 r7 r8 r9 s0 s2 s3 s4 s5 s6 s7 s8 s9 t1 t2 t3 t4 t5 t6 t7 t8 t9 u1 u2 u3 u4 u5 u6 u7 u8 v0 v1 v2 v3 v4 v5 v6 v7 v8 v9 w0 w3 w4 w5 w6 w7 w8 w9 x0 x1 x2 x3 x4 x5 x6 x7 x8 x9 a0 a1 a2 a3 a4 a5 a6 a7 a8 a9 b1 b2 b3 b4 b5 b6 b7 b8 b9 c0 c1 c2 c3 c4 c5 c6 c7 c8 c9 d0 d1 d2 d3 d4 d5 d6 d7 d8 d9 e0 e4 e5 e6 e7 e8 f0 f1 f2 f3 f4 f5 f6 f7 f8 f9 g0 g1 g2 g3 g4 g5 g6 g7 g8 g9 h0 h1 h2 h3 h4 h5 h6 h7 h8 h9 i0 i1 i2 i3 i4 i5 i6 i7 i8 i9 j0 j1 j2 j3 j4 j5 j6 j7 j8 j9 k0 k2 k3 k4 k5 k6 k7 k8 k9 l0 l1 l2 l3 l4 l5 l6 l7 l8 l9 m0 m1 m2 m3 m4 m5 m6 m7 m8 m9 n0 n1 n2 n3 n4 n5 n6 n7 n8 n9 o0 o1 o2 o3 : Value} {K9 : Act → World → Prop} (hK9 : ∀ a w1, Code.wp Tryz.prog (tl Tryz.f25 9) (bodyPost Tryz.prog Tryz.f25 (EnEnd w A eb vb bb pl N (enterB eb be bv bn bt vec num soft) r)) a w1 → K9 a w1) :
    Code.wp Tryz.prog (rg Tryz.f25 9) (Exit.then K9 (bodyPost Tryz.prog Tryz.f25 (EnEnd w A eb vb bb pl N (enterB eb be bv bn bt vec num soft) r))) ⟨#[y1, .pointer (some ⟨bt, 0, none⟩), .pointer (some ⟨be, 0, none⟩), .pointer (some ⟨bn, 0, none⟩), .int .i64 y, .pointer (some ⟨eb, 0, none⟩), .int .i64 why, .int .u32 (lo : Nat), .int .u32 (hi : Nat), y0, o4, o5, o6, o7, o8, o9, p0, p1, p2, p3, p4, p5, p6, p7, p9, q0, q1, q2, q3, q4, q5, q6, p8, q7, q8, q9, r0, r1, r2, r3, r4, r5, r6, r7, r8, r9, s0, s2, s3, s4, s5, s6, s7, s8, s9, t1, t2, t3, t4, t5, t6, t7, t8, t9, u1, u2, u3, u4, u5, u6, u7, u8, v0, v1, v2, v3, v4, v5, v6, v7, v8, v9, w0, w3, w4, w5, w6, w7, w8, w9, x0, x1, x2, x3, x4, x5, x6, x7, x8, x9, a0, a1, a2, a3, a4, a5, a6, a7, a8, a9, b1, b2, b3, b4, b5, b6, b7, b8, b9, c0, c1, c2, c3, c4, c5, c6, c7, c8, c9, d0, d1, d2, d3, d4, d5, d6, d7, d8, d9, e0, e4, e5, e6, e7, e8, f0, f1, f2, f3, f4, f5, f6, f7, f8, f9, g0, g1, g2, g3, g4, g5, g6, g7, g8, g9, h0, h1, h2, h3, h4, h5, h6, h7, h8, h9, i0, i1, i2, i3, i4, i5, i6, i7, i8, i9, j0, j1, j2, j3, j4, j5, j6, j7, j8, j9, k0, k2, k3, k4, k5, k6, k7, k8, k9, l0, l1, l2, l3, l4, l5, l6, l7, l8, l9, m0, m1, m2, m3, m4, m5, m6, m7, m8, m9, n0, n1, n2, n3, n4, n5, n6, n7, n8, n9, o0, o1, o2, o3], []⟩ W := by
 have HN0 := Lib.hid (And.intro hn hN)
 have HT := Lib.hid T
 have HX := Lib.hid (And.intro hl (And.intro hh hx))
 have e1 : bits .and .u32 ((hi : Int) / 256) 31 = ((hi / 256 % 32 : Nat) : Int) := by
  have f := u32_and_nat (hi / 256) 31 (by omega) (by decide)
  have g := nat_field (hi / 256) 0 5
  rw [show (2 ^ 5 - 1) * 2 ^ 0 = 31 by decide] at g
  rw [show (31 : Int) = ((31 : Nat) : Int) from rfl, show (hi : Int) / 256 = ((hi / 256 : Nat) : Int) by omega, f, g]
  omega
 have e3 : bits .and .u32 ((hi : Int) / 8192) 3 = ((hi / 8192 % 4 : Nat) : Int) := by
  have f := u32_and_nat (hi / 8192) 3 (by omega) (by decide)
  have g := nat_field (hi / 8192) 0 2
  rw [show (2 ^ 2 - 1) * 2 ^ 0 = 3 by decide] at g
  rw [show (3 : Int) = ((3 : Nat) : Int) from rfl, show (hi : Int) / 8192 = ((hi / 8192 : Nat) : Int) by omega, f, g]
  omega
 obtain ⟨q, hq⟩ : ∃ q, q = hi / 8192 % 4 := ⟨_, rfl⟩
 obtain ⟨kd, hkd⟩ : ∃ kd, kd = hi / 256 % 32 := ⟨_, rfl⟩
 have hq4 : q < 4 := by omega
 have hk32 : kd < 32 := by omega
 have HR := Lib.hid (show r = ((needE ((kd == 14 || kd == 15) && (!soft || decide (s1.C.ring ≤ q))) 13 why).then fun _ => e11 lo hi why y num kd) s1 by rw [hr, hq, hkd]; rfl)
 rw [← hkd] at e1
 rw [← hq] at e3
 have e2 : bits .or .u32 (kd : Int) 1 = ((kd ||| 1 : Nat) : Int) := u32_or_nat kd 1 (by omega) (by decide)
 have ew : wrap64 ((q : Nat) : Int) = ((q : Nat) : Int) := IntWalk.wrap64_in _ (by omega)
 obtain ⟨b0, bf, bl⟩ := T.lone 1 rfl
 obtain ⟨t0, tf, tl0⟩ := T.lone 4 rfl
 have hkb := kind_bits kd hk32
 obtain ⟨k1, hk1⟩ : ∃ k1, k1 = kd ||| 1 := ⟨_, rfl⟩
 rw [← hk1] at e2 hkb
 have hor : s1.C.ring < 4 := Nat.mod_lt _ (by decide)
 clear hq hkd hk1 T hn hN hl hh hx hr
 conv => arg 2; whnf
 conv at hK9 => enter [a, w1, 1, 2]; whnf
 cases hkk : (kd == 14 || kd == 15)
 ·rw [hkk] at hkb
  have hb : ((k1 : Int) == 15) = false := by
   rw [beq_eq_false_iff_ne] at hkb ⊢
   omega
  have HR2 := Lib.hid (HR.out.trans (Ex.then_no (need_no (by rw [hkk]; rfl) _ _ _)))
  clear hkb hkk HR
  go_wp2_with fail
  refine (need_d _ _ _ _).mono ?_
  rintro e w2 ⟨rfl, ⟨hp, rfl⟩ | ⟨hp, rfl⟩⟩
  ·cases hp
  ·clear hp
   go_wp2_with fail
   exact ⟨rfl, env_no HT.out (by have := HN0.out; omega) HR2.out⟩
 ·rw [hkk] at hkb
  have hb : ((k1 : Int) == 15) = true := by
   rw [beq_iff_eq] at hkb ⊢
   omega
  cases soft
  ·have HR2 := Lib.hid (HR.out.trans (Ex.then_ok (need_ok (by rw [hkk]; rfl) _ _ _)))
   clear hkb hkk HR
   go_wp2_with fail
   refine (need_d _ _ _ _).mono ?_
   rintro e w2 ⟨rfl, ⟨hp, rfl⟩ | ⟨hp, rfl⟩⟩
   ·clear hp
    go_upto_region 11 with (fail)
    exact enter_11 HT.out HN0.out.1 HN0.out.2 HX.out.1 HX.out.2.1 HX.out.2.2 HR2.out (by assumption)
   ·cases hp
  ·have HR1 := Lib.hid (show r = ((needE (decide (s1.C.ring ≤ q)) 13 why).then fun _ => e11 lo hi why y num kd) s1 by rw [HR.out, hkk]; rfl)
   clear hkb hkk HR
   go_wp2_with fail
   refine (ring_c (HT.out.cpu 0 rfl)).mono ?_
   rintro e w2 ⟨rfl, rfl⟩
   go_wp2_with fail
   refine (need_d _ _ _ _).mono ?_
   rintro e w2 ⟨rfl, ⟨hp, rfl⟩ | ⟨hp, rfl⟩⟩
   ·have hq1 : decide (s1.C.ring ≤ q) = true := by
      rw [decide_eq_true_eq] at hp ⊢; omega
    have HR2 := Lib.hid (HR1.out.trans (Ex.then_ok (need_ok hq1 _ _ _)))
    clear hp hq1 HR1
    go_upto_region 11 with (fail)
    exact enter_11 HT.out HN0.out.1 HN0.out.2 HX.out.1 HX.out.2.1 HX.out.2.2 HR2.out (by assumption)
   ·have hq1 : decide (s1.C.ring ≤ q) = false := by
      rw [decide_eq_false_iff_not] at hp ⊢; omega
    have HR2 := Lib.hid (HR1.out.trans (Ex.then_no (need_no hq1 _ _ _)))
    clear hp hq1
    go_wp2_with fail
    exact ⟨rfl, env_no HT.out (by have := HN0.out; omega) HR2.out⟩
variable {v : Nat}
theorem enter1_eq (num : Int) (soft : Bool) (s : Es) : enter1 v num soft s = ((needE (decide (8 * v + 7 ≤ s.C.il)) 13 (8 * (v : Int) + 2 + xOf soft)).then fun _ => (sysE ((s.C.ib + 8 * v) % 4294967296) 4).then fun lo => (sysE ((s.C.ib + (8 * v + 4)) % 4294967296) 4).then fun hi => e9 lo hi soft (8 * (v : Int) + 2 + xOf soft) (xOf soft) num) s := by
 have e : ∀ lo hi, enter2 v num soft lo hi = e9 lo hi soft (8 * (v : Int) + 2 + xOf soft) (xOf soft) num := fun lo hi => funext fun t => enter2_eq v num soft lo hi t
 show ((needE (decide (8 * v + 7 ≤ s.C.il)) 13 (8 * (v : Int) + 2 + xOf soft)).then fun _ => (sysE ((s.C.ib + 8 * v) % 4294967296) 4).then fun lo => (sysE ((s.C.ib + (8 * v + 4)) % 4294967296) 4).then fun hi => enter2 v num soft lo hi) s = _
 simp only [e]
theorem enter_6 {y : Int} (T : Hp w A W (oEn eb vb bb pl n s1 :: (enterB eb be bv bn bt (v : Nat) num soft ++ []))) (hn : n + 32 ≤ N) (hN : N * 12 ≤ 140737488355328) (hv : v < 256) (hy : y = xOf soft) (hr : r = enter1 v num soft s1) {y3 y4 y5 o2 o3 o4 o5 o6 o7 o8 o9 p0 p1 p2 p3 p4 p5 p6 p7 p8 p9 q0 q1 q2 q3 q4 q5 q6 q7 q8 q9 r0 r1 r2 r3 r4 r5 r6 r7 r8 r9 s0 s2 s3 s4 s5 s6 s7 s8 s9 t0 t3 t4 t5 t6 t7 t8 t9 u0 u1 u2 u3 u4 u5 u6 v1 v2 v3 v4 v5 v6 v7 v8 v9 w0 w4 w6 w7 w8 w9 x0 x1 x2 x3 x4 x5 x6 x7 x8 x9 y0 y1 y2 a0 a1 a2 a3 a4 a5 a6 a7 a8 a9 b1 b2 b3 b4 b5 b6 b7 b8 b9 c0 c1 c2 c3 c4 c5 c6 c7 c8 c9 d0 d1 d2 d3 d4 d5 d6 d7 d8 d9 e0 e1 e2 e3 e4 e5 e6 e7 e8 e9 f0 f2 f3 f4 f5 f6 f7 f8 f9 g0 g1 g2 g3 g4 g5 g6 g7 g8 g9 h0 h3 h4 h5 h6 h7 h8 h9 i0 i1 i2 i3 i4 i5 i6 i7 i8 i9 j0 j1 j2 j3 j4 j5 j6 j7 j8 j9 k0 k1 k2 k3 k4 k5 k6 k7 k8 k9 l0 l1 l2 l3 l4 l5 l6 l7 l8 l9 m0 m1 m2 m3 m4 m5 m6 m7 m8 m9 n0 n1 n2 n3 n4 n5 n6 n7 n8 n9 o0 o1 : Value} {K6 : Act → World → Prop} (hK6 : ∀ a w1, Code.wp Tryz.prog (tl Tryz.f25 6) (bodyPost Tryz.prog Tryz.f25 (EnEnd w A eb vb bb pl N (enterB eb be bv bn bt (v : Nat) num soft) r)) a w1 → K6 a w1) :
    Code.wp Tryz.prog (rg Tryz.f25 6) (Exit.then K6 (bodyPost Tryz.prog Tryz.f25 (EnEnd w A eb vb bb pl N (enterB eb be bv bn bt (v : Nat) num soft) r))) ⟨#[.pointer (some ⟨bv, 0, none⟩), .pointer (some ⟨bt, 0, none⟩), .pointer (some ⟨be, 0, none⟩), .pointer (some ⟨bn, 0, none⟩), .int .i64 y, .pointer (some ⟨eb, 0, none⟩), .int .i64 (8 * (v : Int) + 2 + y), y3, y4, y5, o2, o3, o4, o5, o6, o7, o8, o9, p0, p1, p2, p3, p4, p5, p6, p7, p8, p9, q0, q1, q2, q3, q4, q5, q6, q7, q8, q9, r0, r1, r2, r3, r4, r5, r6, r7, r8, r9, s0, s2, s3, s4, s5, s6, s7, s8, s9, t0, t3, t4, t5, t6, t7, t8, t9, u0, u1, u2, u3, u4, u5, u6, v1, v2, v3, v4, v5, v6, v7, v8, v9, w0, w4, w6, w7, w8, w9, x0, x1, x2, x3, x4, x5, x6, x7, x8, x9, y0, y1, y2, a0, a1, a2, a3, a4, a5, a6, a7, a8, a9, b1, b2, b3, b4, b5, b6, b7, b8, b9, c0, c1, c2, c3, c4, c5, c6, c7, c8, c9, d0, d1, d2, d3, d4, d5, d6, d7, d8, d9, e0, e1, e2, e3, e4, e5, e6, e7, e8, e9, f0, f2, f3, f4, f5, f6, f7, f8, f9, g0, g1, g2, g3, g4, g5, g6, g7, g8, g9, h0, h3, h4, h5, h6, h7, h8, h9, i0, i1, i2, i3, i4, i5, i6, i7, i8, i9, j0, j1, j2, j3, j4, j5, j6, j7, j8, j9, k0, k1, k2, k3, k4, k5, k6, k7, k8, k9, l0, l1, l2, l3, l4, l5, l6, l7, l8, l9, m0, m1, m2, m3, m4, m5, m6, m7, m8, m9, n0, n1, n2, n3, n4, n5, n6, n7, n8, n9, o0, o1], []⟩ W := by
 rw [enter1_eq, ← hy] at hr
 have HN0 := Lib.hid (And.intro hn hN)
 have HX := Lib.hid (show y = 0 ∨ y = 1 by rw [hy]; unfold xOf; cases soft <;> decide)
 have HR := Lib.hid hr
 have HT := Lib.hid (T.drewN 1)
 have HG := Lib.hid (show s1.good from ⟨T.wide 0 rfl, (T.cpu 0 rfl).1⟩)
 obtain ⟨-, -, k69, k70, kl⟩ := (T.cpu 0 rfl).tabs
 obtain ⟨v0, vf, vl⟩ := T.lone 2 rfl
 have hil := HG.out.ok.il
 clear T hn hN hr hy
 conv => arg 2; whnf
 conv at hK6 => enter [a, w1, 1, 2]; whnf
 go_still_tail 11, (by kernel_rfl)
 change wpList _ _ _ _ _ (W.drewN 1)
 clear k69 k70 kl v0 vf vl
 generalize W.drewN 1 = W1 at *
 go_wp2_with fail
 refine (need_d _ _ _ _).mono ?_
 rintro e w2 ⟨rfl, ⟨hp, rfl⟩ | ⟨hp, rfl⟩⟩
 ·have hq : decide (8 * v + 7 ≤ s1.C.il) = true := by
    rw [decide_eq_true_eq] at hp ⊢; omega
  have HR2 := Lib.hid (HR.out.trans (Ex.then_ok (need_ok hq _ _ _)))
  clear hp hq HR hil
  obtain ⟨-, -, k69, k70, kl⟩ := (HT.out.cpu 0 rfl).tabs
  obtain ⟨v0, vf, vl⟩ := HT.out.lone 2 rfl
  obtain ⟨b0, bf, bl⟩ := HT.out.lone 1 rfl
  have hib := HG.out.ok.ib
  have HT1 := Lib.hid (HT.out.drewN 1)
  go_upto_region 7 with (fail)
  go_still_tail 10, (by kernel_rfl)
  change wpList _ _ _ _ _ (w2.drewN 1)
  clear k69 k70 kl v0 vf vl b0 bf bl HT
  generalize w2.drewN 1 = W2 at *
  go_wp2_with fail
  obtain ⟨a, ha⟩ : ∃ a, a = (s1.C.ib + 8 * v) % 4294967296 := ⟨_, rfl⟩
  obtain ⟨b, hb⟩ : ∃ b, b = (s1.C.ib + (8 * v + 4)) % 4294967296 := ⟨_, rfl⟩
  have ha1 : ((s1.C.ib : Int) + 8 * (v : Int)) % 4294967296 = (a : Int) := by omega
  have hb1 : ((s1.C.ib : Int) + (8 * (v : Int) + 4)) % 4294967296 = (b : Int) := by omega
  have ha2 : a < 4294967296 := by omega
  have hb2 : b < 4294967296 := by omega
  rw [← ha, ← hb] at HR2
  have HB := Lib.hid (And.intro hb1 hb2)
  clear ha hb hb1 hb2
  rw [ha1]
  rcases h1 : sysE a 4 s1 with ⟨f1 | lo, t1⟩
  ·refine (HT1.out.go_no 0 rfl (sys_x a ha2 4 (by have := HN0.out; omega)) h1).mono ?_
   rintro e w3 ⟨rfl, T2⟩
   go_wp2_with fail
   exact ⟨rfl, env_no T2 (by have := HN0.out; omega) (HR2.out.trans (Ex.then_no h1))⟩
  ·refine (HT1.out.go_ok 0 rfl (sys_x a ha2 4 (by have := HN0.out; omega)) h1).mono ?_
   rintro e w3 ⟨rfl, T2⟩
   have HT3 := Lib.hid (show Hp w A w3 (oEn eb vb bb pl (n + 2) t1 :: (enterB eb be bv bn bt (v : Nat) num soft ++ [])) from T2)
   have HR3 := Lib.hid (HR2.out.trans (Ex.then_ok h1))
   have HS1 := Lib.hid (Safe.sys4 HG.out a ha2 _ _ h1)
   have hC1 := ((HS1.out).2.1 lo rfl).2
   clear T2 h1 HT1 HR2 ha1 ha2
   obtain ⟨-, -, k69, k70, kl⟩ := (HT3.out.cpu 0 rfl).tabs
   obtain ⟨v0, vf, vl⟩ := HT3.out.lone 2 rfl
   obtain ⟨b0, bf, bl⟩ := HT3.out.lone 1 rfl
   have HT4 := Lib.hid (HT3.out.drewN 1)
   rw [hC1] at k69 k70
   go_upto_region 8 with (fail)
   go_still_tail 11, (by kernel_rfl)
   change wpList _ _ _ _ _ (w3.drewN 1)
   clear k69 k70 kl v0 vf vl b0 bf bl HT3
   generalize w3.drewN 1 = W4 at *
   go_wp2_with fail
   have hb1 := HB.out.1
   rw [hb1]
   clear hb1
   rcases h2 : sysE b 4 t1 with ⟨f1 | hi, t2⟩
   ·refine (HT4.out.go_no 0 rfl (sys_x b HB.out.2 4 (by have := HN0.out; omega)) h2).mono ?_
    rintro e w5 ⟨rfl, T5⟩
    go_wp2_with fail
    exact ⟨rfl, env_no T5 (by have := HN0.out; omega) (HR3.out.trans (Ex.then_no h2))⟩
   ·refine (HT4.out.go_ok 0 rfl (sys_x b HB.out.2 4 (by have := HN0.out; omega)) h2).mono ?_
    rintro e w5 ⟨rfl, T5⟩
    have HT5 := Lib.hid (show Hp w A w5 (oEn eb vb bb pl (n + 2 + 2) t2 :: (enterB eb be bv bn bt (v : Nat) num soft ++ [])) from T5)
    have HR4 := Lib.hid (HR3.out.trans (Ex.then_ok h2))
    have HS2 := Lib.hid (Safe.sys4 HS1.out.1 b HB.out.2 _ _ h2)
    clear T5 h2 HT4 HR3 hib hC1
    go_upto_region 9 with (fail)
    exact enter_9 HT5.out (by have := HN0.out; omega) HN0.out.2 (HS1.out.2.1 lo rfl).1 (HS2.out.2.1 hi rfl).1 HX.out HR4.out (by assumption)
 ·have hq : decide (8 * v + 7 ≤ s1.C.il) = false := by
    rw [decide_eq_false_iff_not] at hp ⊢; omega
  have HR2 := Lib.hid (HR.out.trans (Ex.then_no (need_no hq _ _ _)))
  clear hp hq
  go_wp2_with fail
  exact ⟨rfl, env_no HT.out (by have := HN0.out; omega) HR2.out⟩
theorem enterE_no (num : Int) (h : ¬ (0 ≤ vec ∧ vec < 256)) (s : Es) : enterE vec num soft s = (.error ⟨13, 0, 0⟩, s) := by
 unfold enterE
 refine Ex.then_no (need_no ?_ _ _ _)
 rcases Decidable.not_and_iff_or_not.1 h with h | h
 ·rw [decide_eq_false h]; rfl
 ·rw [decide_eq_false h, Bool.and_false]
theorem enterE_yes (num : Int) (h : v < 256) (s : Es) : enterE (v : Nat) num soft s = enter1 v num soft s := by
 unfold enterE
 refine (Ex.then_ok (need_ok ?_ _ _ _)).trans ?_
 ·rw [decide_eq_true (show (0 : Int) ≤ (v : Nat) by omega), decide_eq_true (show ((v : Nat) : Int) < 256 by omega)]; rfl
 ·rw [Int.toNat_natCast]
theorem enterF_x (hN : (n + 40) * 12 ≤ 140737488355328) :
    Goes 25 #[.pointer (some ⟨bv, 0, none⟩), .pointer (some ⟨bt, 0, none⟩), .pointer (some ⟨be, 0, none⟩), .pointer (some ⟨bn, 0, none⟩)] (oEs eb vb bb pl n (enterB eb be bv bn bt vec num soft) s) (enterE vec num soft s) (fun _ => .tuple #[]) (oEs eb vb bb pl (n + 40) (enterB eb be bv bn bt vec num soft)) := by
 rintro w A T0
 obtain ⟨r, hr⟩ : ∃ r, enterE vec num soft s = r := ⟨_, rfl⟩
 rw [hr]
 have HR := Lib.hid hr.symm
 have T : Hp w A w (oEn eb vb bb pl n s :: (enterB eb be bv bn bt vec num soft ++ [])) := ⟨A, T0, Moves.refl _ _⟩
 have HT := Lib.hid T
 have HN := Lib.hid hN
 clear T0 hr hN
 show Calls Tryz.prog 25 #[.pointer (some ⟨bv, 0, none⟩), .pointer (some ⟨bt, 0, none⟩), .pointer (some ⟨be, 0, none⟩), .pointer (some ⟨bn, 0, none⟩)] w (EnEnd w A eb vb bb pl (n + 40) (enterB eb be bv bn bt vec num soft) r)
 obtain ⟨v0, vf, vl⟩ := T.lone 2 rfl
 clear T
 by_cases h0 : 0 ≤ vec
 ·obtain ⟨v, rfl⟩ : ∃ v : Nat, vec = (v : Int) := ⟨vec.toNat, by omega⟩
  clear h0
  go_enter Tryz.func25, Tryz.ntmps25
  go_wp2_with fail
  refine (need_d _ _ _ _).mono ?_
  rintro e w2 ⟨rfl, ⟨hp, rfl⟩ | ⟨hp, rfl⟩⟩
  ·have hv : v < 256 := by
     rw [decide_eq_true_eq] at hp; omega
   have HR2 := Lib.hid (HR.out.trans (enterE_yes num hv s))
   clear hp HR
   obtain ⟨b0, bf, bl⟩ := HT.out.lone 1 rfl
   obtain ⟨t0, tf, tl0⟩ := HT.out.lone 4 rfl
   have kl := (HT.out.en 0 rfl).2.2
   cases soft
   ·go_upto_region 6 with (fail)
    exact enter_6 (y := 1) HT.out (by omega) HN.out hv rfl HR2.out (by assumption)
   ·go_upto_region 6 with (fail)
    exact enter_6 (y := 0) HT.out (by omega) HN.out hv rfl HR2.out (by assumption)
  ·have hv : ¬ (0 ≤ (v : Int) ∧ (v : Int) < 256) := by
     rw [decide_eq_false_iff_not] at hp; omega
   have HR2 := Lib.hid (HR.out.trans (enterE_no num hv s))
   clear hp hv
   go_wp2_with fail
   exact ⟨rfl, env_no HT.out (by omega) HR2.out⟩
 ·have HR2 := Lib.hid (HR.out.trans (enterE_no num (fun h => h0 h.1) s))
  go_enter Tryz.func25, Tryz.ntmps25
  go_wp2_with fail
  refine (need_d _ _ _ _).mono ?_
  rintro e w2 ⟨rfl, ⟨hp, rfl⟩ | ⟨hp, rfl⟩⟩
  ·cases hp
  ·clear hp
   go_wp2_with fail
   exact ⟨rfl, env_no HT.out (by omega) HR2.out⟩
end
end Go.Proofs.YtmpcafdgkbpneaaGreat

/- except: Enter. -/
namespace Go.Proofs.YtmpcafdgkbpneaaGreat
open Go.RowKit Go.MapKept
set_option linter.unusedVariables false
attribute [local go_sem ↓] Go.wp_at_zero Go.wp_at_succ

theorem enters_own {f : FuncId} {fn : Func} {c : Code} (hf : Tryz.prog.funcs[f]? = some fn) (hname : (fn.name == "runtime.NumGoroutine") = false) (hb : fn.body = some c) (args : Array Value) (w : World) : (callFunc f args).run Tryz.prog w = .ok (.enter f args) w := by
 have h1 : fn.name ≠ "runtime.NumGoroutine" := by simpa using hname
 simp [callFunc, hf, h1, hb, mark]
section
variable {w W w' w0 : World} {A A0 : Nat → Prop} {os bs loc : List Ob} {eb vb bb : Nat} {pl : Pl} {n n' N : Nat} {s s1 s' : Es}
theorem enter_x (vec num : Int) (soft : Bool) (hN : (n + 40) * 12 ≤ 140737488355328) :
    Acts 11 #[.pointer (some ⟨eb, 0, none⟩), .int .i64 vec, .int .i64 num, .bool soft] (oEn eb vb bb pl n s) (triedE (enterE vec num soft) s).1.val (oEn eb vb bb pl (n + 40) (triedE (enterE vec num soft) s).2) := by
 rintro w A T
 obtain ⟨be, hbe⟩ : ∃ be, be = w.heap.size := ⟨_, rfl⟩
 have hc := tried_x (eb := eb) (vb := vb) (bb := bb) (pl := pl) (n := n) (n' := n + 40) (s := s) (bs := enterB eb be (be + 1) (be + 1 + 1) (be + 1 + 1 + 1) vec num soft) (m := enterE vec num soft) (enters_own (f := 25) Tryz.func25 (by kernel_rfl) rfl) (enterF_x hN)
 obtain ⟨⟨f, s1⟩, hr⟩ : ∃ r, triedE (enterE vec num soft) s = r := ⟨_, rfl⟩
 rw [hr] at hc ⊢
 have HC := Lib.hid hc
 have T0 := Hp.solo T
 have T5 := ((((T0.make (.cells #[.pointer (some ⟨eb, 0, none⟩)] 24)).make (.cells #[.int .i64 vec] 3)).make (.cells #[.int .i64 num] 3)).make (.cells #[.bool soft] 4)).make (.cells #[.int .i64 0, .int .i64 0, .int .u32 0] 42)
 simp only [World.size_alloc] at T5
 rw [← hbe] at T5
 have HT := Lib.hid (show Hp w A (((((w.alloc (.cells #[.pointer (some ⟨eb, 0, none⟩)] 24)).alloc (.cells #[.int .i64 vec] 3)).alloc (.cells #[.int .i64 num] 3)).alloc (.cells #[.bool soft] 4)).alloc (.cells #[.int .i64 0, .int .i64 0, .int .u32 0] 42)) [oEs eb vb bb pl n (enterB eb be (be + 1) (be + 1 + 1) (be + 1 + 1 + 1) vec num soft) s, fBox (be + 1 + 1 + 1 + 1) ⟨0, 0, 0⟩] from Hp.pack (l1 := oEn eb vb bb pl n s :: enterB eb be (be + 1) (be + 1 + 1) (be + 1 + 1 + 1) vec num soft) (l2 := [fBox (be + 1 + 1 + 1 + 1) ⟨0, 0, 0⟩]) T5 (fun A h => h))
 clear T T0 T5 hc hr
 have hmf : ∀ (fn : Fn) (first cap : Array Value) (w : World), (Instr.makeFunc fn first cap).run Tryz.prog w = .ok (.func fn first cap) w := fun _ _ _ _ => rfl
 go_enter Tryz.func11, Tryz.ntmps11
 go_upto_region 1 with (fail)
 rw [← hbe]
 change Code.wp _ _ _ _ (((((w.alloc (.cells #[.pointer (some ⟨eb, 0, none⟩)] 24)).alloc (.cells #[.int .i64 vec] 3)).alloc (.cells #[.int .i64 num] 3)).alloc (.cells #[.bool soft] 4)).alloc (.cells #[.int .i64 0, .int .i64 0, .int .u32 0] 42))
 clear hbe
 generalize ((((w.alloc (.cells #[.pointer (some ⟨eb, 0, none⟩)] 24)).alloc (.cells #[.int .i64 vec] 3)).alloc (.cells #[.int .i64 num] 3)).alloc (.cells #[.bool soft] 4)).alloc (.cells #[.int .i64 0, .int .i64 0, .int .u32 0] 42) = w2 at *
 generalize be + 1 + 1 + 1 + 1 = g at *
 obtain ⟨B, hB⟩ := HT.out.inside 0 rfl
 obtain ⟨b0, bf, bl⟩ := hB.lone 1 rfl
 clear hB
 go_wp2_with fail
 refine (HT.out.act 0 rfl HC.out).mono ?_
 rintro e w3 ⟨rfl, T3⟩
 have HT3 := Lib.hid (show Hp w A w3 [oEs eb vb bb pl (n + 40) (enterB eb be (be + 1) (be + 1 + 1) (be + 1 + 1 + 1) vec num soft) s1, fBox g ⟨0, 0, 0⟩] from T3)
 clear T3 HT HC b0 bf bl
 obtain ⟨z0, z1, z2, zf, zl⟩ := HT3.out.fbox (f := ⟨0, 0, 0⟩) 1 rfl
 have HT4 := Lib.hid (HT3.out.fset 1 rfl f)
 unfold FaultS.val
 go_wp2_with fail
 refine bodyPost_ret (v := f.val) (fres rfl rfl _ (HT4.out.box 1 rfl)) rfl ⟨rfl, ?_⟩
 have h := Hp.open_ HT4.out
 exact h.first
theorem below_on {w0 w : World} (h : Below w0.heap.size w0 w) (o : Obj) : Below w0.heap.size w0 (w.alloc o) := h.alloc h.size o
theorem cell_heap {w w' : World} {b k : Nat} (h : w'.heap[b]? = w.heap[b]?) : w'.cell? ⟨b, k, none⟩ = w.cell? ⟨b, k, none⟩ := by
 simp only [World.cell?, h]
def badF : FaultS := ⟨13, 0, 0⟩
theorem tried_none (F : Value) (w : World) :
    Calls Tryz.prog 24 #[.pointer none, F] w fun e w' => e = .returned (.agg #[.int .i64 13, .int .i64 0, .int .u32 0]) ∧ Below w.heap.size w w' := by
 go_enter_defers Tryz.func24, Tryz.ntmps24
 go_wp2_with fail
 have hb : ((w.alloc (.cells #[.pointer none] 24)).alloc (.cells (FaultS.cells badF) 42)).heap[w.heap.size + 1]? = some (.cells (FaultS.cells badF) 42) := by
  have h := heap_new (w.alloc (.cells #[.pointer none] 24)) (.cells (FaultS.cells badF) 42)
  rw [World.size_alloc] at h
  exact h
 exact ⟨badF.val, fres rfl rfl _ hb, rfl, below_on (below_on (Below.refl _ w) _) _⟩
theorem tried_bare (F : Value) (eb : Nat) (w : World) (h : w.cell? ⟨eb, 83, none⟩ = some (.pointer none)) (hl : eb < w.heap.size) :
    Calls Tryz.prog 24 #[.pointer (some ⟨eb, 0, none⟩), F] w fun e w' => e = .returned (.agg #[.int .i64 13, .int .i64 0, .int .u32 0]) ∧ Below w.heap.size w w' := by
 go_enter_defers Tryz.func24, Tryz.ntmps24
 go_wp2_with fail
 have hb : ((w.alloc (.cells #[.pointer (some ⟨eb, 0, none⟩)] 24)).alloc (.cells (FaultS.cells badF) 42)).heap[w.heap.size + 1]? = some (.cells (FaultS.cells badF) 42) := by
  have h := heap_new (w.alloc (.cells #[.pointer (some ⟨eb, 0, none⟩)] 24)) (.cells (FaultS.cells badF) 42)
  rw [World.size_alloc] at h
  exact h
 exact ⟨badF.val, fres rfl rfl _ hb, rfl, below_on (below_on (Below.refl _ w) _) _⟩
theorem enter_none (vec num : Int) (soft : Bool) (w : World) :
    Calls Tryz.prog 11 #[.pointer none, .int .i64 vec, .int .i64 num, .bool soft] w fun e w' => e = .returned (.agg #[.int .i64 13, .int .i64 0, .int .u32 0]) ∧ Below w.heap.size w w' := by
 have hmf : ∀ (fn : Fn) (first cap : Array Value) (w : World), (Instr.makeFunc fn first cap).run Tryz.prog w = .ok (.func fn first cap) w := fun _ _ _ _ => rfl
 obtain ⟨W, hW⟩ : ∃ W, W = ((((w.alloc (.cells #[.pointer none] 24)).alloc (.cells #[.int .i64 vec] 3)).alloc (.cells #[.int .i64 num] 3)).alloc (.cells #[.bool soft] 4)).alloc (.cells #[.int .i64 0, .int .i64 0, .int .u32 0] 42) := ⟨_, rfl⟩
 have hb : Below w.heap.size w W := by
  rw [hW]
  exact below_on (below_on (below_on (below_on (below_on (Below.refl _ w) _) _) _) _) _
 have hz : W.heap[w.heap.size + 1 + 1 + 1 + 1]? = some (.cells #[.int .i64 0, .int .i64 0, .int .u32 0] 42) := by
  have h := heap_new ((((w.alloc (.cells #[.pointer none] 24)).alloc (.cells #[.int .i64 vec] 3)).alloc (.cells #[.int .i64 num] 3)).alloc (.cells #[.bool soft] 4)) (.cells #[.int .i64 0, .int .i64 0, .int .u32 0] 42)
  simp only [World.size_alloc] at h
  rw [hW]
  exact h
 have HB := Lib.hid (And.intro hb hz)
 go_enter Tryz.func11, Tryz.ntmps11
 go_wp2_with fail
 change Calls _ _ _ (((((w.alloc (.cells #[.pointer none] 24)).alloc (.cells #[.int .i64 vec] 3)).alloc (.cells #[.int .i64 num] 3)).alloc (.cells #[.bool soft] 4)).alloc (.cells #[.int .i64 0, .int .i64 0, .int .u32 0] 42)) _
 rw [← hW]
 clear hb hz hW
 refine (tried_none _ _).mono ?_
 rintro e w2 ⟨rfl, hb⟩
 have h2 : w2.heap[w.heap.size + 1 + 1 + 1 + 1]? = some (.cells #[.int .i64 0, .int .i64 0, .int .u32 0] 42) := by rw [hb.block _ (heap_lt HB.out.2)]; exact HB.out.2
 have HB2 := Lib.hid (HB.out.1.trans (hb.mono HB.out.1.size))
 generalize hg : w.heap.size + 1 + 1 + 1 + 1 = g at *
 have hgl : w.heap.size ≤ g := by omega
 have z0 := cell_at (k := 0) h2
 have z1 := cell_at (k := 1) h2
 have z2 := cell_at (k := 2) h2
 simp at z0 z1 z2
 have zf : ∀ k, w2.frozen? ⟨g, k, none⟩ = false := fun k => free_at h2
 have zl := heap_lt h2
 have HS := Lib.hid (block_sets3 (T := 42) h2 (.int .i64 13) (.int .i64 0) (.int .u32 0))
 clear h2 hb
 go_wp2_with fail
 refine bodyPost_ret (v := badF.val) (fres rfl rfl _ HS.out) rfl ⟨rfl, ?_⟩
 exact ((HB2.out.setCell hgl _).setCell hgl _).setCell hgl _
theorem enter_bare (vec num : Int) (soft : Bool) (w : World) (eb : Nat) (h : w.cell? ⟨eb, 83, none⟩ = some (.pointer none)) (hl : eb < w.heap.size) :
    Calls Tryz.prog 11 #[.pointer (some ⟨eb, 0, none⟩), .int .i64 vec, .int .i64 num, .bool soft] w fun e w' => e = .returned (.agg #[.int .i64 13, .int .i64 0, .int .u32 0]) ∧ Below w.heap.size w w' := by
 have hmf : ∀ (fn : Fn) (first cap : Array Value) (w : World), (Instr.makeFunc fn first cap).run Tryz.prog w = .ok (.func fn first cap) w := fun _ _ _ _ => rfl
 obtain ⟨W, hW⟩ : ∃ W, W = ((((w.alloc (.cells #[.pointer (some ⟨eb, 0, none⟩)] 24)).alloc (.cells #[.int .i64 vec] 3)).alloc (.cells #[.int .i64 num] 3)).alloc (.cells #[.bool soft] 4)).alloc (.cells #[.int .i64 0, .int .i64 0, .int .u32 0] 42) := ⟨_, rfl⟩
 have hb : Below w.heap.size w W := by
  rw [hW]
  exact below_on (below_on (below_on (below_on (below_on (Below.refl _ w) _) _) _) _) _
 have hz : W.heap[w.heap.size + 1 + 1 + 1 + 1]? = some (.cells #[.int .i64 0, .int .i64 0, .int .u32 0] 42) := by
  have h := heap_new ((((w.alloc (.cells #[.pointer (some ⟨eb, 0, none⟩)] 24)).alloc (.cells #[.int .i64 vec] 3)).alloc (.cells #[.int .i64 num] 3)).alloc (.cells #[.bool soft] 4)) (.cells #[.int .i64 0, .int .i64 0, .int .u32 0] 42)
  simp only [World.size_alloc] at h
  rw [hW]
  exact h
 have HC := Lib.hid (show W.cell? ⟨eb, 83, none⟩ = some (.pointer none) ∧ eb < W.heap.size from ⟨by rw [cell_heap (hb.block eb hl)]; exact h, Nat.lt_of_lt_of_le hl hb.size⟩)
 have HB := Lib.hid (And.intro hb hz)
 go_enter Tryz.func11, Tryz.ntmps11
 go_wp2_with fail
 change Calls _ _ _ (((((w.alloc (.cells #[.pointer (some ⟨eb, 0, none⟩)] 24)).alloc (.cells #[.int .i64 vec] 3)).alloc (.cells #[.int .i64 num] 3)).alloc (.cells #[.bool soft] 4)).alloc (.cells #[.int .i64 0, .int .i64 0, .int .u32 0] 42)) _
 rw [← hW]
 clear hb hz hW
 refine (tried_bare _ _ _ HC.out.1 HC.out.2).mono ?_
 rintro e w2 ⟨rfl, hb⟩
 have h2 : w2.heap[w.heap.size + 1 + 1 + 1 + 1]? = some (.cells #[.int .i64 0, .int .i64 0, .int .u32 0] 42) := by rw [hb.block _ (heap_lt HB.out.2)]; exact HB.out.2
 have HB2 := Lib.hid (HB.out.1.trans (hb.mono HB.out.1.size))
 generalize hg : w.heap.size + 1 + 1 + 1 + 1 = g at *
 have hgl : w.heap.size ≤ g := by omega
 have z0 := cell_at (k := 0) h2
 have z1 := cell_at (k := 1) h2
 have z2 := cell_at (k := 2) h2
 simp at z0 z1 z2
 have zf : ∀ k, w2.frozen? ⟨g, k, none⟩ = false := fun k => free_at h2
 have zl := heap_lt h2
 have HS := Lib.hid (block_sets3 (T := 42) h2 (.int .i64 13) (.int .i64 0) (.int .u32 0))
 clear h2 hb
 go_wp2_with fail
 refine bodyPost_ret (v := badF.val) (fres rfl rfl _ HS.out) rfl ⟨rfl, ?_⟩
 exact ((HB2.out.setCell hgl _).setCell hgl _).setCell hgl _
end
end Go.Proofs.YtmpcafdgkbpneaaGreat

/- except: Return's next word. -/
namespace Go.Proofs.YtmpcafdgkbpneaaGreat
open Go.RowKit Go.MapKept
set_option linter.unusedVariables false
set_option linter.unusedSimpArgs false
attribute [local go_sem ↓] Go.wp_at_zero Go.wp_at_succ

def retB (eb be bz : Nat) (sz : Int) : List Ob := [Ob.box be (.cells #[.pointer (some ⟨eb, 0, none⟩)] 24), Ob.box bz (.cells #[.int .i64 sz] 3)]
def retL (eb bc ba at_ : Nat) : List Ob := [Ob.box bc (.cells #[.pointer (some ⟨eb, 0, none⟩)] 78), Ob.box ba (.cells #[.int .u32 (at_ : Nat)] 22)]
section
variable {w W w' w0 : World} {A A0 : Nat → Prop} {os bs loc : List Ob} {eb vb bb be bz bc ba at_ : Nat} {pl : Pl} {n n' N : Nat} {s s1 s' : Es} {sz : Int}
theorem Hp.nextS (T : Hp w0 A0 w (oEn eb vb bb pl n s :: (retB eb be bz sz ++ (retL eb bc ba at_ ++ loc)))) :
    w.cell? ⟨be, 0, none⟩ = some (.pointer (some ⟨eb, 0, none⟩)) ∧ w.cell? ⟨eb, 83, none⟩ = some (.pointer (some ⟨vb, 0, none⟩)) ∧ w.cell? ⟨bc, 0, none⟩ = some (.pointer (some ⟨eb, 0, none⟩)) ∧ w.cell? ⟨ba, 0, none⟩ = some (.int .u32 (at_ : Nat)) ∧ w.cell? ⟨bz, 0, none⟩ = some (.int .i64 sz) :=
 ⟨(T.lone 1 rfl).1, (T.en 0 rfl).1, (T.lone 3 rfl).1, (T.lone 4 rfl).1, (T.lone 2 rfl).1⟩
theorem Hp.lone_set (T : Hp w0 A0 w os) (i : Nat) {b : Nat} {v : Value} {T0 : TypeId} (h : os[i]? = some (Ob.box b (.cells #[v] T0))) (u : Value) : Hp w0 A0 (w.setCell ⟨b, 0, none⟩ u) (os.set i (Ob.box b (.cells #[u] T0))) := T.set i h 0 u
theorem Hp.rot {o : Ob} (T : Hp w0 A0 w (os ++ [o])) : Hp w0 A0 w (o :: os) := by
 obtain ⟨A, a, M⟩ := T
 obtain ⟨B, C, b, c, d, e⟩ := Side.append os [o] a
 exact ⟨A, Side.iff _ (Side.join [o] os c b (fun k h1 h2 => d k h2 h1)) (fun k => (e k).trans or_comm), M⟩
theorem Hp.rotb {o : Ob} (T : Hp w0 A0 w (o :: os)) : Hp w0 A0 w (os ++ [o]) := by
 obtain ⟨A, a, M⟩ := T
 obtain ⟨B, C, b, c, d, e⟩ := Side.append [o] os a
 exact ⟨A, Side.iff _ (Side.join os [o] c b (fun k h1 h2 => d k h2 h1)) (fun k => (e k).trans or_comm), M⟩
theorem Hp.fbox_last {g : Nat} {f : FaultS} (T : Hp w0 A0 w (os ++ [fBox g f])) : w.cell? ⟨g, 0, none⟩ = some (.int .i64 f.vec) ∧ w.cell? ⟨g, 1, none⟩ = some (.int .i64 f.cd) ∧ w.cell? ⟨g, 2, none⟩ = some (.int .u32 (f.cr2 : Nat)) ∧ (∀ k, w.frozen? ⟨g, k, none⟩ = false) ∧ g < w.heap.size := T.rot.fbox (f := f) (g := g) 0 rfl
theorem Hp.fset_last {g : Nat} {f : FaultS} (T : Hp w0 A0 w (os ++ [fBox g f])) (f' : FaultS) : Hp w0 A0 (sets3 w g (.int .i64 f'.vec) (.int .i64 f'.cd) (.int .u32 (f'.cr2 : Nat))) (os ++ [fBox g f']) := (T.rot.fset 0 rfl f').rotb
theorem next_x (T : Hp w0 A0 w (oEn eb vb bb pl n s :: (retB eb be bz sz ++ (retL eb bc ba at_ ++ loc)))) (ha : at_ < 4294967296) (hs : sz = 2 ∨ sz = 4) (hn : (n + 2) * 12 ≤ 140737488355328) :
    Calls Tryz.prog 48 #[.pointer (some ⟨be, 0, none⟩), .pointer (some ⟨bc, 0, none⟩), .pointer (some ⟨ba, 0, none⟩), .pointer (some ⟨bz, 0, none⟩)] w fun e w' =>
     (∀ v s1, loadE 2 at_ sz s = (.ok v, s1) → e = .returned (.int .u32 (v : Nat)) ∧ Hp w0 A0 w' (oEn eb vb bb pl (n + 2) s1 :: (retB eb be bz sz ++ (retL eb bc ba ((at_ + sz.toNat) % 4294967296) ++ loc)))) ∧
     (∀ f s1, loadE 2 at_ sz s = (.error f, s1) → e = .panicked [{ v := .iface 141 (.agg #[.int .i64 f.vec, .int .i64 f.cd, .int .u32 (f.cr2 : Nat)]), recovered := false }] ∧ Hp w0 A0 w' (oEn eb vb bb pl (n + 2) s1 :: (retB eb be bz sz ++ (retL eb bc ba at_ ++ loc)))) := by
 obtain ⟨⟨⟨v, f⟩, R'⟩, hr⟩ : ∃ r, ld s.R s.C 2 at_ sz = r := ⟨_, rfl⟩
 have c : Acts 49 #[.pointer (some ⟨vb, 0, none⟩), .pointer (some ⟨eb, 0, none⟩), .int .i64 2, .int .u32 (at_ : Nat), .int .i64 sz] (oEn eb vb bb pl n s) (.tuple #[.int .u32 (v : Nat), .agg #[.int .i64 f.vec, .int .i64 f.cd, .int .u32 (f.cr2 : Nat)]]) (oEn eb vb bb pl (n + 2) ⟨s.C, R'⟩) := by
  have := oEn_load (eb := eb) (vb := vb) (bb := bb) (pl := pl) (n := n) (s := s) 2 at_ ha sz hn
  rw [hr] at this
  exact this
 have hE : loadE 2 at_ sz s = if 0 ≤ f.vec then (.error f, ⟨s.C, R'⟩) else (.ok v, ⟨s.C, R'⟩) := by unfold loadE toldE; rw [hr]
 have HC := Lib.hid c
 have HE := Lib.hid hE
 have HS := Lib.hid hs
 have HT := Lib.hid T
 obtain ⟨q, hq⟩ : ∃ q, q = (at_ + sz.toNat) % 4294967296 := ⟨_, rfl⟩
 rw [← hq]
 have HQ := Lib.hid (show ((at_ : Int) + sz) % 4294967296 = (q : Int) by omega)
 clear T hn c hr hE hs hq
 go_enter Tryz.func48, Tryz.ntmps48
 have kl := (HT.out.en 0 rfl).2.2
 go_upto_region 1 with (fail)
 have TA := Lib.hid HT.out.drew
 have TB := Lib.hid (show Hp w0 A0 (w.alloc (.cells #[.int .i64 0, .int .i64 0, .int .u32 0] 42)).drew (oEn eb vb bb pl n s :: (retB eb be bz sz ++ (retL eb bc ba at_ ++ (loc ++ [fBox w.heap.size ⟨0, 0, 0⟩])))) from (HT.out.make (.cells #[.int .i64 0, .int .i64 0, .int .u32 0] 42)).drew)
 have k0 := HT.out.nextS
 go_region_held3 (fun w' => w'.cell? ⟨be, 0, none⟩ = some (.pointer (some ⟨eb, 0, none⟩)) ∧ w'.cell? ⟨eb, 83, none⟩ = some (.pointer (some ⟨vb, 0, none⟩)) ∧ w'.cell? ⟨bc, 0, none⟩ = some (.pointer (some ⟨eb, 0, none⟩)) ∧ w'.cell? ⟨ba, 0, none⟩ = some (.int .u32 (at_ : Nat)) ∧ w'.cell? ⟨bz, 0, none⟩ = some (.int .i64 sz))
  (first | (with_reducible exact k4) | (with_reducible exact k5) | (with_reducible exact k3) | (with_reducible exact TA.out.nextS) | (with_reducible exact TB.out.nextS) | exact k4)
  (first
  | (go_at_call 49; (with_reducible refine (TA.out.act 0 rfl HC.out).mono ?_); rintro e w3 ⟨rfl, T3⟩; have T3 : Hp w0 A0 w3 (oEn eb vb bb pl (n + 2) ⟨s.C, R'⟩ :: (retB eb be bz sz ++ (retL eb bc ba at_ ++ (loc)))) := T3; have k3 := T3.nextS; have T4 : Hp w0 A0 (w3.alloc (.cells #[.int .i64 f.vec, .int .i64 f.cd, .int .u32 (f.cr2 : Nat)] 42)) (oEn eb vb bb pl (n + 2) ⟨s.C, R'⟩ :: (retB eb be bz sz ++ (retL eb bc ba at_ ++ (loc ++ [fBox w3.heap.size f])))) := T3.make _; have k4 := T4.nextS; have k5 := (show Hp w0 A0 (w3.alloc (.cells #[.int .i64 0, .int .i64 0, .int .u32 0] 42)) (oEn eb vb bb pl (n + 2) ⟨s.C, R'⟩ :: (retB eb be bz sz ++ (retL eb bc ba at_ ++ (loc ++ [fBox w3.heap.size ⟨0, 0, 0⟩])))) from T3.make _).nextS)
  | (go_at_call 49; (with_reducible refine (TB.out.act 0 rfl HC.out).mono ?_); rintro e w3 ⟨rfl, T3⟩; have T3 : Hp w0 A0 w3 (oEn eb vb bb pl (n + 2) ⟨s.C, R'⟩ :: (retB eb be bz sz ++ (retL eb bc ba at_ ++ (loc ++ [fBox w.heap.size ⟨0, 0, 0⟩])))) := T3; have k3 := T3.nextS; obtain ⟨z0, z1, z2, zf, zl⟩ := Hp.fbox_last (os := oEn eb vb bb pl (n + 2) ⟨s.C, R'⟩ :: (retB eb be bz sz ++ (retL eb bc ba at_ ++ loc))) T3; have T4 : Hp w0 A0 (sets3 w3 w.heap.size (.int .i64 f.vec) (.int .i64 f.cd) (.int .u32 (f.cr2 : Nat))) (oEn eb vb bb pl (n + 2) ⟨s.C, R'⟩ :: (retB eb be bz sz ++ (retL eb bc ba at_ ++ (loc ++ [fBox w.heap.size f])))) := Hp.fset_last (os := oEn eb vb bb pl (n + 2) ⟨s.C, R'⟩ :: (retB eb be bz sz ++ (retL eb bc ba at_ ++ loc))) T3 f; have k4 := T4.nextS))
 all_goals
  try (change Exit.then _ _ _ _ (sets3 w3 w.heap.size (.int .i64 f.vec) (.int .i64 f.cd) (.int .u32 (f.cr2 : Nat))))
  first
  | have HT4 := Lib.hid (show Hp w0 A0 (w3.alloc (.cells #[.int .i64 f.vec, .int .i64 f.cd, .int .u32 (f.cr2 : Nat)] 42)) ((oEn eb vb bb pl (n + 2) ⟨s.C, R'⟩ :: (retB eb be bz sz ++ (retL eb bc ba at_ ++ loc))) ++ [fBox w3.heap.size f]) from T4)
  | have HT4 := Lib.hid (show Hp w0 A0 (sets3 w3 w.heap.size (.int .i64 f.vec) (.int .i64 f.cd) (.int .u32 (f.cr2 : Nat))) ((oEn eb vb bb pl (n + 2) ⟨s.C, R'⟩ :: (retB eb be bz sz ++ (retL eb bc ba at_ ++ loc))) ++ [fBox w.heap.size f]) from T4)
  try clear z0 z1 z2 zf zl
  have zz := Hp.fbox_last HT4.out
  clear T3 T4 k3 k4 k0 TA TB HT HC
  try clear k5
  obtain ⟨z0, z1, z2, zf, zl⟩ := zz
  by_cases hv : 0 ≤ f.vec
  ·have HV := Lib.hid (show loadE 2 at_ sz s = (.error f, ⟨s.C, R'⟩) by rw [HE.out, if_pos hv])
   go_wp2_with fail
   refine (pass_not f hv _).mono ?_
   rintro e w5 ⟨he, hb⟩
   unfold gaveX faultX at he
   subst he
   go_wp2_with fail
   refine ⟨rfl, fun v1 s1 h => (by rw [HV.out] at h; cases h), fun f1 s1 h => ?_⟩
   rw [HV.out] at h
   obtain ⟨h1, rfl⟩ := Prod.mk.inj h
   cases h1
   exact ⟨rfl, Hp.left (HT4.out.grow hb)⟩
  ·have HV := Lib.hid (show loadE 2 at_ sz s = (.ok v, ⟨s.C, R'⟩) by rw [HE.out, if_neg hv])
   go_wp2_with fail
   refine (pass_yes f (by omega) _).mono ?_
   rintro e w5 ⟨rfl, hb⟩
   have HT5 := Lib.hid (Hp.left (HT4.out.grow hb))
   clear z0 z1 z2 zf zl hb HT4 hv HE
   obtain ⟨-, -, -, k3, k4⟩ := HT5.out.nextS
   obtain ⟨-, kf, kl⟩ := HT5.out.lone 4 rfl
   have hs0 : 0 ≤ sz := by have := HS.out; omega
   have hs1 : sz ≤ 4 := by have := HS.out; omega
   have HT6 := Lib.hid (show Hp w0 A0 (w5.setCell ⟨ba, 0, none⟩ (.int .u32 (q : Nat))) (oEn eb vb bb pl (n + 2) ⟨s.C, R'⟩ :: (retB eb be bz sz ++ (retL eb bc ba q ++ loc))) from HT5.out.lone_set 4 rfl (.int .u32 (q : Nat)))
   clear HT5
   have hq := HQ.out
   go_wp2_with fail
   go_ret
   refine ⟨fun v1 s1 h => ?_, fun f1 s1 h => (by rw [HV.out] at h; cases h)⟩
   rw [HV.out] at h
   obtain ⟨h1, rfl⟩ := Prod.mk.inj h
   cases h1
   exact ⟨rfl, HT6.out⟩
end
end Go.Proofs.YtmpcafdgkbpneaaGreat

