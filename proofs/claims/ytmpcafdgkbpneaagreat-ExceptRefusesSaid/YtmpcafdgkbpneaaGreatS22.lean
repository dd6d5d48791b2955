/- Steps of a proof: ExT, ExU, together. -/
import Derived.Test.YtmpcafdgkbpneaaGreatS21
/- except: Return's inner function: the flags. -/
open List renaming getElem_toArray → lz0, getElem_cons_zero → lz1, getElem_cons_succ → lz2, setIfInBounds_toArray → lz3, set_cons_zero → lz4, set_cons_succ → lz5
set_option maxHeartbeats 4000000
set_option maxRecDepth 20000
namespace Go.Proofs.YtmpcafdgkbpneaaGreat
open Go.RowKit Go.MapKept
set_option linter.unusedVariables false
set_option linter.unusedSimpArgs false
attribute [local go_sem ↓] Go.wp_at_zero Go.wp_at_succ

section
variable {w W w' w0 : World} {A A0 : Nat → Prop} {os bs loc : List Ob} {eb vb bb be bz bc ba at_ gd gs : Nat} {pl : Pl} {n n' N : Nat} {s s1 s' : Es} {sz : Int} {r : Except FaultS Unit × Es} {rn : Nat} {d ss : SegR}
theorem pop_bits (f v m : Nat) (hf : f < 4294967296) (hv : v < 4294967296) (hm : m < 4294967296) :
    bits .or .u32 (bits .or .u32 (bits .andNot .u32 (f : Int) (m : Int)) (bits .and .u32 (v : Int) (m : Int))) 2 = (((f &&& (4294967295 - m)) ||| (v &&& m) ||| 2 : Nat) : Int) ∧ (f &&& (4294967295 - m)) ||| (v &&& m) ||| 2 < 4294967296 := by
 have h1 : f &&& (4294967295 - m) < 2 ^ 32 := Nat.lt_of_le_of_lt Nat.and_le_left hf
 have h2 : v &&& m < 2 ^ 32 := Nat.lt_of_le_of_lt Nat.and_le_left hv
 have h3 : (f &&& (4294967295 - m)) ||| (v &&& m) < 2 ^ 32 := Nat.or_lt_two_pow h1 h2
 have h4 : (f &&& (4294967295 - m)) ||| (v &&& m) ||| 2 < 2 ^ 32 := Nat.or_lt_two_pow h3 (by decide)
 refine ⟨?_, h4⟩
 rw [u32_andNot_nat f m hf hm, u32_and_nat v m hv hm, u32_or_nat _ _ h1 h2, show (2 : Int) = ((2 : Nat) : Int) from rfl, u32_or_nat _ 2 h3 (by decide)]
def flagC (C : CpuS) (d : SegR) (sel place F : Nat) : CpuS := segdC { C with flags := F } d sel place
theorem ret_29 {sp k ring place sel fl m : Nat} (T : Hp w A W (oEn eb vb bb pl n s1 :: (retB eb be bz sz ++ (retL eb bc ba at_ ++ [Ob.box gd (descO d), Ob.box gs (segO ss)])))) (h : RetOk N n sz k sp at_ d ss) (hp : place < 4294967296) (hs : sel < 65536) (hfl : fl < 4294967296) (hm : m < 4294967296) (hr : r = (.ok (), ⟨lastC (flagC s1.C d sel place ((s1.C.flags &&& (4294967295 - m)) ||| (fl &&& m) ||| 2)) ring k rn sp at_ ss, s1.R⟩)) {z4 z5 r0 r1 q9 r2 u18 u19 u20 u21 u22 r3 r4 r5 r6 r8 r9 s0 s2 s3 r7 s4 s5 s6 s7 s8 s9 t0 t1 t2 t3 t4 t5 t6 t7 t8 t9 u0 u2 u3 u5 u6 u7 u8 u9 v0 v1 v2 v3 v4 v5 v6 v7 v8 v9 w0 w2 w3 w4 w5 w6 w7 w8 w9 x0 x1 x2 x3 x4 x5 x6 x7 x8 x9 y0 y1 y2 y3 y4 y5 y6 y7 y8 y9 z0 z1 z2 z3 a0 a1 a2 a3 a4 a5 a6 a7 a8 a9 b0 b1 b2 b3 b4 b5 b6 b7 b8 b9 c1 c2 c3 c4 c5 c6 c7 c8 c9 d0 d1 d2 d3 d4 d5 d6 d7 d8 d9 e0 e3 e4 e5 e6 e7 e8 e9 f0 f1 f2 f3 f4 f5 f6 f7 f8 f9 g0 g1 g2 g3 g4 g5 g6 g7 g8 g9 h0 h1 h2 h3 h4 h5 h6 h7 h8 h9 i0 i1 i2 i3 i4 i5 i6 i7 i8 i9 j0 j1 j2 j3 j4 j5 j6 j7 j8 j9 k0 k1 k2 k3 k4 k5 k6 k7 l0 l1 l2 l3 l4 l5 l6 l7 l8 l9 m0 m1 m2 m3 m4 m5 m6 m7 m8 m9 n0 n1 n2 n3 n4 n5 n6 n7 n8 n9 o0 o1 o2 o3 o4 o5 o6 o7 o8 o9 p0 p1 p2 p3 p4 p5 p6 p7 p8 p9 q0 q1 q2 q3 q4 q5 q6 q7 q8 : Value} {K29 : Act → World → Prop} (hK29 : ∀ a w1, Code.wp Tryz.prog (tl Tryz.f47 29) (bodyPost Tryz.prog Tryz.f47 (EnEnd w A eb vb bb pl N (retB eb be bz sz) r)) a w1 → K29 a w1) :
    Code.wp Tryz.prog (rg Tryz.f47 29) (Exit.then K29 (bodyPost Tryz.prog Tryz.f47 (EnEnd w A eb vb bb pl N (retB eb be bz sz) r))) ⟨#[.pointer (some ⟨bz, 0, none⟩), z4, .pointer (some ⟨bc, 0, none⟩), .pointer (some ⟨ba, 0, none⟩), z5, .int .u32 (place : Nat), .int .u16 (sel : Nat), .int .u32 (fl : Nat), .int .i64 (ring : Nat), .int .i64 (rn : Nat), .pointer (some ⟨gd, 0, none⟩), .pointer (some ⟨gs, 0, none⟩), .int .u32 (sp : Nat), .int .u32 (m : Nat), r0, r1, q9, r2, u18, u19, u20, u21, u22, r3, r4, r5, r6, r8, r9, s0, s2, s3, r7, s4, s5, s6, s7, s8, s9, t0, t1, t2, t3, t4, t5, t6, t7, t8, t9, u0, u2, u3, u5, u6, u7, u8, u9, v0, v1, v2, v3, v4, v5, v6, v7, v8, v9, w0, w2, w3, w4, w5, w6, w7, w8, w9, x0, x1, x2, x3, x4, x5, x6, x7, x8, x9, y0, y1, y2, y3, y4, y5, y6, y7, y8, y9, z0, z1, z2, z3, a0, a1, a2, a3, a4, a5, a6, a7, a8, a9, b0, b1, b2, b3, b4, b5, b6, b7, b8, b9, c1, c2, c3, c4, c5, c6, c7, c8, c9, d0, d1, d2, d3, d4, d5, d6, d7, d8, d9, e0, e3, e4, e5, e6, e7, e8, e9, f0, f1, f2, f3, f4, f5, f6, f7, f8, f9, g0, g1, g2, g3, g4, g5, g6, g7, g8, g9, h0, h1, h2, h3, h4, h5, h6, h7, h8, h9, i0, i1, i2, i3, i4, i5, i6, i7, i8, i9, j0, j1, j2, j3, j4, j5, j6, j7, j8, j9, k0, k1, k2, k3, k4, k5, k6, k7, l0, l1, l2, l3, l4, l5, l6, l7, l8, l9, m0, m1, m2, m3, m4, m5, m6, m7, m8, m9, n0, n1, n2, n3, n4, n5, n6, n7, n8, n9, o0, o1, o2, o3, o4, o5, o6, o7, o8, o9, p0, p1, p2, p3, p4, p5, p6, p7, p8, p9, q0, q1, q2, q3, q4, q5, q6, q7, q8], []⟩ W := by
 have HO := Lib.hid h
 have HP := Lib.hid (And.intro hp hs)
 obtain ⟨e1, e2⟩ := pop_bits s1.C.flags fl m (T.cpu 0 rfl).1.flags hfl hm
 obtain ⟨q, hq⟩ : ∃ q, q = (s1.C.flags &&& (4294967295 - m)) ||| (fl &&& m) ||| 2 := ⟨_, rfl⟩
 rw [← hq] at e1 e2 hr
 have HR := Lib.hid (show r = (.ok (), ⟨lastC (segdC (⟨{ s1.C with flags := q }, s1.R⟩ : Es).C d sel place) ring k rn sp at_ ss, s1.R⟩) from hr)
 have HT := Lib.hid (show Hp w A ((W.setCell ⟨eb, 9, none⟩ (.int .u32 (q : Nat)))).drew (oEn eb vb bb pl n ⟨{ s1.C with flags := q }, s1.R⟩ :: (retB eb be bz sz ++ (retL eb bc ba at_ ++ [Ob.box gd (descO d), Ob.box gs (segO ss)]))) from (T.setFlags 0 rfl q e2).drew)
 obtain ⟨c0, cf, cl⟩ := T.lone 3 rfl
 obtain ⟨k8, k9, k80, k81, kf, kl⟩ := (T.cpu 0 rfl).ends
 clear T h hp hr hq hfl hs e2
 conv => arg 2; whnf
 conv at hK29 => enter [a, w1, 1, 2]; whnf
 go_region
 all_goals
  try rw [e1]
  change Exit.then _ _ _ _ (W.setCell ⟨eb, 9, none⟩ (.int .u32 (q : Nat))).drew
  clear k8 k9 k80 k81 kf kl c0 cf cl e1
  generalize (W.setCell ⟨eb, 9, none⟩ (.int .u32 (q : Nat))).drew = W3 at *
  go_upto_region 30 with (fail)
  exact ret_30 HT.out HO.out HP.out.1 HP.out.2 HR.out (by assumption)
theorem iopl_bits (f : Nat) (hf : f < 4294967296) : bits .and .u32 (f : Int) 12288 = ((f / 4096 % 4 * 4096 : Nat) : Int) := by
 have e := u32_and_nat f 12288 hf (by decide)
 have g := nat_field f 12 2
 rw [show (2 ^ 2 - 1) * 2 ^ 12 = 12288 by decide] at g
 rw [show (12288 : Int) = ((12288 : Nat) : Int) from rfl, e, g]
theorem mask_a : bits .or .u32 19925 512 = 20437 := by kernel_rfl
theorem mask_b : bits .or .u32 19925 12288 = 32213 := by kernel_rfl
theorem mask_c : bits .or .u32 20437 12288 = 32725 := by kernel_rfl
theorem ret_24 {sp k place sel fl : Nat} (T : Hp w A W (oEn eb vb bb pl n s1 :: (retB eb be bz sz ++ (retL eb bc ba at_ ++ [Ob.box gd (descO d), Ob.box gs (segO ss)])))) (h : RetOk N n sz k sp at_ d ss) (hp : place < 4294967296) (hs : sel < 65536) (hfl : fl < 4294967296) (hr : r = (.ok (), ⟨lastC (s1.C.left k place sel fl d) s1.C.ring k rn sp at_ ss, s1.R⟩)) {z8 z9 r3 r4 r5 r2 r6 u18 u19 u20 u21 u22 r7 r8 r9 s0 s3 s4 s5 s6 s7 s2 s8 s9 t0 t1 t2 t3 t4 t5 t6 t7 t8 t9 u0 u2 u3 u5 u6 u7 u8 u9 v0 v1 v2 v3 v4 v5 v6 v7 v8 v9 w0 w2 w3 w4 w5 w6 w7 w8 w9 x0 x1 x2 x3 x4 x5 x6 x7 x8 x9 y0 y1 y2 y3 y4 y5 y6 y7 y8 y9 z0 z1 z2 z3 z4 z5 z6 z7 a0 a1 a2 a3 a4 a5 a6 a7 a8 a9 b0 b1 b2 b3 b4 b5 b6 b7 b8 b9 c1 c2 c3 c4 c5 c6 c7 c8 c9 d0 d1 d2 d3 d4 d5 d6 d7 d8 d9 e0 e4 e5 e6 e7 e8 e9 f0 f1 f2 f3 f4 f5 f6 f7 f8 f9 g0 g1 g2 g3 g4 g5 g6 g7 g8 g9 h0 h3 h4 h5 h6 h7 h8 h9 i0 i1 i2 i3 i4 i5 i6 i7 i8 i9 j0 j1 j2 j3 j4 j5 j6 j7 j8 j9 k0 k1 k2 k3 k4 k5 k6 k7 l0 l1 l2 l3 l4 l5 l6 l7 l8 l9 m0 m1 m2 m3 m4 m5 m6 m7 m8 m9 n0 n1 n2 n3 n4 n5 n6 n7 n8 n9 o0 o1 o2 o3 o4 o5 o6 o7 o8 o9 p0 p1 p2 p3 p4 p5 p6 p7 p8 p9 q0 q1 q2 q3 q4 q5 q6 q7 q8 q9 r0 r1 : Value} {K24 : Act → World → Prop} (hK24 : ∀ a w1, Code.wp Tryz.prog (tl Tryz.f47 24) (bodyPost Tryz.prog Tryz.f47 (EnEnd w A eb vb bb pl N (retB eb be bz sz) r)) a w1 → K24 a w1) :
    Code.wp Tryz.prog (rg Tryz.f47 24) (Exit.then K24 (bodyPost Tryz.prog Tryz.f47 (EnEnd w A eb vb bb pl N (retB eb be bz sz) r))) ⟨#[.pointer (some ⟨bz, 0, none⟩), z8, .pointer (some ⟨bc, 0, none⟩), .pointer (some ⟨ba, 0, none⟩), z9, .int .u32 (place : Nat), .int .u16 (sel : Nat), .int .u32 (fl : Nat), .int .i64 (s1.C.ring : Nat), .int .i64 (rn : Nat), .pointer (some ⟨gd, 0, none⟩), .pointer (some ⟨gs, 0, none⟩), .int .u32 (sp : Nat), r3, r4, r5, r2, r6, u18, u19, u20, u21, u22, r7, r8, r9, s0, s3, s4, s5, s6, s7, s2, s8, s9, t0, t1, t2, t3, t4, t5, t6, t7, t8, t9, u0, u2, u3, u5, u6, u7, u8, u9, v0, v1, v2, v3, v4, v5, v6, v7, v8, v9, w0, w2, w3, w4, w5, w6, w7, w8, w9, x0, x1, x2, x3, x4, x5, x6, x7, x8, x9, y0, y1, y2, y3, y4, y5, y6, y7, y8, y9, z0, z1, z2, z3, z4, z5, z6, z7, a0, a1, a2, a3, a4, a5, a6, a7, a8, a9, b0, b1, b2, b3, b4, b5, b6, b7, b8, b9, c1, c2, c3, c4, c5, c6, c7, c8, c9, d0, d1, d2, d3, d4, d5, d6, d7, d8, d9, e0, e4, e5, e6, e7, e8, e9, f0, f1, f2, f3, f4, f5, f6, f7, f8, f9, g0, g1, g2, g3, g4, g5, g6, g7, g8, g9, h0, h3, h4, h5, h6, h7, h8, h9, i0, i1, i2, i3, i4, i5, i6, i7, i8, i9, j0, j1, j2, j3, j4, j5, j6, j7, j8, j9, k0, k1, k2, k3, k4, k5, k6, k7, l0, l1, l2, l3, l4, l5, l6, l7, l8, l9, m0, m1, m2, m3, m4, m5, m6, m7, m8, m9, n0, n1, n2, n3, n4, n5, n6, n7, n8, n9, o0, o1, o2, o3, o4, o5, o6, o7, o8, o9, p0, p1, p2, p3, p4, p5, p6, p7, p8, p9, q0, q1, q2, q3, q4, q5, q6, q7, q8, q9, r0, r1], []⟩ W := by
 have HO := Lib.hid h
 have HP := Lib.hid (And.intro hp (And.intro hs hfl))
 have HT := Lib.hid T
 have hf := (T.cpu 0 rfl).1.flags
 have e1 := iopl_bits s1.C.flags hf
 obtain ⟨c0, cf, cl⟩ := T.lone 3 rfl
 obtain ⟨k8, k9, k80, k81, kf, kl⟩ := (T.cpu 0 rfl).ends
 obtain ⟨q, hq⟩ : ∃ q, q = s1.C.flags / 4096 % 4 := ⟨_, rfl⟩
 obtain ⟨R, hR⟩ : ∃ R, R = s1.C.ring := ⟨_, rfl⟩
 have hfin : ∀ m, m = 19925 + (if R ≤ q then 512 else 0) + (if R = 0 then 12288 else 0) → r = (.ok (), ⟨lastC (flagC s1.C d sel place ((s1.C.flags &&& (4294967295 - m)) ||| (fl &&& m) ||| 2)) R k rn sp at_ ss, s1.R⟩) := fun m hm => by
  rw [hR, hq] at hm
  rw [hr, hR, hm]
  rfl
 rw [← hq] at e1
 rw [← hR]
 have hq4 : q < 4 := by omega
 have hR4 : R < 4 := by rw [hR]; exact Nat.mod_lt _ (by decide)
 have e2 : (((q * 4096 : Nat) : Nat) : Int) / 4096 = ((q : Nat) : Int) := by omega
 have e3 : wrap64 ((q : Nat) : Int) = ((q : Nat) : Int) := IntWalk.wrap64_in _ (by omega)
 have HF := Lib.hid hfin
 have ma := mask_a
 have mb := mask_b
 have mc := mask_c
 clear T h hp hr hs hfl hq hR hf hfin
 conv => arg 2; whnf
 conv at hK24 => enter [a, w1, 1, 2]; whnf
 by_cases h1 : R ≤ q
 ·by_cases h2 : R = 0
  ·have hb2 : ((R : Int) == 0) = true := by rw [h2]; rfl
   have HR := Lib.hid (HF.out 32725 (by rw [if_pos h1, if_pos h2]))
   clear HF h2
   go_upto_region 29 with (fail)
   exact ret_29 (m := 32725) HT.out HO.out HP.out.1 HP.out.2.1 HP.out.2.2 (by decide) HR.out (by assumption)
  ·have hb2 : ((R : Int) == 0) = false := by rw [beq_eq_false_iff_ne]; omega
   have HR := Lib.hid (HF.out 20437 (by rw [if_pos h1, if_neg h2]))
   clear HF h2
   go_upto_region 29 with (fail)
   exact ret_29 (m := 20437) HT.out HO.out HP.out.1 HP.out.2.1 HP.out.2.2 (by decide) HR.out (by assumption)
 ·by_cases h2 : R = 0
  ·exact absurd h2 (by omega)
  ·have hb2 : ((R : Int) == 0) = false := by rw [beq_eq_false_iff_ne]; omega
   have HR := Lib.hid (HF.out 19925 (by rw [if_neg h1, if_neg h2]))
   clear HF h2
   go_upto_region 29 with (fail)
   exact ret_29 (m := 19925) HT.out HO.out HP.out.1 HP.out.2.1 HP.out.2.2 (by decide) HR.out (by assumption)
theorem ret_23 {sp k place sel fl : Nat} (T : Hp w A W (oEn eb vb bb pl n s1 :: (retB eb be bz sz ++ (retL eb bc ba at_ ++ [Ob.box gd (descO d), Ob.box gs (segO ss)])))) (h : RetOk N n sz k sp at_ d ss) (hp : place < 4294967296) (hs : sel < 65536) (hfl : fl < 4294967296) (hr : r = ((needE (decide (place ≤ d.lim)) 13 0).then fun _ => Ex.upd fun t => ⟨lastC (s1.C.left k place sel fl d) s1.C.ring k rn sp at_ ss, t.R⟩) s1) {z8 z9 q5 q6 q7 q4 q8 u18 u19 u20 u21 u22 q9 r0 r1 r2 r4 r5 r6 r7 r8 r3 r9 s0 s2 s3 s4 s5 s6 s7 s8 s9 t0 t1 t2 t3 t4 t5 t6 t7 t8 t9 u0 u2 u3 u5 u6 u7 u8 u9 v0 v1 v2 v3 v4 v5 v6 v7 v8 v9 w0 w3 w4 w5 w6 w7 w8 w9 x0 x1 x2 x3 x4 x5 x6 x7 x8 x9 y0 y1 y2 y3 y4 y5 y6 y7 y8 y9 z7 a0 a1 a2 a3 a4 a5 a6 a7 a8 a9 b0 b1 b2 b3 b4 b5 b6 b7 b8 b9 c0 c1 c2 c3 c4 c5 c6 c7 c8 c9 d0 d1 d2 d3 d4 d5 d6 d7 d8 d9 e0 e1 e2 e3 e4 e5 e6 e7 e8 e9 f0 f1 f2 f3 f4 f5 f6 f7 f8 f9 g0 g1 g2 g3 g4 g5 g6 g7 g8 g9 h0 h1 h2 h3 h4 h5 h6 h7 h8 h9 i0 i1 i2 i3 i4 i5 i6 i7 i8 i9 j0 j1 j2 j3 j4 j5 j6 j7 j8 j9 k0 k1 k2 k3 k4 k5 k6 k7 k8 k9 l0 l1 l2 l3 l4 l5 l6 l7 l8 l9 m0 m1 m2 m3 m4 m5 m6 m7 m8 m9 n0 n1 n2 n3 n4 n5 n6 n7 n8 n9 o0 o1 o2 o3 o4 o5 o6 o7 o8 o9 p0 p1 p2 p3 p4 p5 p6 p7 p8 p9 q0 q1 q2 q3 : Value} {K23 : Act → World → Prop} (hK23 : ∀ a w1, Code.wp Tryz.prog (tl Tryz.f47 23) (bodyPost Tryz.prog Tryz.f47 (EnEnd w A eb vb bb pl N (retB eb be bz sz) r)) a w1 → K23 a w1) :
    Code.wp Tryz.prog (rg Tryz.f47 23) (Exit.then K23 (bodyPost Tryz.prog Tryz.f47 (EnEnd w A eb vb bb pl N (retB eb be bz sz) r))) ⟨#[.pointer (some ⟨bz, 0, none⟩), z8, .pointer (some ⟨bc, 0, none⟩), .pointer (some ⟨ba, 0, none⟩), z9, .int .u32 (place : Nat), .int .u16 (sel : Nat), .int .u32 (fl : Nat), .int .i64 (s1.C.ring : Nat), .int .i64 (rn : Nat), .pointer (some ⟨gd, 0, none⟩), .pointer (some ⟨gs, 0, none⟩), .int .u32 (sp : Nat), q5, q6, q7, q4, q8, u18, u19, u20, u21, u22, q9, r0, r1, r2, r4, r5, r6, r7, r8, r3, r9, s0, s2, s3, s4, s5, s6, s7, s8, s9, t0, t1, t2, t3, t4, t5, t6, t7, t8, t9, u0, u2, u3, u5, u6, u7, u8, u9, v0, v1, v2, v3, v4, v5, v6, v7, v8, v9, w0, w3, w4, w5, w6, w7, w8, w9, x0, x1, x2, x3, x4, x5, x6, x7, x8, x9, y0, y1, y2, y3, y4, y5, y6, y7, y8, y9, z7, a0, a1, a2, a3, a4, a5, a6, a7, a8, a9, b0, b1, b2, b3, b4, b5, b6, b7, b8, b9, c0, c1, c2, c3, c4, c5, c6, c7, c8, c9, d0, d1, d2, d3, d4, d5, d6, d7, d8, d9, e0, e1, e2, e3, e4, e5, e6, e7, e8, e9, f0, f1, f2, f3, f4, f5, f6, f7, f8, f9, g0, g1, g2, g3, g4, g5, g6, g7, g8, g9, h0, h1, h2, h3, h4, h5, h6, h7, h8, h9, i0, i1, i2, i3, i4, i5, i6, i7, i8, i9, j0, j1, j2, j3, j4, j5, j6, j7, j8, j9, k0, k1, k2, k3, k4, k5, k6, k7, k8, k9, l0, l1, l2, l3, l4, l5, l6, l7, l8, l9, m0, m1, m2, m3, m4, m5, m6, m7, m8, m9, n0, n1, n2, n3, n4, n5, n6, n7, n8, n9, o0, o1, o2, o3, o4, o5, o6, o7, o8, o9, p0, p1, p2, p3, p4, p5, p6, p7, p8, p9, q0, q1, q2, q3], []⟩ W := by
 have HO := Lib.hid h
 have HP := Lib.hid (And.intro hp (And.intro hs hfl))
 have HT := Lib.hid T
 have HR := Lib.hid hr
 obtain ⟨z0, z1, z2, z3, z4, z5, z6, zf, zl⟩ := T.dbox 5 rfl
 clear T h hp hr hs hfl
 conv => arg 2; whnf
 conv at hK23 => enter [a, w1, 1, 2]; whnf
 go_wp2_with fail
 refine (need_d _ _ _ _).mono ?_
 rintro e w2 ⟨rfl, ⟨hb, rfl⟩ | ⟨hb, rfl⟩⟩
 ·have HR2 := Lib.hid (show r = (.ok (), ⟨lastC (s1.C.left k place sel fl d) s1.C.ring k rn sp at_ ss, s1.R⟩) from HR.out.trans (Ex.then_ok (need_ok (by rw [decide_eq_true_eq] at hb ⊢; omega) _ _ _)))
  clear hb HR z0 z1 z2 z3 z4 z5 z6 zf zl
  go_upto_region 24 with (fail)
  exact ret_24 HT.out HO.out HP.out.1 HP.out.2.1 HP.out.2.2 HR2.out (by assumption)
 ·have HR2 := Lib.hid (show r = (.error ⟨13, 0, 0⟩, s1) from HR.out.trans (Ex.then_no (need_no (by rw [decide_eq_false_iff_not] at hb ⊢; omega) _ _ _)))
  clear hb
  go_wp2_with fail
  exact ⟨rfl, env_no (loc := retL eb bc ba at_ ++ [Ob.box gd (descO d), Ob.box gs (segO ss)]) HT.out HO.out.hn HR2.out⟩
end
end Go.Proofs.YtmpcafdgkbpneaaGreat

/- except: Return's inner function: the outer ring's stack segment. -/
namespace Go.Proofs.YtmpcafdgkbpneaaGreat
open Go.RowKit Go.MapKept
set_option linter.unusedVariables false
set_option linter.unusedSimpArgs false
attribute [local go_sem ↓] Go.wp_at_zero Go.wp_at_succ

section
variable {w W w' w0 : World} {A A0 : Nat → Prop} {os bs loc : List Ob} {eb vb bb be bz bc ba at_ gd gs : Nat} {pl : Pl} {n n' N : Nat} {s s1 s' : Es} {sz : Int} {r : Except FaultS Unit × Es} {rn : Nat} {d ss : SegR} {C : CpuS}
def u22 (C : CpuS) (k place sel fl : Nat) (d ss : SegR) (rn sp at_ : Nat) : Ex Unit := (needE ss.pre 12 (codeOfN ss.sel : Nat)).then fun _ => (needE (decide (place ≤ d.lim)) 13 0).then fun _ => Ex.upd fun t => ⟨lastC (C.left k place sel fl d) C.ring k rn sp at_ ss, t.R⟩
theorem ret_22 {sp k place sel fl : Nat} (T : Hp w A W (oEn eb vb bb pl n s1 :: (retB eb be bz sz ++ (retL eb bc ba at_ ++ [Ob.box gd (descO d), Ob.box gs (segO ss)])))) (h : RetOk N n sz k sp at_ d ss) (hp : place < 4294967296 ∧ sel < 65536 ∧ fl < 4294967296) (hC : s1.C = C) (hr : r = u22 C k place sel fl d ss rn sp at_ s1) {q5 q6 q7 q4 q8 u18 u19 u20 u21 u22 q9 r0 r1 r2 r4 r5 r6 r7 r8 r3 r9 s0 s2 s3 s4 s5 s6 s7 s8 s9 t0 t1 t2 t3 t4 t5 t6 t7 t8 t9 u0 u1 u2 u3 u4 u5 u6 u7 u8 u9 v0 v1 v2 v3 v4 v5 v6 v7 v8 v9 w0 w2 w3 w4 w5 w6 w7 w8 w9 x0 x1 x2 x3 x4 x5 x6 x7 x8 x9 y0 y1 y2 y3 y4 y5 y6 y7 a0 a1 a2 a3 a4 a5 a6 a7 a8 a9 b0 b1 b2 b3 b4 b5 b6 b7 b8 b9 c0 c1 c2 c3 c4 c5 c6 c7 c8 c9 d0 d1 d2 d3 d4 d5 d6 d7 d8 d9 e0 e1 e2 e3 e4 e5 e6 e7 e8 e9 f0 f1 f2 f3 f4 f5 f6 f7 f8 f9 g0 g1 g2 g3 g4 g5 g6 g7 g8 g9 h0 h1 h2 h3 h4 h5 h6 h7 h8 h9 i0 i1 i2 i3 i4 i5 i6 i7 i8 i9 j0 j1 j2 j3 j4 j5 j6 j7 j8 j9 k0 k1 k2 k3 k4 k5 k6 k7 k8 k9 l0 l1 l2 l3 l4 l5 l6 l7 l8 l9 m0 m1 m2 m3 m4 m5 m6 m7 m8 m9 n0 n1 n2 n3 n4 n5 n6 n7 n8 n9 o0 o1 o2 o3 o4 o5 o6 o7 o8 o9 p0 p1 p2 p3 p4 p5 p6 p7 p8 p9 q0 q1 q2 q3 : Value} {K23 : Act → World → Prop} (hK23 : ∀ a w1, Code.wp Tryz.prog (.seq (rg Tryz.f47 23) (tl Tryz.f47 23)) (bodyPost Tryz.prog Tryz.f47 (EnEnd w A eb vb bb pl N (retB eb be bz sz) r)) a w1 → K23 a w1) :
    Code.wp Tryz.prog (rg Tryz.f47 22) (Exit.then K23 (bodyPost Tryz.prog Tryz.f47 (EnEnd w A eb vb bb pl N (retB eb be bz sz) r))) ⟨#[.pointer (some ⟨bz, 0, none⟩), .pointer (some ⟨be, 0, none⟩), .pointer (some ⟨bc, 0, none⟩), .pointer (some ⟨ba, 0, none⟩), .func (.func 48) #[] #[.pointer (some ⟨be, 0, none⟩), .pointer (some ⟨bc, 0, none⟩), .pointer (some ⟨ba, 0, none⟩), .pointer (some ⟨bz, 0, none⟩)], .int .u32 (place : Nat), .int .u16 (sel : Nat), .int .u32 (fl : Nat), .int .i64 (C.ring : Nat), .int .i64 (rn : Nat), .pointer (some ⟨gd, 0, none⟩), .pointer (some ⟨gs, 0, none⟩), .int .u32 (sp : Nat), q5, q6, q7, q4, q8, u18, u19, u20, u21, u22, q9, r0, r1, r2, r4, r5, r6, r7, r8, r3, r9, s0, s2, s3, s4, s5, s6, s7, s8, s9, t0, t1, t2, t3, t4, t5, t6, t7, t8, t9, u0, u1, u2, u3, u4, u5, u6, u7, u8, u9, v0, v1, v2, v3, v4, v5, v6, v7, v8, v9, w0, w2, w3, w4, w5, w6, w7, w8, w9, x0, x1, x2, x3, x4, x5, x6, x7, x8, x9, y0, y1, y2, y3, y4, y5, y6, y7, a0, a1, a2, a3, a4, a5, a6, a7, a8, a9, b0, b1, b2, b3, b4, b5, b6, b7, b8, b9, c0, c1, c2, c3, c4, c5, c6, c7, c8, c9, d0, d1, d2, d3, d4, d5, d6, d7, d8, d9, e0, e1, e2, e3, e4, e5, e6, e7, e8, e9, f0, f1, f2, f3, f4, f5, f6, f7, f8, f9, g0, g1, g2, g3, g4, g5, g6, g7, g8, g9, h0, h1, h2, h3, h4, h5, h6, h7, h8, h9, i0, i1, i2, i3, i4, i5, i6, i7, i8, i9, j0, j1, j2, j3, j4, j5, j6, j7, j8, j9, k0, k1, k2, k3, k4, k5, k6, k7, k8, k9, l0, l1, l2, l3, l4, l5, l6, l7, l8, l9, m0, m1, m2, m3, m4, m5, m6, m7, m8, m9, n0, n1, n2, n3, n4, n5, n6, n7, n8, n9, o0, o1, o2, o3, o4, o5, o6, o7, o8, o9, p0, p1, p2, p3, p4, p5, p6, p7, p8, p9, q0, q1, q2, q3], []⟩ W := by
 have HO := Lib.hid h
 have HP := Lib.hid hp
 have HR := Lib.hid hr
 have HC := Lib.hid hC
 have HH := Lib.hid T.drew
 clear T h hp hr hC
 conv => arg 2; whnf
 conv at hK23 => enter [a, w1, 1, 2, 1]; whnf
 conv at hK23 => enter [a, w1, 1, 2, 2]; whnf
 refine wp_region_held_drew (S := fun w' => Hp w A w' (oEn eb vb bb pl n s1 :: (retB eb be bz sz ++ (retL eb bc ba at_ ++ [Ob.box gd (descO d), Ob.box gs (segO ss)])))) (by kernel_rfl) HH.out (fun hHeld => ?_)
 refine wpAnyH_take (i := 0) (oi := _) (v := ?_) rfl (by kernel_rfl) (by kernel_rfl) (by kernel_rfl) (fun _ _ _ h => h) (Or.inl ⟨by rfl, ?_⟩) (by assumption) ?_
 rotate_left
 ·(intro w hSw; (try dsimp only at hSw); go_simp <;> rfl)
 refine wpAnyH_take (i := 1) (oi := _) (v := ?_) rfl (by kernel_rfl) (by kernel_rfl) (by kernel_rfl) (fun _ _ _ h => h) (Or.inl ⟨by rfl, ?_⟩) (by assumption) ?_
 rotate_left
 ·(intro w hSw; (try dsimp only at hSw); go_simp <;> rfl)
 try simp only [Act.put, lz0, lz1, lz2, lz3, lz4, lz5]
 refine wpAnyH_take (i := 2) (oi := _) (v := ?_) rfl (by kernel_rfl) (by kernel_rfl) (by kernel_rfl) (fun _ _ _ h => h) (Or.inl ⟨by rfl, ?_⟩) (by assumption) ?_
 rotate_left
 ·(intro w hSw; have hg := hSw.gbox (d := ss) 6 rfl; obtain ⟨z0, z1, z2, z3, z4, z5, z6, z7, z8, zf, zl⟩ := hg; (try dsimp only at hSw); go_simp <;> rfl)
 try simp only [Act.put, lz0, lz1, lz2, lz3, lz4, lz5]
 refine wpAnyH_take (i := 3) (oi := _) (v := ?_) rfl (by kernel_rfl) (by kernel_rfl) (by kernel_rfl) (fun _ _ _ h => h) (Or.inl ⟨by rfl, ?_⟩) (by assumption) ?_
 rotate_left
 ·(intro w hSw; (try dsimp only at hSw); go_simp <;> rfl)
 try simp only [Act.put, lz0, lz1, lz2, lz3, lz4, lz5]
 refine wpAnyH_take (i := 4) (oi := _) (v := ?_) rfl (by kernel_rfl) (by kernel_rfl) (by kernel_rfl) (fun _ _ _ h => h) (Or.inl ⟨by rfl, ?_⟩) (by assumption) ?_
 rotate_left
 ·(intro w hSw; have hg := hSw.gbox (d := ss) 6 rfl; obtain ⟨z0, z1, z2, z3, z4, z5, z6, z7, z8, zf, zl⟩ := hg; (try dsimp only at hSw); go_simp <;> rfl)
 try simp only [Act.put, lz0, lz1, lz2, lz3, lz4, lz5]
 refine wpAnyH_ready (rs := [5]) (by kernel_rfl) (by decide) (AllReadyH.cons rfl (fun K hK => ?_) AllReadyH.nil)
 go_simp
 refine (code_x ss.sel HO.out.hss.sel _ rfl _).mono ?_
 rintro e w' ⟨rfl, rfl⟩
 go_wp2_with fail
 refine hK.out _ _ (hHeld) (fun hHeld => ?_)
 clear hK K
 try simp only [Act.put, lz0, lz1, lz2, lz3, lz4, lz5]
 refine wpAnyH_ready (rs := [6]) (by kernel_rfl) (by decide) (AllReadyH.cons rfl (fun K hK => ?_) AllReadyH.nil)
 go_simp
 refine (need_d _ _ _ _).mono ?_
 rintro e w' ⟨rfl, ⟨hb, rfl⟩ | ⟨hb, rfl⟩⟩
 ·have HR2 := Lib.hid (show r = ((needE (decide (place ≤ d.lim)) 13 0).then fun _ => Ex.upd fun t => ⟨lastC (s1.C.left k place sel fl d) s1.C.ring k rn sp at_ ss, t.R⟩) s1 by rw [HC.out]; exact HR.out.trans (Ex.then_ok (need_ok hb _ _ _)))
  rw [← HC.out]
  clear hb HR
  go_wp2_with fail
  refine hK.out _ _ hHeld (fun hHeld => ?_)
  clear hK K
  refine wpAnyH_done (by kernel_rfl) ?_ _
  try simp only [Act.put, lz0, lz1, lz2, lz3, lz4, lz5]
  go_upto_region 23 with (fail)
  exact ret_23 hHeld HO.out HP.out.1 HP.out.2.1 HP.out.2.2 HR2.out (by assumption)
 ·have HR2 := Lib.hid (show r = (.error ⟨12, _, 0⟩, s1) from HR.out.trans (Ex.then_no (need_no hb _ _ _)))
  clear hb
  go_wp2_with fail
  exact ⟨rfl, env_no (loc := retL eb bc ba at_ ++ [Ob.box gd (descO d), Ob.box gs (segO ss)]) hHeld HO.out.hn HR2.out⟩
def u21 (C : CpuS) (k place sel fl : Nat) (d ss : SegR) (rn sp at_ : Nat) : Ex Unit := (needE (ss.isStack (rn : Nat)) 13 (codeOfN ss.sel : Nat)).then fun _ => u22 C k place sel fl d ss rn sp at_
theorem ret_21 {sp k place sel fl : Nat} (T : Hp w A W (oEn eb vb bb pl n s1 :: (retB eb be bz sz ++ (retL eb bc ba at_ ++ [Ob.box gd (descO d), Ob.box gs (segO ss)])))) (h : RetOk N n sz k sp at_ d ss) (hp : place < 4294967296 ∧ sel < 65536 ∧ fl < 4294967296) (hC : s1.C = C) (hr : r = u21 C k place sel fl d ss rn sp at_ s1) {q5 q6 q7 q4 q8 u18 u19 u20 u21 u22 q9 r0 r1 r2 r4 r5 r6 r7 r8 r3 r9 s0 s2 s3 s4 s5 s6 s7 s8 s9 t0 t1 t2 t3 t4 t5 t6 t7 t8 t9 u0 u1 u2 u3 u4 u5 u6 u7 u8 u9 v0 v1 v2 v3 v4 v5 v6 v7 v8 v9 w0 w2 w3 w4 w5 w6 w7 w8 w9 x0 x1 x2 x3 x4 x5 x6 x7 x8 x9 y0 y1 y2 y3 y4 y5 y6 y7 a0 a1 a2 a3 a4 a5 a6 a7 a8 a9 b0 b1 b2 b3 b4 b5 b6 b7 b8 b9 c0 c1 c2 c3 c4 c5 c6 c7 c8 c9 d0 d1 d2 d3 d4 d5 d6 d7 d8 d9 e0 e1 e2 e3 e4 e5 e6 e7 e8 e9 f0 f1 f2 f3 f4 f5 f6 f7 f8 f9 g0 g1 g2 g3 g4 g5 g6 g7 g8 g9 h0 h1 h2 h3 h4 h5 h6 h7 h8 h9 i0 i1 i2 i3 i4 i5 i6 i7 i8 i9 j0 j1 j2 j3 j4 j5 j6 j7 j8 j9 k0 k1 k2 k3 k4 k5 k6 k7 k8 k9 l0 l1 l2 l3 l4 l5 l6 l7 l8 l9 m0 m1 m2 m3 m4 m5 m6 m7 m8 m9 n0 n1 n2 n3 n4 n5 n6 n7 n8 n9 o0 o1 o2 o3 o4 o5 o6 o7 o8 o9 p0 p1 p2 p3 p4 p5 p6 p7 p8 p9 q0 q1 q2 q3 : Value} {K23 : Act → World → Prop} (hK23 : ∀ a w1, Code.wp Tryz.prog (.seq (rg Tryz.f47 23) (tl Tryz.f47 23)) (bodyPost Tryz.prog Tryz.f47 (EnEnd w A eb vb bb pl N (retB eb be bz sz) r)) a w1 → K23 a w1) {K21 : Act → World → Prop} (hK21 : ∀ a w1, Code.wp Tryz.prog (tl Tryz.f47 21) (Exit.then K23 (bodyPost Tryz.prog Tryz.f47 (EnEnd w A eb vb bb pl N (retB eb be bz sz) r))) a w1 → K21 a w1) :
    Code.wp Tryz.prog (rg Tryz.f47 21) (Exit.then K21 (Exit.then K23 (bodyPost Tryz.prog Tryz.f47 (EnEnd w A eb vb bb pl N (retB eb be bz sz) r)))) ⟨#[.pointer (some ⟨bz, 0, none⟩), .pointer (some ⟨be, 0, none⟩), .pointer (some ⟨bc, 0, none⟩), .pointer (some ⟨ba, 0, none⟩), .func (.func 48) #[] #[.pointer (some ⟨be, 0, none⟩), .pointer (some ⟨bc, 0, none⟩), .pointer (some ⟨ba, 0, none⟩), .pointer (some ⟨bz, 0, none⟩)], .int .u32 (place : Nat), .int .u16 (sel : Nat), .int .u32 (fl : Nat), .int .i64 (C.ring : Nat), .int .i64 (rn : Nat), .pointer (some ⟨gd, 0, none⟩), .pointer (some ⟨gs, 0, none⟩), .int .u32 (sp : Nat), q5, q6, q7, q4, q8, u18, u19, u20, u21, u22, q9, r0, r1, r2, r4, r5, r6, r7, r8, r3, r9, s0, s2, s3, s4, s5, s6, s7, s8, s9, t0, t1, t2, t3, t4, t5, t6, t7, t8, t9, u0, u1, u2, u3, u4, u5, u6, u7, u8, u9, v0, v1, v2, v3, v4, v5, v6, v7, v8, v9, w0, w2, w3, w4, w5, w6, w7, w8, w9, x0, x1, x2, x3, x4, x5, x6, x7, x8, x9, y0, y1, y2, y3, y4, y5, y6, y7, a0, a1, a2, a3, a4, a5, a6, a7, a8, a9, b0, b1, b2, b3, b4, b5, b6, b7, b8, b9, c0, c1, c2, c3, c4, c5, c6, c7, c8, c9, d0, d1, d2, d3, d4, d5, d6, d7, d8, d9, e0, e1, e2, e3, e4, e5, e6, e7, e8, e9, f0, f1, f2, f3, f4, f5, f6, f7, f8, f9, g0, g1, g2, g3, g4, g5, g6, g7, g8, g9, h0, h1, h2, h3, h4, h5, h6, h7, h8, h9, i0, i1, i2, i3, i4, i5, i6, i7, i8, i9, j0, j1, j2, j3, j4, j5, j6, j7, j8, j9, k0, k1, k2, k3, k4, k5, k6, k7, k8, k9, l0, l1, l2, l3, l4, l5, l6, l7, l8, l9, m0, m1, m2, m3, m4, m5, m6, m7, m8, m9, n0, n1, n2, n3, n4, n5, n6, n7, n8, n9, o0, o1, o2, o3, o4, o5, o6, o7, o8, o9, p0, p1, p2, p3, p4, p5, p6, p7, p8, p9, q0, q1, q2, q3], []⟩ W := by
 have HO := Lib.hid h
 have HP := Lib.hid hp
 have HR := Lib.hid hr
 have HC := Lib.hid hC
 have HH := Lib.hid T.drew
 clear T h hp hr hC
 conv => arg 2; whnf
 conv at hK21 => enter [a, w1, 1, 2]; whnf
 refine wp_region_held_drew (S := fun w' => Hp w A w' (oEn eb vb bb pl n s1 :: (retB eb be bz sz ++ (retL eb bc ba at_ ++ [Ob.box gd (descO d), Ob.box gs (segO ss)])))) (by kernel_rfl) HH.out (fun hHeld => ?_)
 refine wpAnyH_take (i := 0) (oi := _) (v := ?_) rfl (by kernel_rfl) (by kernel_rfl) (by kernel_rfl) (fun _ _ _ h => h) (Or.inl ⟨by rfl, ?_⟩) (by assumption) ?_
 rotate_left
 ·(intro w hSw; (try dsimp only at hSw); go_simp <;> rfl)
 try simp only [Act.put, lz0, lz1, lz2, lz3, lz4, lz5]
 refine wpAnyH_take (i := 1) (oi := _) (v := ?_) rfl (by kernel_rfl) (by kernel_rfl) (by kernel_rfl) (fun _ _ _ h => h) (Or.inl ⟨by rfl, ?_⟩) (by assumption) ?_
 rotate_left
 ·(intro w hSw; have hg := hSw.gbox (d := ss) 6 rfl; obtain ⟨z0, z1, z2, z3, z4, z5, z6, z7, z8, zf, zl⟩ := hg; (try dsimp only at hSw); go_simp <;> rfl)
 try simp only [Act.put, lz0, lz1, lz2, lz3, lz4, lz5]
 refine wpAnyH_take (i := 2) (oi := _) (v := ?_) rfl (by kernel_rfl) (by kernel_rfl) (by kernel_rfl) (fun _ _ _ h => h) (Or.inl ⟨by rfl, ?_⟩) (by assumption) ?_
 rotate_left
 ·(intro w hSw; (try dsimp only at hSw); go_simp <;> rfl)
 try simp only [Act.put, lz0, lz1, lz2, lz3, lz4, lz5]
 refine wpAnyH_take (i := 3) (oi := _) (v := ?_) rfl (by kernel_rfl) (by kernel_rfl) (by kernel_rfl) (fun _ _ _ h => h) (Or.inl ⟨by rfl, ?_⟩) (by assumption) ?_
 rotate_left
 ·(intro w hSw; have hg := hSw.gbox (d := ss) 6 rfl; obtain ⟨z0, z1, z2, z3, z4, z5, z6, z7, z8, zf, zl⟩ := hg; (try dsimp only at hSw); go_simp <;> rfl)
 try simp only [Act.put, lz0, lz1, lz2, lz3, lz4, lz5]
 refine wpAnyH_take (i := 4) (oi := _) (v := ?_) rfl (by kernel_rfl) (by kernel_rfl) (by kernel_rfl) (fun _ _ _ h => h) (Or.inl ⟨by rfl, ?_⟩) (by assumption) ?_
 rotate_left
 ·(intro w hSw; (try dsimp only at hSw); go_simp <;> rfl)
 try simp only [Act.put, lz0, lz1, lz2, lz3, lz4, lz5]
 refine wpAnyH_take (i := 6) (oi := _) (v := ?_) rfl (by kernel_rfl) (by kernel_rfl) (by kernel_rfl) (fun _ _ _ h => h) (Or.inl ⟨by rfl, ?_⟩) (by assumption) ?_
 rotate_left
 ·(intro w hSw; (try dsimp only at hSw); go_simp <;> rfl)
 try simp only [Act.put, lz0, lz1, lz2, lz3, lz4, lz5]
 refine wpAnyH_take (i := 7) (oi := _) (v := ?_) rfl (by kernel_rfl) (by kernel_rfl) (by kernel_rfl) (fun _ _ _ h => h) (Or.inl ⟨by rfl, ?_⟩) (by assumption) ?_
 rotate_left
 ·(intro w hSw; have hg := hSw.gbox (d := ss) 6 rfl; obtain ⟨z0, z1, z2, z3, z4, z5, z6, z7, z8, zf, zl⟩ := hg; (try dsimp only at hSw); go_simp <;> rfl)
 try simp only [Act.put, lz0, lz1, lz2, lz3, lz4, lz5]
 refine wpAnyH_ready (rs := [5]) (by kernel_rfl) (by decide) (AllReadyH.cons rfl (fun K hK => ?_) AllReadyH.nil)
 go_simp
 refine (isStack_x ss HO.out.hss.sel ((rn : Nat) : Int) _ rfl _).mono ?_
 rintro e w' ⟨rfl, hbl⟩
 go_wp2_with fail
 refine hK.out _ _ (hHeld.grow hbl) (fun hHeld => ?_)
 clear hK K
 try simp only [Act.put, lz0, lz1, lz2, lz3, lz4, lz5]
 refine wpAnyH_ready (rs := [8]) (by kernel_rfl) (by decide) (AllReadyH.cons rfl (fun K hK => ?_) AllReadyH.nil)
 go_simp
 refine (code_x ss.sel HO.out.hss.sel _ rfl _).mono ?_
 rintro e w' ⟨rfl, rfl⟩
 go_wp2_with fail
 refine hK.out _ _ (hHeld) (fun hHeld => ?_)
 clear hK K
 try simp only [Act.put, lz0, lz1, lz2, lz3, lz4, lz5]
 refine wpAnyH_ready (rs := [9]) (by kernel_rfl) (by decide) (AllReadyH.cons rfl (fun K hK => ?_) AllReadyH.nil)
 go_simp
 refine (need_d _ _ _ _).mono ?_
 rintro e w' ⟨rfl, ⟨hb, rfl⟩ | ⟨hb, rfl⟩⟩
 ·have HR2 := Lib.hid (HR.out.trans (Ex.then_ok (need_ok hb _ _ _)))
  clear hb HR
  go_wp2_with fail
  refine hK.out _ _ hHeld (fun hHeld => ?_)
  clear hK K
  refine wpAnyH_done (by kernel_rfl) ?_ _
  try simp only [Act.put, lz0, lz1, lz2, lz3, lz4, lz5]
  go_upto_region 22 with (fail)
  exact ret_22 hHeld HO.out HP.out HC.out HR2.out (by assumption)
 ·have HR2 := Lib.hid (show r = (.error ⟨13, _, 0⟩, s1) from HR.out.trans (Ex.then_no (need_no hb _ _ _)))
  clear hb
  go_wp2_with fail
  exact ⟨rfl, env_no (loc := retL eb bc ba at_ ++ [Ob.box gd (descO d), Ob.box gs (segO ss)]) hHeld HO.out.hn HR2.out⟩
end
end Go.Proofs.YtmpcafdgkbpneaaGreat

