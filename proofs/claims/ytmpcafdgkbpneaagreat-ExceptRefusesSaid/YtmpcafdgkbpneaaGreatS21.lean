/- Steps of a proof: ExQ, ExR, ExS, together. -/
import Derived.Test.YtmpcafdgkbpneaaGreatS20
/- except: Return's inner function, its end: the outer ring's stack; the segments that it may not have. -/
set_option maxHeartbeats 4000000
set_option maxRecDepth 20000
namespace Go.Proofs.YtmpcafdgkbpneaaGreat
open Go.RowKit Go.MapKept
set_option linter.unusedVariables false
set_option linter.unusedSimpArgs false
attribute [local go_sem ↓] Go.wp_at_zero Go.wp_at_succ

section
variable {w W w' w0 : World} {A A0 : Nat → Prop} {os bs loc : List Ob} {eb vb bb be bz bc ba at_ : Nat} {pl : Pl} {n n' N : Nat} {s s1 s' : Es} {sz : Int} {r : Except FaultS Unit × Es} {rn : Nat}
def segsO : Obj := .cells #[.int .i64 0, .int .i64 3, .int .i64 4, .int .i64 5] 3
theorem dropSegs_eq (C : CpuS) (rn : Nat) : C.dropSegs rn = (((C.drop1 0 rn).drop1 3 rn).drop1 4 rn).drop1 5 rn := by
 have seg1 : ∀ (C : CpuS) i j, ((C.drop1 i rn).seg j) = if j = i ∧ (C.seg i).drops rn = true then nullSeg else C.seg j := fun C i j => by
  unfold CpuS.drop1
  by_cases h : (C.seg i).drops rn = true
  ·rw [if_pos h]
   show (if j = i then nullSeg else C.seg j) = _
   by_cases hj : j = i
   ·rw [if_pos hj, if_pos ⟨hj, h⟩]
   ·rw [if_neg hj, if_neg (fun e => hj e.1)]
  ·rw [if_neg h, if_neg (fun e => h e.2)]
 have same : ∀ (C : CpuS) i, C.drop1 i rn = { C with seg := fun j => if j = i ∧ (C.seg i).drops rn = true then nullSeg else C.seg j } := fun C i => by
  have h := seg1 C i
  unfold CpuS.drop1 at h ⊢
  split
  ·rename_i hh
   rw [if_pos hh] at h
   show { C with seg := _ } = _
   congr 1
   funext j
   exact h j
  ·rename_i hh
   rw [if_neg hh] at h
   have : (fun j => if j = i ∧ (C.seg i).drops rn = true then nullSeg else C.seg j) = C.seg := funext fun j => (h j).symm
   rw [this]
 unfold CpuS.dropSegs
 rw [same _ 5, same _ 4, same _ 3, same _ 0]
 simp only
 congr 1
 funext j
 by_cases h0 : j = 0
 ·subst h0; simp
 ·by_cases h3 : j = 3
  ·subst h3; simp
  ·by_cases h4 : j = 4
   ·subst h4; simp
   ·by_cases h5 : j = 5
    ·subst h5; simp
    ·simp [h0, h3, h4, h5]
theorem ret_38 (T : Hp w A W (oEn eb vb bb pl n s1 :: (retB eb be bz sz ++ (retL eb bc ba at_ ++ loc)))) (hn : n ≤ N) (hr : r = (.ok (), ⟨s1.C.dropSegs rn, s1.R⟩)) {B6 A9 B0 B1 B2 B3 B4 B5 q5 q6 q7 q8 q9 r0 r1 r2 r3 r4 r5 r6 r7 r8 r9 s0 s2 s3 s4 s5 s6 s7 s8 s9 t0 t1 t2 t3 t4 t5 t6 t7 t8 t9 u2 u9 v0 v1 v2 v3 v4 v5 v6 v7 v8 v9 w0 w2 w3 w4 w5 w6 w7 w8 w9 x0 x1 x2 x3 x4 x5 x6 x7 x8 x9 y4 y5 y6 y7 y8 y9 z0 z1 z2 z3 z4 z5 z6 z7 z8 z9 A0 A1 A2 A3 A4 A5 A6 A7 A8 a0 a1 a2 a3 a4 a5 a6 a7 a8 a9 b0 b1 b2 b3 b4 b5 b6 b7 b8 b9 c0 c1 c2 c3 c4 c5 c6 c7 c8 c9 d0 d1 d2 d3 d4 d5 d6 d7 d8 d9 e0 e1 e2 e3 e4 e5 e6 e7 e8 e9 f0 f1 f2 f3 f4 f5 f6 f7 f8 f9 g0 g1 g2 g3 g4 g5 g6 g7 g8 g9 h0 h1 h2 h3 h4 h5 h6 h7 h8 h9 i0 i1 i2 i3 i4 i5 i6 i7 i8 i9 j0 j1 j2 j3 j4 j5 j6 j7 j8 j9 k0 k1 k2 k3 k4 k5 k6 k7 k8 k9 l0 l1 l3 l4 l5 l6 l7 l8 l9 m0 m1 m2 m3 m4 m5 m6 m7 m8 m9 n0 n1 n2 n3 n4 n5 n6 n7 n8 n9 o0 o1 o2 o3 o4 o5 o6 o7 o8 o9 p0 p1 p2 p3 p4 p5 p6 p7 p8 p9 q0 q1 q2 q3 q4 : Value} {K38 : Act → World → Prop} (hK38 : ∀ a w1, Code.wp Tryz.prog (tl Tryz.f47 38) (bodyPost Tryz.prog Tryz.f47 (EnEnd w A eb vb bb pl N (retB eb be bz sz) r)) a w1 → K38 a w1) :
    Code.wp Tryz.prog (rg Tryz.f47 38) (Exit.then K38 (bodyPost Tryz.prog Tryz.f47 (EnEnd w A eb vb bb pl N (retB eb be bz sz) r))) ⟨#[B6, A9, .pointer (some ⟨bc, 0, none⟩), B0, B1, B2, B3, B4, B5, .int .i64 (rn : Nat), q5, q6, q7, q8, q9, r0, r1, r2, r3, r4, r5, r6, r7, r8, r9, s0, s2, s3, s4, s5, s6, s7, s8, s9, t0, t1, t2, t3, t4, t5, t6, t7, t8, t9, u2, u9, v0, v1, v2, v3, v4, v5, v6, v7, v8, v9, w0, w2, w3, w4, w5, w6, w7, w8, w9, x0, x1, x2, x3, x4, x5, x6, x7, x8, x9, y4, y5, y6, y7, y8, y9, z0, z1, z2, z3, z4, z5, z6, z7, z8, z9, A0, A1, A2, A3, A4, A5, A6, A7, A8, a0, a1, a2, a3, a4, a5, a6, a7, a8, a9, b0, b1, b2, b3, b4, b5, b6, b7, b8, b9, c0, c1, c2, c3, c4, c5, c6, c7, c8, c9, d0, d1, d2, d3, d4, d5, d6, d7, d8, d9, e0, e1, e2, e3, e4, e5, e6, e7, e8, e9, f0, f1, f2, f3, f4, f5, f6, f7, f8, f9, g0, g1, g2, g3, g4, g5, g6, g7, g8, g9, h0, h1, h2, h3, h4, h5, h6, h7, h8, h9, i0, i1, i2, i3, i4, i5, i6, i7, i8, i9, j0, j1, j2, j3, j4, j5, j6, j7, j8, j9, k0, k1, k2, k3, k4, k5, k6, k7, k8, k9, l0, l1, l3, l4, l5, l6, l7, l8, l9, m0, m1, m2, m3, m4, m5, m6, m7, m8, m9, n0, n1, n2, n3, n4, n5, n6, n7, n8, n9, o0, o1, o2, o3, o4, o5, o6, o7, o8, o9, p0, p1, p2, p3, p4, p5, p6, p7, p8, p9, q0, q1, q2, q3, q4], []⟩ W := by
 rw [dropSegs_eq] at hr
 have HN := Lib.hid hn
 have HR := Lib.hid hr
 have HT1 := Lib.hid (show Hp w A (W.alloc segsO) ((oEn eb vb bb pl n s1 :: (retB eb be bz sz ++ (retL eb bc ba at_ ++ loc))) ++ [Ob.box W.heap.size segsO]) from T.make _)
 clear T hn hr
 conv => arg 2; whnf
 conv at hK38 => enter [a, w1, 1, 2]; whnf
 go_wp2_with fail
 change Code.wp _ _ _ _ (W.alloc segsO)
 generalize W.alloc segsO = W1 at *
 generalize W.heap.size = gs at *
 refine wp_loop_rounds 5 ?_
 rw [rounds_succ]
 have hgs := HT1.out.rot.box 0 rfl
 have y0 := cell_at (k := 0) hgs
 have y1 := cell_at (k := 1) hgs
 have y2 := cell_at (k := 2) hgs
 have y3 := cell_at (k := 3) hgs
 simp at y0 y1 y2 y3
 have yl := heap_lt hgs
 clear hgs
 go_upto_region 41 with (fail)
 clear y0 y1 y2 y3 yl
 refine ret_round0 (s1 := ⟨s1.C, s1.R⟩) HT1.out ?_ (by assumption)
 intro W2 v16 v17 v215 v216 v217 v218 v219 v220 v221 v222 v223 v224 v225 v226 v227 v228 v229 v230 v231 v232 v233 v234 v235 v236 v237 v238 v239 v240 v241 v242 v243 v244 v245 v246 v247 v248 v249 v250 v251 v252 v253 v254 v255 v256 v257 v258 v259 v260 v261 v262 T2
 have HT2 := Lib.hid (show Hp w A W2 ((oEn eb vb bb pl n ⟨(s1.C.drop1 0 rn), s1.R⟩ :: (retB eb be bz sz ++ (retL eb bc ba at_ ++ loc))) ++ [Ob.box gs segsO]) from T2)
 clear HT1 T2
 go_wp2_with fail
 rw [rounds_succ]
 have hgs := HT2.out.rot.box 0 rfl
 have y0 := cell_at (k := 0) hgs
 have y1 := cell_at (k := 1) hgs
 have y2 := cell_at (k := 2) hgs
 have y3 := cell_at (k := 3) hgs
 simp at y0 y1 y2 y3
 have yl := heap_lt hgs
 clear hgs
 go_upto_region 41 with (fail)
 clear y0 y1 y2 y3 yl
 refine ret_round3 (s1 := ⟨(s1.C.drop1 0 rn), s1.R⟩) HT2.out ?_ (by assumption)
 intro W3 v16 v17 v215 v216 v217 v218 v219 v220 v221 v222 v223 v224 v225 v226 v227 v228 v229 v230 v231 v232 v233 v234 v235 v236 v237 v238 v239 v240 v241 v242 v243 v244 v245 v246 v247 v248 v249 v250 v251 v252 v253 v254 v255 v256 v257 v258 v259 v260 v261 v262 T3
 have HT3 := Lib.hid (show Hp w A W3 ((oEn eb vb bb pl n ⟨((s1.C.drop1 0 rn).drop1 3 rn), s1.R⟩ :: (retB eb be bz sz ++ (retL eb bc ba at_ ++ loc))) ++ [Ob.box gs segsO]) from T3)
 clear HT2 T3
 go_wp2_with fail
 rw [rounds_succ]
 have hgs := HT3.out.rot.box 0 rfl
 have y0 := cell_at (k := 0) hgs
 have y1 := cell_at (k := 1) hgs
 have y2 := cell_at (k := 2) hgs
 have y3 := cell_at (k := 3) hgs
 simp at y0 y1 y2 y3
 have yl := heap_lt hgs
 clear hgs
 go_upto_region 41 with (fail)
 clear y0 y1 y2 y3 yl
 refine ret_round4 (s1 := ⟨((s1.C.drop1 0 rn).drop1 3 rn), s1.R⟩) HT3.out ?_ (by assumption)
 intro W4 v16 v17 v215 v216 v217 v218 v219 v220 v221 v222 v223 v224 v225 v226 v227 v228 v229 v230 v231 v232 v233 v234 v235 v236 v237 v238 v239 v240 v241 v242 v243 v244 v245 v246 v247 v248 v249 v250 v251 v252 v253 v254 v255 v256 v257 v258 v259 v260 v261 v262 T4
 have HT4 := Lib.hid (show Hp w A W4 ((oEn eb vb bb pl n ⟨(((s1.C.drop1 0 rn).drop1 3 rn).drop1 4 rn), s1.R⟩ :: (retB eb be bz sz ++ (retL eb bc ba at_ ++ loc))) ++ [Ob.box gs segsO]) from T4)
 clear HT3 T4
 go_wp2_with fail
 rw [rounds_succ]
 have hgs := HT4.out.rot.box 0 rfl
 have y0 := cell_at (k := 0) hgs
 have y1 := cell_at (k := 1) hgs
 have y2 := cell_at (k := 2) hgs
 have y3 := cell_at (k := 3) hgs
 simp at y0 y1 y2 y3
 have yl := heap_lt hgs
 clear hgs
 go_upto_region 41 with (fail)
 clear y0 y1 y2 y3 yl
 refine ret_round5 (s1 := ⟨(((s1.C.drop1 0 rn).drop1 3 rn).drop1 4 rn), s1.R⟩) HT4.out ?_ (by assumption)
 intro W5 v16 v17 v215 v216 v217 v218 v219 v220 v221 v222 v223 v224 v225 v226 v227 v228 v229 v230 v231 v232 v233 v234 v235 v236 v237 v238 v239 v240 v241 v242 v243 v244 v245 v246 v247 v248 v249 v250 v251 v252 v253 v254 v255 v256 v257 v258 v259 v260 v261 v262 T5
 have HT5 := Lib.hid (show Hp w A W5 ((oEn eb vb bb pl n ⟨((((s1.C.drop1 0 rn).drop1 3 rn).drop1 4 rn).drop1 5 rn), s1.R⟩ :: (retB eb be bz sz ++ (retL eb bc ba at_ ++ loc))) ++ [Ob.box gs segsO]) from T5)
 clear HT4 T5
 go_wp2_with fail
 rw [rounds_succ]
 have hgs := HT5.out.rot.box 0 rfl
 have y0 := cell_at (k := 0) hgs
 have y1 := cell_at (k := 1) hgs
 have y2 := cell_at (k := 2) hgs
 have y3 := cell_at (k := 3) hgs
 simp at y0 y1 y2 y3
 have yl := heap_lt hgs
 clear hgs
 go_wp2_with fail
 go_end0
 exact env_ok (loc := retL eb bc ba at_ ++ loc) (Hp.left (l2 := [Ob.box gs segsO]) HT5.out) HN.out HR.out
end
end Go.Proofs.YtmpcafdgkbpneaaGreat

/- except: Return's inner function: what is loaded. -/
namespace Go.Proofs.YtmpcafdgkbpneaaGreat
open Go.RowKit Go.MapKept
set_option linter.unusedVariables false
set_option linter.unusedSimpArgs false
attribute [local go_sem ↓] Go.wp_at_zero Go.wp_at_succ

section
variable {w W w' w0 : World} {A A0 : Nat → Prop} {os bs loc : List Ob} {eb vb bb be bz bc ba at_ gd gs : Nat} {pl : Pl} {n n' N : Nat} {s s1 s' : Es} {sz : Int} {r : Except FaultS Unit × Es} {rn : Nat} {d ss : SegR}
theorem ret_37 {sp : Nat} (T : Hp w A W (oEn eb vb bb pl n s1 :: (retB eb be bz sz ++ (retL eb bc ba at_ ++ loc)))) (hn : n ≤ N) (hsp : sp < 4294967296) (hr : r = (.ok (), ⟨(s1.C.setR 4 sp).dropSegs rn, s1.R⟩)) {B2 A5 A6 A7 A8 A9 B0 B1 q6 q7 q8 q9 r0 r1 r2 r3 r4 r5 r6 r7 r8 r9 s0 s2 s4 s5 s6 s7 s8 s3 s9 t0 t1 t2 t3 t4 t5 t6 t7 t8 t9 u2 u9 v0 v1 v2 v3 v4 v5 v6 v7 v8 v9 w0 w2 w3 w4 w5 w6 w7 w8 w9 x0 x1 x2 x3 x4 x5 x6 x7 x8 x9 y0 y1 y2 y3 y4 y5 y6 y7 y8 y9 z0 z1 z2 z3 z4 z5 z6 z7 z8 z9 A0 A1 A2 A3 A4 a0 a1 a2 a3 a4 a5 a6 a7 a8 a9 b0 b1 b2 b3 b4 b5 b6 b7 b8 b9 c1 c2 c3 c4 c5 c6 c7 c8 c9 d0 d1 d2 d3 d4 d5 d6 d7 d8 d9 e0 e1 e2 e3 e4 e5 e6 e7 e8 e9 f0 f1 f2 f3 f4 f5 f6 f7 f8 f9 g0 g1 g2 g3 g4 g5 g6 g7 g8 g9 h0 h1 h2 h3 h4 h5 h6 h7 h8 h9 i0 i1 i2 i3 i4 i5 i6 i7 i8 i9 j0 j1 j2 j3 j4 j5 j6 j7 j8 j9 k0 k1 k2 k3 k5 k6 k7 k8 k9 l0 l1 l2 l3 l4 l5 l6 l7 l8 l9 m0 m1 m2 m3 m4 m5 m6 m7 m8 m9 n0 n1 n2 n3 n4 n5 n6 n7 n8 n9 o0 o1 o2 o3 o4 o5 o6 o7 o8 o9 p0 p1 p2 p3 p4 p5 p6 p7 p8 p9 q0 q1 q2 q3 q4 q5 : Value} {K37 : Act → World → Prop} (hK37 : ∀ a w1, Code.wp Tryz.prog (tl Tryz.f47 37) (bodyPost Tryz.prog Tryz.f47 (EnEnd w A eb vb bb pl N (retB eb be bz sz) r)) a w1 → K37 a w1) :
    Code.wp Tryz.prog (rg Tryz.f47 37) (Exit.then K37 (bodyPost Tryz.prog Tryz.f47 (EnEnd w A eb vb bb pl N (retB eb be bz sz) r))) ⟨#[B2, A5, .pointer (some ⟨bc, 0, none⟩), A6, A7, A8, A9, B0, B1, .int .i64 (rn : Nat), q6, q7, .int .u32 (sp : Nat), q8, q9, r0, r1, r2, r3, r4, r5, r6, r7, r8, r9, s0, s2, s4, s5, s6, s7, s8, s3, s9, t0, t1, t2, t3, t4, t5, t6, t7, t8, t9, u2, u9, v0, v1, v2, v3, v4, v5, v6, v7, v8, v9, w0, w2, w3, w4, w5, w6, w7, w8, w9, x0, x1, x2, x3, x4, x5, x6, x7, x8, x9, y0, y1, y2, y3, y4, y5, y6, y7, y8, y9, z0, z1, z2, z3, z4, z5, z6, z7, z8, z9, A0, A1, A2, A3, A4, a0, a1, a2, a3, a4, a5, a6, a7, a8, a9, b0, b1, b2, b3, b4, b5, b6, b7, b8, b9, c1, c2, c3, c4, c5, c6, c7, c8, c9, d0, d1, d2, d3, d4, d5, d6, d7, d8, d9, e0, e1, e2, e3, e4, e5, e6, e7, e8, e9, f0, f1, f2, f3, f4, f5, f6, f7, f8, f9, g0, g1, g2, g3, g4, g5, g6, g7, g8, g9, h0, h1, h2, h3, h4, h5, h6, h7, h8, h9, i0, i1, i2, i3, i4, i5, i6, i7, i8, i9, j0, j1, j2, j3, j4, j5, j6, j7, j8, j9, k0, k1, k2, k3, k5, k6, k7, k8, k9, l0, l1, l2, l3, l4, l5, l6, l7, l8, l9, m0, m1, m2, m3, m4, m5, m6, m7, m8, m9, n0, n1, n2, n3, n4, n5, n6, n7, n8, n9, o0, o1, o2, o3, o4, o5, o6, o7, o8, o9, p0, p1, p2, p3, p4, p5, p6, p7, p8, p9, q0, q1, q2, q3, q4, q5], []⟩ W := by
 have HN := Lib.hid hn
 have HR := Lib.hid hr
 have HT1 := Lib.hid (T.setC 0 rfl 4 (.int .u32 (sp : Nat)) (env_setR s1.C vb bb sp) (setR_ok (T.cpu 0 rfl).1 4 sp hsp))
 obtain ⟨c0, cf, cl⟩ := T.lone 3 rfl
 obtain ⟨k4, kf⟩ := (T.cpu 0 rfl).esp
 have kl := (T.en 0 rfl).2.2
 clear T hn hr
 conv => arg 2; whnf
 conv at hK37 => enter [a, w1, 1, 2]; whnf
 go_upto_region 38 with (fail)
 exact ret_38 HT1.out HN.out HR.out (by assumption)
theorem low16_bits (r sp : Nat) (hr : r < 4294967296) (hs : sp < 65536) : bits .or .u32 (bits .andNot .u32 (r : Int) 65535) ((sp : Nat) : Int) = ((r / 65536 * 65536 + sp : Nat) : Int) := by
 have e := u32_andNot_nat r 65535 hr (by decide)
 have f := nat_field r 16 16
 rw [show (65535 : Int) = ((65535 : Nat) : Int) from rfl, e, show 4294967295 - 65535 = (2 ^ 16 - 1) * 2 ^ 16 by decide, f]
 rw [show r / 2 ^ 16 % 2 ^ 16 * 2 ^ 16 = 2 ^ 16 * (r / 65536) by omega, u32_or_nat _ sp (by omega) (by omega), ← Nat.two_pow_add_eq_or_of_lt (show sp < 2 ^ 16 by omega)]
 omega
theorem ret_35 {sp k : Nat} (T : Hp w A W (oEn eb vb bb pl n s1 :: (retB eb be bz sz ++ (retL eb bc ba at_ ++ loc)))) (hn : n ≤ N) (hk : k = 2 ∨ k = 4) (hz : sz = (k : Int)) (hsp : sp < 256 ^ k) (hr : r = (.ok (), ⟨(s1.C.setR 4 (spOf s1.C k sp)).dropSegs rn, s1.R⟩)) {A6 A7 A8 A9 B0 B1 B2 q7 q8 q9 r0 r1 r2 r3 r4 r5 r6 r7 r8 r9 s0 s2 s3 s5 s6 s7 s8 s9 s4 t0 t1 t2 t3 t4 t5 t6 t7 t8 t9 u0 u2 u9 v0 v1 v2 v3 v4 v5 v6 v7 v8 v9 w0 w2 w3 w4 w5 w6 w7 w8 w9 x0 x1 x2 x3 x4 x5 x6 x7 x8 x9 y0 y1 y2 y3 y4 y5 y6 y7 y8 y9 z1 z2 z3 z4 z5 z6 z7 z8 z9 A0 A1 A2 A3 A4 A5 a0 a1 a2 a3 a4 a5 a6 a7 a8 a9 b0 b1 b2 b3 b4 b5 b6 b7 b8 b9 c1 c2 c3 c4 c5 c6 c7 c8 c9 d0 d1 d2 d3 d4 d5 d6 d7 d8 d9 e0 e2 e3 e4 e5 e6 e7 e8 e9 f0 f1 f2 f3 f4 f5 f6 f7 f8 f9 g0 g1 g2 g3 g4 g5 g6 g7 g8 g9 h0 h1 h2 h3 h4 h5 h6 h7 h8 h9 i0 i1 i2 i3 i4 i5 i6 i7 i8 i9 j0 j1 j2 j3 j4 j5 j6 j7 j8 j9 k0 k1 k2 k3 k5 k6 k7 k8 k9 l0 l1 l2 l3 l4 l5 l6 l7 l8 l9 m0 m1 m2 m3 m4 m5 m6 m7 m8 m9 n0 n1 n2 n3 n4 n5 n6 n7 n8 n9 o0 o1 o2 o3 o4 o5 o6 o7 o8 o9 p0 p1 p2 p3 p4 p5 p6 p7 p8 p9 q0 q1 q2 q3 q4 q5 q6 : Value} {K37 : Act → World → Prop} (hK37 : ∀ a w1, Code.wp Tryz.prog (.seq (rg Tryz.f47 37) (tl Tryz.f47 37)) (bodyPost Tryz.prog Tryz.f47 (EnEnd w A eb vb bb pl N (retB eb be bz sz) r)) a w1 → K37 a w1) {K35 : Act → World → Prop} (hK35 : ∀ a w1, Code.wp Tryz.prog (tl Tryz.f47 35) (Exit.then K37 (bodyPost Tryz.prog Tryz.f47 (EnEnd w A eb vb bb pl N (retB eb be bz sz) r))) a w1 → K35 a w1) :
    Code.wp Tryz.prog (rg Tryz.f47 35) (Exit.then K35 (Exit.then K37 (bodyPost Tryz.prog Tryz.f47 (EnEnd w A eb vb bb pl N (retB eb be bz sz) r)))) ⟨#[.pointer (some ⟨bz, 0, none⟩), A6, .pointer (some ⟨bc, 0, none⟩), A7, A8, A9, B0, B1, B2, .int .i64 (rn : Nat), q7, q8, .int .u32 (sp : Nat), q9, r0, r1, r2, r3, r4, r5, r6, r7, r8, r9, s0, s2, s3, s5, s6, s7, s8, s9, s4, t0, t1, t2, t3, t4, t5, t6, t7, t8, t9, u0, u2, u9, v0, v1, v2, v3, v4, v5, v6, v7, v8, v9, w0, w2, w3, w4, w5, w6, w7, w8, w9, x0, x1, x2, x3, x4, x5, x6, x7, x8, x9, y0, y1, y2, y3, y4, y5, y6, y7, y8, y9, z1, z2, z3, z4, z5, z6, z7, z8, z9, A0, A1, A2, A3, A4, A5, a0, a1, a2, a3, a4, a5, a6, a7, a8, a9, b0, b1, b2, b3, b4, b5, b6, b7, b8, b9, c1, c2, c3, c4, c5, c6, c7, c8, c9, d0, d1, d2, d3, d4, d5, d6, d7, d8, d9, e0, e2, e3, e4, e5, e6, e7, e8, e9, f0, f1, f2, f3, f4, f5, f6, f7, f8, f9, g0, g1, g2, g3, g4, g5, g6, g7, g8, g9, h0, h1, h2, h3, h4, h5, h6, h7, h8, h9, i0, i1, i2, i3, i4, i5, i6, i7, i8, i9, j0, j1, j2, j3, j4, j5, j6, j7, j8, j9, k0, k1, k2, k3, k5, k6, k7, k8, k9, l0, l1, l2, l3, l4, l5, l6, l7, l8, l9, m0, m1, m2, m3, m4, m5, m6, m7, m8, m9, n0, n1, n2, n3, n4, n5, n6, n7, n8, n9, o0, o1, o2, o3, o4, o5, o6, o7, o8, o9, p0, p1, p2, p3, p4, p5, p6, p7, p8, p9, q0, q1, q2, q3, q4, q5, q6], []⟩ W := by
 have HN := Lib.hid hn
 have HT := Lib.hid T
 have hr4 := (T.cpu 0 rfl).1.r 4
 obtain ⟨c0, cf, cl⟩ := T.lone 3 rfl
 obtain ⟨z0, zf, zl⟩ := T.lone 2 rfl
 obtain ⟨k4, kf⟩ := (T.cpu 0 rfl).esp
 have kl := (T.en 0 rfl).2.2
 clear T hn
 conv => arg 2; whnf
 conv at hK35 => enter [a, w1, 1, 2]; whnf
 conv at hK37 => enter [a, w1, 1, 2, 1]; whnf
 conv at hK37 => enter [a, w1, 1, 2, 2]; whnf
 rcases hk with rfl | rfl
 ·have hs16 : sp < 65536 := hsp
  have e1 := low16_bits (s1.C.r 4) sp hr4 hs16
  have hb : ((sz : Int) == 2) = true := by rw [hz]; rfl
  have hq : s1.C.r 4 / 65536 * 65536 + sp < 4294967296 := by omega
  have HR := Lib.hid (show r = (.ok (), ⟨(s1.C.setR 4 (s1.C.r 4 / 65536 * 65536 + sp)).dropSegs rn, s1.R⟩) from hr)
  have HQ := Lib.hid hq
  clear hz hsp hr hq
  obtain ⟨q, hq⟩ : ∃ q, q = s1.C.r 4 / 65536 * 65536 + sp := ⟨_, rfl⟩
  rw [← hq] at e1 HR HQ
  clear hq
  go_upto_region 37 with (fail)
  exact ret_37 HT.out HN.out HQ.out HR.out (by assumption)
 ·have hs32 : sp < 4294967296 := hsp
  have hb : ((sz : Int) == 2) = false := by rw [hz]; rfl
  have HR := Lib.hid (show r = (.ok (), ⟨(s1.C.setR 4 sp).dropSegs rn, s1.R⟩) from hr)
  have HQ := Lib.hid hs32
  clear hz hsp hr hs32
  go_upto_region 37 with (fail)
  exact ret_37 HT.out HN.out HQ.out HR.out (by assumption)
theorem ret_34 {sp k : Nat} (T : Hp w A W (oEn eb vb bb pl n s1 :: (retB eb be bz sz ++ (retL eb bc ba at_ ++ [Ob.box gd (descO d), Ob.box gs (segO ss)])))) (hn : n ≤ N) (hk : k = 2 ∨ k = 4) (hz : sz = (k : Int)) (hsp : sp < 256 ^ k) (hd : ss.ok) (hr : r = (.ok (), ⟨((s1.C.setSeg 2 ss).setR 4 (spOf s1.C k sp)).dropSegs rn, s1.R⟩)) {C0 C1 C2 C3 C4 C5 C6 q5 q6 q7 q8 q9 r0 r1 r2 r3 r4 r5 r6 r7 r8 r9 s2 s3 s4 s5 s6 s0 s7 s8 s9 t0 t1 t2 t3 t4 t5 t6 t7 t8 t9 u0 u2 u9 v0 v1 v2 v3 v4 v5 v6 v7 v8 v9 w0 w2 w3 w4 w5 w6 w7 w8 w9 x0 x1 x2 x3 x4 x5 x6 x7 x8 x9 y9 z9 A0 A1 A2 A3 A4 A5 A6 A7 A8 A9 B0 B1 B2 B3 B4 B5 B6 B7 B8 B9 a0 a1 a2 a3 a4 a5 a6 a7 a8 a9 b0 b1 b2 b3 b4 b5 b6 b7 b8 b9 c1 c2 c3 c4 c5 c6 c7 c8 c9 d0 d1 d2 d3 d4 d5 d6 d7 d8 d9 e0 e1 e2 e3 e4 e5 e6 e7 e8 e9 f0 f1 f2 f3 f4 f5 f6 f7 f8 f9 g0 g1 g2 g3 g4 g5 g6 g7 g8 g9 h0 h1 h2 h3 h4 h5 h6 h7 h8 h9 i0 i1 i2 i3 i4 i5 i6 i7 i8 i9 j0 j1 j2 j3 j4 j5 j6 j7 j8 j9 k0 k1 k2 k3 k4 k5 k6 k7 k8 k9 l0 l1 l2 l3 l4 l5 l6 l7 l8 l9 m0 m1 m2 m3 m4 m5 m6 m7 m8 m9 n0 n1 n2 n3 n4 n5 n6 n7 n8 n9 o0 o1 o2 o3 o4 o5 o6 o7 o8 o9 p0 p1 p2 p3 p4 p5 p6 p7 p8 p9 q0 q1 q2 q3 q4 : Value} {K34 : Act → World → Prop} (hK34 : ∀ a w1, Code.wp Tryz.prog (tl Tryz.f47 34) (bodyPost Tryz.prog Tryz.f47 (EnEnd w A eb vb bb pl N (retB eb be bz sz) r)) a w1 → K34 a w1) :
    Code.wp Tryz.prog (rg Tryz.f47 34) (Exit.then K34 (bodyPost Tryz.prog Tryz.f47 (EnEnd w A eb vb bb pl N (retB eb be bz sz) r))) ⟨#[.pointer (some ⟨bz, 0, none⟩), C0, .pointer (some ⟨bc, 0, none⟩), C1, C2, C3, C4, C5, C6, .int .i64 (rn : Nat), q5, .pointer (some ⟨gs, 0, none⟩), .int .u32 (sp : Nat), q6, q7, q8, q9, r0, r1, r2, r3, r4, r5, r6, r7, r8, r9, s2, s3, s4, s5, s6, s0, s7, s8, s9, t0, t1, t2, t3, t4, t5, t6, t7, t8, t9, u0, u2, u9, v0, v1, v2, v3, v4, v5, v6, v7, v8, v9, w0, w2, w3, w4, w5, w6, w7, w8, w9, x0, x1, x2, x3, x4, x5, x6, x7, x8, x9, y9, z9, A0, A1, A2, A3, A4, A5, A6, A7, A8, A9, B0, B1, B2, B3, B4, B5, B6, B7, B8, B9, a0, a1, a2, a3, a4, a5, a6, a7, a8, a9, b0, b1, b2, b3, b4, b5, b6, b7, b8, b9, c1, c2, c3, c4, c5, c6, c7, c8, c9, d0, d1, d2, d3, d4, d5, d6, d7, d8, d9, e0, e1, e2, e3, e4, e5, e6, e7, e8, e9, f0, f1, f2, f3, f4, f5, f6, f7, f8, f9, g0, g1, g2, g3, g4, g5, g6, g7, g8, g9, h0, h1, h2, h3, h4, h5, h6, h7, h8, h9, i0, i1, i2, i3, i4, i5, i6, i7, i8, i9, j0, j1, j2, j3, j4, j5, j6, j7, j8, j9, k0, k1, k2, k3, k4, k5, k6, k7, k8, k9, l0, l1, l2, l3, l4, l5, l6, l7, l8, l9, m0, m1, m2, m3, m4, m5, m6, m7, m8, m9, n0, n1, n2, n3, n4, n5, n6, n7, n8, n9, o0, o1, o2, o3, o4, o5, o6, o7, o8, o9, p0, p1, p2, p3, p4, p5, p6, p7, p8, p9, q0, q1, q2, q3, q4], []⟩ W := by
 have HN := Lib.hid (And.intro hn (And.intro hk (And.intro hz hsp)))
 have HR := Lib.hid (show r = (.ok (), ⟨((⟨s1.C.setSeg 2 ss, s1.R⟩ : Es).C.setR 4 (spOf (⟨s1.C.setSeg 2 ss, s1.R⟩ : Es).C k sp)).dropSegs rn, s1.R⟩) from hr)
 have HT := Lib.hid (show Hp w A (setsG W eb 28 ⟨ss.sel, ss.nul, ss.base, ss.lim, ss.typ, ss.sys, ss.dpl, ss.pre, ss.big⟩).drew (oEn eb vb bb pl n ⟨s1.C.setSeg 2 ss, s1.R⟩ :: (retB eb be bz sz ++ (retL eb bc ba at_ ++ [Ob.box gd (descO d), Ob.box gs (segO ss)]))) from (T.setSs 0 rfl ss hd).drew)
 obtain ⟨c0, cf, cl⟩ := T.lone 3 rfl
 obtain ⟨z0, z1, z2, z3, z4, z5, z6, z7, z8, zf, zl⟩ := T.gbox (d := ss) 6 rfl
 obtain ⟨y0, y1, y2, y3, y4, y5, y6, y7, y8, yf, yl⟩ := (T.cpu 0 rfl).stackSeg
 clear T hn hk hz hsp hd hr
 conv => arg 2; whnf
 conv at hK34 => enter [a, w1, 1, 2]; whnf
 go_region
 all_goals
  change Exit.then _ _ _ _ (setsG W eb 28 ⟨ss.sel, ss.nul, ss.base, ss.lim, ss.typ, ss.sys, ss.dpl, ss.pre, ss.big⟩).drew
  clear z0 z1 z2 z3 z4 z5 z6 z7 z8 zf zl y0 y1 y2 y3 y4 y5 y6 y7 y8 yf yl c0 cf cl
  generalize (setsG W eb 28 ⟨ss.sel, ss.nul, ss.base, ss.lim, ss.typ, ss.sys, ss.dpl, ss.pre, ss.big⟩).drew = W3 at *
  go_upto_region 35 with (fail)
  exact ret_35 HT.out HN.out.1 HN.out.2.1 HN.out.2.2.1 HN.out.2.2.2 HR.out (by assumption) (by assumption)
end
end Go.Proofs.YtmpcafdgkbpneaaGreat

/- except: Return's inner function: flags, place, code segment. -/
namespace Go.Proofs.YtmpcafdgkbpneaaGreat
open Go.RowKit Go.MapKept
set_option linter.unusedVariables false
set_option linter.unusedSimpArgs false
attribute [local go_sem ↓] Go.wp_at_zero Go.wp_at_succ

section
variable {w W w' w0 : World} {A A0 : Nat → Prop} {os bs loc : List Ob} {eb vb bb be bz bc ba at_ gd gs : Nat} {pl : Pl} {n n' N : Nat} {s s1 s' : Es} {sz : Int} {r : Except FaultS Unit × Es} {rn : Nat} {d ss : SegR}
structure RetOk (N n : Nat) (sz : Int) (k sp at_ : Nat) (d ss : SegR) : Prop where
 hn : n ≤ N
 hk : k = 2 ∨ k = 4
 hz : sz = (k : Int)
 hsp : sp < 256 ^ k
 ha : at_ < 4294967296
 hd : d.ok
 hss : ss.ok
 nul : d.nul = false
def lastC (C : CpuS) (ring k rn sp at_ : Nat) (ss : SegR) : CpuS := if rn = ring then C.setR 4 at_ else ((C.setSeg 2 ss).setR 4 (spOf C k sp)).dropSegs rn
theorem ret_32 {sp k ring : Nat} (T : Hp w A W (oEn eb vb bb pl n s1 :: (retB eb be bz sz ++ (retL eb bc ba at_ ++ [Ob.box gd (descO d), Ob.box gs (segO ss)])))) (h : RetOk N n sz k sp at_ d ss) (hr : r = (.ok (), ⟨lastC s1.C ring k rn sp at_ ss, s1.R⟩)) {A2 A3 A4 A5 A6 q7 q8 q9 r0 r1 r2 r3 r4 r5 r6 r7 r8 r9 s0 s2 s4 s5 s6 s7 s8 s3 s9 t0 t1 t2 t3 t4 t5 t6 t7 t8 t9 u0 u2 u3 u8 u9 v0 v1 v2 v3 v4 v5 v6 v7 v8 v9 w0 w2 w3 w4 w5 w6 w7 w8 w9 x0 x1 x2 x3 x4 x5 x6 x7 x8 x9 y0 y1 y2 y3 y4 y5 y6 y7 y8 y9 z0 z1 z2 z3 z4 z5 z6 z7 z8 z9 A0 A1 a1 a2 a3 a4 a5 a6 a7 a8 a9 b0 b1 b2 b3 b4 b5 b6 b7 b8 b9 c1 c2 c3 c4 c5 c6 c7 c8 c9 d0 d1 d2 d3 d4 d5 d6 d7 d8 d9 e0 e1 e2 e3 e4 e5 e6 e7 e8 e9 f0 f1 f2 f3 f4 f5 f6 f7 f8 f9 g0 g1 g2 g3 g4 g5 g6 g7 g8 g9 h0 h1 h2 h3 h4 h5 h6 h7 h8 h9 i0 i1 i2 i3 i4 i5 i6 i7 i8 i9 j0 j1 j2 j3 j4 j5 j6 j7 j8 j9 k0 k1 k2 k3 k5 k6 k7 k8 k9 l0 l1 l2 l3 l4 l5 l6 l7 l8 l9 m0 m1 m2 m3 m4 m5 m6 m7 m8 m9 n0 n1 n2 n3 n4 n5 n6 n7 n8 n9 o0 o1 o2 o3 o4 o5 o6 o7 o8 o9 p0 p1 p2 p3 p4 p5 p6 p7 p8 p9 q0 q1 q2 q3 q4 q5 q6 : Value} {K34 : Act → World → Prop} (hK34 : ∀ a w1, Code.wp Tryz.prog (.seq (rg Tryz.f47 34) (tl Tryz.f47 34)) (bodyPost Tryz.prog Tryz.f47 (EnEnd w A eb vb bb pl N (retB eb be bz sz) r)) a w1 → K34 a w1) {K32 : Act → World → Prop} (hK32 : ∀ a w1, Code.wp Tryz.prog (tl Tryz.f47 32) (Exit.then K34 (bodyPost Tryz.prog Tryz.f47 (EnEnd w A eb vb bb pl N (retB eb be bz sz) r))) a w1 → K32 a w1) :
    Code.wp Tryz.prog (rg Tryz.f47 32) (Exit.then K32 (Exit.then K34 (bodyPost Tryz.prog Tryz.f47 (EnEnd w A eb vb bb pl N (retB eb be bz sz) r)))) ⟨#[.pointer (some ⟨bz, 0, none⟩), A2, .pointer (some ⟨bc, 0, none⟩), .pointer (some ⟨ba, 0, none⟩), A3, A4, A5, A6, .int .i64 (ring : Nat), .int .i64 (rn : Nat), q7, .pointer (some ⟨gs, 0, none⟩), .int .u32 (sp : Nat), q8, q9, r0, r1, r2, r3, r4, r5, r6, r7, r8, r9, s0, s2, s4, s5, s6, s7, s8, s3, s9, t0, t1, t2, t3, t4, t5, t6, t7, t8, t9, u0, u2, u3, u8, u9, v0, v1, v2, v3, v4, v5, v6, v7, v8, v9, w0, w2, w3, w4, w5, w6, w7, w8, w9, x0, x1, x2, x3, x4, x5, x6, x7, x8, x9, y0, y1, y2, y3, y4, y5, y6, y7, y8, y9, z0, z1, z2, z3, z4, z5, z6, z7, z8, z9, A0, A1, a1, a2, a3, a4, a5, a6, a7, a8, a9, b0, b1, b2, b3, b4, b5, b6, b7, b8, b9, c1, c2, c3, c4, c5, c6, c7, c8, c9, d0, d1, d2, d3, d4, d5, d6, d7, d8, d9, e0, e1, e2, e3, e4, e5, e6, e7, e8, e9, f0, f1, f2, f3, f4, f5, f6, f7, f8, f9, g0, g1, g2, g3, g4, g5, g6, g7, g8, g9, h0, h1, h2, h3, h4, h5, h6, h7, h8, h9, i0, i1, i2, i3, i4, i5, i6, i7, i8, i9, j0, j1, j2, j3, j4, j5, j6, j7, j8, j9, k0, k1, k2, k3, k5, k6, k7, k8, k9, l0, l1, l2, l3, l4, l5, l6, l7, l8, l9, m0, m1, m2, m3, m4, m5, m6, m7, m8, m9, n0, n1, n2, n3, n4, n5, n6, n7, n8, n9, o0, o1, o2, o3, o4, o5, o6, o7, o8, o9, p0, p1, p2, p3, p4, p5, p6, p7, p8, p9, q0, q1, q2, q3, q4, q5, q6], []⟩ W := by
 have HO := Lib.hid h
 have HT := Lib.hid T
 obtain ⟨c0, cf, cl⟩ := T.lone 3 rfl
 obtain ⟨a0, af, al⟩ := T.lone 4 rfl
 obtain ⟨k4, kf⟩ := (T.cpu 0 rfl).esp
 have kl := (T.en 0 rfl).2.2
 clear T h
 conv => arg 2; whnf
 conv at hK32 => enter [a, w1, 1, 2]; whnf
 conv at hK34 => enter [a, w1, 1, 2, 1]; whnf
 conv at hK34 => enter [a, w1, 1, 2, 2]; whnf
 by_cases he : rn = ring
 ·have hb : (((rn : Nat) : Int) == ((ring : Nat) : Int)) = true := by rw [he]; simp
  have HR := Lib.hid (show r = (.ok (), ⟨s1.C.setR 4 at_, s1.R⟩) by rw [hr, lastC, if_pos he])
  have HT2 := Lib.hid ((HT.out.setC 0 rfl 4 (.int .u32 (at_ : Nat)) (env_setR s1.C vb bb at_) (setR_ok (HT.out.cpu 0 rfl).1 4 at_ HO.out.ha)).drew)
  clear he hr
  go_upto_region 33 with (fail)
  go_region
  all_goals
   go_wp2_with fail
   go_end0
   exact env_ok HT2.out HO.out.hn HR.out
 ·have hb : (((rn : Nat) : Int) == ((ring : Nat) : Int)) = false := by rw [beq_eq_false_iff_ne]; omega
  have HR := Lib.hid (show r = (.ok (), ⟨((s1.C.setSeg 2 ss).setR 4 (spOf s1.C k sp)).dropSegs rn, s1.R⟩) by rw [hr, lastC, if_neg he])
  clear he hr
  go_upto_region 34 with (fail)
  exact ret_34 HT.out HO.out.hn HO.out.hk HO.out.hz HO.out.hsp HO.out.hss HR.out (by assumption)
def placedC (C : CpuS) (place : Nat) : CpuS := { C with eip := place, shadow := false }
theorem ret_31 {sp k ring place : Nat} (T : Hp w A W (oEn eb vb bb pl n s1 :: (retB eb be bz sz ++ (retL eb bc ba at_ ++ [Ob.box gd (descO d), Ob.box gs (segO ss)])))) (h : RetOk N n sz k sp at_ d ss) (hp : place < 4294967296) (hr : r = (.ok (), ⟨lastC (placedC s1.C place) ring k rn sp at_ ss, s1.R⟩)) {A1 A2 A3 A4 q7 q8 q9 r0 r1 r2 r3 r4 r5 r6 r7 r8 r9 s0 s2 s4 s5 s6 s7 s8 s3 s9 t0 t1 t2 t3 t4 t5 t6 t7 t8 t9 u0 u2 u3 u5 u8 u9 v0 v1 v2 v3 v4 v5 v6 v7 v8 v9 w0 w2 w3 w4 w5 w6 w7 w8 w9 x0 x1 x2 x3 x4 x5 x6 x7 x8 x9 y0 y1 y2 y3 y4 y5 y6 y7 y8 y9 z0 z1 z2 z3 z4 z5 z6 z7 z8 z9 A0 a0 a1 a2 a3 a4 a5 a6 a7 a8 a9 b0 b1 b2 b3 b4 b5 b6 b7 b8 b9 c1 c2 c3 c4 c5 c6 c7 c8 c9 d0 d1 d2 d3 d4 d5 d6 d7 d8 d9 e0 e1 e2 e3 e4 e5 e6 e7 e8 e9 f0 f1 f2 f3 f4 f5 f6 f7 f8 f9 g0 g1 g2 g3 g4 g5 g6 g7 g8 g9 h0 h1 h2 h3 h4 h5 h6 h7 h8 h9 i0 i1 i2 i3 i4 i5 i6 i7 i8 i9 j0 j1 j2 j3 j4 j5 j6 j7 j8 j9 k0 k1 k2 k3 k4 k5 k6 k7 l0 l1 l2 l3 l4 l5 l6 l7 l8 l9 m0 m1 m2 m3 m4 m5 m6 m7 m8 m9 n0 n1 n2 n3 n4 n5 n6 n7 n8 n9 o0 o1 o2 o3 o4 o5 o6 o7 o8 o9 p0 p1 p2 p3 p4 p5 p6 p7 p8 p9 q0 q1 q2 q3 q4 q5 q6 : Value} {K31 : Act → World → Prop} (hK31 : ∀ a w1, Code.wp Tryz.prog (tl Tryz.f47 31) (bodyPost Tryz.prog Tryz.f47 (EnEnd w A eb vb bb pl N (retB eb be bz sz) r)) a w1 → K31 a w1) :
    Code.wp Tryz.prog (rg Tryz.f47 31) (Exit.then K31 (bodyPost Tryz.prog Tryz.f47 (EnEnd w A eb vb bb pl N (retB eb be bz sz) r))) ⟨#[.pointer (some ⟨bz, 0, none⟩), A1, .pointer (some ⟨bc, 0, none⟩), .pointer (some ⟨ba, 0, none⟩), A2, .int .u32 (place : Nat), A3, A4, .int .i64 (ring : Nat), .int .i64 (rn : Nat), q7, .pointer (some ⟨gs, 0, none⟩), .int .u32 (sp : Nat), q8, q9, r0, r1, r2, r3, r4, r5, r6, r7, r8, r9, s0, s2, s4, s5, s6, s7, s8, s3, s9, t0, t1, t2, t3, t4, t5, t6, t7, t8, t9, u0, u2, u3, u5, u8, u9, v0, v1, v2, v3, v4, v5, v6, v7, v8, v9, w0, w2, w3, w4, w5, w6, w7, w8, w9, x0, x1, x2, x3, x4, x5, x6, x7, x8, x9, y0, y1, y2, y3, y4, y5, y6, y7, y8, y9, z0, z1, z2, z3, z4, z5, z6, z7, z8, z9, A0, a0, a1, a2, a3, a4, a5, a6, a7, a8, a9, b0, b1, b2, b3, b4, b5, b6, b7, b8, b9, c1, c2, c3, c4, c5, c6, c7, c8, c9, d0, d1, d2, d3, d4, d5, d6, d7, d8, d9, e0, e1, e2, e3, e4, e5, e6, e7, e8, e9, f0, f1, f2, f3, f4, f5, f6, f7, f8, f9, g0, g1, g2, g3, g4, g5, g6, g7, g8, g9, h0, h1, h2, h3, h4, h5, h6, h7, h8, h9, i0, i1, i2, i3, i4, i5, i6, i7, i8, i9, j0, j1, j2, j3, j4, j5, j6, j7, j8, j9, k0, k1, k2, k3, k4, k5, k6, k7, l0, l1, l2, l3, l4, l5, l6, l7, l8, l9, m0, m1, m2, m3, m4, m5, m6, m7, m8, m9, n0, n1, n2, n3, n4, n5, n6, n7, n8, n9, o0, o1, o2, o3, o4, o5, o6, o7, o8, o9, p0, p1, p2, p3, p4, p5, p6, p7, p8, p9, q0, q1, q2, q3, q4, q5, q6], []⟩ W := by
 have HO := Lib.hid h
 have HR := Lib.hid (show r = (.ok (), ⟨lastC (⟨placedC s1.C place, s1.R⟩ : Es).C ring k rn sp at_ ss, s1.R⟩) from hr)
 have H1 := Lib.hid (show Hp w A ((W.setCell ⟨eb, 8, none⟩ (.int .u32 (place : Nat))).setCell ⟨eb, 80, none⟩ (.bool false)).drew (oEn eb vb bb pl n ⟨placedC s1.C place, s1.R⟩ :: (retB eb be bz sz ++ (retL eb bc ba at_ ++ [Ob.box gd (descO d), Ob.box gs (segO ss)]))) from ((T.setEip 0 rfl place hp).setShadow 0 rfl).drew)
 have H2 := Lib.hid (show Hp w A ((W.setCell ⟨eb, 80, none⟩ (.bool false)).setCell ⟨eb, 8, none⟩ (.int .u32 (place : Nat))).drew (oEn eb vb bb pl n ⟨placedC s1.C place, s1.R⟩ :: (retB eb be bz sz ++ (retL eb bc ba at_ ++ [Ob.box gd (descO d), Ob.box gs (segO ss)]))) from ((T.setShadow 0 rfl).setEip 0 rfl place hp).drew)
 obtain ⟨c0, cf, cl⟩ := T.lone 3 rfl
 obtain ⟨k8, k9, k80, k81, kf, kl⟩ := (T.cpu 0 rfl).ends
 clear T h hp hr
 conv => arg 2; whnf
 conv at hK31 => enter [a, w1, 1, 2]; whnf
 go_region
 all_goals
  clear k8 k9 k80 k81 kf kl c0 cf cl
  go_upto_region 32 with (fail)
  first
   | exact ret_32 H1.out HO.out HR.out (by assumption) (by assumption)
   | exact ret_32 H2.out HO.out HR.out (by assumption) (by assumption)
def segdC (C : CpuS) (d : SegR) (sel place : Nat) : CpuS := placedC (C.setSeg 1 { d with sel := sel }) place
theorem ret_30 {sp k ring place sel : Nat} (T : Hp w A W (oEn eb vb bb pl n s1 :: (retB eb be bz sz ++ (retL eb bc ba at_ ++ [Ob.box gd (descO d), Ob.box gs (segO ss)])))) (h : RetOk N n sz k sp at_ d ss) (hp : place < 4294967296) (hs : sel < 65536) (hr : r = (.ok (), ⟨lastC (segdC s1.C d sel place) ring k rn sp at_ ss, s1.R⟩)) {B3 B4 B5 q6 q7 q8 q5 q9 r0 r1 r2 r3 r4 r5 r6 r7 r8 s0 s2 s3 s4 s5 r9 s6 s7 s8 s9 t0 t1 t2 t3 t4 t5 t6 t7 t8 t9 u0 u2 u3 u5 u6 u8 u9 v0 v1 v2 v3 v4 v5 v6 v7 v8 v9 w0 w2 w3 w4 w5 w6 w7 w8 w9 x0 x1 x2 x3 x4 x5 x6 x7 x8 x9 y9 z7 z8 z9 A0 A1 A2 A3 A4 A5 A6 A7 A8 A9 B0 B1 B2 a0 a1 a2 a3 a4 a5 a6 a7 a8 a9 b0 b1 b2 b3 b4 b5 b6 b7 b8 b9 c1 c2 c3 c4 c5 c6 c7 c8 c9 d0 d1 d2 d3 d4 d5 d6 d7 d8 d9 e0 e1 e2 e3 e4 e5 e6 e7 e8 e9 f0 f1 f2 f3 f4 f5 f6 f7 f8 f9 g0 g1 g2 g3 g4 g5 g6 g7 g8 g9 h0 h1 h2 h3 h4 h5 h6 h7 h8 h9 i0 i1 i2 i3 i4 i5 i6 i7 i8 i9 j0 j1 j2 j3 j4 j5 j6 j7 j8 j9 k0 k1 k2 k3 k4 k5 k6 k7 k8 k9 l0 l1 l2 l3 l4 l5 l6 l7 l8 l9 m0 m1 m2 m3 m4 m5 m6 m7 m8 m9 n0 n1 n2 n3 n4 n5 n6 n7 n8 n9 o0 o1 o2 o3 o4 o5 o6 o7 o8 o9 p0 p1 p2 p3 p4 p5 p6 p7 p8 p9 q0 q1 q2 q3 q4 : Value} {K30 : Act → World → Prop} (hK30 : ∀ a w1, Code.wp Tryz.prog (tl Tryz.f47 30) (bodyPost Tryz.prog Tryz.f47 (EnEnd w A eb vb bb pl N (retB eb be bz sz) r)) a w1 → K30 a w1) :
    Code.wp Tryz.prog (rg Tryz.f47 30) (Exit.then K30 (bodyPost Tryz.prog Tryz.f47 (EnEnd w A eb vb bb pl N (retB eb be bz sz) r))) ⟨#[.pointer (some ⟨bz, 0, none⟩), B3, .pointer (some ⟨bc, 0, none⟩), .pointer (some ⟨ba, 0, none⟩), B4, .int .u32 (place : Nat), .int .u16 (sel : Nat), B5, .int .i64 (ring : Nat), .int .i64 (rn : Nat), .pointer (some ⟨gd, 0, none⟩), .pointer (some ⟨gs, 0, none⟩), .int .u32 (sp : Nat), q6, q7, q8, q5, q9, r0, r1, r2, r3, r4, r5, r6, r7, r8, s0, s2, s3, s4, s5, r9, s6, s7, s8, s9, t0, t1, t2, t3, t4, t5, t6, t7, t8, t9, u0, u2, u3, u5, u6, u8, u9, v0, v1, v2, v3, v4, v5, v6, v7, v8, v9, w0, w2, w3, w4, w5, w6, w7, w8, w9, x0, x1, x2, x3, x4, x5, x6, x7, x8, x9, y9, z7, z8, z9, A0, A1, A2, A3, A4, A5, A6, A7, A8, A9, B0, B1, B2, a0, a1, a2, a3, a4, a5, a6, a7, a8, a9, b0, b1, b2, b3, b4, b5, b6, b7, b8, b9, c1, c2, c3, c4, c5, c6, c7, c8, c9, d0, d1, d2, d3, d4, d5, d6, d7, d8, d9, e0, e1, e2, e3, e4, e5, e6, e7, e8, e9, f0, f1, f2, f3, f4, f5, f6, f7, f8, f9, g0, g1, g2, g3, g4, g5, g6, g7, g8, g9, h0, h1, h2, h3, h4, h5, h6, h7, h8, h9, i0, i1, i2, i3, i4, i5, i6, i7, i8, i9, j0, j1, j2, j3, j4, j5, j6, j7, j8, j9, k0, k1, k2, k3, k4, k5, k6, k7, k8, k9, l0, l1, l2, l3, l4, l5, l6, l7, l8, l9, m0, m1, m2, m3, m4, m5, m6, m7, m8, m9, n0, n1, n2, n3, n4, n5, n6, n7, n8, n9, o0, o1, o2, o3, o4, o5, o6, o7, o8, o9, p0, p1, p2, p3, p4, p5, p6, p7, p8, p9, q0, q1, q2, q3, q4], []⟩ W := by
 have HO := Lib.hid h
 have HP := Lib.hid hp
 have hd' : (⟨sel, false, d.base, d.lim, d.typ, d.sys, d.dpl, d.pre, d.big⟩ : SegR) = { d with sel := sel } := by
  have := h.nul
  cases d
  simp_all
 have hok : ({ d with sel := sel } : SegR).ok := ⟨hs, h.hd.base, h.hd.lim, h.hd.typ, h.hd.dpl⟩
 have HR := Lib.hid (show r = (.ok (), ⟨lastC (placedC (⟨s1.C.setSeg 1 { d with sel := sel }, s1.R⟩ : Es).C place) ring k rn sp at_ ss, s1.R⟩) from hr)
 have HT := Lib.hid (show Hp w A (setsG W eb 19 ⟨sel, false, d.base, d.lim, d.typ, d.sys, d.dpl, d.pre, d.big⟩).drew (oEn eb vb bb pl n ⟨s1.C.setSeg 1 { d with sel := sel }, s1.R⟩ :: (retB eb be bz sz ++ (retL eb bc ba at_ ++ [Ob.box gd (descO d), Ob.box gs (segO ss)]))) from by rw [hd']; exact (T.setCs 0 rfl _ hok).drew)
 obtain ⟨c0, cf, cl⟩ := T.lone 3 rfl
 obtain ⟨z0, z1, z2, z3, z4, z5, z6, zf, zl⟩ := T.dbox 5 rfl
 obtain ⟨y0, y1, y2, y3, y4, y5, y6, y7, y8, yf, yl⟩ := (T.cpu 0 rfl).codeSeg
 clear T h hp hr hd' hok
 conv => arg 2; whnf
 conv at hK30 => enter [a, w1, 1, 2]; whnf
 go_region
 all_goals
  change Exit.then _ _ _ _ (setsG W eb 19 ⟨sel, false, d.base, d.lim, d.typ, d.sys, d.dpl, d.pre, d.big⟩).drew
  clear z0 z1 z2 z3 z4 z5 z6 zf zl y0 y1 y2 y3 y4 y5 y6 y7 y8 yf yl c0 cf cl
  generalize (setsG W eb 19 ⟨sel, false, d.base, d.lim, d.typ, d.sys, d.dpl, d.pre, d.big⟩).drew = W3 at *
  go_upto_region 31 with (fail)
  exact ret_31 HT.out HO.out HP.out HR.out (by assumption)
end
end Go.Proofs.YtmpcafdgkbpneaaGreat

