/- Steps of a proof: ExW, together. -/
import Derived.Test.YtmpcafdgkbpneaaGreatS23
/- except: Return's inner function: the code segment is looked at. -/
open List renaming getElem_toArray → lz0, getElem_cons_zero → lz1, getElem_cons_succ → lz2, setIfInBounds_toArray → lz3, set_cons_zero → lz4, set_cons_succ → lz5
set_option maxHeartbeats 4000000
set_option maxRecDepth 20000
namespace Go.Proofs.YtmpcafdgkbpneaaGreat
open Go.RowKit Go.MapKept
set_option linter.unusedVariables false
set_option linter.unusedSimpArgs false
attribute [local go_sem ↓] Go.wp_at_zero Go.wp_at_succ

section
variable {w W w' w0 : World} {A A0 : Nat → Prop} {os bs loc : List Ob} {eb vb bb be bz bc ba at_ gd gs : Nat} {pl : Pl} {n n' N : Nat} {s s1 s' : Es} {sz : Int} {r : Except FaultS Unit × Es} {rn : Nat} {d ss : SegR} {C : CpuS}
def w17 (C : CpuS) (k place sel fl : Nat) (d : SegR) (rn at_ : Nat) : Ex Unit := (loadE 2 at_ (k : Int)).then fun sp => u18 C k place sel fl d rn sp ((at_ + k) % 4294967296)
theorem ret_17 {sp k place sel fl : Nat} (T : Hp w A W (oEn eb vb bb pl n s1 :: (retB eb be bz sz ++ (retL eb bc ba at_ ++ [Ob.box gd (descO d), Ob.box gs (segO zSeg)])))) (h : RetOk N n sz k 0 at_ d zSeg) (hn : n + 8 ≤ N) (hN : N * 12 ≤ 140737488355328) (hp : place < 4294967296 ∧ sel < 65536 ∧ fl < 4294967296) (hC : s1.C = C) (hr : r = w17 C k place sel fl d rn at_ s1) {q9 r0 r1 q8 r2 u18 u19 u20 u21 u22 r3 r4 r5 r6 r8 r9 s0 s2 s4 r7 s5 s6 s7 s8 s9 t0 t1 t2 t3 t4 t5 t6 t7 t8 t9 u0 u1 u2 u3 u4 u5 u6 u7 u8 u9 v0 v1 v2 v3 v4 v5 v6 v7 v8 v9 w0 w2 w3 w4 w5 w6 w7 w8 w9 x0 x1 x2 x3 x4 x5 x6 x7 x8 x9 y0 y1 y2 y3 y4 y5 y6 y7 y8 y9 z0 z1 z2 a0 a1 a2 a3 a4 a5 a6 a7 a8 a9 b0 b1 b2 b3 b4 b5 b6 b7 b8 b9 c0 c1 c2 c3 c4 c5 c6 c7 c8 c9 d0 d1 d2 d3 d4 d5 d6 d7 d8 d9 e0 e1 e2 e3 e4 e5 e6 e7 e8 e9 f0 f1 f2 f4 f5 f6 f7 f8 f9 g0 g1 g2 g3 g4 g5 g6 g7 g8 g9 h0 h4 h5 h6 h7 h8 h9 i0 i1 i2 i3 i4 i5 i6 i7 i8 i9 j0 j1 j2 j3 j4 j5 j6 j7 j8 j9 k0 k1 k2 k3 k4 k5 k6 k7 k8 k9 l0 l1 l2 l3 l4 l5 l6 l7 l8 l9 m0 m1 m2 m3 m4 m5 m6 m7 m8 m9 n0 n1 n2 n3 n4 n5 n6 n7 n8 n9 o0 o1 o2 o3 o4 o5 o6 o7 o8 o9 p0 p1 p2 p3 p4 p5 p6 p7 p8 p9 q0 q1 q2 q3 q4 q5 q6 q7 : Value} {K23 : Act → World → Prop} (hK23 : ∀ a w1, Code.wp Tryz.prog (.seq (rg Tryz.f47 23) (tl Tryz.f47 23)) (bodyPost Tryz.prog Tryz.f47 (EnEnd w A eb vb bb pl N (retB eb be bz sz) r)) a w1 → K23 a w1) {K17 : Act → World → Prop} (hK17 : ∀ a w1, Code.wp Tryz.prog (tl Tryz.f47 17) (Exit.then K23 (bodyPost Tryz.prog Tryz.f47 (EnEnd w A eb vb bb pl N (retB eb be bz sz) r))) a w1 → K17 a w1) :
    Code.wp Tryz.prog (rg Tryz.f47 17) (Exit.then K17 (Exit.then K23 (bodyPost Tryz.prog Tryz.f47 (EnEnd w A eb vb bb pl N (retB eb be bz sz) r)))) ⟨#[.pointer (some ⟨bz, 0, none⟩), .pointer (some ⟨be, 0, none⟩), .pointer (some ⟨bc, 0, none⟩), .pointer (some ⟨ba, 0, none⟩), .func (.func 48) #[] #[.pointer (some ⟨be, 0, none⟩), .pointer (some ⟨bc, 0, none⟩), .pointer (some ⟨ba, 0, none⟩), .pointer (some ⟨bz, 0, none⟩)], .int .u32 (place : Nat), .int .u16 (sel : Nat), .int .u32 (fl : Nat), .int .i64 (C.ring : Nat), .int .i64 (rn : Nat), .pointer (some ⟨gd, 0, none⟩), .pointer (some ⟨gs, 0, none⟩), .int .u32 (sp : Nat), q9, r0, r1, q8, r2, u18, u19, u20, u21, u22, r3, r4, r5, r6, r8, r9, s0, s2, s4, r7, s5, s6, s7, s8, s9, t0, t1, t2, t3, t4, t5, t6, t7, t8, t9, u0, u1, u2, u3, u4, u5, u6, u7, u8, u9, v0, v1, v2, v3, v4, v5, v6, v7, v8, v9, w0, w2, w3, w4, w5, w6, w7, w8, w9, x0, x1, x2, x3, x4, x5, x6, x7, x8, x9, y0, y1, y2, y3, y4, y5, y6, y7, y8, y9, z0, z1, z2, a0, a1, a2, a3, a4, a5, a6, a7, a8, a9, b0, b1, b2, b3, b4, b5, b6, b7, b8, b9, c0, c1, c2, c3, c4, c5, c6, c7, c8, c9, d0, d1, d2, d3, d4, d5, d6, d7, d8, d9, e0, e1, e2, e3, e4, e5, e6, e7, e8, e9, f0, f1, f2, f4, f5, f6, f7, f8, f9, g0, g1, g2, g3, g4, g5, g6, g7, g8, g9, h0, h4, h5, h6, h7, h8, h9, i0, i1, i2, i3, i4, i5, i6, i7, i8, i9, j0, j1, j2, j3, j4, j5, j6, j7, j8, j9, k0, k1, k2, k3, k4, k5, k6, k7, k8, k9, l0, l1, l2, l3, l4, l5, l6, l7, l8, l9, m0, m1, m2, m3, m4, m5, m6, m7, m8, m9, n0, n1, n2, n3, n4, n5, n6, n7, n8, n9, o0, o1, o2, o3, o4, o5, o6, o7, o8, o9, p0, p1, p2, p3, p4, p5, p6, p7, p8, p9, q0, q1, q2, q3, q4, q5, q6, q7], []⟩ W := by
 have HO := Lib.hid h
 have HN := Lib.hid (And.intro hn hN)
 have HP := Lib.hid hp
 have HR := Lib.hid hr
 have HC := Lib.hid hC
 have HT := Lib.hid T
 have HG := Lib.hid (show s1.good from ⟨T.wide 0 rfl, (T.cpu 0 rfl).1⟩)
 have hen := fun args w => next_enters args w
 clear T h hn hN hp hr hC
 conv => arg 2; whnf
 conv at hK17 => enter [a, w1, 1, 2]; whnf
 go_wp2_with fail
 refine (next_x (loc := [Ob.box gd (descO d), Ob.box gs (segO zSeg)]) HT.out HO.out.ha (by have := HO.out.hz; have := HO.out.hk; omega) (by have := HN.out; omega)).mono ?_
 rintro e W2 ⟨h1, h2⟩
 rw [HO.out.hz] at h1 h2
 rcases h3 : loadE 2 at_ (k : Int) s1 with ⟨f3 | v, s3⟩
 ·obtain ⟨rfl, T4⟩ := h2 _ _ h3
  clear h1 h2
  go_wp2_with fail
  rw [← HO.out.hz] at T4
  exact ⟨rfl, env_no (loc := retL eb bc ba at_ ++ [Ob.box gd (descO d), Ob.box gs (segO zSeg)]) T4 (by have := HN.out; omega) (HR.out.trans (Ex.then_no h3))⟩
 ·obtain ⟨rfl, T4⟩ := h1 _ _ h3
  rw [← HO.out.hz, HO.out.hz, Int.toNat_natCast] at T4
  have HL := Lib.hid ((Safe.load HG.out 2 at_ HO.out.ha k HO.out.hk _ _ h3).2.1 v rfl)
  have HT4 := Lib.hid (show Hp w A W2 (oEn eb vb bb pl (n + 2) s3 :: (retB eb be bz sz ++ (retL eb bc ba ((at_ + k) % 4294967296) ++ [Ob.box gd (descO d), Ob.box gs (segO zSeg)]))) from by rw [HO.out.hz]; exact T4)
  have HR2 := Lib.hid (HR.out.trans (Ex.then_ok h3))
  have HC2 := Lib.hid (show s3.C = C from HL.out.2.trans HC.out)
  clear T4 h1 h2 h3 HR HC
  go_upto_region 18 with (fail)
  exact ret_18 HT4.out ⟨by have := HN.out; omega, HO.out.hk, HO.out.hz, HL.out.1, Nat.mod_lt _ (by decide), HO.out.hd, HO.out.hss, HO.out.nul⟩ (by have := HN.out; omega) HN.out.2 HP.out HC2.out HR2.out (by assumption) (by assumption)
def w16 (C : CpuS) (k place sel fl : Nat) (d : SegR) (rn at_ : Nat) : Ex Unit := if C.ring < rn then w17 C k place sel fl d rn at_ else (needE (decide (place ≤ d.lim)) 13 0).then fun _ => Ex.upd fun t => ⟨lastC (C.left k place sel fl d) C.ring k rn 0 at_ zSeg, t.R⟩
theorem zSeg_ok : zSeg.ok := ⟨by decide, by decide, by decide, by decide, by decide⟩
theorem ret_14 {k place sel fl : Nat} (T : Hp w A W (oEn eb vb bb pl n s1 :: (retB eb be bz sz ++ (retL eb bc ba at_ ++ [Ob.box gd (descO d)])))) (h : RetOk N n sz k 0 at_ d zSeg) (hn : n + 8 ≤ N) (hN : N * 12 ≤ 140737488355328) (hp : place < 4294967296 ∧ sel < 65536 ∧ fl < 4294967296) (hC : s1.C = C) (hr : r = w16 C k place sel fl d rn at_ s1) {q5 q6 q7 q8 q9 q4 r0 u18 u19 u20 u21 u22 r1 r2 r3 r4 r6 r7 r8 r9 s0 r5 s2 s3 s4 s5 s6 s7 s8 s9 t0 t1 t2 t3 t4 t5 t6 t7 t8 t9 u0 u1 u2 u3 u4 u5 u6 u7 u8 u9 v0 v1 v2 v3 v4 v5 v6 v7 v8 v9 w0 w2 w3 w4 w5 w6 w7 w8 w9 x0 x1 x2 x3 x4 x5 x6 x7 x8 x9 y0 y1 y2 y3 y4 y5 y6 y7 y8 y9 a0 a1 a2 a3 a4 a5 a6 a7 a8 a9 b0 b1 b2 b3 b4 b5 b6 b7 b8 b9 c0 c1 c2 c3 c4 c5 c6 c7 c8 c9 d0 d1 d2 d3 d4 d5 d6 d7 d8 d9 e0 e1 e2 e3 e4 e5 e6 e7 e8 e9 f0 f1 f2 f3 f4 f5 f6 f7 f8 f9 g0 g1 g2 g3 g4 g5 g6 g7 g8 g9 h0 h1 h2 h3 h4 h5 h6 h7 h8 h9 i0 i1 i2 i3 i4 i5 i6 i7 i8 i9 j0 j1 j2 j3 j4 j5 j6 j7 j8 j9 k0 k1 k2 k3 k4 k5 k6 k7 k8 k9 l0 l1 l2 l3 l4 l5 l6 l7 l8 l9 m0 m1 m2 m3 m4 m5 m6 m7 m8 m9 n0 n1 n2 n3 n4 n5 n6 n7 n8 n9 o0 o1 o2 o3 o4 o5 o6 o7 o8 o9 p0 p1 p2 p3 p4 p5 p6 p7 p8 p9 q0 q1 q2 q3 : Value} {K14 : Act → World → Prop} (hK14 : ∀ a w1, Code.wp Tryz.prog (tl Tryz.f47 14) (bodyPost Tryz.prog Tryz.f47 (EnEnd w A eb vb bb pl N (retB eb be bz sz) r)) a w1 → K14 a w1) :
    Code.wp Tryz.prog (rg Tryz.f47 14) (Exit.then K14 (bodyPost Tryz.prog Tryz.f47 (EnEnd w A eb vb bb pl N (retB eb be bz sz) r))) ⟨#[.pointer (some ⟨bz, 0, none⟩), .pointer (some ⟨be, 0, none⟩), .pointer (some ⟨bc, 0, none⟩), .pointer (some ⟨ba, 0, none⟩), .func (.func 48) #[] #[.pointer (some ⟨be, 0, none⟩), .pointer (some ⟨bc, 0, none⟩), .pointer (some ⟨ba, 0, none⟩), .pointer (some ⟨bz, 0, none⟩)], .int .u32 (place : Nat), .int .u16 (sel : Nat), .int .u32 (fl : Nat), .int .i64 (C.ring : Nat), .int .i64 (rn : Nat), .pointer (some ⟨gd, 0, none⟩), q5, q6, q7, q8, q9, q4, r0, u18, u19, u20, u21, u22, r1, r2, r3, r4, r6, r7, r8, r9, s0, r5, s2, s3, s4, s5, s6, s7, s8, s9, t0, t1, t2, t3, t4, t5, t6, t7, t8, t9, u0, u1, u2, u3, u4, u5, u6, u7, u8, u9, v0, v1, v2, v3, v4, v5, v6, v7, v8, v9, w0, w2, w3, w4, w5, w6, w7, w8, w9, x0, x1, x2, x3, x4, x5, x6, x7, x8, x9, y0, y1, y2, y3, y4, y5, y6, y7, y8, y9, a0, a1, a2, a3, a4, a5, a6, a7, a8, a9, b0, b1, b2, b3, b4, b5, b6, b7, b8, b9, c0, c1, c2, c3, c4, c5, c6, c7, c8, c9, d0, d1, d2, d3, d4, d5, d6, d7, d8, d9, e0, e1, e2, e3, e4, e5, e6, e7, e8, e9, f0, f1, f2, f3, f4, f5, f6, f7, f8, f9, g0, g1, g2, g3, g4, g5, g6, g7, g8, g9, h0, h1, h2, h3, h4, h5, h6, h7, h8, h9, i0, i1, i2, i3, i4, i5, i6, i7, i8, i9, j0, j1, j2, j3, j4, j5, j6, j7, j8, j9, k0, k1, k2, k3, k4, k5, k6, k7, k8, k9, l0, l1, l2, l3, l4, l5, l6, l7, l8, l9, m0, m1, m2, m3, m4, m5, m6, m7, m8, m9, n0, n1, n2, n3, n4, n5, n6, n7, n8, n9, o0, o1, o2, o3, o4, o5, o6, o7, o8, o9, p0, p1, p2, p3, p4, p5, p6, p7, p8, p9, q0, q1, q2, q3], []⟩ W := by
 have HO := Lib.hid h
 have HN := Lib.hid (And.intro hn hN)
 have HP := Lib.hid hp
 have HC := Lib.hid hC
 have HT := Lib.hid (show Hp w A (W.alloc (segO zSeg)) (oEn eb vb bb pl n s1 :: (retB eb be bz sz ++ (retL eb bc ba at_ ++ [Ob.box gd (descO d), Ob.box W.heap.size (segO zSeg)]))) from T.make _)
 clear T h hn hN hp hC
 conv => arg 2; whnf
 conv at hK14 => enter [a, w1, 1, 2]; whnf
 by_cases hlt : C.ring < rn
 ·have HR := Lib.hid (show r = w17 C k place sel fl d rn at_ s1 by rw [hr, w16, if_pos hlt])
  have hb : ((C.ring : Nat) : Int) < ((rn : Nat) : Int) := by omega
  clear hr hlt
  go_upto_region 17 with (fail)
  change Code.wp _ _ _ _ (W.alloc (segO zSeg))
  generalize W.alloc (segO zSeg) = W1 at *
  generalize W.heap.size = gs at *
  exact ret_17 (sp := 0) HT.out HO.out HN.out.1 HN.out.2 HP.out HC.out HR.out (by assumption) (by assumption)
 ·have HR := Lib.hid (show r = ((needE (decide (place ≤ d.lim)) 13 0).then fun _ => Ex.upd fun t => ⟨lastC (s1.C.left k place sel fl d) s1.C.ring k rn 0 at_ zSeg, t.R⟩) s1 by rw [hr, w16, if_neg hlt, HC.out])
  have hb : ¬ ((C.ring : Nat) : Int) < ((rn : Nat) : Int) := by omega
  clear hr hlt
  go_upto_region 23 with (fail)
  change Code.wp _ _ _ _ (W.alloc (segO zSeg))
  generalize W.alloc (segO zSeg) = W1 at *
  generalize W.heap.size = gs at *
  rw [← HC.out]
  exact ret_23 (sp := 0) HT.out HO.out HP.out.1 HP.out.2.1 HP.out.2.2 HR.out (by assumption)
def w13 (C : CpuS) (k place sel fl : Nat) (d : SegR) (rn at_ : Nat) : Ex Unit := (needE d.pre 11 (codeOfN sel : Nat)).then fun _ => w16 C k place sel fl d rn at_
theorem ret_13 {k place sel fl : Nat} (T : Hp w A W (oEn eb vb bb pl n s1 :: (retB eb be bz sz ++ (retL eb bc ba at_ ++ [Ob.box gd (descO d)])))) (h : RetOk N n sz k 0 at_ d zSeg) (hn : n + 8 ≤ N) (hN : N * 12 ≤ 140737488355328) (hp : place < 4294967296 ∧ sel < 65536 ∧ fl < 4294967296) (hC : s1.C = C) (hr : r = w13 C k place sel fl d rn at_ s1) {q5 q6 q7 q8 q9 q4 r0 u18 u19 u20 u21 u22 r1 r2 r3 r4 r6 r7 r8 r9 s0 r5 s2 s3 s4 s5 s6 s7 s8 s9 t0 t1 t2 t3 t4 t5 t6 t7 t8 t9 u0 u1 u2 u3 u4 u5 u6 u7 u8 u9 v0 v1 v2 v3 v4 v5 v6 v7 v8 v9 w0 w2 w3 w4 w5 w6 w7 w8 w9 x0 x1 x2 x3 x4 x5 x6 x7 x8 x9 y0 y1 y2 y3 y4 y5 y6 y7 y8 y9 a0 a1 a2 a3 a4 a5 a6 a7 a8 a9 b0 b1 b2 b3 b4 b5 b6 b7 b8 b9 c0 c1 c2 c3 c4 c5 c6 c7 c8 c9 d0 d1 d2 d3 d4 d5 d6 d7 d8 d9 e0 e1 e2 e3 e4 e5 e6 e7 e8 e9 f0 f1 f2 f3 f4 f5 f6 f7 f8 f9 g0 g1 g2 g3 g4 g5 g6 g7 g8 g9 h0 h1 h2 h3 h4 h5 h6 h7 h8 h9 i0 i1 i2 i3 i4 i5 i6 i7 i8 i9 j0 j1 j2 j3 j4 j5 j6 j7 j8 j9 k0 k1 k2 k3 k4 k5 k6 k7 k8 k9 l0 l1 l2 l3 l4 l5 l6 l7 l8 l9 m0 m1 m2 m3 m4 m5 m6 m7 m8 m9 n0 n1 n2 n3 n4 n5 n6 n7 n8 n9 o0 o1 o2 o3 o4 o5 o6 o7 o8 o9 p0 p1 p2 p3 p4 p5 p6 p7 p8 p9 q0 q1 q2 q3 : Value} {K13 : Act → World → Prop} (hK13 : ∀ a w1, Code.wp Tryz.prog (tl Tryz.f47 13) (bodyPost Tryz.prog Tryz.f47 (EnEnd w A eb vb bb pl N (retB eb be bz sz) r)) a w1 → K13 a w1) :
    Code.wp Tryz.prog (rg Tryz.f47 13) (Exit.then K13 (bodyPost Tryz.prog Tryz.f47 (EnEnd w A eb vb bb pl N (retB eb be bz sz) r))) ⟨#[.pointer (some ⟨bz, 0, none⟩), .pointer (some ⟨be, 0, none⟩), .pointer (some ⟨bc, 0, none⟩), .pointer (some ⟨ba, 0, none⟩), .func (.func 48) #[] #[.pointer (some ⟨be, 0, none⟩), .pointer (some ⟨bc, 0, none⟩), .pointer (some ⟨ba, 0, none⟩), .pointer (some ⟨bz, 0, none⟩)], .int .u32 (place : Nat), .int .u16 (sel : Nat), .int .u32 (fl : Nat), .int .i64 (C.ring : Nat), .int .i64 (rn : Nat), .pointer (some ⟨gd, 0, none⟩), q5, q6, q7, q8, q9, q4, r0, u18, u19, u20, u21, u22, r1, r2, r3, r4, r6, r7, r8, r9, s0, r5, s2, s3, s4, s5, s6, s7, s8, s9, t0, t1, t2, t3, t4, t5, t6, t7, t8, t9, u0, u1, u2, u3, u4, u5, u6, u7, u8, u9, v0, v1, v2, v3, v4, v5, v6, v7, v8, v9, w0, w2, w3, w4, w5, w6, w7, w8, w9, x0, x1, x2, x3, x4, x5, x6, x7, x8, x9, y0, y1, y2, y3, y4, y5, y6, y7, y8, y9, a0, a1, a2, a3, a4, a5, a6, a7, a8, a9, b0, b1, b2, b3, b4, b5, b6, b7, b8, b9, c0, c1, c2, c3, c4, c5, c6, c7, c8, c9, d0, d1, d2, d3, d4, d5, d6, d7, d8, d9, e0, e1, e2, e3, e4, e5, e6, e7, e8, e9, f0, f1, f2, f3, f4, f5, f6, f7, f8, f9, g0, g1, g2, g3, g4, g5, g6, g7, g8, g9, h0, h1, h2, h3, h4, h5, h6, h7, h8, h9, i0, i1, i2, i3, i4, i5, i6, i7, i8, i9, j0, j1, j2, j3, j4, j5, j6, j7, j8, j9, k0, k1, k2, k3, k4, k5, k6, k7, k8, k9, l0, l1, l2, l3, l4, l5, l6, l7, l8, l9, m0, m1, m2, m3, m4, m5, m6, m7, m8, m9, n0, n1, n2, n3, n4, n5, n6, n7, n8, n9, o0, o1, o2, o3, o4, o5, o6, o7, o8, o9, p0, p1, p2, p3, p4, p5, p6, p7, p8, p9, q0, q1, q2, q3], []⟩ W := by
 have HO := Lib.hid h
 have HN := Lib.hid (And.intro hn hN)
 have HP := Lib.hid hp
 have HC := Lib.hid hC
 have HR := Lib.hid hr
 have HH := Lib.hid T.drew
 clear T h hn hN hp hC hr
 conv => arg 2; whnf
 conv at hK13 => enter [a, w1, 1, 2]; whnf
 refine wp_region_held_drew (S := fun w' => Hp w A w' (oEn eb vb bb pl n s1 :: (retB eb be bz sz ++ (retL eb bc ba at_ ++ [Ob.box gd (descO d)])))) (by kernel_rfl) HH.out (fun hHeld => ?_)
 refine wpAnyH_take (i := 0) (oi := _) (v := ?_) rfl (by kernel_rfl) (by kernel_rfl) (by kernel_rfl) (fun _ _ _ h => h) (Or.inl ⟨by rfl, ?_⟩) (by assumption) ?_
 rotate_left
 ·(intro w hSw; (try dsimp only at hSw); go_simp <;> rfl)
 try simp only [Act.put, lz0, lz1, lz2, lz3, lz4, lz5]
 refine wpAnyH_take (i := 1) (oi := _) (v := ?_) rfl (by kernel_rfl) (by kernel_rfl) (by kernel_rfl) (fun _ _ _ h => h) (Or.inl ⟨by rfl, ?_⟩) (by assumption) ?_
 rotate_left
 ·(intro w hSw; obtain ⟨z0, z1, z2, z3, z4, z5, z6, zf, zl⟩ := hSw.dbox (d := d) 5 rfl; (try dsimp only at hSw); go_simp <;> rfl)
 try simp only [Act.put, lz0, lz1, lz2, lz3, lz4, lz5]
 refine wpAnyH_take (i := 2) (oi := _) (v := ?_) rfl (by kernel_rfl) (by kernel_rfl) (by kernel_rfl) (fun _ _ _ h => h) (Or.inl ⟨by rfl, ?_⟩) (by assumption) ?_
 rotate_left
 ·(intro w hSw; (try dsimp only at hSw); go_simp <;> rfl)
 try simp only [Act.put, lz0, lz1, lz2, lz3, lz4, lz5]
 refine wpAnyH_ready (rs := [3]) (by kernel_rfl) (by decide) (AllReadyH.cons rfl (fun K hK => ?_) AllReadyH.nil)
 go_simp
 refine (code_x sel HP.out.2.1 _ rfl _).mono ?_
 rintro e w' ⟨rfl, rfl⟩
 go_wp2_with fail
 refine hK.out _ _ (hHeld) (fun hHeld => ?_)
 clear hK K
 try simp only [Act.put, lz0, lz1, lz2, lz3, lz4, lz5]
 refine wpAnyH_ready (rs := [4]) (by kernel_rfl) (by decide) (AllReadyH.cons rfl (fun K hK => ?_) AllReadyH.nil)
 go_simp
 refine (need_d _ _ _ _).mono ?_
 rintro e w' ⟨rfl, ⟨hb, rfl⟩ | ⟨hb, rfl⟩⟩
 ·have HR2 := Lib.hid (HR.out.trans (Ex.then_ok (need_ok hb _ _ _)))
  clear hb HR
  go_wp2_with fail
  refine hK.out _ _ hHeld (fun hHeld => ?_)
  clear hK K
  refine wpAnyH_done (by kernel_rfl) ?_ _
  try simp only [Act.put, lz0, lz1, lz2, lz3, lz4, lz5]
  go_upto_region 14 with (fail)
  exact ret_14 hHeld HO.out HN.out.1 HN.out.2 HP.out HC.out HR2.out (by assumption)
 ·have HR2 := Lib.hid (show r = (.error ⟨11, _, 0⟩, s1) from HR.out.trans (Ex.then_no (need_no hb _ _ _)))
  clear hb
  go_wp2_with fail
  exact ⟨rfl, env_no (loc := retL eb bc ba at_ ++ [Ob.box gd (descO d)]) hHeld HO.out.hn HR2.out⟩
def w12 (C : CpuS) (k place sel fl : Nat) (d : SegR) (rn at_ : Nat) : Ex Unit := (needE (d.isCode && (d.dpl == ((rn : Nat) : Int) || (d.conf && decide (d.dpl < ((rn : Nat) : Int))))) 13 (codeOfN sel : Nat)).then fun _ => w13 C k place sel fl d rn at_
theorem ret_12 {k place sel fl : Nat} (T : Hp w A W (oEn eb vb bb pl n s1 :: (retB eb be bz sz ++ (retL eb bc ba at_ ++ [Ob.box gd (descO d)])))) (h : RetOk N n sz k 0 at_ d zSeg) (hn : n + 8 ≤ N) (hN : N * 12 ≤ 140737488355328) (hp : place < 4294967296 ∧ sel < 65536 ∧ fl < 4294967296) (hC : s1.C = C) (hr : r = w12 C k place sel fl d rn at_ s1) {q5 q6 q7 q8 q9 q4 r0 u18 u19 u20 u21 u22 r1 r2 r3 r4 r6 r7 r8 r9 s0 r5 s2 s3 s4 s5 s6 s7 s8 s9 t0 t1 t2 t3 t4 t5 t6 t7 t8 t9 u0 u1 u2 u3 u4 u5 u6 u7 u8 u9 v0 v1 v2 v3 v4 v5 v6 v7 v8 v9 w0 w2 w3 w4 w5 w6 w7 w8 w9 x0 x1 x2 x3 x4 x5 x6 x7 x8 x9 y0 y1 y2 y3 y4 y5 y6 y7 y8 y9 a0 a1 a2 a3 a4 a5 a6 a7 a8 a9 b0 b1 b2 b3 b4 b5 b6 b7 b8 b9 c0 c1 c2 c3 c4 c5 c6 c7 c8 c9 d0 d1 d2 d3 d4 d5 d6 d7 d8 d9 e0 e1 e2 e3 e4 e5 e6 e7 e8 e9 f0 f1 f2 f3 f4 f5 f6 f7 f8 f9 g0 g1 g2 g3 g4 g5 g6 g7 g8 g9 h0 h1 h2 h3 h4 h5 h6 h7 h8 h9 i0 i1 i2 i3 i4 i5 i6 i7 i8 i9 j0 j1 j2 j3 j4 j5 j6 j7 j8 j9 k0 k1 k2 k3 k4 k5 k6 k7 k8 k9 l0 l1 l2 l3 l4 l5 l6 l7 l8 l9 m0 m1 m2 m3 m4 m5 m6 m7 m8 m9 n0 n1 n2 n3 n4 n5 n6 n7 n8 n9 o0 o1 o2 o3 o4 o5 o6 o7 o8 o9 p0 p1 p2 p3 p4 p5 p6 p7 p8 p9 q0 q1 q2 q3 : Value} {K12 : Act → World → Prop} (hK12 : ∀ a w1, Code.wp Tryz.prog (tl Tryz.f47 12) (bodyPost Tryz.prog Tryz.f47 (EnEnd w A eb vb bb pl N (retB eb be bz sz) r)) a w1 → K12 a w1) :
    Code.wp Tryz.prog (rg Tryz.f47 12) (Exit.then K12 (bodyPost Tryz.prog Tryz.f47 (EnEnd w A eb vb bb pl N (retB eb be bz sz) r))) ⟨#[.pointer (some ⟨bz, 0, none⟩), .pointer (some ⟨be, 0, none⟩), .pointer (some ⟨bc, 0, none⟩), .pointer (some ⟨ba, 0, none⟩), .func (.func 48) #[] #[.pointer (some ⟨be, 0, none⟩), .pointer (some ⟨bc, 0, none⟩), .pointer (some ⟨ba, 0, none⟩), .pointer (some ⟨bz, 0, none⟩)], .int .u32 (place : Nat), .int .u16 (sel : Nat), .int .u32 (fl : Nat), .int .i64 (C.ring : Nat), .int .i64 (rn : Nat), .pointer (some ⟨gd, 0, none⟩), q5, q6, q7, q8, q9, q4, r0, u18, u19, u20, u21, u22, r1, r2, r3, r4, r6, r7, r8, r9, s0, r5, s2, s3, s4, s5, s6, s7, s8, s9, t0, t1, t2, t3, t4, t5, t6, t7, t8, t9, u0, u1, u2, u3, u4, u5, u6, u7, u8, u9, v0, v1, v2, v3, v4, v5, v6, v7, v8, v9, w0, w2, w3, w4, w5, w6, w7, w8, w9, x0, x1, x2, x3, x4, x5, x6, x7, x8, x9, y0, y1, y2, y3, y4, y5, y6, y7, y8, y9, a0, a1, a2, a3, a4, a5, a6, a7, a8, a9, b0, b1, b2, b3, b4, b5, b6, b7, b8, b9, c0, c1, c2, c3, c4, c5, c6, c7, c8, c9, d0, d1, d2, d3, d4, d5, d6, d7, d8, d9, e0, e1, e2, e3, e4, e5, e6, e7, e8, e9, f0, f1, f2, f3, f4, f5, f6, f7, f8, f9, g0, g1, g2, g3, g4, g5, g6, g7, g8, g9, h0, h1, h2, h3, h4, h5, h6, h7, h8, h9, i0, i1, i2, i3, i4, i5, i6, i7, i8, i9, j0, j1, j2, j3, j4, j5, j6, j7, j8, j9, k0, k1, k2, k3, k4, k5, k6, k7, k8, k9, l0, l1, l2, l3, l4, l5, l6, l7, l8, l9, m0, m1, m2, m3, m4, m5, m6, m7, m8, m9, n0, n1, n2, n3, n4, n5, n6, n7, n8, n9, o0, o1, o2, o3, o4, o5, o6, o7, o8, o9, p0, p1, p2, p3, p4, p5, p6, p7, p8, p9, q0, q1, q2, q3], []⟩ W := by
 have HO := Lib.hid h
 have HN := Lib.hid (And.intro hn hN)
 have HP := Lib.hid hp
 have HC := Lib.hid hC
 have HR := Lib.hid hr
 have HH := Lib.hid T.drew
 clear T h hn hN hp hC hr
 conv => arg 2; whnf
 conv at hK12 => enter [a, w1, 1, 2]; whnf
 refine wp_region_held_drew (S := fun w' => Hp w A w' (oEn eb vb bb pl n s1 :: (retB eb be bz sz ++ (retL eb bc ba at_ ++ [Ob.box gd (descO d)])))) (by kernel_rfl) HH.out (fun hHeld => ?_)
 refine wpAnyH_take (i := 0) (oi := _) (v := ?_) rfl (by kernel_rfl) (by kernel_rfl) (by kernel_rfl) (fun _ _ _ h => h) (Or.inl ⟨by rfl, ?_⟩) (by assumption) ?_
 rotate_left
 ·(intro w hSw; obtain ⟨z0, z1, z2, z3, z4, z5, z6, zf, zl⟩ := hSw.dbox (d := d) 5 rfl; (try dsimp only at hSw); go_simp <;> rfl)
 try simp only [Act.put, lz0, lz1, lz2, lz3, lz4, lz5]
 refine wpAnyH_take (i := 18) (oi := _) (v := ?_) rfl (by kernel_rfl) (by kernel_rfl) (by kernel_rfl) (fun _ _ _ h => h) (Or.inl ⟨by rfl, ?_⟩) (by assumption) ?_
 rotate_left
 ·(intro w hSw; (try dsimp only at hSw); go_simp <;> rfl)
 try simp only [Act.put, lz0, lz1, lz2, lz3, lz4, lz5]
 refine wpAnyH_ready (rs := [1]) (by kernel_rfl) (by decide) (AllReadyH.cons rfl (fun K hK => ?_) AllReadyH.nil)
 go_simp
 refine (isCode_x d _).mono ?_
 rintro e w' ⟨rfl, hbl⟩
 go_wp2_with fail
 refine hK.out _ _ (hHeld.grow hbl) (fun hHeld => ?_)
 clear hK K
 try simp only [Act.put, lz0, lz1, lz2, lz3, lz4, lz5]
 cases hc : d.isCode
 ·refine wpAnyH_take (i := 2) (oi := _) (v := ?_) rfl (by kernel_rfl) (by kernel_rfl) (by kernel_rfl) (fun _ _ _ h => h) (Or.inl ⟨by rfl, ?_⟩) (by assumption) ?_
  rotate_left
  ·(intro w hSw; (try dsimp only at hSw); go_simp <;> rfl)
  try simp only [Act.put, lz0, lz1, lz2, lz3, lz4, lz5]
  refine wpAnyH_take (i := 3) (oi := _) (v := undef) rfl (by kernel_rfl) (by kernel_rfl) (by kernel_rfl) (fun _ _ _ h => h) (Or.inr ⟨by rfl, rfl⟩) (by assumption) ?_
  refine wpAnyH_take (i := 4) (oi := _) (v := undef) rfl (by kernel_rfl) (by kernel_rfl) (by kernel_rfl) (fun _ _ _ h => h) (Or.inr ⟨by rfl, rfl⟩) (by assumption) ?_
  refine wpAnyH_take (i := 5) (oi := _) (v := undef) rfl (by kernel_rfl) (by kernel_rfl) (by kernel_rfl) (fun _ _ _ h => h) (Or.inr ⟨by rfl, rfl⟩) (by assumption) ?_
  try simp only [Act.put, lz0, lz1, lz2, lz3, lz4, lz5]
  refine wpAnyH_take (i := 6) (oi := _) (v := undef) rfl (by kernel_rfl) (by kernel_rfl) (by kernel_rfl) (fun _ _ _ h => h) (Or.inr ⟨by rfl, rfl⟩) (by assumption) ?_
  refine wpAnyH_take (i := 7) (oi := _) (v := undef) rfl (by kernel_rfl) (by kernel_rfl) (by kernel_rfl) (fun _ _ _ h => h) (Or.inr ⟨by rfl, rfl⟩) (by assumption) ?_
  refine wpAnyH_take (i := 8) (oi := _) (v := undef) rfl (by kernel_rfl) (by kernel_rfl) (by kernel_rfl) (fun _ _ _ h => h) (Or.inr ⟨by rfl, rfl⟩) (by assumption) ?_
  try simp only [Act.put, lz0, lz1, lz2, lz3, lz4, lz5]
  refine wpAnyH_take (i := 9) (oi := _) (v := undef) rfl (by kernel_rfl) (by kernel_rfl) (by kernel_rfl) (fun _ _ _ h => h) (Or.inr ⟨by rfl, rfl⟩) (by assumption) ?_
  refine wpAnyH_take (i := 10) (oi := _) (v := undef) rfl (by kernel_rfl) (by kernel_rfl) (by kernel_rfl) (fun _ _ _ h => h) (Or.inr ⟨by rfl, rfl⟩) (by assumption) ?_
  refine wpAnyH_take (i := 11) (oi := _) (v := undef) rfl (by kernel_rfl) (by kernel_rfl) (by kernel_rfl) (fun _ _ _ h => h) (Or.inr ⟨by rfl, rfl⟩) (by assumption) ?_
  try simp only [Act.put, lz0, lz1, lz2, lz3, lz4, lz5]
  refine wpAnyH_take (i := 12) (oi := _) (v := undef) rfl (by kernel_rfl) (by kernel_rfl) (by kernel_rfl) (fun _ _ _ h => h) (Or.inr ⟨by rfl, rfl⟩) (by assumption) ?_
  refine wpAnyH_take (i := 13) (oi := _) (v := undef) rfl (by kernel_rfl) (by kernel_rfl) (by kernel_rfl) (fun _ _ _ h => h) (Or.inr ⟨by rfl, rfl⟩) (by assumption) ?_
  refine wpAnyH_take (i := 14) (oi := _) (v := undef) rfl (by kernel_rfl) (by kernel_rfl) (by kernel_rfl) (fun _ _ _ h => h) (Or.inr ⟨by rfl, rfl⟩) (by assumption) ?_
  try simp only [Act.put, lz0, lz1, lz2, lz3, lz4, lz5]
  refine wpAnyH_take (i := 15) (oi := _) (v := undef) rfl (by kernel_rfl) (by kernel_rfl) (by kernel_rfl) (fun _ _ _ h => h) (Or.inr ⟨by rfl, rfl⟩) (by assumption) ?_
  refine wpAnyH_take (i := 16) (oi := _) (v := undef) rfl (by kernel_rfl) (by kernel_rfl) (by kernel_rfl) (fun _ _ _ h => h) (Or.inr ⟨by rfl, rfl⟩) (by assumption) ?_
  try simp only [Act.put, lz0, lz1, lz2, lz3, lz4, lz5]
  refine wpAnyH_take (i := 17) (oi := _) (v := ?_) rfl (by kernel_rfl) (by kernel_rfl) (by kernel_rfl) (fun _ _ _ h => h) (Or.inl ⟨by rfl, ?_⟩) (by assumption) ?_
  rotate_left
  ·(intro w hSw; (try dsimp only at hSw); go_simp <;> rfl)
  try simp only [Act.put, lz0, lz1, lz2, lz3, lz4, lz5]
  refine wpAnyH_ready (rs := [19]) (by kernel_rfl) (by decide) (AllReadyH.cons rfl (fun K hK => ?_) AllReadyH.nil)
  go_simp
  refine (code_x sel HP.out.2.1 _ rfl _).mono ?_
  rintro e w' ⟨rfl, rfl⟩
  go_wp2_with fail
  refine hK.out _ _ (hHeld) (fun hHeld => ?_)
  clear hK K
  try simp only [Act.put, lz0, lz1, lz2, lz3, lz4, lz5]
  refine wpAnyH_ready (rs := [20]) (by kernel_rfl) (by decide) (AllReadyH.cons rfl (fun K hK => ?_) AllReadyH.nil)
  go_simp
  refine (need_d _ _ _ _).mono ?_
  rintro e w' ⟨rfl, ⟨hb, rfl⟩ | ⟨hb, rfl⟩⟩
  ·cases hb
  ·have HR2 := Lib.hid (show r = (.error ⟨13, _, 0⟩, s1) from HR.out.trans (Ex.then_no (need_no (by rw [hc]; rfl) _ _ _)))
   clear hb
   go_wp2_with fail
   exact ⟨rfl, env_no (loc := retL eb bc ba at_ ++ [Ob.box gd (descO d)]) hHeld HO.out.hn HR2.out⟩
 ·by_cases he : d.dpl = ((rn : Nat) : Int)
  ·have hbe : (d.dpl == ((rn : Nat) : Int)) = true := beq_iff_eq.2 he
   refine wpAnyH_take (i := 2) (oi := _) (v := ?_) rfl (by kernel_rfl) (by kernel_rfl) (by kernel_rfl) (fun _ _ _ h => h) (Or.inl ⟨by rfl, ?_⟩) (by assumption) ?_
   rotate_left
   ·(intro w hSw; (try dsimp only at hSw); go_simp <;> rfl)
   try simp only [Act.put, lz0, lz1, lz2, lz3, lz4, lz5]
   refine wpAnyH_take (i := 3) (oi := _) (v := ?_) rfl (by kernel_rfl) (by kernel_rfl) (by kernel_rfl) (fun _ _ _ h => h) (Or.inl ⟨by rfl, ?_⟩) (by assumption) ?_
   rotate_left
   ·(intro w hSw; (try dsimp only at hSw); go_simp <;> rfl)
   try simp only [Act.put, lz0, lz1, lz2, lz3, lz4, lz5]
   refine wpAnyH_take (i := 4) (oi := _) (v := ?_) rfl (by kernel_rfl) (by kernel_rfl) (by kernel_rfl) (fun _ _ _ h => h) (Or.inl ⟨by rfl, ?_⟩) (by assumption) ?_
   rotate_left
   ·(intro w hSw; obtain ⟨z0, z1, z2, z3, z4, z5, z6, zf, zl⟩ := hSw.dbox (d := d) 5 rfl; (try dsimp only at hSw); go_simp <;> rfl)
   try simp only [Act.put, lz0, lz1, lz2, lz3, lz4, lz5]
   refine wpAnyH_take (i := 5) (oi := _) (v := ?_) rfl (by kernel_rfl) (by kernel_rfl) (by kernel_rfl) (fun _ _ _ h => h) (Or.inl ⟨by rfl, ?_⟩) (by assumption) ?_
   rotate_left
   ·(intro w hSw; (try dsimp only at hSw); go_simp <;> rfl)
   try simp only [Act.put, lz0, lz1, lz2, lz3, lz4, lz5]
   refine wpAnyH_take (i := 6) (oi := _) (v := ?_) rfl (by kernel_rfl) (by kernel_rfl) (by kernel_rfl) (fun _ _ _ h => h) (Or.inl ⟨by rfl, ?_⟩) (by assumption) ?_
   rotate_left
   ·(intro w hSw; (try dsimp only at hSw); go_simp <;> rfl)
   try simp only [Act.put, lz0, lz1, lz2, lz3, lz4, lz5]
   try rw [hbe]
   refine wpAnyH_take (i := 7) (oi := _) (v := ?_) rfl (by kernel_rfl) (by kernel_rfl) (by kernel_rfl) (fun _ _ _ h => h) (Or.inl ⟨by rfl, ?_⟩) (by assumption) ?_
   rotate_left
   ·(intro w hSw; (try dsimp only at hSw); go_simp <;> rfl)
   try simp only [Act.put, lz0, lz1, lz2, lz3, lz4, lz5]
   refine wpAnyH_take (i := 8) (oi := _) (v := undef) rfl (by kernel_rfl) (by kernel_rfl) (by kernel_rfl) (fun _ _ _ h => h) (Or.inr ⟨by rfl, rfl⟩) (by assumption) ?_
   refine wpAnyH_take (i := 9) (oi := _) (v := undef) rfl (by kernel_rfl) (by kernel_rfl) (by kernel_rfl) (fun _ _ _ h => h) (Or.inr ⟨by rfl, rfl⟩) (by assumption) ?_
   refine wpAnyH_take (i := 10) (oi := _) (v := undef) rfl (by kernel_rfl) (by kernel_rfl) (by kernel_rfl) (fun _ _ _ h => h) (Or.inr ⟨by rfl, rfl⟩) (by assumption) ?_
   try simp only [Act.put, lz0, lz1, lz2, lz3, lz4, lz5]
   refine wpAnyH_take (i := 11) (oi := _) (v := undef) rfl (by kernel_rfl) (by kernel_rfl) (by kernel_rfl) (fun _ _ _ h => h) (Or.inr ⟨by rfl, rfl⟩) (by assumption) ?_
   refine wpAnyH_take (i := 12) (oi := _) (v := undef) rfl (by kernel_rfl) (by kernel_rfl) (by kernel_rfl) (fun _ _ _ h => h) (Or.inr ⟨by rfl, rfl⟩) (by assumption) ?_
   refine wpAnyH_take (i := 13) (oi := _) (v := undef) rfl (by kernel_rfl) (by kernel_rfl) (by kernel_rfl) (fun _ _ _ h => h) (Or.inr ⟨by rfl, rfl⟩) (by assumption) ?_
   try simp only [Act.put, lz0, lz1, lz2, lz3, lz4, lz5]
   refine wpAnyH_take (i := 14) (oi := _) (v := undef) rfl (by kernel_rfl) (by kernel_rfl) (by kernel_rfl) (fun _ _ _ h => h) (Or.inr ⟨by rfl, rfl⟩) (by assumption) ?_
   refine wpAnyH_take (i := 15) (oi := _) (v := undef) rfl (by kernel_rfl) (by kernel_rfl) (by kernel_rfl) (fun _ _ _ h => h) (Or.inr ⟨by rfl, rfl⟩) (by assumption) ?_
   try simp only [Act.put, lz0, lz1, lz2, lz3, lz4, lz5]
   refine wpAnyH_take (i := 16) (oi := _) (v := ?_) rfl (by kernel_rfl) (by kernel_rfl) (by kernel_rfl) (fun _ _ _ h => h) (Or.inl ⟨by rfl, ?_⟩) (by assumption) ?_
   rotate_left
   ·(intro w hSw; (try dsimp only at hSw); go_simp <;> rfl)
   try simp only [Act.put, lz0, lz1, lz2, lz3, lz4, lz5]
   refine wpAnyH_take (i := 17) (oi := _) (v := ?_) rfl (by kernel_rfl) (by kernel_rfl) (by kernel_rfl) (fun _ _ _ h => h) (Or.inl ⟨by rfl, ?_⟩) (by assumption) ?_
   rotate_left
   ·(intro w hSw; (try dsimp only at hSw); go_simp <;> rfl)
   try simp only [Act.put, lz0, lz1, lz2, lz3, lz4, lz5]
   refine wpAnyH_ready (rs := [19]) (by kernel_rfl) (by decide) (AllReadyH.cons rfl (fun K hK => ?_) AllReadyH.nil)
   go_simp
   refine (code_x sel HP.out.2.1 _ rfl _).mono ?_
   rintro e w' ⟨rfl, rfl⟩
   go_wp2_with fail
   refine hK.out _ _ (hHeld) (fun hHeld => ?_)
   clear hK K
   try simp only [Act.put, lz0, lz1, lz2, lz3, lz4, lz5]
   refine wpAnyH_ready (rs := [20]) (by kernel_rfl) (by decide) (AllReadyH.cons rfl (fun K hK => ?_) AllReadyH.nil)
   go_simp
   refine (need_d _ _ _ _).mono ?_
   rintro e w' ⟨rfl, ⟨hb, rfl⟩ | ⟨hb, rfl⟩⟩
   ·have HR2 := Lib.hid (HR.out.trans (Ex.then_ok (need_ok (by rw [hc, hbe]; rfl) _ _ _)))
    clear hb HR
    go_wp2_with fail
    refine hK.out _ _ hHeld (fun hHeld => ?_)
    clear hK K
    refine wpAnyH_done (by kernel_rfl) ?_ _
    try simp only [Act.put, lz0, lz1, lz2, lz3, lz4, lz5]
    go_upto_region 13 with (fail)
    exact ret_13 hHeld HO.out HN.out.1 HN.out.2 HP.out HC.out HR2.out (by assumption)
   ·cases hb
  ·have hbe : (d.dpl == ((rn : Nat) : Int)) = false := beq_eq_false_iff_ne.2 he
   refine wpAnyH_take (i := 2) (oi := _) (v := ?_) rfl (by kernel_rfl) (by kernel_rfl) (by kernel_rfl) (fun _ _ _ h => h) (Or.inl ⟨by rfl, ?_⟩) (by assumption) ?_
   rotate_left
   ·(intro w hSw; (try dsimp only at hSw); go_simp <;> rfl)
   try simp only [Act.put, lz0, lz1, lz2, lz3, lz4, lz5]
   refine wpAnyH_take (i := 3) (oi := _) (v := ?_) rfl (by kernel_rfl) (by kernel_rfl) (by kernel_rfl) (fun _ _ _ h => h) (Or.inl ⟨by rfl, ?_⟩) (by assumption) ?_
   rotate_left
   ·(intro w hSw; (try dsimp only at hSw); go_simp <;> rfl)
   try simp only [Act.put, lz0, lz1, lz2, lz3, lz4, lz5]
   refine wpAnyH_take (i := 4) (oi := _) (v := ?_) rfl (by kernel_rfl) (by kernel_rfl) (by kernel_rfl) (fun _ _ _ h => h) (Or.inl ⟨by rfl, ?_⟩) (by assumption) ?_
   rotate_left
   ·(intro w hSw; obtain ⟨z0, z1, z2, z3, z4, z5, z6, zf, zl⟩ := hSw.dbox (d := d) 5 rfl; (try dsimp only at hSw); go_simp <;> rfl)
   try simp only [Act.put, lz0, lz1, lz2, lz3, lz4, lz5]
   refine wpAnyH_take (i := 5) (oi := _) (v := ?_) rfl (by kernel_rfl) (by kernel_rfl) (by kernel_rfl) (fun _ _ _ h => h) (Or.inl ⟨by rfl, ?_⟩) (by assumption) ?_
   rotate_left
   ·(intro w hSw; (try dsimp only at hSw); go_simp <;> rfl)
   try simp only [Act.put, lz0, lz1, lz2, lz3, lz4, lz5]
   refine wpAnyH_take (i := 6) (oi := _) (v := ?_) rfl (by kernel_rfl) (by kernel_rfl) (by kernel_rfl) (fun _ _ _ h => h) (Or.inl ⟨by rfl, ?_⟩) (by assumption) ?_
   rotate_left
   ·(intro w hSw; (try dsimp only at hSw); go_simp <;> rfl)
   try simp only [Act.put, lz0, lz1, lz2, lz3, lz4, lz5]
   try rw [hbe]
   refine wpAnyH_take (i := 7) (oi := _) (v := ?_) rfl (by kernel_rfl) (by kernel_rfl) (by kernel_rfl) (fun _ _ _ h => h) (Or.inl ⟨by rfl, ?_⟩) (by assumption) ?_
   rotate_left
   ·(intro w hSw; (try dsimp only at hSw); go_simp <;> rfl)
   try simp only [Act.put, lz0, lz1, lz2, lz3, lz4, lz5]
   refine wpAnyH_take (i := 8) (oi := _) (v := ?_) rfl (by kernel_rfl) (by kernel_rfl) (by kernel_rfl) (fun _ _ _ h => h) (Or.inl ⟨by rfl, ?_⟩) (by assumption) ?_
   rotate_left
   ·(intro w hSw; obtain ⟨z0, z1, z2, z3, z4, z5, z6, zf, zl⟩ := hSw.dbox (d := d) 5 rfl; (try dsimp only at hSw); go_simp <;> rfl)
   try simp only [Act.put, lz0, lz1, lz2, lz3, lz4, lz5]
   refine wpAnyH_ready (rs := [9]) (by kernel_rfl) (by decide) (AllReadyH.cons rfl (fun K hK => ?_) AllReadyH.nil)
   go_simp
   refine (conforms_x d _).mono ?_
   rintro e w' ⟨rfl, hbl⟩
   go_wp2_with fail
   refine hK.out _ _ (hHeld.grow hbl) (fun hHeld => ?_)
   clear hK K
   try simp only [Act.put, lz0, lz1, lz2, lz3, lz4, lz5]
   cases hf : d.conf
   ·refine wpAnyH_take (i := 10) (oi := _) (v := ?_) rfl (by kernel_rfl) (by kernel_rfl) (by kernel_rfl) (fun _ _ _ h => h) (Or.inl ⟨by rfl, ?_⟩) (by assumption) ?_
    rotate_left
    ·(intro w hSw; (try dsimp only at hSw); go_simp <;> rfl)
    try simp only [Act.put, lz0, lz1, lz2, lz3, lz4, lz5]
    refine wpAnyH_take (i := 11) (oi := _) (v := undef) rfl (by kernel_rfl) (by kernel_rfl) (by kernel_rfl) (fun _ _ _ h => h) (Or.inr ⟨by rfl, rfl⟩) (by assumption) ?_
    refine wpAnyH_take (i := 12) (oi := _) (v := undef) rfl (by kernel_rfl) (by kernel_rfl) (by kernel_rfl) (fun _ _ _ h => h) (Or.inr ⟨by rfl, rfl⟩) (by assumption) ?_
    refine wpAnyH_take (i := 13) (oi := _) (v := undef) rfl (by kernel_rfl) (by kernel_rfl) (by kernel_rfl) (fun _ _ _ h => h) (Or.inr ⟨by rfl, rfl⟩) (by assumption) ?_
    try simp only [Act.put, lz0, lz1, lz2, lz3, lz4, lz5]
    refine wpAnyH_take (i := 14) (oi := _) (v := undef) rfl (by kernel_rfl) (by kernel_rfl) (by kernel_rfl) (fun _ _ _ h => h) (Or.inr ⟨by rfl, rfl⟩) (by assumption) ?_
    try simp only [Act.put, lz0, lz1, lz2, lz3, lz4, lz5]
    refine wpAnyH_take (i := 15) (oi := _) (v := ?_) rfl (by kernel_rfl) (by kernel_rfl) (by kernel_rfl) (fun _ _ _ h => h) (Or.inl ⟨by rfl, ?_⟩) (by assumption) ?_
    rotate_left
    ·(intro w hSw; (try dsimp only at hSw); go_simp <;> rfl)
    try simp only [Act.put, lz0, lz1, lz2, lz3, lz4, lz5]
    refine wpAnyH_take (i := 16) (oi := _) (v := ?_) rfl (by kernel_rfl) (by kernel_rfl) (by kernel_rfl) (fun _ _ _ h => h) (Or.inl ⟨by rfl, ?_⟩) (by assumption) ?_
    rotate_left
    ·(intro w hSw; (try dsimp only at hSw); go_simp <;> rfl)
    try simp only [Act.put, lz0, lz1, lz2, lz3, lz4, lz5]
    refine wpAnyH_take (i := 17) (oi := _) (v := ?_) rfl (by kernel_rfl) (by kernel_rfl) (by kernel_rfl) (fun _ _ _ h => h) (Or.inl ⟨by rfl, ?_⟩) (by assumption) ?_
    rotate_left
    ·(intro w hSw; (try dsimp only at hSw); go_simp <;> rfl)
    try simp only [Act.put, lz0, lz1, lz2, lz3, lz4, lz5]
    refine wpAnyH_ready (rs := [19]) (by kernel_rfl) (by decide) (AllReadyH.cons rfl (fun K hK => ?_) AllReadyH.nil)
    go_simp
    refine (code_x sel HP.out.2.1 _ rfl _).mono ?_
    rintro e w' ⟨rfl, rfl⟩
    go_wp2_with fail
    refine hK.out _ _ (hHeld) (fun hHeld => ?_)
    clear hK K
    try simp only [Act.put, lz0, lz1, lz2, lz3, lz4, lz5]
    refine wpAnyH_ready (rs := [20]) (by kernel_rfl) (by decide) (AllReadyH.cons rfl (fun K hK => ?_) AllReadyH.nil)
    go_simp
    refine (need_d _ _ _ _).mono ?_
    rintro e w' ⟨rfl, ⟨hb, rfl⟩ | ⟨hb, rfl⟩⟩
    ·cases hb
    ·have HR2 := Lib.hid (show r = (.error ⟨13, _, 0⟩, s1) from HR.out.trans (Ex.then_no (need_no (by rw [hc, hbe, hf]; rfl) _ _ _)))
     clear hb
     go_wp2_with fail
     exact ⟨rfl, env_no (loc := retL eb bc ba at_ ++ [Ob.box gd (descO d)]) hHeld HO.out.hn HR2.out⟩
   ·refine wpAnyH_take (i := 10) (oi := _) (v := ?_) rfl (by kernel_rfl) (by kernel_rfl) (by kernel_rfl) (fun _ _ _ h => h) (Or.inl ⟨by rfl, ?_⟩) (by assumption) ?_
    rotate_left
    ·(intro w hSw; (try dsimp only at hSw); go_simp <;> rfl)
    try simp only [Act.put, lz0, lz1, lz2, lz3, lz4, lz5]
    refine wpAnyH_take (i := 11) (oi := _) (v := ?_) rfl (by kernel_rfl) (by kernel_rfl) (by kernel_rfl) (fun _ _ _ h => h) (Or.inl ⟨by rfl, ?_⟩) (by assumption) ?_
    rotate_left
    ·(intro w hSw; (try dsimp only at hSw); go_simp <;> rfl)
    try simp only [Act.put, lz0, lz1, lz2, lz3, lz4, lz5]
    refine wpAnyH_take (i := 12) (oi := _) (v := ?_) rfl (by kernel_rfl) (by kernel_rfl) (by kernel_rfl) (fun _ _ _ h => h) (Or.inl ⟨by rfl, ?_⟩) (by assumption) ?_
    rotate_left
    ·(intro w hSw; obtain ⟨z0, z1, z2, z3, z4, z5, z6, zf, zl⟩ := hSw.dbox (d := d) 5 rfl; (try dsimp only at hSw); go_simp <;> rfl)
    try simp only [Act.put, lz0, lz1, lz2, lz3, lz4, lz5]
    refine wpAnyH_take (i := 13) (oi := _) (v := ?_) rfl (by kernel_rfl) (by kernel_rfl) (by kernel_rfl) (fun _ _ _ h => h) (Or.inl ⟨by rfl, ?_⟩) (by assumption) ?_
    rotate_left
    ·(intro w hSw; (try dsimp only at hSw); go_simp <;> rfl)
    try simp only [Act.put, lz0, lz1, lz2, lz3, lz4, lz5]
    refine wpAnyH_take (i := 14) (oi := _) (v := ?_) rfl (by kernel_rfl) (by kernel_rfl) (by kernel_rfl) (fun _ _ _ h => h) (Or.inl ⟨by rfl, ?_⟩) (by assumption) ?_
    rotate_left
    ·(intro w hSw; (try dsimp only at hSw); go_simp <;> rfl)
    try simp only [Act.put, lz0, lz1, lz2, lz3, lz4, lz5]
    refine wpAnyH_take (i := 15) (oi := _) (v := ?_) rfl (by kernel_rfl) (by kernel_rfl) (by kernel_rfl) (fun _ _ _ h => h) (Or.inl ⟨by rfl, ?_⟩) (by assumption) ?_
    rotate_left
    ·(intro w hSw; (try dsimp only at hSw); go_simp <;> rfl)
    try simp only [Act.put, lz0, lz1, lz2, lz3, lz4, lz5]
    refine wpAnyH_take (i := 16) (oi := _) (v := ?_) rfl (by kernel_rfl) (by kernel_rfl) (by kernel_rfl) (fun _ _ _ h => h) (Or.inl ⟨by rfl, ?_⟩) (by assumption) ?_
    rotate_left
    ·(intro w hSw; (try dsimp only at hSw); go_simp <;> rfl)
    try simp only [Act.put, lz0, lz1, lz2, lz3, lz4, lz5]
    refine wpAnyH_take (i := 17) (oi := _) (v := ?_) rfl (by kernel_rfl) (by kernel_rfl) (by kernel_rfl) (fun _ _ _ h => h) (Or.inl ⟨by rfl, ?_⟩) (by assumption) ?_
    rotate_left
    ·(intro w hSw; (try dsimp only at hSw); go_simp <;> rfl)
    try simp only [Act.put, lz0, lz1, lz2, lz3, lz4, lz5]
    refine wpAnyH_ready (rs := [19]) (by kernel_rfl) (by decide) (AllReadyH.cons rfl (fun K hK => ?_) AllReadyH.nil)
    go_simp
    refine (code_x sel HP.out.2.1 _ rfl _).mono ?_
    rintro e w' ⟨rfl, rfl⟩
    go_wp2_with fail
    refine hK.out _ _ (hHeld) (fun hHeld => ?_)
    clear hK K
    try simp only [Act.put, lz0, lz1, lz2, lz3, lz4, lz5]
    refine wpAnyH_ready (rs := [20]) (by kernel_rfl) (by decide) (AllReadyH.cons rfl (fun K hK => ?_) AllReadyH.nil)
    go_simp
    refine (need_d _ _ _ _).mono ?_
    rintro e w' ⟨rfl, ⟨hb, rfl⟩ | ⟨hb, rfl⟩⟩
    ·have HR2 := Lib.hid (HR.out.trans (Ex.then_ok (need_ok (by rw [hc, hbe, hf]; exact hb) _ _ _)))
     clear hb HR
     go_wp2_with fail
     refine hK.out _ _ hHeld (fun hHeld => ?_)
     clear hK K
     refine wpAnyH_done (by kernel_rfl) ?_ _
     try simp only [Act.put, lz0, lz1, lz2, lz3, lz4, lz5]
     go_upto_region 13 with (fail)
     exact ret_13 hHeld HO.out HN.out.1 HN.out.2 HP.out HC.out HR2.out (by assumption)
    ·have HR2 := Lib.hid (show r = (.error ⟨13, _, 0⟩, s1) from HR.out.trans (Ex.then_no (need_no (by rw [hc, hbe, hf]; exact hb) _ _ _)))
     clear hb
     go_wp2_with fail
     exact ⟨rfl, env_no (loc := retL eb bc ba at_ ++ [Ob.box gd (descO d)]) hHeld HO.out.hn HR2.out⟩
end
end Go.Proofs.YtmpcafdgkbpneaaGreat

