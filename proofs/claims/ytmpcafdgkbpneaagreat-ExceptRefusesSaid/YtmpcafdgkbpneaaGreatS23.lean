/- Steps of a proof: ExV, together. -/
import Derived.Test.YtmpcafdgkbpneaaGreatS22
/- except: Return's inner function: the outer ring's stack, from the beginning. -/
open List renaming getElem_toArray → lz0, getElem_cons_zero → lz1, getElem_cons_succ → lz2, setIfInBounds_toArray → lz3, set_cons_zero → lz4, set_cons_succ → lz5
set_option maxHeartbeats 4000000
set_option maxRecDepth 20000
namespace Go.Proofs.YtmpcafdgkbpneaaGreat
open Go.RowKit Go.MapKept
set_option linter.unusedVariables false
set_option linter.unusedSimpArgs false
attribute [local go_sem ↓] Go.wp_at_zero Go.wp_at_succ

section
variable {w W w' w0 : World} {A A0 : Nat → Prop} {os bs loc : List Ob} {eb vb bb be bz bc ba at_ gd gs : Nat} {pl : Pl} {n n' N : Nat} {s s1 s' : Es} {sz : Int} {r : Except FaultS Unit × Es} {rn : Nat} {d ss : SegR} {C : CpuS}
def tSeg (sel : Nat) : SegR := ⟨sel, false, 0, 0, 0, false, 0, false, false⟩
def setsD2 (w : World) (g : Nat) (d : SegR) : World := ((((((w.setCell ⟨g, 2, none⟩ (.int .u32 (d.base : Nat))).setCell ⟨g, 3, none⟩ (.int .u32 (d.lim : Nat))).setCell ⟨g, 4, none⟩ (.int .i64 d.typ)).setCell ⟨g, 5, none⟩ (.bool d.sys)).setCell ⟨g, 6, none⟩ (.int .i64 d.dpl)).setCell ⟨g, 7, none⟩ (.bool d.pre)).setCell ⟨g, 8, none⟩ (.bool d.big)
theorem Hp.gset2 (T : Hp w0 A0 w os) (i : Nat) {g : Nat} {t : SegR} (h : os[i]? = some (Ob.box g (segO t))) (d : SegR) : Hp w0 A0 (setsD2 w g d) (os.set i (Ob.box g (segO ⟨t.sel, t.nul, d.base, d.lim, d.typ, d.sys, d.dpl, d.pre, d.big⟩))) := by
 obtain ⟨C, ⟨c, e⟩, k⟩ := T.turn i h
 refine k _ C (Ob.box g (segO ⟨t.sel, t.nul, d.base, d.lim, d.typ, d.sys, d.dpl, d.pre, d.big⟩)) ⟨?_, e⟩ ⟨?_, fun j hj => .inl hj⟩
 ·unfold setsD2
  unfold segO at c
  simp only [heap_set_map, putObj_cells, c, Option.map_some, List.set_cons_succ, List.set_cons_zero]
  rfl
 ·exact ((((((((Keeps.refl (· = g) w).setOne 2 _).setOne 3 _).setOne 4 _).setOne 5 _).setOne 6 _).setOne 7 _).setOne 8 _).mono fun j _ hj => (e j).2 hj
theorem Hp.gsel (T : Hp w0 A0 w os) (i : Nat) {g : Nat} {t : SegR} (h : os[i]? = some (Ob.box g (segO t))) (v : Nat) : Hp w0 A0 (w.setCell ⟨g, 0, none⟩ (.int .u16 (v : Nat))) (os.set i (Ob.box g (segO { t with sel := v }))) := T.set i h 0 _
def u20 (C : CpuS) (k place sel fl : Nat) (d : SegR) (sel2 rn sp at_ : Nat) : Ex Unit := (descE sel2 13 (codeOfN sel2 : Nat)).then fun ss => u21 C k place sel fl d ss rn sp at_
theorem ret_20 {sp k place sel fl sel2 : Nat} (T : Hp w A W (oEn eb vb bb pl n s1 :: (retB eb be bz sz ++ (retL eb bc ba at_ ++ [Ob.box gd (descO d), Ob.box gs (segO (tSeg sel2))])))) (h : RetOk N n sz k sp at_ d zSeg) (hn : n + 4 ≤ N) (hN : N * 12 ≤ 140737488355328) (hp : place < 4294967296 ∧ sel < 65536 ∧ fl < 4294967296) (hs2 : sel2 < 65536) (hC : s1.C = C) (hr : r = u20 C k place sel fl d sel2 rn sp at_ s1) {r0 r1 r2 q9 r3 u18 u19 u20 u21 u22 r4 r5 r6 r7 r9 s0 s2 s4 s5 r8 s6 s7 s8 t0 t1 t2 t3 t4 t5 t6 t7 t8 u0 u1 u2 u3 u4 u5 u6 u7 u8 u9 v0 v1 v2 v3 v4 v5 v6 v7 v8 v9 w0 w2 w3 w4 w5 w7 w8 w9 x0 x1 x2 x3 x4 x5 x6 x7 x8 x9 y0 y1 y2 y3 y4 y5 y6 y7 y8 y9 z9 A0 A1 A2 A3 A4 A5 a0 a1 a2 a3 a4 a5 a6 a7 a8 a9 b0 b1 b2 b3 b4 b5 b6 b7 b8 b9 c0 c1 c2 c3 c4 c5 c6 c7 c8 c9 d0 d1 d2 d3 d4 d5 d6 d7 d8 d9 e0 e1 e2 e3 e4 e5 e6 e7 e8 e9 f0 f1 f2 f4 f5 f6 f7 f8 f9 g0 g1 g2 g3 g4 g5 g6 g7 g8 g9 h0 h4 h5 h6 h7 h8 h9 i0 i1 i2 i3 i4 i5 i6 i7 i8 i9 j0 j1 j2 j3 j4 j5 j6 j7 j8 j9 k0 k1 k2 k3 k4 k5 k6 k7 k8 k9 l0 l1 l2 l3 l4 l5 l6 l7 l8 l9 m0 m1 m2 m3 m4 m5 m6 m7 m8 m9 n0 n1 n2 n3 n4 n5 n6 n7 n8 o0 o1 o2 o3 o4 o5 o6 o7 o8 o9 p0 p1 p2 p3 p4 p5 p6 p7 p8 p9 q0 q1 q2 q3 q4 q5 q6 q7 q8 : Value} {K23 : Act → World → Prop} (hK23 : ∀ a w1, Code.wp Tryz.prog (.seq (rg Tryz.f47 23) (tl Tryz.f47 23)) (bodyPost Tryz.prog Tryz.f47 (EnEnd w A eb vb bb pl N (retB eb be bz sz) r)) a w1 → K23 a w1) {K20 : Act → World → Prop} (hK20 : ∀ a w1, Code.wp Tryz.prog (tl Tryz.f47 20) (Exit.then K23 (bodyPost Tryz.prog Tryz.f47 (EnEnd w A eb vb bb pl N (retB eb be bz sz) r))) a w1 → K20 a w1) :
    Code.wp Tryz.prog (rg Tryz.f47 20) (Exit.then K20 (Exit.then K23 (bodyPost Tryz.prog Tryz.f47 (EnEnd w A eb vb bb pl N (retB eb be bz sz) r)))) ⟨#[.pointer (some ⟨bz, 0, none⟩), .pointer (some ⟨be, 0, none⟩), .pointer (some ⟨bc, 0, none⟩), .pointer (some ⟨ba, 0, none⟩), .func (.func 48) #[] #[.pointer (some ⟨be, 0, none⟩), .pointer (some ⟨bc, 0, none⟩), .pointer (some ⟨ba, 0, none⟩), .pointer (some ⟨bz, 0, none⟩)], .int .u32 (place : Nat), .int .u16 (sel : Nat), .int .u32 (fl : Nat), .int .i64 (C.ring : Nat), .int .i64 (rn : Nat), .pointer (some ⟨gd, 0, none⟩), .pointer (some ⟨gs, 0, none⟩), .int .u32 (sp : Nat), r0, r1, r2, q9, r3, u18, u19, u20, u21, u22, r4, r5, r6, r7, r9, s0, s2, s4, s5, r8, s6, s7, s8, t0, t1, t2, t3, t4, t5, t6, t7, t8, u0, u1, u2, u3, u4, u5, u6, u7, u8, u9, v0, v1, v2, v3, v4, v5, v6, v7, v8, v9, w0, w2, w3, w4, w5, w7, w8, w9, x0, x1, x2, x3, x4, x5, x6, x7, x8, x9, y0, y1, y2, y3, y4, y5, y6, y7, y8, y9, z9, A0, A1, A2, A3, A4, A5, a0, a1, a2, a3, a4, a5, a6, a7, a8, a9, b0, b1, b2, b3, b4, b5, b6, b7, b8, b9, c0, c1, c2, c3, c4, c5, c6, c7, c8, c9, d0, d1, d2, d3, d4, d5, d6, d7, d8, d9, e0, e1, e2, e3, e4, e5, e6, e7, e8, e9, f0, f1, f2, f4, f5, f6, f7, f8, f9, g0, g1, g2, g3, g4, g5, g6, g7, g8, g9, h0, h4, h5, h6, h7, h8, h9, i0, i1, i2, i3, i4, i5, i6, i7, i8, i9, j0, j1, j2, j3, j4, j5, j6, j7, j8, j9, k0, k1, k2, k3, k4, k5, k6, k7, k8, k9, l0, l1, l2, l3, l4, l5, l6, l7, l8, l9, m0, m1, m2, m3, m4, m5, m6, m7, m8, m9, n0, n1, n2, n3, n4, n5, n6, n7, n8, o0, o1, o2, o3, o4, o5, o6, o7, o8, o9, p0, p1, p2, p3, p4, p5, p6, p7, p8, p9, q0, q1, q2, q3, q4, q5, q6, q7, q8], []⟩ W := by
 have HO := Lib.hid h
 have HN0 := Lib.hid hn
 have HN1 := Lib.hid hN
 have HP := Lib.hid hp
 have HS := Lib.hid hs2
 have HR := Lib.hid hr
 have HC := Lib.hid hC
 have HG := Lib.hid (show s1.good from ⟨T.wide 0 rfl, (T.cpu 0 rfl).1⟩)
 have HH := Lib.hid T.drew
 clear T h hn hN hp hs2 hr hC
 conv => arg 2; whnf
 conv at hK20 => enter [a, w1, 1, 2]; whnf
 refine wp_region_held_drew (S := fun w' => ∃ n9 s9 t9, SegR.sel t9 = sel2 ∧ Hp w A w' (oEn eb vb bb pl n9 s9 :: (retB eb be bz sz ++ (retL eb bc ba at_ ++ [Ob.box gd (descO d), Ob.box gs (segO t9)])))) (by kernel_rfl) ⟨_, _, _, rfl, HH.out⟩ (fun hHeld => ?_)
 refine wpAnyH_take (i := 0) (oi := _) (v := ?_) rfl (by kernel_rfl) (by kernel_rfl) (by kernel_rfl) (fun _ _ _ h => h) (Or.inl ⟨by rfl, ?_⟩) (by assumption) ?_
 rotate_left
 ·(intro w hSw; obtain ⟨n9, s9, t9, ht9, hq9⟩ := hSw; have hq := (hq9.lone 1 rfl).1; (try dsimp only at hSw); go_simp <;> rfl)
 try simp only [Act.put, lz0, lz1, lz2, lz3, lz4, lz5]
 refine wpAnyH_take (i := 1) (oi := _) (v := ?_) rfl (by kernel_rfl) (by kernel_rfl) (by kernel_rfl) (fun _ _ _ h => h) (Or.inl ⟨by rfl, ?_⟩) (by assumption) ?_
 rotate_left
 ·(intro w hSw; (try dsimp only at hSw); go_simp <;> rfl)
 try simp only [Act.put, lz0, lz1, lz2, lz3, lz4, lz5]
 refine wpAnyH_take (i := 2) (oi := _) (v := ?_) rfl (by kernel_rfl) (by kernel_rfl) (by kernel_rfl) (fun _ _ _ h => h) (Or.inl ⟨by rfl, ?_⟩) (by assumption) ?_
 rotate_left
 ·(intro w hSw; obtain ⟨n9, s9, t9, ht9, hq9⟩ := hSw; obtain ⟨z0, -⟩ := hq9.gbox (d := t9) 6 rfl; rw [ht9] at z0; (try dsimp only at hSw); go_simp <;> rfl)
 try simp only [Act.put, lz0, lz1, lz2, lz3, lz4, lz5]
 refine wpAnyH_take (i := 3) (oi := _) (v := ?_) rfl (by kernel_rfl) (by kernel_rfl) (by kernel_rfl) (fun _ _ _ h => h) (Or.inl ⟨by rfl, ?_⟩) (by assumption) ?_
 rotate_left
 ·(intro w hSw; (try dsimp only at hSw); go_simp <;> rfl)
 try simp only [Act.put, lz0, lz1, lz2, lz3, lz4, lz5]
 refine wpAnyH_take (i := 4) (oi := _) (v := ?_) rfl (by kernel_rfl) (by kernel_rfl) (by kernel_rfl) (fun _ _ _ h => h) (Or.inl ⟨by rfl, ?_⟩) (by assumption) ?_
 rotate_left
 ·(intro w hSw; obtain ⟨n9, s9, t9, ht9, hq9⟩ := hSw; obtain ⟨z0, -⟩ := hq9.gbox (d := t9) 6 rfl; rw [ht9] at z0; (try dsimp only at hSw); go_simp <;> rfl)
 try simp only [Act.put, lz0, lz1, lz2, lz3, lz4, lz5]
 refine wpAnyH_ready (rs := [5]) (by kernel_rfl) (by decide) (AllReadyH.cons rfl (fun K hK => ?_) AllReadyH.nil)
 go_simp
 refine (code_x sel2 HS.out _ rfl _).mono ?_
 rintro e w' ⟨rfl, rfl⟩
 go_wp2_with fail
 refine hK.out _ _ (hHeld) (fun hHeld => ?_)
 clear hK K
 try simp only [Act.put, lz0, lz1, lz2, lz3, lz4, lz5]
 refine wpAnyH_ready (rs := [6]) (by kernel_rfl) (by decide) (AllReadyH.cons rfl (fun K hK => ?_) AllReadyH.nil)
 go_simp
 rcases h3 : descE sel2 13 (codeOfN sel2 : Nat) s1 with ⟨f3 | ss, s3⟩
 ·refine (HH.out.go_no 0 rfl (desc_x sel2 HS.out 13 _ (by have := HN0.out; have := HN1.out; omega)) h3).mono ?_
  rintro e w6 ⟨rfl, T4⟩
  go_wp2_with fail
  exact ⟨rfl, env_no (loc := retL eb bc ba at_ ++ [Ob.box gd (descO d), Ob.box gs (segO (tSeg sel2))]) T4 HN0.out (HR.out.trans (Ex.then_no h3))⟩
 ·refine (HH.out.go_ok 0 rfl (desc_x sel2 HS.out 13 _ (by have := HN0.out; have := HN1.out; omega)) h3).mono ?_
  rintro e w6 ⟨rfl, T4⟩
  have HDD := Lib.hid ((Safe.desc HG.out sel2 HS.out 13 _ (by decide) _ _ h3).2.1 ss rfl)
  have HR2 := Lib.hid (HR.out.trans (Ex.then_ok h3))
  have HT4 := Lib.hid (show Hp w A w6 (oEn eb vb bb pl (n + 4) s3 :: (retB eb be bz sz ++ (retL eb bc ba at_ ++ [Ob.box gd (descO d), Ob.box gs (segO (tSeg sel2))]))) from T4)
  have hd2 : (⟨sel2, false, ss.base, ss.lim, ss.typ, ss.sys, ss.dpl, ss.pre, ss.big⟩ : SegR) = ss := by
   obtain ⟨-, -, h1, -, -, -, -, h2⟩ := HDD.out
   cases ss
   simp_all
  have HT5 := Lib.hid (show Hp w A (setsD2 w6 gs ss) (oEn eb vb bb pl (n + 4) s3 :: (retB eb be bz sz ++ (retL eb bc ba at_ ++ [Ob.box gd (descO d), Ob.box gs (segO ss)]))) from by have h := HT4.out.gset2 (t := tSeg sel2) 6 rfl ss; rw [show (⟨(tSeg sel2).sel, (tSeg sel2).nul, ss.base, ss.lim, ss.typ, ss.sys, ss.dpl, ss.pre, ss.big⟩ : SegR) = ss from hd2] at h; exact h)
  have HC2 := Lib.hid (show s3.C = C from HDD.out.1.trans HC.out)
  obtain ⟨z0, z1, z2, z3, z4, z5, z6, z7, z8, zf, zl⟩ := HT4.out.gbox (d := tSeg sel2) 6 rfl
  clear T4 h3 HR hd2 HC
  unfold SegR.dval
  go_wp2_with fail
  refine hK.out _ _ ⟨_, _, _, rfl, HT4.out⟩ (fun hHeld2 => ?_)
  clear hK K
  try simp only [Act.put, lz0, lz1, lz2, lz3, lz4, lz5]
  refine wpAnyH_take (i := 7) (oi := _) (v := ?_) rfl (by kernel_rfl) (by kernel_rfl) (by kernel_rfl) (fun _ _ _ h => h) (Or.inl ⟨by rfl, ?_⟩) (by assumption) ?_
  rotate_left
  ·(intro w hSw; (try dsimp only at hSw); go_simp <;> rfl)
  try simp only [Act.put, lz0, lz1, lz2, lz3, lz4, lz5]
  refine wpAnyH_ready (rs := [8]) (by kernel_rfl) (by decide) (AllReadyH.cons rfl (fun K hK => ?_) AllReadyH.nil)
  go_simp
  refine hK.out _ _ ⟨_, _, ss, HDD.out.2.2.1, HT5.out⟩ (fun hHeld3 => ?_)
  clear hK K
  refine wpAnyH_done (by kernel_rfl) ?_ _
  try simp only [Act.put, lz0, lz1, lz2, lz3, lz4, lz5]
  clear z0 z1 z2 z3 z4 z5 z6 z7 z8 zf zl hHeld hHeld2 hHeld3
  go_upto_region 21 with (fail)
  exact ret_21 HT5.out ⟨HN0.out, HO.out.hk, HO.out.hz, HO.out.hsp, HO.out.ha, HO.out.hd, HDD.out.2.1, HO.out.nul⟩ HP.out HC2.out HR2.out (by assumption) (by assumption)
def u19 (C : CpuS) (k place sel fl : Nat) (d : SegR) (sel2 rn sp at_ : Nat) : Ex Unit := (needE (codeOfN sel2 != 0) 13 0).then fun _ => u20 C k place sel fl d sel2 rn sp at_
theorem ret_19 {sp k place sel fl sel2 : Nat} (T : Hp w A W (oEn eb vb bb pl n s1 :: (retB eb be bz sz ++ (retL eb bc ba at_ ++ [Ob.box gd (descO d), Ob.box gs (segO (tSeg sel2))])))) (h : RetOk N n sz k sp at_ d zSeg) (hn : n + 4 ≤ N) (hN : N * 12 ≤ 140737488355328) (hp : place < 4294967296 ∧ sel < 65536 ∧ fl < 4294967296) (hs2 : sel2 < 65536) (hC : s1.C = C) (hr : r = u19 C k place sel fl d sel2 rn sp at_ s1) {q5 q6 q7 q4 q8 u18 u19 u20 u21 u22 q9 r0 r1 r2 r4 r5 r6 r7 r8 r3 r9 s0 s2 s3 s4 s5 s6 s7 s8 s9 t0 t1 t2 t3 t4 t5 t6 t7 t8 t9 u0 u1 u2 u3 u4 u5 u6 u7 u8 u9 v0 v1 v2 v3 v4 v5 v6 v7 v8 v9 w0 w3 w4 w5 w6 w7 w8 w9 x0 x1 x2 x3 x4 x5 x6 x7 x8 x9 y0 y1 y2 y3 y4 y5 y6 y7 y8 a0 a1 a2 a3 a4 a5 a6 a7 a8 a9 b0 b1 b2 b3 b4 b5 b6 b7 b8 b9 c0 c1 c2 c3 c4 c5 c6 c7 c8 c9 d0 d1 d2 d3 d4 d5 d6 d7 d8 d9 e0 e1 e2 e3 e4 e5 e6 e7 e8 e9 f0 f1 f2 f3 f4 f5 f6 f7 f8 f9 g0 g1 g2 g3 g4 g5 g6 g7 g8 g9 h0 h1 h2 h3 h4 h5 h6 h7 h8 h9 i0 i1 i2 i3 i4 i5 i6 i7 i8 i9 j0 j1 j2 j3 j4 j5 j6 j7 j8 j9 k0 k1 k2 k3 k4 k5 k6 k7 k8 k9 l0 l1 l2 l3 l4 l5 l6 l7 l8 l9 m0 m1 m2 m3 m4 m5 m6 m7 m8 m9 n0 n1 n2 n3 n4 n5 n6 n7 n8 n9 o0 o1 o2 o3 o4 o5 o6 o7 o8 o9 p0 p1 p2 p3 p4 p5 p6 p7 p8 p9 q0 q1 q2 q3 : Value} {K23 : Act → World → Prop} (hK23 : ∀ a w1, Code.wp Tryz.prog (.seq (rg Tryz.f47 23) (tl Tryz.f47 23)) (bodyPost Tryz.prog Tryz.f47 (EnEnd w A eb vb bb pl N (retB eb be bz sz) r)) a w1 → K23 a w1) {K19 : Act → World → Prop} (hK19 : ∀ a w1, Code.wp Tryz.prog (tl Tryz.f47 19) (Exit.then K23 (bodyPost Tryz.prog Tryz.f47 (EnEnd w A eb vb bb pl N (retB eb be bz sz) r))) a w1 → K19 a w1) :
    Code.wp Tryz.prog (rg Tryz.f47 19) (Exit.then K19 (Exit.then K23 (bodyPost Tryz.prog Tryz.f47 (EnEnd w A eb vb bb pl N (retB eb be bz sz) r)))) ⟨#[.pointer (some ⟨bz, 0, none⟩), .pointer (some ⟨be, 0, none⟩), .pointer (some ⟨bc, 0, none⟩), .pointer (some ⟨ba, 0, none⟩), .func (.func 48) #[] #[.pointer (some ⟨be, 0, none⟩), .pointer (some ⟨bc, 0, none⟩), .pointer (some ⟨ba, 0, none⟩), .pointer (some ⟨bz, 0, none⟩)], .int .u32 (place : Nat), .int .u16 (sel : Nat), .int .u32 (fl : Nat), .int .i64 (C.ring : Nat), .int .i64 (rn : Nat), .pointer (some ⟨gd, 0, none⟩), .pointer (some ⟨gs, 0, none⟩), .int .u32 (sp : Nat), q5, q6, q7, q4, q8, u18, u19, u20, u21, u22, q9, r0, r1, r2, r4, r5, r6, r7, r8, r3, r9, s0, s2, s3, s4, s5, s6, s7, s8, s9, t0, t1, t2, t3, t4, t5, t6, t7, t8, t9, u0, u1, u2, u3, u4, u5, u6, u7, u8, u9, v0, v1, v2, v3, v4, v5, v6, v7, v8, v9, w0, w3, w4, w5, w6, w7, w8, w9, x0, x1, x2, x3, x4, x5, x6, x7, x8, x9, y0, y1, y2, y3, y4, y5, y6, y7, y8, a0, a1, a2, a3, a4, a5, a6, a7, a8, a9, b0, b1, b2, b3, b4, b5, b6, b7, b8, b9, c0, c1, c2, c3, c4, c5, c6, c7, c8, c9, d0, d1, d2, d3, d4, d5, d6, d7, d8, d9, e0, e1, e2, e3, e4, e5, e6, e7, e8, e9, f0, f1, f2, f3, f4, f5, f6, f7, f8, f9, g0, g1, g2, g3, g4, g5, g6, g7, g8, g9, h0, h1, h2, h3, h4, h5, h6, h7, h8, h9, i0, i1, i2, i3, i4, i5, i6, i7, i8, i9, j0, j1, j2, j3, j4, j5, j6, j7, j8, j9, k0, k1, k2, k3, k4, k5, k6, k7, k8, k9, l0, l1, l2, l3, l4, l5, l6, l7, l8, l9, m0, m1, m2, m3, m4, m5, m6, m7, m8, m9, n0, n1, n2, n3, n4, n5, n6, n7, n8, n9, o0, o1, o2, o3, o4, o5, o6, o7, o8, o9, p0, p1, p2, p3, p4, p5, p6, p7, p8, p9, q0, q1, q2, q3], []⟩ W := by
 have HO := Lib.hid h
 have HN := Lib.hid (And.intro hn hN)
 have HP := Lib.hid hp
 have HS := Lib.hid hs2
 have HR := Lib.hid hr
 have HC := Lib.hid hC
 have HT := Lib.hid T
 obtain ⟨z0, z1, z2, z3, z4, z5, z6, z7, z8, zf, zl⟩ := T.gbox (d := tSeg sel2) 6 rfl
 clear T h hn hN hp hs2 hr hC
 conv => arg 2; whnf
 conv at hK19 => enter [a, w1, 1, 2]; whnf
 go_wp2_with fail
 refine (code_x sel2 HS.out _ rfl _).mono ?_
 rintro e w' ⟨rfl, rfl⟩
 go_wp2_with fail
 refine (need_d _ _ _ _).mono ?_
 rintro e w2 ⟨rfl, ⟨hb, rfl⟩ | ⟨hb, rfl⟩⟩
 ·have hq : (codeOfN sel2 != 0) = true := by
    simp only [bne_iff_ne, ne_eq] at hb ⊢
    omega
  have HR2 := Lib.hid (HR.out.trans (Ex.then_ok (need_ok hq _ _ _)))
  clear hb hq z0 z1 z2 z3 z4 z5 z6 z7 z8 zf zl HR
  go_upto_region 20 with (fail)
  exact ret_20 HT.out HO.out HN.out.1 HN.out.2 HP.out HS.out HC.out HR2.out (by assumption) (by assumption)
 ·have hq : (codeOfN sel2 != 0) = false := by
    simp only [bne_eq_false_iff_eq] at hb ⊢
    omega
  have HR2 := Lib.hid (show r = (.error ⟨13, 0, 0⟩, s1) from HR.out.trans (Ex.then_no (need_no hq _ _ _)))
  clear hb hq
  go_wp2_with fail
  exact ⟨rfl, env_no (loc := retL eb bc ba at_ ++ [Ob.box gd (descO d), Ob.box gs (segO (tSeg sel2))]) HT.out HO.out.hn HR2.out⟩
theorem next_enters (args : Array Value) (w : World) : (callFunc 48 args).run Tryz.prog w = .ok (.enter 48 args) w := enters_own (f := 48) Tryz.func48 (by kernel_rfl) rfl args w
def u18 (C : CpuS) (k place sel fl : Nat) (d : SegR) (rn sp at_ : Nat) : Ex Unit := (loadE 2 at_ (k : Int)).then fun v => u19 C k place sel fl d (v % 65536) rn sp ((at_ + k) % 4294967296)
theorem ret_18 {sp k place sel fl : Nat} (T : Hp w A W (oEn eb vb bb pl n s1 :: (retB eb be bz sz ++ (retL eb bc ba at_ ++ [Ob.box gd (descO d), Ob.box gs (segO zSeg)])))) (h : RetOk N n sz k sp at_ d zSeg) (hn : n + 6 ≤ N) (hN : N * 12 ≤ 140737488355328) (hp : place < 4294967296 ∧ sel < 65536 ∧ fl < 4294967296) (hC : s1.C = C) (hr : r = u18 C k place sel fl d rn sp at_ s1) {r0 r1 r2 q9 r3 u18 u19 u20 u21 u22 r4 r5 r6 r7 r9 s0 s2 s4 s5 r8 s6 s7 s8 s9 t0 t1 t2 t3 t4 t5 t6 t7 t8 t9 u0 u1 u2 u3 u4 u5 u6 u7 u8 u9 v0 v1 v2 v3 v4 v5 v6 v7 v8 v9 w0 w2 w3 w4 w5 w6 w7 w8 w9 x0 x1 x2 x3 x4 x5 x6 x7 x8 x9 y0 y1 y2 y3 y4 y5 y6 y7 y8 y9 z9 A0 A1 A2 a0 a1 a3 a4 a5 a6 a7 a8 a9 b0 b1 b2 b3 b4 b5 b6 b7 b8 b9 c0 c1 c2 c3 c4 c5 c6 c7 c8 c9 d0 d1 d2 d3 d4 d5 d6 d7 d8 d9 e0 e1 e2 e3 e4 e5 e6 e7 e8 e9 f0 f1 f2 f4 f5 f6 f7 f8 f9 g0 g1 g2 g3 g4 g5 g6 g7 g8 g9 h0 h4 h5 h6 h7 h8 h9 i0 i1 i2 i3 i4 i5 i6 i7 i8 i9 j0 j1 j2 j3 j4 j5 j6 j7 j8 j9 k0 k1 k2 k3 k4 k5 k6 k7 k8 k9 l0 l1 l2 l3 l4 l5 l6 l7 l8 l9 m0 m1 m2 m3 m4 m5 m6 m7 m8 m9 n0 n1 n2 n3 n4 n5 n6 n7 n8 n9 o0 o1 o2 o3 o4 o5 o6 o7 o8 o9 p0 p1 p2 p3 p4 p5 p6 p7 p8 p9 q0 q1 q2 q3 q4 q5 q6 q7 q8 : Value} {K23 : Act → World → Prop} (hK23 : ∀ a w1, Code.wp Tryz.prog (.seq (rg Tryz.f47 23) (tl Tryz.f47 23)) (bodyPost Tryz.prog Tryz.f47 (EnEnd w A eb vb bb pl N (retB eb be bz sz) r)) a w1 → K23 a w1) {K18 : Act → World → Prop} (hK18 : ∀ a w1, Code.wp Tryz.prog (tl Tryz.f47 18) (Exit.then K23 (bodyPost Tryz.prog Tryz.f47 (EnEnd w A eb vb bb pl N (retB eb be bz sz) r))) a w1 → K18 a w1) :
    Code.wp Tryz.prog (rg Tryz.f47 18) (Exit.then K18 (Exit.then K23 (bodyPost Tryz.prog Tryz.f47 (EnEnd w A eb vb bb pl N (retB eb be bz sz) r)))) ⟨#[.pointer (some ⟨bz, 0, none⟩), .pointer (some ⟨be, 0, none⟩), .pointer (some ⟨bc, 0, none⟩), .pointer (some ⟨ba, 0, none⟩), .func (.func 48) #[] #[.pointer (some ⟨be, 0, none⟩), .pointer (some ⟨bc, 0, none⟩), .pointer (some ⟨ba, 0, none⟩), .pointer (some ⟨bz, 0, none⟩)], .int .u32 (place : Nat), .int .u16 (sel : Nat), .int .u32 (fl : Nat), .int .i64 (C.ring : Nat), .int .i64 (rn : Nat), .pointer (some ⟨gd, 0, none⟩), .pointer (some ⟨gs, 0, none⟩), .int .u32 (sp : Nat), r0, r1, r2, q9, r3, u18, u19, u20, u21, u22, r4, r5, r6, r7, r9, s0, s2, s4, s5, r8, s6, s7, s8, s9, t0, t1, t2, t3, t4, t5, t6, t7, t8, t9, u0, u1, u2, u3, u4, u5, u6, u7, u8, u9, v0, v1, v2, v3, v4, v5, v6, v7, v8, v9, w0, w2, w3, w4, w5, w6, w7, w8, w9, x0, x1, x2, x3, x4, x5, x6, x7, x8, x9, y0, y1, y2, y3, y4, y5, y6, y7, y8, y9, z9, A0, A1, A2, a0, a1, a3, a4, a5, a6, a7, a8, a9, b0, b1, b2, b3, b4, b5, b6, b7, b8, b9, c0, c1, c2, c3, c4, c5, c6, c7, c8, c9, d0, d1, d2, d3, d4, d5, d6, d7, d8, d9, e0, e1, e2, e3, e4, e5, e6, e7, e8, e9, f0, f1, f2, f4, f5, f6, f7, f8, f9, g0, g1, g2, g3, g4, g5, g6, g7, g8, g9, h0, h4, h5, h6, h7, h8, h9, i0, i1, i2, i3, i4, i5, i6, i7, i8, i9, j0, j1, j2, j3, j4, j5, j6, j7, j8, j9, k0, k1, k2, k3, k4, k5, k6, k7, k8, k9, l0, l1, l2, l3, l4, l5, l6, l7, l8, l9, m0, m1, m2, m3, m4, m5, m6, m7, m8, m9, n0, n1, n2, n3, n4, n5, n6, n7, n8, n9, o0, o1, o2, o3, o4, o5, o6, o7, o8, o9, p0, p1, p2, p3, p4, p5, p6, p7, p8, p9, q0, q1, q2, q3, q4, q5, q6, q7, q8], []⟩ W := by
 have HO := Lib.hid h
 have HN := Lib.hid (And.intro hn hN)
 have HP := Lib.hid hp
 have HR := Lib.hid hr
 have HC := Lib.hid hC
 have HT := Lib.hid T
 have HG := Lib.hid (show s1.good from ⟨T.wide 0 rfl, (T.cpu 0 rfl).1⟩)
 have hen := fun args w => next_enters args w
 clear T h hn hN hp hr hC
 conv => arg 2; whnf
 conv at hK18 => enter [a, w1, 1, 2]; whnf
 go_wp2_with fail
 refine (next_x (loc := [Ob.box gd (descO d), Ob.box gs (segO zSeg)]) HT.out HO.out.ha (by have := HO.out.hz; have := HO.out.hk; omega) (by have := HN.out; omega)).mono ?_
 rintro e W2 ⟨h1, h2⟩
 rw [HO.out.hz] at h1 h2
 rcases h3 : loadE 2 at_ (k : Int) s1 with ⟨f3 | v, s3⟩
 ·obtain ⟨rfl, T4⟩ := h2 _ _ h3
  clear h1 h2
  go_wp2_with fail
  rw [← HO.out.hz] at T4
  exact ⟨rfl, env_no (loc := retL eb bc ba at_ ++ [Ob.box gd (descO d), Ob.box gs (segO zSeg)]) T4 (by have := HN.out; omega) (HR.out.trans (Ex.then_no h3))⟩
 ·obtain ⟨rfl, T4⟩ := h1 _ _ h3
  rw [← HO.out.hz, HO.out.hz, Int.toNat_natCast] at T4
  have HL := Lib.hid ((Safe.load HG.out 2 at_ HO.out.ha k HO.out.hk _ _ h3).2.1 v rfl)
  have HT4 := Lib.hid (show Hp w A W2 (oEn eb vb bb pl (n + 2) s3 :: (retB eb be bz sz ++ (retL eb bc ba ((at_ + k) % 4294967296) ++ [Ob.box gd (descO d), Ob.box gs (segO zSeg)]))) from by rw [HO.out.hz]; exact T4)
  have HR2 := Lib.hid (HR.out.trans (Ex.then_ok h3))
  have HC2 := Lib.hid (show s3.C = C from HL.out.2.trans HC.out)
  clear T4 h1 h2 h3 HR HC
  have hv2 : v < 4294967296 := by
   have h := HL.out.1
   rcases HO.out.hk with e | e <;> rw [e] at h <;> omega
  have hv : IntKind.u16.wrap (v : Int) = ((v % 65536 : Nat) : Int) := by rw [IntKind.wrap_u16]; omega
  have hs2 : v % 65536 < 65536 := Nat.mod_lt _ (by decide)
  obtain ⟨sel2, hs⟩ : ∃ sel2, sel2 = v % 65536 := ⟨_, rfl⟩
  rw [← hs] at hv hs2 HR2
  obtain ⟨a2, ha2⟩ : ∃ a2, a2 = (at_ + k) % 4294967296 := ⟨_, rfl⟩
  have hal : a2 < 4294967296 := by rw [ha2]; exact Nat.mod_lt _ (by decide)
  rw [← ha2] at HT4 HR2
  have HT5 := Lib.hid (show Hp w A (W2.setCell ⟨gs, 0, none⟩ (.int .u16 (sel2 : Nat))) (oEn eb vb bb pl (n + 2) s3 :: (retB eb be bz sz ++ (retL eb bc ba a2 ++ [Ob.box gd (descO d), Ob.box gs (segO (tSeg sel2))]))) from HT4.out.gsel 6 rfl sel2)
  have HQ := Lib.hid (And.intro hal hs2)
  obtain ⟨z0, z1, z2, z3, z4, z5, z6, z7, z8, zf, zl⟩ := HT4.out.gbox (d := zSeg) 6 rfl
  clear ha2 hs hal hs2 HT4
  go_upto_region 19 with (fail)
  try rw [hv]
  exact ret_19 HT5.out ⟨by have := HN.out; omega, HO.out.hk, HO.out.hz, HO.out.hsp, HQ.out.1, HO.out.hd, HO.out.hss, HO.out.nul⟩ (by have := HN.out; omega) HN.out.2 HP.out HQ.out.2 HC2.out HR2.out (by assumption) (by assumption)
end
end Go.Proofs.YtmpcafdgkbpneaaGreat

