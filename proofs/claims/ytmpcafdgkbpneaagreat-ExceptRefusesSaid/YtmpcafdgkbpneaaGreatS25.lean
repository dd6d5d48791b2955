/- Steps of a proof: ExX, ExY, together. -/
import Derived.Test.YtmpcafdgkbpneaaGreatS24
/- except: Return's inner function: its beginning. -/
open List renaming getElem_toArray → lz0, getElem_cons_zero → lz1, getElem_cons_succ → lz2, setIfInBounds_toArray → lz3, set_cons_zero → lz4, set_cons_succ → lz5
set_option maxHeartbeats 4000000
set_option maxRecDepth 20000
namespace Go.Proofs.YtmpcafdgkbpneaaGreat
open Go.RowKit Go.MapKept
set_option linter.unusedVariables false
set_option linter.unusedSimpArgs false
attribute [local go_sem ↓] Go.wp_at_zero Go.wp_at_succ

section
variable {w W w' w0 : World} {A A0 : Nat → Prop} {os bs loc : List Ob} {eb vb bb be bz bc ba at_ gd gs : Nat} {pl : Pl} {n n' N : Nat} {s s1 s' : Es} {sz : Int} {r : Except FaultS Unit × Es} {rn : Nat} {d ss : SegR} {C : CpuS}
def w11 (C : CpuS) (k place sel fl rn at_ : Nat) : Ex Unit := (descE sel 13 (codeOfN sel : Nat)).then fun d => w12 C k place sel fl d rn at_
theorem ret_11 {k place sel fl : Nat} (T : Hp w A W (oEn eb vb bb pl n s1 :: (retB eb be bz sz ++ (retL eb bc ba at_ ++ [])))) (h : RetOk N n sz k 0 at_ zSeg zSeg) (hn : n + 12 ≤ N) (hN : N * 12 ≤ 140737488355328) (hp : place < 4294967296 ∧ sel < 65536 ∧ fl < 4294967296) (hC : s1.C = C) (hr : r = w11 C k place sel fl rn at_ s1) {r0 r1 r2 r3 r4 r5 q9 r6 u18 u19 u20 u21 u22 r7 r8 r9 s0 s4 s5 s6 s7 s8 s2 t0 t1 t2 t3 t4 t5 t6 t7 t8 t9 u0 u1 u2 u3 u4 u5 u6 u7 u8 u9 v0 v1 v2 v3 v4 v5 v6 v7 v8 v9 w0 w2 w3 w4 w5 w8 w9 x0 x1 x2 x3 x4 x5 x6 x7 x8 x9 y0 y1 y2 y3 y4 y5 y6 y7 y8 y9 z7 z8 z9 A0 A1 A2 A3 A4 A5 A6 a0 a1 a2 a3 a4 a5 a6 a7 a8 a9 b0 b1 b2 b3 b4 b5 b6 b7 b8 b9 c0 c1 c2 c3 c4 c5 c6 c7 c8 c9 d0 d1 d2 d3 d4 d5 d6 d7 d8 d9 e0 e1 e2 e3 e4 e5 e6 e7 e8 e9 f0 f1 f2 f4 f5 f6 f7 f8 f9 g0 g1 g2 g3 g4 g5 g6 g7 g8 g9 h0 h1 h2 h4 h5 h6 h7 h8 h9 i0 i1 i2 i3 i4 i5 i6 i7 i8 i9 j0 j1 j2 j3 j4 j5 j6 j7 j8 j9 k0 k1 k2 k3 k4 k5 k6 k7 k8 k9 l0 l3 l4 l5 l6 l7 l8 l9 m0 m1 m2 m3 m4 m5 m6 m7 m8 m9 n0 n1 n2 n3 n4 n5 n6 n7 n8 o0 o1 o2 o3 o4 o5 o6 o7 o8 o9 p0 p1 p2 p3 p4 p5 p6 p7 p8 p9 q0 q1 q2 q3 q4 q5 q6 q7 q8 : Value} {K11 : Act → World → Prop} (hK11 : ∀ a w1, Code.wp Tryz.prog (tl Tryz.f47 11) (bodyPost Tryz.prog Tryz.f47 (EnEnd w A eb vb bb pl N (retB eb be bz sz) r)) a w1 → K11 a w1) :
    Code.wp Tryz.prog (rg Tryz.f47 11) (Exit.then K11 (bodyPost Tryz.prog Tryz.f47 (EnEnd w A eb vb bb pl N (retB eb be bz sz) r))) ⟨#[.pointer (some ⟨bz, 0, none⟩), .pointer (some ⟨be, 0, none⟩), .pointer (some ⟨bc, 0, none⟩), .pointer (some ⟨ba, 0, none⟩), .func (.func 48) #[] #[.pointer (some ⟨be, 0, none⟩), .pointer (some ⟨bc, 0, none⟩), .pointer (some ⟨ba, 0, none⟩), .pointer (some ⟨bz, 0, none⟩)], .int .u32 (place : Nat), .int .u16 (sel : Nat), .int .u32 (fl : Nat), .int .i64 (C.ring : Nat), .int .i64 (rn : Nat), r0, r1, r2, r3, r4, r5, q9, r6, u18, u19, u20, u21, u22, r7, r8, r9, s0, s4, s5, s6, s7, s8, s2, t0, t1, t2, t3, t4, t5, t6, t7, t8, t9, u0, u1, u2, u3, u4, u5, u6, u7, u8, u9, v0, v1, v2, v3, v4, v5, v6, v7, v8, v9, w0, w2, w3, w4, w5, w8, w9, x0, x1, x2, x3, x4, x5, x6, x7, x8, x9, y0, y1, y2, y3, y4, y5, y6, y7, y8, y9, z7, z8, z9, A0, A1, A2, A3, A4, A5, A6, a0, a1, a2, a3, a4, a5, a6, a7, a8, a9, b0, b1, b2, b3, b4, b5, b6, b7, b8, b9, c0, c1, c2, c3, c4, c5, c6, c7, c8, c9, d0, d1, d2, d3, d4, d5, d6, d7, d8, d9, e0, e1, e2, e3, e4, e5, e6, e7, e8, e9, f0, f1, f2, f4, f5, f6, f7, f8, f9, g0, g1, g2, g3, g4, g5, g6, g7, g8, g9, h0, h1, h2, h4, h5, h6, h7, h8, h9, i0, i1, i2, i3, i4, i5, i6, i7, i8, i9, j0, j1, j2, j3, j4, j5, j6, j7, j8, j9, k0, k1, k2, k3, k4, k5, k6, k7, k8, k9, l0, l3, l4, l5, l6, l7, l8, l9, m0, m1, m2, m3, m4, m5, m6, m7, m8, m9, n0, n1, n2, n3, n4, n5, n6, n7, n8, o0, o1, o2, o3, o4, o5, o6, o7, o8, o9, p0, p1, p2, p3, p4, p5, p6, p7, p8, p9, q0, q1, q2, q3, q4, q5, q6, q7, q8], []⟩ W := by
 have HO := Lib.hid h
 have HN := Lib.hid (And.intro hn hN)
 have HP := Lib.hid hp
 have HS := Lib.hid hp.2.1
 have HC := Lib.hid hC
 have HR := Lib.hid hr
 have HG := Lib.hid (show s1.good from ⟨T.wide 0 rfl, (T.cpu 0 rfl).1⟩)
 have HH := Lib.hid T.drew
 have HA := Lib.hid (show Hp w A (W.drew.alloc (descO zDesc)) (oEn eb vb bb pl n s1 :: (retB eb be bz sz ++ (retL eb bc ba at_ ++ [])) ++ [Ob.box W.heap.size (descO zDesc)]) from T.drew.make _)
 clear T h hn hN hp hC hr
 conv => arg 2; whnf
 conv at hK11 => enter [a, w1, 1, 2]; whnf
 refine wp_region_held_drew (S := fun w' => ∃ n9 s9, Hp w A w' (oEn eb vb bb pl n9 s9 :: (retB eb be bz sz ++ (retL eb bc ba at_ ++ [])))) (by kernel_rfl) ⟨_, _, HH.out⟩ (fun hHeld => ?_)
 refine wpAnyH_take (i := 0) (oi := _) (v := ?_) rfl (by kernel_rfl) (by kernel_rfl) (by kernel_rfl) (fun _ _ _ h => h) (Or.inl ⟨by rfl, ?_⟩) (by assumption) ?_
 rotate_left
 ·(intro w hSw; obtain ⟨n9, s9, hq9⟩ := hSw; have hq := (hq9.lone 1 rfl).1; (try dsimp only at hSw); go_simp <;> rfl)
 try simp only [Act.put, lz0, lz1, lz2, lz3, lz4, lz5]
 refine wpAnyH_take (i := 1) (oi := _) (v := ?_) rfl (by kernel_rfl) (by kernel_rfl) (by kernel_rfl) (fun _ _ _ h => h) (Or.inl ⟨by rfl, ?_⟩) (by assumption) ?_
 rotate_left
 ·(intro w hSw; (try dsimp only at hSw); go_simp <;> rfl)
 try simp only [Act.put, lz0, lz1, lz2, lz3, lz4, lz5]
 refine wpAnyH_take (i := 2) (oi := _) (v := ?_) rfl (by kernel_rfl) (by kernel_rfl) (by kernel_rfl) (fun _ _ _ h => h) (Or.inl ⟨by rfl, ?_⟩) (by assumption) ?_
 rotate_left
 ·(intro w hSw; (try dsimp only at hSw); go_simp <;> rfl)
 try simp only [Act.put, lz0, lz1, lz2, lz3, lz4, lz5]
 refine wpAnyH_ready (rs := [3, 5]) (by kernel_rfl) (by decide) (AllReadyH.cons rfl (fun K hK => ?_) (AllReadyH.cons rfl (fun K hK => ?_) AllReadyH.nil))
 ·go_simp
  refine (code_x sel HS.out _ rfl _).mono ?_
  rintro e w' ⟨rfl, rfl⟩
  go_wp2_with fail
  refine hK.out _ _ (hHeld) (fun hHeld => ?_)
  clear hK K
  try simp only [Act.put, lz0, lz1, lz2, lz3, lz4, lz5]
  refine wpAnyH_ready (rs := [4, 5]) (by kernel_rfl) (by decide) (AllReadyH.cons rfl (fun K hK => ?_) (AllReadyH.cons rfl (fun K hK => ?_) AllReadyH.nil))
  ·go_simp
   rcases h3 : descE sel 13 (codeOfN sel : Nat) s1 with ⟨f3 | d, s3⟩
   ·refine (HH.out.go_no 0 rfl (desc_x sel HS.out 13 _ (by have := HN.out; omega)) h3).mono ?_
    rintro e w6 ⟨rfl, T4⟩
    go_wp2_with fail
    exact ⟨rfl, env_no (loc := retL eb bc ba at_ ++ []) T4 (by have := HN.out; omega) (HR.out.trans (Ex.then_no h3))⟩
   ·refine (HH.out.go_ok 0 rfl (desc_x sel HS.out 13 _ (by have := HN.out; omega)) h3).mono ?_
    rintro e w6 ⟨rfl, T4⟩
    have HDD := Lib.hid ((Safe.desc HG.out sel HS.out 13 _ (by decide) _ _ h3).2.1 d rfl)
    have HR2 := Lib.hid (HR.out.trans (Ex.then_ok h3))
    have HC2 := Lib.hid (show s3.C = C from HDD.out.1.trans HC.out)
    clear h3 HR HC
    have HT4 := Lib.hid (show Hp w A w6 (oEn eb vb bb pl (n + 4) s3 :: (retB eb be bz sz ++ (retL eb bc ba at_ ++ []))) from T4)
    have HT4a := Lib.hid (show Hp w A (w6.alloc (descO zDesc)) (oEn eb vb bb pl (n + 4) s3 :: (retB eb be bz sz ++ (retL eb bc ba at_ ++ [Ob.box w6.heap.size (descO zDesc)]))) from HT4.out.make _)
    have HT5 := Lib.hid (show Hp w A (setsD (w6.alloc (descO zDesc)) w6.heap.size d) (oEn eb vb bb pl (n + 4) s3 :: (retB eb be bz sz ++ (retL eb bc ba at_ ++ [Ob.box w6.heap.size (descO d)]))) from HT4a.out.dset 5 rfl d)
    clear T4
    unfold SegR.dval
    go_wp2_with fail
    refine hK.out _ _ ⟨_, _, HT4.out⟩ (fun hHeld2 => ?_)
    clear hK K
    try simp only [Act.put, lz0, lz1, lz2, lz3, lz4, lz5]
    refine wpAnyH_ready (rs := [5]) (by kernel_rfl) (by decide) (AllReadyH.cons rfl (fun K hK => ?_) AllReadyH.nil)
    go_simp
    refine hK.out _ _ ⟨_, _, (Hp.left (l1 := (oEn eb vb bb pl (n + 4) s3 :: (retB eb be bz sz ++ (retL eb bc ba at_ ++ [])))) (l2 := [Ob.box w6.heap.size (descO zDesc)]) HT4a.out)⟩ (fun hHeld3 => ?_)
    clear hK K
    try simp only [Act.put, lz0, lz1, lz2, lz3, lz4, lz5]
    obtain ⟨z0, z1, z2, z3, z4, z5, z6, zf, zl⟩ := HT4a.out.dbox 5 rfl
    refine wpAnyH_ready (rs := [6]) (by kernel_rfl) (by decide) (AllReadyH.cons rfl (fun K hK => ?_) AllReadyH.nil)
    rw [if_pos (by rfl)]
    change Oper.wp _ _ _ (w6.alloc (descO zDesc)) _ _
    generalize w6.alloc (descO zDesc) = w7 at *
    generalize w6.heap.size = gd at *
    go_simp
    refine hK.out _ _ ⟨_, _, (Hp.left (l1 := (oEn eb vb bb pl (n + 4) s3 :: (retB eb be bz sz ++ (retL eb bc ba at_ ++ [])))) (l2 := [Ob.box gd (descO d)]) HT5.out)⟩ (fun hHeld4 => ?_)
    clear hK K
    refine wpAnyH_done (by kernel_rfl) ?_ _
    try simp only [Act.put, lz0, lz1, lz2, lz3, lz4, lz5]
    clear z0 z1 z2 z3 z4 z5 z6 zf zl
    go_upto_region 12 with (fail)
    exact ret_12 HT5.out ⟨by have := HN.out; omega, HO.out.hk, HO.out.hz, by rcases HO.out.hk with e | e <;> rw [e] <;> decide, HO.out.ha, HDD.out.2.1, zSeg_ok, HDD.out.2.2.2.2.2.2.2⟩ (by have := HN.out; omega) HN.out.2 HP.out HC2.out HR2.out (by assumption)
  ·go_simp
   refine hK.out _ _ ⟨_, _, HA.out.left⟩ (fun hHeld => ?_)
   clear hK K
   try simp only [Act.put, lz0, lz1, lz2, lz3, lz4, lz5]
   refine wpAnyH_ready (rs := [4]) (by kernel_rfl) (by decide) (AllReadyH.cons rfl (fun K hK => ?_) AllReadyH.nil)
   go_simp
   rcases h3 : descE sel 13 (codeOfN sel : Nat) s1 with ⟨f3 | d, s3⟩
   ·refine (HA.out.go_no 0 rfl (desc_x sel HS.out 13 _ (by have := HN.out; omega)) h3).mono ?_
    rintro e w6 ⟨rfl, T4⟩
    go_wp2_with fail
    exact ⟨rfl, env_no (loc := retL eb bc ba at_ ++ [Ob.box W.heap.size (descO zDesc)]) T4 (by have := HN.out; omega) (HR.out.trans (Ex.then_no h3))⟩
   ·refine (HA.out.go_ok 0 rfl (desc_x sel HS.out 13 _ (by have := HN.out; omega)) h3).mono ?_
    rintro e w6 ⟨rfl, T4⟩
    have HDD := Lib.hid ((Safe.desc HG.out sel HS.out 13 _ (by decide) _ _ h3).2.1 d rfl)
    have HR2 := Lib.hid (HR.out.trans (Ex.then_ok h3))
    have HC2 := Lib.hid (show s3.C = C from HDD.out.1.trans HC.out)
    clear h3 HR HC
    have HT4a := Lib.hid (show Hp w A w6 (oEn eb vb bb pl (n + 4) s3 :: (retB eb be bz sz ++ (retL eb bc ba at_ ++ [Ob.box W.heap.size (descO zDesc)]))) from T4)
    have HT5 := Lib.hid (show Hp w A (setsD w6 W.heap.size d) (oEn eb vb bb pl (n + 4) s3 :: (retB eb be bz sz ++ (retL eb bc ba at_ ++ [Ob.box W.heap.size (descO d)]))) from HT4a.out.dset 5 rfl d)
    clear T4
    unfold SegR.dval
    go_wp2_with fail
    refine hK.out _ _ ⟨_, _, (Hp.left (l1 := (oEn eb vb bb pl (n + 4) s3 :: (retB eb be bz sz ++ (retL eb bc ba at_ ++ [])))) (l2 := [Ob.box W.heap.size (descO zDesc)]) HT4a.out)⟩ (fun hHeld2 => ?_)
    clear hK K
    try simp only [Act.put, lz0, lz1, lz2, lz3, lz4, lz5]
    obtain ⟨z0, z1, z2, z3, z4, z5, z6, zf, zl⟩ := HT4a.out.dbox 5 rfl
    refine wpAnyH_ready (rs := [6]) (by kernel_rfl) (by decide) (AllReadyH.cons rfl (fun K hK => ?_) AllReadyH.nil)
    generalize W.heap.size = gd at *
    go_simp
    refine hK.out _ _ ⟨_, _, (Hp.left (l1 := (oEn eb vb bb pl (n + 4) s3 :: (retB eb be bz sz ++ (retL eb bc ba at_ ++ [])))) (l2 := [Ob.box gd (descO d)]) HT5.out)⟩ (fun hHeld4 => ?_)
    clear hK K
    refine wpAnyH_done (by kernel_rfl) ?_ _
    try simp only [Act.put, lz0, lz1, lz2, lz3, lz4, lz5]
    clear z0 z1 z2 z3 z4 z5 z6 zf zl
    go_upto_region 12 with (fail)
    exact ret_12 HT5.out ⟨by have := HN.out; omega, HO.out.hk, HO.out.hz, by rcases HO.out.hk with e | e <;> rw [e] <;> decide, HO.out.ha, HDD.out.2.1, zSeg_ok, HDD.out.2.2.2.2.2.2.2⟩ (by have := HN.out; omega) HN.out.2 HP.out HC2.out HR2.out (by assumption)
 ·go_simp
  refine hK.out _ _ ⟨_, _, HA.out.left⟩ (fun hHeld => ?_)
  clear hK K
  try simp only [Act.put, lz0, lz1, lz2, lz3, lz4, lz5]
  refine wpAnyH_ready (rs := [3]) (by kernel_rfl) (by decide) (AllReadyH.cons rfl (fun K hK => ?_) AllReadyH.nil)
  go_simp
  refine (code_x sel HS.out _ rfl _).mono ?_
  rintro e w' ⟨rfl, rfl⟩
  go_wp2_with fail
  refine hK.out _ _ (hHeld) (fun hHeld => ?_)
  clear hK K
  try simp only [Act.put, lz0, lz1, lz2, lz3, lz4, lz5]
  refine wpAnyH_ready (rs := [4]) (by kernel_rfl) (by decide) (AllReadyH.cons rfl (fun K hK => ?_) AllReadyH.nil)
  go_simp
  rcases h3 : descE sel 13 (codeOfN sel : Nat) s1 with ⟨f3 | d, s3⟩
  ·refine (HA.out.go_no 0 rfl (desc_x sel HS.out 13 _ (by have := HN.out; omega)) h3).mono ?_
   rintro e w6 ⟨rfl, T4⟩
   go_wp2_with fail
   exact ⟨rfl, env_no (loc := retL eb bc ba at_ ++ [Ob.box W.heap.size (descO zDesc)]) T4 (by have := HN.out; omega) (HR.out.trans (Ex.then_no h3))⟩
  ·refine (HA.out.go_ok 0 rfl (desc_x sel HS.out 13 _ (by have := HN.out; omega)) h3).mono ?_
   rintro e w6 ⟨rfl, T4⟩
   have HDD := Lib.hid ((Safe.desc HG.out sel HS.out 13 _ (by decide) _ _ h3).2.1 d rfl)
   have HR2 := Lib.hid (HR.out.trans (Ex.then_ok h3))
   have HC2 := Lib.hid (show s3.C = C from HDD.out.1.trans HC.out)
   clear h3 HR HC
   have HT4a := Lib.hid (show Hp w A w6 (oEn eb vb bb pl (n + 4) s3 :: (retB eb be bz sz ++ (retL eb bc ba at_ ++ [Ob.box W.heap.size (descO zDesc)]))) from T4)
   have HT5 := Lib.hid (show Hp w A (setsD w6 W.heap.size d) (oEn eb vb bb pl (n + 4) s3 :: (retB eb be bz sz ++ (retL eb bc ba at_ ++ [Ob.box W.heap.size (descO d)]))) from HT4a.out.dset 5 rfl d)
   clear T4
   unfold SegR.dval
   go_wp2_with fail
   refine hK.out _ _ ⟨_, _, (Hp.left (l1 := (oEn eb vb bb pl (n + 4) s3 :: (retB eb be bz sz ++ (retL eb bc ba at_ ++ [])))) (l2 := [Ob.box W.heap.size (descO zDesc)]) HT4a.out)⟩ (fun hHeld2 => ?_)
   clear hK K
   try simp only [Act.put, lz0, lz1, lz2, lz3, lz4, lz5]
   obtain ⟨z0, z1, z2, z3, z4, z5, z6, zf, zl⟩ := HT4a.out.dbox 5 rfl
   refine wpAnyH_ready (rs := [6]) (by kernel_rfl) (by decide) (AllReadyH.cons rfl (fun K hK => ?_) AllReadyH.nil)
   generalize W.heap.size = gd at *
   go_simp
   refine hK.out _ _ ⟨_, _, (Hp.left (l1 := (oEn eb vb bb pl (n + 4) s3 :: (retB eb be bz sz ++ (retL eb bc ba at_ ++ [])))) (l2 := [Ob.box gd (descO d)]) HT5.out)⟩ (fun hHeld4 => ?_)
   clear hK K
   refine wpAnyH_done (by kernel_rfl) ?_ _
   try simp only [Act.put, lz0, lz1, lz2, lz3, lz4, lz5]
   clear z0 z1 z2 z3 z4 z5 z6 zf zl
   go_upto_region 12 with (fail)
   exact ret_12 HT5.out ⟨by have := HN.out; omega, HO.out.hk, HO.out.hz, by rcases HO.out.hk with e | e <;> rw [e] <;> decide, HO.out.ha, HDD.out.2.1, zSeg_ok, HDD.out.2.2.2.2.2.2.2⟩ (by have := HN.out; omega) HN.out.2 HP.out HC2.out HR2.out (by assumption)
def w9 (C : CpuS) (k place sel fl rn at_ : Nat) : Ex Unit := (needE (codeOfN sel != 0) 13 0).then fun _ => (needE (decide (C.ring ≤ rn)) 13 (codeOfN sel : Nat)).then fun _ => w11 C k place sel fl rn at_
theorem ret_8 {k place sel fl : Nat} (T : Hp w A W (oEn eb vb bb pl n s1 :: (retB eb be bz sz ++ (retL eb bc ba at_ ++ [])))) (h : RetOk N n sz k 0 at_ zSeg zSeg) (hn : n + 12 ≤ N) (hN : N * 12 ≤ 140737488355328) (hp : place < 4294967296 ∧ sel < 65536 ∧ fl < 4294967296) (hC : s1.C = C) (hr : r = w9 C k place sel fl (sel % 4) at_ s1) {z6 z7 q6 q7 q8 q9 r0 r1 q5 r2 u18 u19 u20 u21 u22 r3 r4 r5 r6 r8 r9 s0 s2 s3 r7 s4 s5 s6 s7 s8 s9 t0 t1 t2 t3 t4 t5 t6 t7 t8 t9 u0 u1 u2 u3 u4 u5 u6 u7 v0 v1 v2 v3 v4 v5 v6 v7 v8 v9 w0 w3 w4 w5 w6 w7 w8 x0 x1 x2 x3 x4 x5 x6 x7 x8 x9 y0 y1 y2 y3 y4 y5 y6 y7 y8 y9 z0 z1 z2 z3 z4 z5 a0 a1 a2 a3 a4 a5 a6 a7 a8 a9 b1 b2 b3 b4 b5 b6 b7 b8 b9 c0 c1 c2 c3 c4 c5 c6 c7 c8 c9 d0 d1 d2 d3 d4 d5 d6 d7 d8 d9 e0 e1 e2 e3 e4 e5 e6 e7 e8 e9 f0 f1 f2 f3 f4 f5 f6 f7 f8 f9 g0 g1 g2 g3 g4 g5 g6 g7 g8 g9 h0 h1 h2 h3 h4 h5 h6 h7 h8 h9 i0 i1 i2 i3 i4 i5 i6 i7 i8 i9 j0 j1 j2 j3 j4 j5 j6 j7 j8 j9 k0 k1 k2 k3 k4 k5 k6 k7 k8 k9 l0 l1 l2 l3 l4 l5 l6 l7 l8 l9 m0 m1 m2 m3 m4 m5 m6 m7 m8 m9 n0 n1 n2 n3 n4 n5 n6 n7 n8 n9 o0 o1 o2 o3 o4 o5 o6 o7 o8 o9 p0 p1 p2 p3 p4 p5 p6 p7 p8 p9 q0 q1 q2 q3 q4 : Value} {K8 : Act → World → Prop} (hK8 : ∀ a w1, Code.wp Tryz.prog (tl Tryz.f47 8) (bodyPost Tryz.prog Tryz.f47 (EnEnd w A eb vb bb pl N (retB eb be bz sz) r)) a w1 → K8 a w1) :
    Code.wp Tryz.prog (rg Tryz.f47 8) (Exit.then K8 (bodyPost Tryz.prog Tryz.f47 (EnEnd w A eb vb bb pl N (retB eb be bz sz) r))) ⟨#[.pointer (some ⟨bz, 0, none⟩), .pointer (some ⟨be, 0, none⟩), .pointer (some ⟨bc, 0, none⟩), .pointer (some ⟨ba, 0, none⟩), .func (.func 48) #[] #[.pointer (some ⟨be, 0, none⟩), .pointer (some ⟨bc, 0, none⟩), .pointer (some ⟨ba, 0, none⟩), .pointer (some ⟨bz, 0, none⟩)], .int .u32 (place : Nat), .int .u16 (sel : Nat), .int .u32 (fl : Nat), z6, z7, q6, q7, q8, q9, r0, r1, q5, r2, u18, u19, u20, u21, u22, r3, r4, r5, r6, r8, r9, s0, s2, s3, r7, s4, s5, s6, s7, s8, s9, t0, t1, t2, t3, t4, t5, t6, t7, t8, t9, u0, u1, u2, u3, u4, u5, u6, u7, v0, v1, v2, v3, v4, v5, v6, v7, v8, v9, w0, w3, w4, w5, w6, w7, w8, x0, x1, x2, x3, x4, x5, x6, x7, x8, x9, y0, y1, y2, y3, y4, y5, y6, y7, y8, y9, z0, z1, z2, z3, z4, z5, a0, a1, a2, a3, a4, a5, a6, a7, a8, a9, b1, b2, b3, b4, b5, b6, b7, b8, b9, c0, c1, c2, c3, c4, c5, c6, c7, c8, c9, d0, d1, d2, d3, d4, d5, d6, d7, d8, d9, e0, e1, e2, e3, e4, e5, e6, e7, e8, e9, f0, f1, f2, f3, f4, f5, f6, f7, f8, f9, g0, g1, g2, g3, g4, g5, g6, g7, g8, g9, h0, h1, h2, h3, h4, h5, h6, h7, h8, h9, i0, i1, i2, i3, i4, i5, i6, i7, i8, i9, j0, j1, j2, j3, j4, j5, j6, j7, j8, j9, k0, k1, k2, k3, k4, k5, k6, k7, k8, k9, l0, l1, l2, l3, l4, l5, l6, l7, l8, l9, m0, m1, m2, m3, m4, m5, m6, m7, m8, m9, n0, n1, n2, n3, n4, n5, n6, n7, n8, n9, o0, o1, o2, o3, o4, o5, o6, o7, o8, o9, p0, p1, p2, p3, p4, p5, p6, p7, p8, p9, q0, q1, q2, q3, q4], []⟩ W := by
 have HO := Lib.hid h
 have HN := Lib.hid (And.intro hn hN)
 have HP := Lib.hid hp
 have HC := Lib.hid hC
 have HT := Lib.hid T
 have hs := hp.2.1
 have ha := and_3 sel hs
 obtain ⟨rn, hrn⟩ : ∃ rn, rn = sel % 4 := ⟨_, rfl⟩
 rw [← hrn] at ha hr
 have hrn4 : rn < 4 := by omega
 have hw : wrap64 ((rn : Nat) : Int) = ((rn : Nat) : Int) := IntWalk.wrap64_in _ (by omega)
 have HR := Lib.hid hr
 obtain ⟨b0, bf, bl⟩ := T.lone 1 rfl
 clear T h hn hN hp hC hr hrn
 conv => arg 2; whnf
 conv at hK8 => enter [a, w1, 1, 2]; whnf
 go_wp2_with fail
 refine (ring_c (HT.out.cpu 0 rfl)).mono ?_
 rintro e w2 ⟨rfl, rfl⟩
 rw [HC.out]
 have hR4 : C.ring < 4 := Nat.mod_lt _ (by decide)
 go_wp2_with fail
 refine (code_x sel HP.out.2.1 _ rfl _).mono ?_
 rintro e w2 ⟨rfl, rfl⟩
 go_wp2_with fail
 refine (need_d _ _ _ _).mono ?_
 rintro e w2 ⟨rfl, ⟨hb, rfl⟩ | ⟨hb, rfl⟩⟩
 ·have hq : (codeOfN sel != 0) = true := by
    simp only [bne_iff_ne, ne_eq] at hb ⊢
    omega
  have HR2 := Lib.hid (HR.out.trans (Ex.then_ok (need_ok hq _ _ _)))
  clear hb hq HR
  go_wp2_with fail
  refine (code_x sel HP.out.2.1 _ rfl _).mono ?_
  rintro e w2 ⟨rfl, rfl⟩
  go_wp2_with fail
  refine (need_d _ _ _ _).mono ?_
  rintro e w2 ⟨rfl, ⟨hb, rfl⟩ | ⟨hb, rfl⟩⟩
  ·have hq : decide (C.ring ≤ rn) = true := by
     rw [decide_eq_true_eq] at hb ⊢; omega
   have HR3 := Lib.hid (HR2.out.trans (Ex.then_ok (need_ok hq _ _ _)))
   clear hb hq HR2 b0 bf bl
   go_upto_region 11 with (fail)
   exact ret_11 HT.out HO.out HN.out.1 HN.out.2 HP.out HC.out HR3.out (by assumption)
  ·have hq : decide (C.ring ≤ rn) = false := by
     rw [decide_eq_false_iff_not] at hb ⊢; omega
   have HR3 := Lib.hid (show r = (.error ⟨13, _, 0⟩, s1) from HR2.out.trans (Ex.then_no (need_no hq _ _ _)))
   clear hb hq
   go_wp2_with fail
   exact ⟨rfl, env_no (loc := retL eb bc ba at_ ++ []) HT.out (by have := HN.out; omega) HR3.out⟩
 ·have hq : (codeOfN sel != 0) = false := by
    simp only [bne_eq_false_iff_eq] at hb ⊢
    omega
  have HR2 := Lib.hid (show r = (.error ⟨13, 0, 0⟩, s1) from HR.out.trans (Ex.then_no (need_no hq _ _ _)))
  clear hb hq
  go_wp2_with fail
  exact ⟨rfl, env_no (loc := retL eb bc ba at_ ++ []) HT.out (by have := HN.out; omega) HR2.out⟩
end
end Go.Proofs.YtmpcafdgkbpneaaGreat

/- except: Return. -/
namespace Go.Proofs.YtmpcafdgkbpneaaGreat
open Go.RowKit Go.MapKept
set_option linter.unusedVariables false
set_option linter.unusedSimpArgs false
attribute [local go_sem ↓] Go.wp_at_zero Go.wp_at_succ

theorem Ex.then_congr {α β : Type} {m : Ex α} {k k' : α → Ex β} {s : Es} (h : ∀ a s1, m s = (.ok a, s1) → k a s1 = k' a s1) : m.then k s = m.then k' s := by
 rcases hm : m s with ⟨f | a, s1⟩
 ·rw [Ex.then_no hm, Ex.then_no hm]
 ·rw [Ex.then_ok hm, Ex.then_ok hm]; exact h a s1 hm
theorem needE_same {p : Bool} {v c : Int} {s s1 : Es} {a : Unit} (h : needE p v c s = (.ok a, s1)) : s1 = s := by
 cases p
 ·rw [need_no rfl] at h; cases h
 ·rw [need_ok rfl] at h; exact (Prod.mk.inj h).2.symm
theorem loadE_C {seg : Int} {off : Nat} {size : Int} {s s1 : Es} {v : Nat} (h : loadE seg off size s = (.ok v, s1)) : s1.C = s.C := by rw [(told_ok (g := ld s.R s.C seg off size) h).2.2]
theorem sysE_C {a : Nat} {size : Int} {s s1 : Es} {v : Nat} (h : sysE a size s = (.ok v, s1)) : s1.C = s.C := by rw [(told_ok (g := ldOf (sy s.R s.C a size false)) h).2.2]
theorem descE_C {sel : Nat} {vec cd : Int} {s s1 : Es} {d : SegR} (h : descE sel vec cd s = (.ok d, s1)) : s1.C = s.C := by
 obtain ⟨_, t1, e1, h1⟩ := Ex.then_inv (show (Ex.then _ _) s = _ from h)
 obtain ⟨_, t2, e2, h2⟩ := Ex.then_inv h1
 obtain ⟨_, t3, e3, h3⟩ := Ex.then_inv h2
 cases h3
 rw [sysE_C e3, sysE_C e2, needE_same e1]
theorem at3_succ (C : CpuS) (k j : Nat) : (at3 C k j + k) % 4294967296 = at3 C k (j + 1) := by
 unfold at3
 rw [Nat.add_mul, Nat.one_mul]
 omega
theorem ret2_eq (C : CpuS) (k place sel fl : Nat) (d : SegR) (s : Es) (hC : s.C = C) (hlt : C.ring < sel % 4) : return2 k place sel fl d s = w17 C k place sel fl d (sel % 4) (at3 C k 3) s := by
 unfold return2 w17 Ex.at nextE
 subst hC
 refine Ex.then_congr fun sp s1 h1 => ?_
 unfold u18
 rw [at3_succ]
 refine Ex.then_congr fun v s2 h2 => ?_
 unfold u19 u20
 refine Ex.then_congr fun _ s3 h3 => ?_
 refine Ex.then_congr fun ss s4 h4 => ?_
 unfold u21 u22 lastC
 rw [descE_sel h4, if_neg (show ¬ (sel % 4 = s.C.ring) by omega)]
 rfl
theorem ret3_eq (C : CpuS) (k place sel fl : Nat) (d : SegR) (s : Es) (hC : s.C = C) (he : sel % 4 = C.ring) : return3 k place sel fl d s = ((needE (decide (place ≤ d.lim)) 13 0).then fun _ => Ex.upd fun t => ⟨lastC (C.left k place sel fl d) C.ring k (sel % 4) 0 (at3 C k 3) zSeg, t.R⟩) s := by
 unfold return3 Ex.at lastC
 subst hC
 rw [if_pos he]
def w7 (C : CpuS) (k place sel at_ : Nat) : Ex Unit := (loadE 2 at_ (k : Int)).then fun fl => w9 C k place sel fl (sel % 4) ((at_ + k) % 4294967296)
def w6 (C : CpuS) (k place at_ : Nat) : Ex Unit := (loadE 2 at_ (k : Int)).then fun v => w7 C k place (v % 65536) ((at_ + k) % 4294967296)
def w5 (C : CpuS) (k at_ : Nat) : Ex Unit := (loadE 2 at_ (k : Int)).then fun place => w6 C k place ((at_ + k) % 4294967296)
theorem return1_eq (k : Nat) (s : Es) (hr : s.C.r 4 < 4294967296) : return1 k s = ((needE (s.C.flags / 16384 % 2 == 0) 13 0).then fun _ => w5 s.C k (s.C.r 4)) s := by
 obtain ⟨C, hC⟩ : ∃ C, C = s.C := ⟨_, rfl⟩
 unfold return1 Ex.at nextE
 dsimp only
 rw [← hC] at hr ⊢
 refine Ex.then_congr fun _ s1 h1 => ?_
 have e1 := needE_same h1
 unfold w5
 refine Ex.then_congr fun place s2 h2 => ?_
 unfold w6
 rw [show (C.r 4 + k) % 4294967296 = at3 C k 1 by unfold at3; rw [Nat.one_mul]]
 refine Ex.then_congr fun v s3 h3 => ?_
 unfold w7
 rw [at3_succ]
 refine Ex.then_congr fun fl s4 h4 => ?_
 unfold w9
 rw [at3_succ, show v % 4 = v % 65536 % 4 by omega]
 refine Ex.then_congr fun _ s5 h5 => ?_
 refine Ex.then_congr fun _ s6 h6 => ?_
 unfold w11
 refine Ex.then_congr fun d s7 h7 => ?_
 unfold w12
 refine Ex.then_congr fun _ s8 h8 => ?_
 unfold w13
 refine Ex.then_congr fun _ s9 h9 => ?_
 have hC9 : s9.C = C := by rw [needE_same h9, needE_same h8, descE_C h7, needE_same h6, needE_same h5, loadE_C h4, loadE_C h3, loadE_C h2, e1, hC]
 have hle : C.ring ≤ v % 65536 % 4 := by
  by_cases hp : decide (C.ring ≤ v % 65536 % 4) = true
  ·exact of_decide_eq_true hp
  ·rw [need_no (by simpa using hp)] at h6; cases h6
 unfold w16
 by_cases hlt : C.ring < v % 65536 % 4
 ·rw [if_pos hlt, if_pos hlt]
  exact ret2_eq C k place (v % 65536) fl d s9 hC9 hlt
 ·rw [if_neg hlt, if_neg hlt]
  exact ret3_eq C k place (v % 65536) fl d s9 hC9 (by omega)
section
variable {w W w' w0 : World} {A A0 : Nat → Prop} {os bs loc : List Ob} {eb vb bb be bz bc ba at_ gd gs : Nat} {pl : Pl} {n n' N : Nat} {s s1 s' : Es} {sz : Int} {r : Except FaultS Unit × Es} {rn : Nat} {d ss : SegR} {C : CpuS}
theorem ret_7 {k place sel : Nat} (T : Hp w A W (oEn eb vb bb pl n s1 :: (retB eb be bz sz ++ (retL eb bc ba at_ ++ [])))) (h : RetOk N n sz k 0 at_ zSeg zSeg) (hn : n + 14 ≤ N) (hN : N * 12 ≤ 140737488355328) (hp : place < 4294967296 ∧ sel < 65536) (hC : s1.C = C) (hr : r = w7 C k place sel at_ s1) {A0 A1 A2 q9 r0 r1 r2 r3 r4 q8 r5 u18 u19 u20 u21 u22 r6 r7 r8 r9 s2 s4 s5 s6 s7 s0 s8 s9 t0 t1 t2 t3 t4 t5 t6 t7 t8 t9 u0 u1 u2 u3 u4 u5 u6 v0 v1 v2 v3 v4 v5 v6 v7 v8 v9 w0 w2 w3 w4 w5 w6 w8 w9 x0 x1 x2 x3 x4 x5 x6 x7 x8 x9 y0 y1 y2 y3 y4 y5 y6 y7 y8 y9 z0 z1 z2 z3 z4 z5 z6 z7 z8 z9 a0 a1 a2 a3 a4 a5 a6 a7 a8 a9 b0 b1 b2 b3 b4 b5 b6 b7 b8 b9 c0 c1 c2 c3 c4 c5 c6 c7 c8 c9 d0 d1 d2 d3 d4 d5 d6 d7 d8 d9 e0 e1 e2 e3 e4 e5 e6 e7 e8 e9 f0 f1 f2 f4 f5 f6 f7 f8 f9 g0 g1 g2 g3 g4 g5 g6 g7 g8 g9 h0 h4 h5 h6 h7 h8 h9 i0 i1 i2 i3 i4 i5 i6 i7 i8 i9 j0 j1 j2 j3 j4 j5 j6 j7 j8 j9 k0 k1 k2 k3 k4 k5 k6 k7 k8 k9 l0 l1 l2 l3 l4 l5 l6 l7 l8 l9 m0 m1 m2 m3 m4 m5 m6 m7 m8 m9 n0 n1 n2 n3 n4 n5 n6 n7 n8 n9 o0 o1 o2 o3 o4 o5 o6 o7 o8 o9 p0 p1 p2 p3 p4 p5 p6 p7 p8 p9 q0 q1 q2 q3 q4 q5 q6 q7 : Value} {K7 : Act → World → Prop} (hK7 : ∀ a w1, Code.wp Tryz.prog (tl Tryz.f47 7) (bodyPost Tryz.prog Tryz.f47 (EnEnd w A eb vb bb pl N (retB eb be bz sz) r)) a w1 → K7 a w1) :
    Code.wp Tryz.prog (rg Tryz.f47 7) (Exit.then K7 (bodyPost Tryz.prog Tryz.f47 (EnEnd w A eb vb bb pl N (retB eb be bz sz) r))) ⟨#[.pointer (some ⟨bz, 0, none⟩), .pointer (some ⟨be, 0, none⟩), .pointer (some ⟨bc, 0, none⟩), .pointer (some ⟨ba, 0, none⟩), .func (.func 48) #[] #[.pointer (some ⟨be, 0, none⟩), .pointer (some ⟨bc, 0, none⟩), .pointer (some ⟨ba, 0, none⟩), .pointer (some ⟨bz, 0, none⟩)], .int .u32 (place : Nat), .int .u16 (sel : Nat), A0, A1, A2, q9, r0, r1, r2, r3, r4, q8, r5, u18, u19, u20, u21, u22, r6, r7, r8, r9, s2, s4, s5, s6, s7, s0, s8, s9, t0, t1, t2, t3, t4, t5, t6, t7, t8, t9, u0, u1, u2, u3, u4, u5, u6, v0, v1, v2, v3, v4, v5, v6, v7, v8, v9, w0, w2, w3, w4, w5, w6, w8, w9, x0, x1, x2, x3, x4, x5, x6, x7, x8, x9, y0, y1, y2, y3, y4, y5, y6, y7, y8, y9, z0, z1, z2, z3, z4, z5, z6, z7, z8, z9, a0, a1, a2, a3, a4, a5, a6, a7, a8, a9, b0, b1, b2, b3, b4, b5, b6, b7, b8, b9, c0, c1, c2, c3, c4, c5, c6, c7, c8, c9, d0, d1, d2, d3, d4, d5, d6, d7, d8, d9, e0, e1, e2, e3, e4, e5, e6, e7, e8, e9, f0, f1, f2, f4, f5, f6, f7, f8, f9, g0, g1, g2, g3, g4, g5, g6, g7, g8, g9, h0, h4, h5, h6, h7, h8, h9, i0, i1, i2, i3, i4, i5, i6, i7, i8, i9, j0, j1, j2, j3, j4, j5, j6, j7, j8, j9, k0, k1, k2, k3, k4, k5, k6, k7, k8, k9, l0, l1, l2, l3, l4, l5, l6, l7, l8, l9, m0, m1, m2, m3, m4, m5, m6, m7, m8, m9, n0, n1, n2, n3, n4, n5, n6, n7, n8, n9, o0, o1, o2, o3, o4, o5, o6, o7, o8, o9, p0, p1, p2, p3, p4, p5, p6, p7, p8, p9, q0, q1, q2, q3, q4, q5, q6, q7], []⟩ W := by
 have HO := Lib.hid h
 have HN := Lib.hid (And.intro hn hN)
 have HP := Lib.hid hp
 have HR := Lib.hid hr
 have HC := Lib.hid hC
 have HT := Lib.hid T
 have HG := Lib.hid (show s1.good from ⟨T.wide 0 rfl, (T.cpu 0 rfl).1⟩)
 have hen := fun args w => next_enters args w
 clear T h hn hN hp hr hC
 conv => arg 2; whnf
 conv at hK7 => enter [a, w1, 1, 2]; whnf
 go_wp2_with fail
 refine (next_x (loc := []) HT.out HO.out.ha (by have := HO.out.hz; have := HO.out.hk; omega) (by have := HN.out; omega)).mono ?_
 rintro e W2 ⟨h1, h2⟩
 rw [HO.out.hz] at h1 h2
 rcases h3 : loadE 2 at_ (k : Int) s1 with ⟨f3 | v, s3⟩
 ·obtain ⟨rfl, T4⟩ := h2 _ _ h3
  clear h1 h2
  go_wp2_with fail
  rw [← HO.out.hz] at T4
  exact ⟨rfl, env_no (loc := retL eb bc ba at_ ++ []) T4 (by have := HN.out; omega) (HR.out.trans (Ex.then_no h3))⟩
 ·obtain ⟨rfl, T4⟩ := h1 _ _ h3
  rw [Int.toNat_natCast] at T4
  have HL := Lib.hid ((Safe.load HG.out 2 at_ HO.out.ha k HO.out.hk _ _ h3).2.1 v rfl)
  have HT4 := Lib.hid (show Hp w A W2 (oEn eb vb bb pl (n + 2) s3 :: (retB eb be bz sz ++ (retL eb bc ba ((at_ + k) % 4294967296) ++ []))) from by rw [HO.out.hz]; exact T4)
  have HR2 := Lib.hid (HR.out.trans (Ex.then_ok h3))
  have HC2 := Lib.hid (show s3.C = C from HL.out.2.trans HC.out)
  have HV := Lib.hid (show v < 4294967296 by
   have h := HL.out.1
   rcases HO.out.hk with e | e <;> rw [e] at h <;> omega)
  clear T4 h1 h2 h3 HR HC
  go_upto_region 8 with (fail)
  exact ret_8 HT4.out ⟨by have := HN.out; omega, HO.out.hk, HO.out.hz, HO.out.hsp, Nat.mod_lt _ (by decide), HO.out.hd, HO.out.hss, HO.out.nul⟩ (by have := HN.out; omega) HN.out.2 ⟨HP.out.1, HP.out.2, HV.out⟩ HC2.out HR2.out (by assumption)
theorem ret_6 {k place : Nat} (T : Hp w A W (oEn eb vb bb pl n s1 :: (retB eb be bz sz ++ (retL eb bc ba at_ ++ [])))) (h : RetOk N n sz k 0 at_ zSeg zSeg) (hn : n + 16 ≤ N) (hN : N * 12 ≤ 140737488355328) (hp : place < 4294967296) (hC : s1.C = C) (hr : r = w6 C k place at_ s1) {A1 A2 A3 A4 q9 r0 r1 r2 r3 r4 q8 r5 u18 u19 u20 u21 u22 r6 r7 r8 r9 s2 s4 s5 s6 s7 s0 s8 s9 t0 t1 t2 t3 t4 t5 t6 t7 t8 t9 u0 u1 u2 u3 u4 u5 v0 v1 v2 v3 v4 v5 v6 v7 v8 v9 w0 w2 w3 w4 w5 w7 w8 w9 x0 x1 x2 x3 x4 x5 x6 x7 x8 x9 y0 y1 y2 y3 y4 y5 y6 y7 y8 y9 z0 z1 z2 z3 z4 z5 z6 z7 z8 z9 A0 a0 a1 a2 a3 a4 a5 a6 a7 a8 a9 b0 b1 b2 b3 b4 b5 b6 b7 b8 b9 c0 c1 c2 c3 c4 c5 c6 c7 c8 c9 d0 d1 d2 d3 d4 d5 d6 d7 d8 d9 e0 e1 e2 e3 e4 e5 e6 e7 e8 e9 f0 f1 f2 f4 f5 f6 f7 f8 f9 g0 g1 g2 g3 g4 g5 g6 g7 g8 g9 h0 h4 h5 h6 h7 h8 h9 i0 i1 i2 i3 i4 i5 i6 i7 i8 i9 j0 j1 j2 j3 j4 j5 j6 j7 j8 j9 k0 k1 k2 k3 k4 k5 k6 k7 k8 k9 l0 l1 l2 l3 l4 l5 l6 l7 l8 l9 m0 m1 m2 m3 m4 m5 m6 m7 m8 m9 n0 n1 n2 n3 n4 n5 n6 n7 n8 n9 o0 o1 o2 o3 o4 o5 o6 o7 o8 o9 p0 p1 p2 p3 p4 p5 p6 p7 p8 p9 q0 q1 q2 q3 q4 q5 q6 q7 : Value} {K6 : Act → World → Prop} (hK6 : ∀ a w1, Code.wp Tryz.prog (tl Tryz.f47 6) (bodyPost Tryz.prog Tryz.f47 (EnEnd w A eb vb bb pl N (retB eb be bz sz) r)) a w1 → K6 a w1) :
    Code.wp Tryz.prog (rg Tryz.f47 6) (Exit.then K6 (bodyPost Tryz.prog Tryz.f47 (EnEnd w A eb vb bb pl N (retB eb be bz sz) r))) ⟨#[.pointer (some ⟨bz, 0, none⟩), .pointer (some ⟨be, 0, none⟩), .pointer (some ⟨bc, 0, none⟩), .pointer (some ⟨ba, 0, none⟩), .func (.func 48) #[] #[.pointer (some ⟨be, 0, none⟩), .pointer (some ⟨bc, 0, none⟩), .pointer (some ⟨ba, 0, none⟩), .pointer (some ⟨bz, 0, none⟩)], .int .u32 (place : Nat), A1, A2, A3, A4, q9, r0, r1, r2, r3, r4, q8, r5, u18, u19, u20, u21, u22, r6, r7, r8, r9, s2, s4, s5, s6, s7, s0, s8, s9, t0, t1, t2, t3, t4, t5, t6, t7, t8, t9, u0, u1, u2, u3, u4, u5, v0, v1, v2, v3, v4, v5, v6, v7, v8, v9, w0, w2, w3, w4, w5, w7, w8, w9, x0, x1, x2, x3, x4, x5, x6, x7, x8, x9, y0, y1, y2, y3, y4, y5, y6, y7, y8, y9, z0, z1, z2, z3, z4, z5, z6, z7, z8, z9, A0, a0, a1, a2, a3, a4, a5, a6, a7, a8, a9, b0, b1, b2, b3, b4, b5, b6, b7, b8, b9, c0, c1, c2, c3, c4, c5, c6, c7, c8, c9, d0, d1, d2, d3, d4, d5, d6, d7, d8, d9, e0, e1, e2, e3, e4, e5, e6, e7, e8, e9, f0, f1, f2, f4, f5, f6, f7, f8, f9, g0, g1, g2, g3, g4, g5, g6, g7, g8, g9, h0, h4, h5, h6, h7, h8, h9, i0, i1, i2, i3, i4, i5, i6, i7, i8, i9, j0, j1, j2, j3, j4, j5, j6, j7, j8, j9, k0, k1, k2, k3, k4, k5, k6, k7, k8, k9, l0, l1, l2, l3, l4, l5, l6, l7, l8, l9, m0, m1, m2, m3, m4, m5, m6, m7, m8, m9, n0, n1, n2, n3, n4, n5, n6, n7, n8, n9, o0, o1, o2, o3, o4, o5, o6, o7, o8, o9, p0, p1, p2, p3, p4, p5, p6, p7, p8, p9, q0, q1, q2, q3, q4, q5, q6, q7], []⟩ W := by
 have HO := Lib.hid h
 have HN := Lib.hid (And.intro hn hN)
 have HP := Lib.hid hp
 have HR := Lib.hid hr
 have HC := Lib.hid hC
 have HT := Lib.hid T
 have HG := Lib.hid (show s1.good from ⟨T.wide 0 rfl, (T.cpu 0 rfl).1⟩)
 have hen := fun args w => next_enters args w
 clear T h hn hN hp hr hC
 conv => arg 2; whnf
 conv at hK6 => enter [a, w1, 1, 2]; whnf
 go_wp2_with fail
 refine (next_x (loc := []) HT.out HO.out.ha (by have := HO.out.hz; have := HO.out.hk; omega) (by have := HN.out; omega)).mono ?_
 rintro e W2 ⟨h1, h2⟩
 rw [HO.out.hz] at h1 h2
 rcases h3 : loadE 2 at_ (k : Int) s1 with ⟨f3 | v, s3⟩
 ·obtain ⟨rfl, T4⟩ := h2 _ _ h3
  clear h1 h2
  go_wp2_with fail
  rw [← HO.out.hz] at T4
  exact ⟨rfl, env_no (loc := retL eb bc ba at_ ++ []) T4 (by have := HN.out; omega) (HR.out.trans (Ex.then_no h3))⟩
 ·obtain ⟨rfl, T4⟩ := h1 _ _ h3
  rw [Int.toNat_natCast] at T4
  have HL := Lib.hid ((Safe.load HG.out 2 at_ HO.out.ha k HO.out.hk _ _ h3).2.1 v rfl)
  have HT4 := Lib.hid (show Hp w A W2 (oEn eb vb bb pl (n + 2) s3 :: (retB eb be bz sz ++ (retL eb bc ba ((at_ + k) % 4294967296) ++ []))) from by rw [HO.out.hz]; exact T4)
  have HR2 := Lib.hid (HR.out.trans (Ex.then_ok h3))
  have HC2 := Lib.hid (show s3.C = C from HL.out.2.trans HC.out)
  have HV := Lib.hid (show v < 4294967296 by
   have h := HL.out.1
   rcases HO.out.hk with e | e <;> rw [e] at h <;> omega)
  clear T4 h1 h2 h3 HR HC
  have hv : IntKind.u16.wrap (v : Int) = ((v % 65536 : Nat) : Int) := by rw [IntKind.wrap_u16]; omega
  have hs2 : v % 65536 < 65536 := Nat.mod_lt _ (by decide)
  obtain ⟨sel, hs⟩ : ∃ sel, sel = v % 65536 := ⟨_, rfl⟩
  rw [← hs] at hv hs2 HR2
  have HQ := Lib.hid hs2
  clear hs hs2
  go_upto_region 7 with (fail)
  try rw [hv]
  exact ret_7 HT4.out ⟨by have := HN.out; omega, HO.out.hk, HO.out.hz, HO.out.hsp, Nat.mod_lt _ (by decide), HO.out.hd, HO.out.hss, HO.out.nul⟩ (by have := HN.out; omega) HN.out.2 ⟨HP.out, HQ.out⟩ HC2.out HR2.out (by assumption)
theorem ret_5 {k : Nat} (T : Hp w A W (oEn eb vb bb pl n s1 :: (retB eb be bz sz ++ (retL eb bc ba at_ ++ [])))) (h : RetOk N n sz k 0 at_ zSeg zSeg) (hn : n + 18 ≤ N) (hN : N * 12 ≤ 140737488355328) (hC : s1.C = C) (hr : r = w5 C k at_ s1) {A2 A3 A4 A5 A6 q8 q9 r0 r1 r2 r3 r4 r5 u18 u19 u20 u21 u22 r6 r7 r8 r9 s0 s2 s4 s5 s6 s7 s8 s9 t0 t1 t2 t3 t4 t5 t6 t7 t8 t9 u0 u1 u2 u3 u4 v0 v1 v2 v3 v4 v5 v6 v7 v8 v9 w0 w2 w3 w4 w6 w7 w8 w9 x0 x1 x2 x3 x4 x5 x6 x7 x8 x9 y0 y1 y2 y3 y4 y5 y6 y7 y8 y9 z0 z1 z2 z3 z4 z5 z6 z7 z8 z9 A0 A1 a0 a1 a2 a3 a4 a5 a6 a7 a8 a9 b0 b1 b2 b3 b4 b5 b6 b7 b8 b9 c0 c1 c2 c3 c4 c5 c6 c7 c8 c9 d0 d1 d2 d3 d4 d5 d6 d7 d8 d9 e0 e1 e2 e3 e4 e5 e6 e7 e8 e9 f0 f1 f2 f4 f5 f6 f7 f8 f9 g0 g1 g2 g3 g4 g5 g6 g7 g8 g9 h0 h4 h5 h6 h7 h8 h9 i0 i1 i2 i3 i4 i5 i6 i7 i8 i9 j0 j1 j2 j3 j4 j5 j6 j7 j8 j9 k0 k1 k2 k3 k4 k5 k6 k7 k8 k9 l0 l1 l2 l3 l4 l5 l6 l7 l8 l9 m0 m1 m2 m3 m4 m5 m6 m7 m8 m9 n0 n1 n2 n3 n4 n5 n6 n7 n8 n9 o0 o1 o2 o3 o4 o5 o6 o7 o8 o9 p0 p1 p2 p3 p4 p5 p6 p7 p8 p9 q0 q1 q2 q3 q4 q5 q6 q7 : Value} {K5 : Act → World → Prop} (hK5 : ∀ a w1, Code.wp Tryz.prog (tl Tryz.f47 5) (bodyPost Tryz.prog Tryz.f47 (EnEnd w A eb vb bb pl N (retB eb be bz sz) r)) a w1 → K5 a w1) :
    Code.wp Tryz.prog (rg Tryz.f47 5) (Exit.then K5 (bodyPost Tryz.prog Tryz.f47 (EnEnd w A eb vb bb pl N (retB eb be bz sz) r))) ⟨#[.pointer (some ⟨bz, 0, none⟩), .pointer (some ⟨be, 0, none⟩), .pointer (some ⟨bc, 0, none⟩), .pointer (some ⟨ba, 0, none⟩), .func (.func 48) #[] #[.pointer (some ⟨be, 0, none⟩), .pointer (some ⟨bc, 0, none⟩), .pointer (some ⟨ba, 0, none⟩), .pointer (some ⟨bz, 0, none⟩)], A2, A3, A4, A5, A6, q8, q9, r0, r1, r2, r3, r4, r5, u18, u19, u20, u21, u22, r6, r7, r8, r9, s0, s2, s4, s5, s6, s7, s8, s9, t0, t1, t2, t3, t4, t5, t6, t7, t8, t9, u0, u1, u2, u3, u4, v0, v1, v2, v3, v4, v5, v6, v7, v8, v9, w0, w2, w3, w4, w6, w7, w8, w9, x0, x1, x2, x3, x4, x5, x6, x7, x8, x9, y0, y1, y2, y3, y4, y5, y6, y7, y8, y9, z0, z1, z2, z3, z4, z5, z6, z7, z8, z9, A0, A1, a0, a1, a2, a3, a4, a5, a6, a7, a8, a9, b0, b1, b2, b3, b4, b5, b6, b7, b8, b9, c0, c1, c2, c3, c4, c5, c6, c7, c8, c9, d0, d1, d2, d3, d4, d5, d6, d7, d8, d9, e0, e1, e2, e3, e4, e5, e6, e7, e8, e9, f0, f1, f2, f4, f5, f6, f7, f8, f9, g0, g1, g2, g3, g4, g5, g6, g7, g8, g9, h0, h4, h5, h6, h7, h8, h9, i0, i1, i2, i3, i4, i5, i6, i7, i8, i9, j0, j1, j2, j3, j4, j5, j6, j7, j8, j9, k0, k1, k2, k3, k4, k5, k6, k7, k8, k9, l0, l1, l2, l3, l4, l5, l6, l7, l8, l9, m0, m1, m2, m3, m4, m5, m6, m7, m8, m9, n0, n1, n2, n3, n4, n5, n6, n7, n8, n9, o0, o1, o2, o3, o4, o5, o6, o7, o8, o9, p0, p1, p2, p3, p4, p5, p6, p7, p8, p9, q0, q1, q2, q3, q4, q5, q6, q7], []⟩ W := by
 have HO := Lib.hid h
 have HN := Lib.hid (And.intro hn hN)
 have HP := Lib.hid True.intro
 have HR := Lib.hid hr
 have HC := Lib.hid hC
 have HT := Lib.hid T
 have HG := Lib.hid (show s1.good from ⟨T.wide 0 rfl, (T.cpu 0 rfl).1⟩)
 have hen := fun args w => next_enters args w
 clear T h hn hN  hr hC
 conv => arg 2; whnf
 conv at hK5 => enter [a, w1, 1, 2]; whnf
 go_wp2_with fail
 refine (next_x (loc := []) HT.out HO.out.ha (by have := HO.out.hz; have := HO.out.hk; omega) (by have := HN.out; omega)).mono ?_
 rintro e W2 ⟨h1, h2⟩
 rw [HO.out.hz] at h1 h2
 rcases h3 : loadE 2 at_ (k : Int) s1 with ⟨f3 | v, s3⟩
 ·obtain ⟨rfl, T4⟩ := h2 _ _ h3
  clear h1 h2
  go_wp2_with fail
  rw [← HO.out.hz] at T4
  exact ⟨rfl, env_no (loc := retL eb bc ba at_ ++ []) T4 (by have := HN.out; omega) (HR.out.trans (Ex.then_no h3))⟩
 ·obtain ⟨rfl, T4⟩ := h1 _ _ h3
  rw [Int.toNat_natCast] at T4
  have HL := Lib.hid ((Safe.load HG.out 2 at_ HO.out.ha k HO.out.hk _ _ h3).2.1 v rfl)
  have HT4 := Lib.hid (show Hp w A W2 (oEn eb vb bb pl (n + 2) s3 :: (retB eb be bz sz ++ (retL eb bc ba ((at_ + k) % 4294967296) ++ []))) from by rw [HO.out.hz]; exact T4)
  have HR2 := Lib.hid (HR.out.trans (Ex.then_ok h3))
  have HC2 := Lib.hid (show s3.C = C from HL.out.2.trans HC.out)
  have HV := Lib.hid (show v < 4294967296 by
   have h := HL.out.1
   rcases HO.out.hk with e | e <;> rw [e] at h <;> omega)
  clear T4 h1 h2 h3 HR HC
  go_upto_region 6 with (fail)
  exact ret_6 HT4.out ⟨by have := HN.out; omega, HO.out.hk, HO.out.hz, HO.out.hsp, Nat.mod_lt _ (by decide), HO.out.hd, HO.out.hss, HO.out.nul⟩ (by have := HN.out; omega) HN.out.2 HV.out HC2.out HR2.out (by assumption)
theorem returnE_no (h : ¬ (sz = 2 ∨ sz = 4)) (s : Es) : returnE sz s = (.error ⟨13, 0, 0⟩, s) := by
 unfold returnE
 refine Ex.then_no (need_no ?_ _ _ _)
 rw [beq_eq_false_iff_ne.2 (fun e => h (.inl e)), beq_eq_false_iff_ne.2 (fun e => h (.inr e))]
 rfl
theorem returnE_yes (k : Nat) (hk : k = 2 ∨ k = 4) (s : Es) (hr : s.C.r 4 < 4294967296) : returnE (k : Int) s = ((needE (s.C.flags / 16384 % 2 == 0) 13 0).then fun _ => w5 s.C k (s.C.r 4)) s := by
 unfold returnE
 refine (Ex.then_ok (need_ok ?_ _ _ _)).trans ?_
 ·rcases hk with rfl | rfl <;> decide
 ·rw [Int.toNat_natCast]; exact return1_eq k s hr
theorem nt_bits (f : Nat) (hf : f < 4294967296) : bits .and .u32 (f : Int) 16384 = ((f / 16384 % 2 * 16384 : Nat) : Int) := by
 have e := u32_and_nat f 16384 hf (by decide)
 have g := nat_field f 14 1
 rw [show (2 ^ 1 - 1) * 2 ^ 14 = 16384 by decide] at g
 rw [show (16384 : Int) = ((16384 : Nat) : Int) from rfl, e, g]
theorem retF_x (hN : (n + 40) * 12 ≤ 140737488355328) :
    Goes 47 #[.pointer (some ⟨bz, 0, none⟩), .pointer (some ⟨be, 0, none⟩)] (oEs eb vb bb pl n (retB eb be bz sz) s) (returnE sz s) (fun _ => .tuple #[]) (oEs eb vb bb pl (n + 40) (retB eb be bz sz)) := by
 rintro w A T0
 obtain ⟨r, hr⟩ : ∃ r, returnE sz s = r := ⟨_, rfl⟩
 rw [hr]
 have HR := Lib.hid hr.symm
 have T : Hp w A w (oEn eb vb bb pl n s :: (retB eb be bz sz ++ [])) := ⟨A, T0, Moves.refl _ _⟩
 have HT := Lib.hid T
 have HN := Lib.hid hN
 clear T0 hr hN
 show Calls Tryz.prog 47 #[.pointer (some ⟨bz, 0, none⟩), .pointer (some ⟨be, 0, none⟩)] w (EnEnd w A eb vb bb pl (n + 40) (retB eb be bz sz) r)
 obtain ⟨z0, zf, zl⟩ := T.lone 2 rfl
 obtain ⟨b0, bf, bl⟩ := T.lone 1 rfl
 have kl := (T.en 0 rfl).2.2
 by_cases h0 : sz = 2 ∨ sz = 4
 ·obtain ⟨k, hz, hk⟩ : ∃ k : Nat, sz = (k : Int) ∧ (k = 2 ∨ k = 4) := by
    rcases h0 with rfl | rfl
    ·exact ⟨2, rfl, .inl rfl⟩
    ·exact ⟨4, rfl, .inr rfl⟩
  have hr4 := (T.cpu 0 rfl).1.r 4
  have HR2 := Lib.hid (show r = ((needE (s.C.flags / 16384 % 2 == 0) 13 0).then fun _ => w5 s.C k (s.C.r 4)) s by rw [HR.out, hz]; exact returnE_yes k hk s hr4)
  have HT1 := Lib.hid (show Hp w A (w.alloc (.cells #[.pointer (some ⟨eb, 0, none⟩)] 78)) (oEn eb vb bb pl n s :: (retB eb be bz sz ++ [Ob.box w.heap.size (.cells #[.pointer (some ⟨eb, 0, none⟩)] 78)])) from T.make _)
  have HK := Lib.hid (And.intro hz (And.intro hk hr4))
  have hmf : ∀ (fn : Fn) (first cap : Array Value) (w : World), (Instr.makeFunc fn first cap).run Tryz.prog w = .ok (.func fn first cap) w := fun _ _ _ _ => rfl
  clear T HR hz hk hr4
  go_enter Tryz.func47, Tryz.ntmps47
  rcases h0 with rfl | rfl
  all_goals
   go_upto_region 2 with (go_at_call 26; refine (need_yes _ _ _).mono ?_; rintro e w' ⟨rfl, rfl⟩)
   change Code.wp _ _ _ _ (w'.alloc (.cells #[.pointer (some ⟨eb, 0, none⟩)] 78))
   clear z0 zf zl b0 bf bl kl
   generalize w'.alloc (.cells #[.pointer (some ⟨eb, 0, none⟩)] 78) = W1 at *
   generalize w'.heap.size = bc at *
   obtain ⟨c0, cf, cl⟩ := HT1.out.lone 3 rfl
   obtain ⟨k8, k9, -, -, kf, kl⟩ := (HT1.out.cpu 0 rfl).ends
   have e1 := nt_bits s.C.flags (HT1.out.cpu 0 rfl).1.flags
   obtain ⟨q, hq⟩ : ∃ q, q = s.C.flags / 16384 % 2 := ⟨_, rfl⟩
   have HQ := Lib.hid hq
   rw [← hq] at e1
   have hq2 : q < 2 := by omega
   clear hq
   go_wp2_with fail
   refine (need_d _ _ _ _).mono ?_
   rintro e w2 ⟨rfl, ⟨hb, rfl⟩ | ⟨hb, rfl⟩⟩
   ·have hp : (s.C.flags / 16384 % 2 == 0) = true := by
      rw [← HQ.out]
      simp only [beq_iff_eq] at hb ⊢
      omega
    have HR3 := Lib.hid (HR2.out.trans (Ex.then_ok (need_ok hp _ _ _)))
    have HT2 := Lib.hid (show Hp w' A (w2.alloc (.cells #[.int .u32 (s.C.r 4 : Nat)] 22)) (oEn eb vb bb pl n s :: (retB eb be bz _ ++ (retL eb bc w2.heap.size (s.C.r 4) ++ []))) from HT1.out.make _)
    obtain ⟨k4, -⟩ := (HT1.out.cpu 0 rfl).esp
    obtain ⟨b0, bf, bl⟩ := HT1.out.lone 1 rfl
    clear hb hp HR2 e1 hq2 HQ
    go_upto_region 5 with (fail)
    change Code.wp _ _ _ _ (w2.alloc (.cells #[.int .u32 (s.C.r 4 : Nat)] 22))
    generalize w2.alloc (.cells #[.int .u32 (s.C.r 4 : Nat)] 22) = W3 at *
    generalize w2.heap.size = ba at *
    exact ret_5 HT2.out ⟨by omega, HK.out.2.1, HK.out.1, by rcases HK.out.2.1 with e | e <;> rw [e] <;> decide, HK.out.2.2, zSeg_ok, zSeg_ok, rfl⟩ (by omega) HN.out rfl HR3.out (by assumption)
   ·have hp : (s.C.flags / 16384 % 2 == 0) = false := by
      rw [← HQ.out]
      simp only [beq_eq_false_iff_ne, ne_eq] at hb ⊢
      omega
    have HR3 := Lib.hid (show r = (.error ⟨13, 0, 0⟩, s) from HR2.out.trans (Ex.then_no (need_no hp _ _ _)))
    clear hb hp
    go_wp2_with fail
    exact ⟨rfl, env_no (loc := [Ob.box bc (.cells #[.pointer (some ⟨eb, 0, none⟩)] 78)]) HT1.out (by omega) HR3.out⟩
 ·have HR2 := Lib.hid (HR.out.trans (returnE_no h0 s))
  have hb2 : ((sz : Int) == 2) = false := beq_eq_false_iff_ne.2 (fun e => h0 (.inl e))
  have hb4 : ((sz : Int) == 4) = false := beq_eq_false_iff_ne.2 (fun e => h0 (.inr e))
  clear h0
  go_enter Tryz.func47, Tryz.ntmps47
  go_wp2_with fail
  refine (need_d _ _ _ _).mono ?_
  rintro e w2 ⟨rfl, ⟨hp, rfl⟩ | ⟨hp, rfl⟩⟩
  ·cases hp
  ·clear hp
   go_wp2_with fail
   exact ⟨rfl, env_no (loc := []) HT.out (by omega) HR2.out⟩
end
end Go.Proofs.YtmpcafdgkbpneaaGreat

