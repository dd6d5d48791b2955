/- Steps of a proof: ExI, ExJ, ExK, together. -/
import Derived.Test.YtmpcafdgkbpneaaGreatS17
/- except: Enter's inner function: the processor is copied. -/
set_option maxHeartbeats 4000000
set_option maxRecDepth 20000
namespace Go.Proofs.YtmpcafdgkbpneaaGreat
open Go.RowKit Go.MapKept
set_option linter.unusedVariables false
set_option linter.unusedSimpArgs false
attribute [local go_sem ↓] Go.wp_at_zero Go.wp_at_succ

section
variable {w W w' w0 : World} {A A0 : Nat → Prop} {os bs loc : List Ob} {eb vb bb : Nat} {pl : Pl} {n n' N : Nat} {s s1 s' : Es} {r : Except FaultS Unit × Es} {x : FaultS}
variable {be bv bn bt gd go : Nat} {vec num : Int} {soft : Bool} {d : SegR} {old : CpuS}
theorem env_range (T : Hp w0 A0 w (oEn eb vb bb pl n s1 :: os)) : w.rangeAt eb 0 s1.C.cells := by
 obtain ⟨A, H, E, e⟩ := T.get 0 rfl
 exact cpu_range s1.C E.box
theorem enter_19 {y : Int} (T : Hp w A W (oEn eb vb bb pl n s1 :: (enterB eb be bv bn bt vec num soft ++ [Ob.box gd (descO d)]))) (hn : n + 24 ≤ N) (hN : N * 12 ≤ 140737488355328) {place kind sel : Nat} (hp : place < 4294967296) (hs : sel < 65536) (hd : d.ok) (hdn : d.nul = false) (hd0 : 0 ≤ d.dpl ∧ d.dpl ≤ 3) (hx : y = 0 ∨ y = 1) (hr : r = enter3 num y kind sel place d s1) {x6 x2 x3 x4 x5 n9 o0 o1 n8 o2 o3 o4 o5 o6 o7 o8 p0 p1 p2 p3 p4 p5 p6 p7 o9 p8 p9 q0 q1 q2 q3 q4 q5 q6 q7 q8 q9 r0 r1 r2 r3 r4 r5 r6 r7 r8 r9 s0 s2 s3 s4 s5 s6 s7 s8 s9 t0 t1 t2 t3 t4 t5 t6 t7 t8 t9 u2 u3 u4 u5 u9 v0 v1 v2 v3 v4 v5 v6 v7 v8 v9 w0 w2 w3 w4 w5 w6 w7 w8 w9 x0 x1 a0 a1 a2 a3 a4 a5 a6 a7 a8 a9 b0 b1 b2 b3 b4 b5 b6 b7 b8 b9 c0 c1 c2 c3 c4 c5 c6 c7 c8 c9 d0 d1 d2 d3 d4 d5 d6 d7 d8 d9 e0 e1 e2 e3 e4 e5 e6 e7 e8 e9 f0 f1 f2 f3 f4 f5 f6 f7 f8 f9 g0 g1 g2 g3 g4 g5 g6 g7 g8 g9 h0 h1 h2 h3 h4 h5 h6 h7 h8 h9 i0 i1 i2 i3 i4 i5 i6 i7 i8 i9 j0 j1 j2 j3 j4 j5 j6 j7 j8 j9 k0 k1 k2 k3 k4 k5 k6 k7 k8 k9 l0 l1 l2 l3 l4 l5 l6 l7 l8 l9 m0 m1 m2 m3 m4 m5 m6 m7 m8 m9 n0 n1 n2 n3 n4 n5 n6 n7 : Value} {K19 : Act → World → Prop} (hK19 : ∀ a w1, Code.wp Tryz.prog (tl Tryz.f25 19) (bodyPost Tryz.prog Tryz.f25 (EnEnd w A eb vb bb pl N (enterB eb be bv bn bt vec num soft) r)) a w1 → K19 a w1) :
    Code.wp Tryz.prog (rg Tryz.f25 19) (Exit.then K19 (bodyPost Tryz.prog Tryz.f25 (EnEnd w A eb vb bb pl N (enterB eb be bv bn bt vec num soft) r))) ⟨#[x6, x2, .pointer (some ⟨be, 0, none⟩), .pointer (some ⟨bn, 0, none⟩), .int .i64 y, .pointer (some ⟨eb, 0, none⟩), x3, x4, x5, .int .u32 (kind : Nat), .int .u16 (sel : Nat), .int .u32 (place : Nat), .pointer (some ⟨gd, 0, none⟩), n9, o0, o1, n8, o2, o3, o4, o5, o6, o7, o8, p0, p1, p2, p3, p4, p5, p6, p7, o9, p8, p9, q0, q1, q2, q3, q4, q5, q6, q7, q8, q9, r0, r1, r2, r3, r4, r5, r6, r7, r8, r9, s0, s2, s3, s4, s5, s6, s7, s8, s9, t0, t1, t2, t3, t4, t5, t6, t7, t8, t9, u2, u3, u4, u5, u9, v0, v1, v2, v3, v4, v5, v6, v7, v8, v9, w0, w2, w3, w4, w5, w6, w7, w8, w9, x0, x1, a0, a1, a2, a3, a4, a5, a6, a7, a8, a9, b0, b1, b2, b3, b4, b5, b6, b7, b8, b9, c0, c1, c2, c3, c4, c5, c6, c7, c8, c9, d0, d1, d2, d3, d4, d5, d6, d7, d8, d9, e0, e1, e2, e3, e4, e5, e6, e7, e8, e9, f0, f1, f2, f3, f4, f5, f6, f7, f8, f9, g0, g1, g2, g3, g4, g5, g6, g7, g8, g9, h0, h1, h2, h3, h4, h5, h6, h7, h8, h9, i0, i1, i2, i3, i4, i5, i6, i7, i8, i9, j0, j1, j2, j3, j4, j5, j6, j7, j8, j9, k0, k1, k2, k3, k4, k5, k6, k7, k8, k9, l0, l1, l2, l3, l4, l5, l6, l7, l8, l9, m0, m1, m2, m3, m4, m5, m6, m7, m8, m9, n0, n1, n2, n3, n4, n5, n6, n7], []⟩ W := by
 have HN0 := Lib.hid (And.intro hn hN)
 have HP := Lib.hid (And.intro hp hs)
 have HO := Lib.hid (And.intro (T.cpu 0 rfl).1 (And.intro hd (And.intro hdn (And.intro hd0 hx))))
 have HR := Lib.hid (show r = e20 s1.C d sel num y place kind s1 by rw [hr, enter3_eq])
 have HH := Lib.hid T.drew
 have HT := Lib.hid (show Hp w A (W.drew.alloc (.cells s1.C.cells.toArray 36)) (oEn eb vb bb pl n s1 :: (enterB eb be bv bn bt vec num soft ++ [Ob.box gd (descO d), Ob.box W.heap.size (cpuO s1.C)])) from T.drew.make _)
 clear T hn hN hp hs hd hdn hd0 hx hr
 have hz := fun w => zero83 w
 conv => arg 2; whnf
 conv at hK19 => enter [a, w1, 1, 2]; whnf
 refine wp_region_held_drew (S := fun w' => Hp w A w' (oEn eb vb bb pl n s1 :: (enterB eb be bv bn bt vec num soft ++ [Ob.box gd (descO d)]))) (by kernel_rfl) HH.out (fun hHeld => ?_)
 refine wpAnyH_take (i := 0) (oi := _) (v := ?_) rfl (by kernel_rfl) (by kernel_rfl) (by kernel_rfl) (fun _ _ _ h => h) (Or.inl ⟨by rfl, ?_⟩) (by assumption) ?_
 rotate_left
 ·(intro w hSw; (try dsimp only at hSw); go_simp <;> rfl)
 refine wpAnyH_take (i := 1) (oi := _) (v := ?_) rfl (by kernel_rfl) (by kernel_rfl) (by kernel_rfl) (fun _ _ _ h => h) (Or.inl ⟨by rfl, ?_⟩) (by assumption) ?_
 rotate_left
 ·(intro w hSw; (try dsimp only at hSw); go_simp <;> rfl)
 simp only [Act.put, List.getElem_toArray, List.getElem_cons_zero, List.getElem_cons_succ, List.setIfInBounds_toArray, List.set_cons_zero, List.set_cons_succ]
 refine wpAnyH_take (i := 2) (oi := _) (v := _) rfl (by kernel_rfl) (by kernel_rfl) (by kernel_rfl) (fun _ _ _ h => h) (yieldsIf_load_mid (by rfl) _ _ rfl _ _ rfl s1.C.cells _ (fun _ h => env_range h) Tryz.underlying36 rfl info83) (by assumption) ?_
 simp only [Act.put, List.getElem_toArray, List.getElem_cons_zero, List.getElem_cons_succ, List.setIfInBounds_toArray, List.set_cons_zero, List.set_cons_succ]
 refine wpAnyH_take (i := 3) (oi := _) (v := ?_) rfl (by kernel_rfl) (by kernel_rfl) (by kernel_rfl) (fun _ _ _ h => h) (Or.inl ⟨by rfl, ?_⟩) (by assumption) ?_
 rotate_left
 ·(intro w hSw; have hb := (hSw.lone 1 rfl).1; (try dsimp only at hSw); go_simp <;> rfl)
 simp only [Act.put, List.getElem_toArray, List.getElem_cons_zero, List.getElem_cons_succ, List.setIfInBounds_toArray, List.set_cons_zero, List.set_cons_succ]
 refine wpAnyH_ready (rs := [4, 5]) (by kernel_rfl) (by decide) (AllReadyH.cons rfl (fun K hK => ?_) (AllReadyH.cons rfl (fun K hK => ?_) AllReadyH.nil))
 ·go_simp
  refine (ring_c (hHeld.cpu 0 rfl)).mono ?_
  rintro e w' ⟨rfl, rfl⟩
  go_wp2_with fail
  refine hK.out _ _ hHeld (fun _ => ?_)
  clear hK K
  try simp only [Act.put, List.getElem_toArray, List.getElem_cons_zero, List.getElem_cons_succ, List.setIfInBounds_toArray, List.set_cons_zero, List.set_cons_succ]
  refine wpAnyH_ready (rs := [5]) (by kernel_rfl) (by decide) (AllReadyH.cons rfl (fun K hK => ?_) AllReadyH.nil)
  go_simp
  refine hK.out _ _ (hHeld.alloc _) (fun hHeld => ?_)
  clear hK K
  try simp only [Act.put, List.getElem_toArray, List.getElem_cons_zero, List.getElem_cons_succ, List.setIfInBounds_toArray, List.set_cons_zero, List.set_cons_succ]
  refine wpAnyH_ready (rs := [6]) (by kernel_rfl) (by decide) (AllReadyH.cons rfl (fun K hK => ?_) AllReadyH.nil)
  rw [if_pos (by rfl)]
  refine wp_store_row _ _ _ rfl W.heap.size s1.C.cells.toArray rfl rfl _ _ (heap_new W.drew (.cells zero83C 36)) info83 rfl (cells_one s1.C) ?_
  change K _ (World.setRow (W.drew.alloc (.cells zero83C 36)) W.heap.size s1.C.cells.toArray)
  rw [show World.setRow (W.drew.alloc (.cells zero83C 36)) W.heap.size s1.C.cells.toArray = W.drew.alloc (.cells s1.C.cells.toArray 36) from World.setRow_alloc_new W.drew _ _ _]
  refine hK.out _ _ (HH.out.alloc _) (fun hHeld => ?_)
  clear hK K
  try simp only [Act.put, List.getElem_toArray, List.getElem_cons_zero, List.getElem_cons_succ, List.setIfInBounds_toArray, List.set_cons_zero, List.set_cons_succ]
  refine wpAnyH_take (i := 7) (oi := _) (v := ?_) rfl (by kernel_rfl) (by kernel_rfl) (by kernel_rfl) (fun _ _ _ h => h) (Or.inl ⟨by rfl, ?_⟩) (by assumption) ?_
  rotate_left
  ·(intro w hSw; (try dsimp only at hSw); go_simp <;> rfl)
  simp only [Act.put, List.getElem_toArray, List.getElem_cons_zero, List.getElem_cons_succ, List.setIfInBounds_toArray, List.set_cons_zero, List.set_cons_succ]
  refine wpAnyH_done (by kernel_rfl) ?_ _
  change Exit.then _ _ _ _ (W.drew.alloc (.cells s1.C.cells.toArray 36))
  generalize W.drew.alloc (.cells s1.C.cells.toArray 36) = W3 at *
  generalize W.heap.size = go at *
  go_upto_region 20 with (fail)
  exact enter_20 HT.out HN0.out.1 HN0.out.2 HP.out.1 HP.out.2 HO.out.1 HO.out.2.1 HO.out.2.2.1 HO.out.2.2.2.1 HO.out.2.2.2.2 HR.out (by assumption) (by assumption)
 ·go_simp
  refine hK.out _ _ (hHeld.alloc _) (fun hHeld => ?_)
  clear hK K
  try simp only [Act.put, List.getElem_toArray, List.getElem_cons_zero, List.getElem_cons_succ, List.setIfInBounds_toArray, List.set_cons_zero, List.set_cons_succ]
  refine wpAnyH_ready (rs := [4]) (by kernel_rfl) (by decide) (AllReadyH.cons rfl (fun K hK => ?_) AllReadyH.nil)
  go_simp
  refine (ring_c (hHeld.cpu 0 rfl)).mono ?_
  rintro e w' ⟨rfl, rfl⟩
  go_wp2_with fail
  refine hK.out _ _ hHeld (fun _ => ?_)
  clear hK K
  try simp only [Act.put, List.getElem_toArray, List.getElem_cons_zero, List.getElem_cons_succ, List.setIfInBounds_toArray, List.set_cons_zero, List.set_cons_succ]
  refine wpAnyH_ready (rs := [6]) (by kernel_rfl) (by decide) (AllReadyH.cons rfl (fun K hK => ?_) AllReadyH.nil)
  rw [if_pos (by rfl)]
  refine wp_store_row _ _ _ rfl W.heap.size s1.C.cells.toArray rfl rfl _ _ (heap_new W.drew (.cells zero83C 36)) info83 rfl (cells_one s1.C) ?_
  change K _ (World.setRow (W.drew.alloc (.cells zero83C 36)) W.heap.size s1.C.cells.toArray)
  rw [show World.setRow (W.drew.alloc (.cells zero83C 36)) W.heap.size s1.C.cells.toArray = W.drew.alloc (.cells s1.C.cells.toArray 36) from World.setRow_alloc_new W.drew _ _ _]
  refine hK.out _ _ (HH.out.alloc _) (fun hHeld => ?_)
  clear hK K
  try simp only [Act.put, List.getElem_toArray, List.getElem_cons_zero, List.getElem_cons_succ, List.setIfInBounds_toArray, List.set_cons_zero, List.set_cons_succ]
  refine wpAnyH_take (i := 7) (oi := _) (v := ?_) rfl (by kernel_rfl) (by kernel_rfl) (by kernel_rfl) (fun _ _ _ h => h) (Or.inl ⟨by rfl, ?_⟩) (by assumption) ?_
  rotate_left
  ·(intro w hSw; (try dsimp only at hSw); go_simp <;> rfl)
  simp only [Act.put, List.getElem_toArray, List.getElem_cons_zero, List.getElem_cons_succ, List.setIfInBounds_toArray, List.set_cons_zero, List.set_cons_succ]
  refine wpAnyH_done (by kernel_rfl) ?_ _
  change Exit.then _ _ _ _ (W.drew.alloc (.cells s1.C.cells.toArray 36))
  generalize W.drew.alloc (.cells s1.C.cells.toArray 36) = W3 at *
  generalize W.heap.size = go at *
  go_upto_region 20 with (fail)
  exact enter_20 HT.out HN0.out.1 HN0.out.2 HP.out.1 HP.out.2 HO.out.1 HO.out.2.1 HO.out.2.2.1 HO.out.2.2.2.1 HO.out.2.2.2.2 HR.out (by assumption) (by assumption)
end
end Go.Proofs.YtmpcafdgkbpneaaGreat

/- except: Enter's inner function: the gate's code segment is looked at. -/
namespace Go.Proofs.YtmpcafdgkbpneaaGreat
open Go.RowKit Go.MapKept
set_option linter.unusedVariables false
set_option linter.unusedSimpArgs false
attribute [local go_sem ↓] Go.wp_at_zero Go.wp_at_succ

section
variable {w W w' w0 : World} {A A0 : Nat → Prop} {os bs loc : List Ob} {eb vb bb : Nat} {pl : Pl} {n n' N : Nat} {s s1 s' : Es} {r : Except FaultS Unit × Es} {x : FaultS}
variable {be bv bn bt gd go : Nat} {vec num : Int} {soft : Bool} {d : SegR} {old : CpuS}
theorem need_d (p : Bool) (v c : Int) (w : World) : Calls Tryz.prog 26 #[.bool p, .int .i64 v, .int .i64 c] w fun e w' => w' = w ∧ ((p = true ∧ e = .returned (.tuple #[])) ∨ (p = false ∧ e = .panicked [{ v := .iface 141 (.agg #[.int .i64 (FaultS.mk v c 0).vec, .int .i64 (FaultS.mk v c 0).cd, .int .u32 ((FaultS.mk v c 0).cr2 : Nat)]), recovered := false }])) := need_c p v c w
def e17 (d : SegR) (why y num : Int) (kind sel place : Nat) : Ex Unit := (needE d.pre 11 why).then fun _ => (needE (decide (place ≤ d.lim)) 13 y).then fun _ => enter3 num y kind sel place d
theorem enter_17 {y why : Int} (T : Hp w A W (oEn eb vb bb pl n s1 :: (enterB eb be bv bn bt vec num soft ++ [Ob.box gd (descO d)]))) (hn : n + 24 ≤ N) (hN : N * 12 ≤ 140737488355328) {place kind sel : Nat} (hp : place < 4294967296) (hs : sel < 65536) (hd : d.ok) (hdn : d.nul = false) (hd0 : 0 ≤ d.dpl ∧ d.dpl ≤ 3) (hx : y = 0 ∨ y = 1) (hr : r = e17 d why y num kind sel place s1) {x5 x2 x3 x4 n9 o0 o1 n8 o2 o3 o4 o5 o6 o7 o8 p0 p1 p2 p3 p4 p5 p6 p7 o9 p8 p9 q0 q1 q2 q3 q4 q5 q6 q7 q8 q9 r0 r1 r2 r3 r4 r5 r6 r7 r8 r9 s0 s2 s3 s4 s5 s6 s7 s8 s9 t0 t1 t2 t3 t4 t5 t6 t7 t8 t9 u2 u3 u4 u5 u6 u9 v0 v1 v2 v3 v4 v5 v6 v7 v8 v9 w0 w3 w4 w5 w6 w7 w8 w9 x0 x1 a0 a1 a2 a3 a4 a5 a6 a7 a8 a9 b0 b1 b2 b3 b4 b5 b6 b7 b8 b9 c0 c1 c2 c3 c4 c5 c6 c7 c8 c9 d0 d1 d2 d3 d4 d5 d6 d7 d8 d9 e0 e1 e2 e3 e4 e5 e6 e7 e8 e9 f0 f1 f2 f3 f4 f5 f6 f7 f8 f9 g0 g1 g2 g3 g4 g5 g6 g7 g8 g9 h0 h1 h2 h3 h4 h5 h6 h7 h8 h9 i0 i1 i2 i3 i4 i5 i6 i7 i8 i9 j0 j1 j2 j3 j4 j5 j6 j7 j8 j9 k0 k1 k2 k3 k4 k5 k6 k7 k8 k9 l0 l1 l2 l3 l4 l5 l6 l7 l8 l9 m0 m1 m2 m3 m4 m5 m6 m7 m8 m9 n0 n1 n2 n3 n4 n5 n6 n7 : Value} {K17 : Act → World → Prop} (hK17 : ∀ a w1, Code.wp Tryz.prog (tl Tryz.f25 17) (bodyPost Tryz.prog Tryz.f25 (EnEnd w A eb vb bb pl N (enterB eb be bv bn bt vec num soft) r)) a w1 → K17 a w1) :
    Code.wp Tryz.prog (rg Tryz.f25 17) (Exit.then K17 (bodyPost Tryz.prog Tryz.f25 (EnEnd w A eb vb bb pl N (enterB eb be bv bn bt vec num soft) r))) ⟨#[x5, x2, .pointer (some ⟨be, 0, none⟩), .pointer (some ⟨bn, 0, none⟩), .int .i64 y, .pointer (some ⟨eb, 0, none⟩), .int .i64 why, x3, x4, .int .u32 (kind : Nat), .int .u16 (sel : Nat), .int .u32 (place : Nat), .pointer (some ⟨gd, 0, none⟩), n9, o0, o1, n8, o2, o3, o4, o5, o6, o7, o8, p0, p1, p2, p3, p4, p5, p6, p7, o9, p8, p9, q0, q1, q2, q3, q4, q5, q6, q7, q8, q9, r0, r1, r2, r3, r4, r5, r6, r7, r8, r9, s0, s2, s3, s4, s5, s6, s7, s8, s9, t0, t1, t2, t3, t4, t5, t6, t7, t8, t9, u2, u3, u4, u5, u6, u9, v0, v1, v2, v3, v4, v5, v6, v7, v8, v9, w0, w3, w4, w5, w6, w7, w8, w9, x0, x1, a0, a1, a2, a3, a4, a5, a6, a7, a8, a9, b0, b1, b2, b3, b4, b5, b6, b7, b8, b9, c0, c1, c2, c3, c4, c5, c6, c7, c8, c9, d0, d1, d2, d3, d4, d5, d6, d7, d8, d9, e0, e1, e2, e3, e4, e5, e6, e7, e8, e9, f0, f1, f2, f3, f4, f5, f6, f7, f8, f9, g0, g1, g2, g3, g4, g5, g6, g7, g8, g9, h0, h1, h2, h3, h4, h5, h6, h7, h8, h9, i0, i1, i2, i3, i4, i5, i6, i7, i8, i9, j0, j1, j2, j3, j4, j5, j6, j7, j8, j9, k0, k1, k2, k3, k4, k5, k6, k7, k8, k9, l0, l1, l2, l3, l4, l5, l6, l7, l8, l9, m0, m1, m2, m3, m4, m5, m6, m7, m8, m9, n0, n1, n2, n3, n4, n5, n6, n7], []⟩ W := by
 have HN0 := Lib.hid (And.intro hn hN)
 have HP := Lib.hid (And.intro hp hs)
 have HO := Lib.hid (And.intro hd (And.intro hdn (And.intro hd0 hx)))
 have HR := Lib.hid hr
 have HT := Lib.hid T
 obtain ⟨z0, z1, z2, z3, z4, z5, z6, zf, zl⟩ := T.dbox 5 rfl
 clear T hn hN hp hs hd hdn hd0 hx hr
 conv => arg 2; whnf
 conv at hK17 => enter [a, w1, 1, 2]; whnf
 go_wp2_with fail
 refine (need_d _ _ _ _).mono ?_
 rintro e w2 ⟨rfl, ⟨hp, rfl⟩ | ⟨hp, rfl⟩⟩
 ·have HR2 := Lib.hid (show r = ((needE (decide (place ≤ d.lim)) 13 y).then fun _ => enter3 num y kind sel place d) s1 from HR.out.trans (Ex.then_ok (need_ok hp _ _ _)))
  clear hp HR
  go_wp2_with fail
  refine (need_d _ _ _ _).mono ?_
  rintro e w2 ⟨rfl, ⟨hp, rfl⟩ | ⟨hp, rfl⟩⟩
  ·have HR3 := Lib.hid (show r = enter3 num y kind sel place d s1 from HR2.out.trans (Ex.then_ok (need_ok (by rw [decide_eq_true_eq] at hp ⊢; omega) _ _ _)))
   clear hp HR2 z0 z1 z2 z3 z4 z5 z6 zf zl
   go_upto_region 19 with (fail)
   exact enter_19 HT.out HN0.out.1 HN0.out.2 HP.out.1 HP.out.2 HO.out.1 HO.out.2.1 HO.out.2.2.1 HO.out.2.2.2 HR3.out (by assumption)
  ·have HR3 := Lib.hid (show r = (.error ⟨13, y, 0⟩, s1) from HR2.out.trans (Ex.then_no (need_no (by rw [decide_eq_false_iff_not] at hp ⊢; omega) _ _ _)))
   clear hp
   go_wp2_with fail
   exact ⟨rfl, env_no HT.out (by have := HN0.out; omega) HR3.out⟩
 ·have HR2 := Lib.hid (HR.out.trans (Ex.then_no (need_no hp _ _ _)))
  clear hp
  go_wp2_with fail
  exact ⟨rfl, env_no HT.out (by have := HN0.out; omega) HR2.out⟩
def e16 (d : SegR) (ring : Nat) (why y num : Int) (kind sel place : Nat) : Ex Unit := (needE (d.isCode && decide (d.dpl ≤ ((ring : Nat) : Int))) 13 why).then fun _ => e17 d why y num kind sel place
theorem enter_16 {y why : Int} (T : Hp w A W (oEn eb vb bb pl n s1 :: (enterB eb be bv bn bt vec num soft ++ [Ob.box gd (descO d)]))) (hn : n + 24 ≤ N) (hN : N * 12 ≤ 140737488355328) {place kind sel : Nat} (hp : place < 4294967296) (hs : sel < 65536) (hd : d.ok) (hdn : d.nul = false) (hd0 : 0 ≤ d.dpl ∧ d.dpl ≤ 3) (hx : y = 0 ∨ y = 1) (hr : r = e16 d s1.C.ring why y num kind sel place s1) {x4 x1 x2 x3 n9 o0 o1 n8 o2 o3 o4 o5 o6 o7 o8 p0 p1 p2 p3 p4 p5 p6 p7 o9 p8 p9 q0 q1 q2 q3 q4 q5 q6 q7 q8 q9 r0 r1 r2 r3 r4 r5 r6 r7 r8 r9 s0 s2 s3 s4 s5 s6 s7 s8 s9 t0 t1 t2 t3 t4 t5 t6 t7 t8 t9 u2 u3 u4 u5 u6 u9 v0 v1 v2 v3 v4 v5 v6 v7 v8 v9 w0 w2 w3 w4 w5 w6 w7 w8 w9 x0 a0 a1 a2 a3 a4 a5 a6 a7 a8 a9 b0 b1 b2 b3 b4 b5 b6 b7 b8 b9 c0 c1 c2 c3 c4 c5 c6 c7 c8 c9 d0 d1 d2 d3 d4 d5 d6 d7 d8 d9 e0 e1 e2 e3 e4 e5 e6 e7 e8 e9 f0 f1 f2 f3 f4 f5 f6 f7 f8 f9 g0 g1 g2 g3 g4 g5 g6 g7 g8 g9 h0 h1 h2 h3 h4 h5 h6 h7 h8 h9 i0 i1 i2 i3 i4 i5 i6 i7 i8 i9 j0 j1 j2 j3 j4 j5 j6 j7 j8 j9 k0 k1 k2 k3 k4 k5 k6 k7 k8 k9 l0 l1 l2 l3 l4 l5 l6 l7 l8 l9 m0 m1 m2 m3 m4 m5 m6 m7 m8 m9 n0 n1 n2 n3 n4 n5 n6 n7 : Value} {K16 : Act → World → Prop} (hK16 : ∀ a w1, Code.wp Tryz.prog (tl Tryz.f25 16) (bodyPost Tryz.prog Tryz.f25 (EnEnd w A eb vb bb pl N (enterB eb be bv bn bt vec num soft) r)) a w1 → K16 a w1) :
    Code.wp Tryz.prog (rg Tryz.f25 16) (Exit.then K16 (bodyPost Tryz.prog Tryz.f25 (EnEnd w A eb vb bb pl N (enterB eb be bv bn bt vec num soft) r))) ⟨#[x4, x1, .pointer (some ⟨be, 0, none⟩), .pointer (some ⟨bn, 0, none⟩), .int .i64 y, .pointer (some ⟨eb, 0, none⟩), .int .i64 why, x2, x3, .int .u32 (kind : Nat), .int .u16 (sel : Nat), .int .u32 (place : Nat), .pointer (some ⟨gd, 0, none⟩), n9, o0, o1, n8, o2, o3, o4, o5, o6, o7, o8, p0, p1, p2, p3, p4, p5, p6, p7, o9, p8, p9, q0, q1, q2, q3, q4, q5, q6, q7, q8, q9, r0, r1, r2, r3, r4, r5, r6, r7, r8, r9, s0, s2, s3, s4, s5, s6, s7, s8, s9, t0, t1, t2, t3, t4, t5, t6, t7, t8, t9, u2, u3, u4, u5, u6, u9, v0, v1, v2, v3, v4, v5, v6, v7, v8, v9, w0, w2, w3, w4, w5, w6, w7, w8, w9, x0, a0, a1, a2, a3, a4, a5, a6, a7, a8, a9, b0, b1, b2, b3, b4, b5, b6, b7, b8, b9, c0, c1, c2, c3, c4, c5, c6, c7, c8, c9, d0, d1, d2, d3, d4, d5, d6, d7, d8, d9, e0, e1, e2, e3, e4, e5, e6, e7, e8, e9, f0, f1, f2, f3, f4, f5, f6, f7, f8, f9, g0, g1, g2, g3, g4, g5, g6, g7, g8, g9, h0, h1, h2, h3, h4, h5, h6, h7, h8, h9, i0, i1, i2, i3, i4, i5, i6, i7, i8, i9, j0, j1, j2, j3, j4, j5, j6, j7, j8, j9, k0, k1, k2, k3, k4, k5, k6, k7, k8, k9, l0, l1, l2, l3, l4, l5, l6, l7, l8, l9, m0, m1, m2, m3, m4, m5, m6, m7, m8, m9, n0, n1, n2, n3, n4, n5, n6, n7], []⟩ W := by
 have HN0 := Lib.hid (And.intro hn hN)
 have HP := Lib.hid (And.intro hp hs)
 have HO := Lib.hid (And.intro hd (And.intro hdn (And.intro hd0 hx)))
 have HR := Lib.hid hr
 have HH := Lib.hid T.drew
 clear T hn hN hp hs hd hdn hd0 hx hr
 conv => arg 2; whnf
 conv at hK16 => enter [a, w1, 1, 2]; whnf
 refine wp_region_held_drew (S := fun w' => Hp w A w' (oEn eb vb bb pl n s1 :: (enterB eb be bv bn bt vec num soft ++ [Ob.box gd (descO d)]))) (by kernel_rfl) HH.out (fun hHeld => ?_)
 refine wpAnyH_take (i := 0) (oi := _) (v := ?_) rfl (by kernel_rfl) (by kernel_rfl) (by kernel_rfl) (fun _ _ _ h => h) (Or.inl ⟨by rfl, ?_⟩) (by assumption) ?_
 rotate_left
 ·(intro w hSw; obtain ⟨z0, z1, z2, z3, z4, z5, z6, zf, zl⟩ := hSw.dbox (d := d) 5 rfl; (try dsimp only at hSw); go_simp <;> rfl)
 try simp only [Act.put, List.getElem_toArray, List.getElem_cons_zero, List.getElem_cons_succ, List.setIfInBounds_toArray, List.set_cons_zero, List.set_cons_succ]
 refine wpAnyH_take (i := 9) (oi := _) (v := ?_) rfl (by kernel_rfl) (by kernel_rfl) (by kernel_rfl) (fun _ _ _ h => h) (Or.inl ⟨by rfl, ?_⟩) (by assumption) ?_
 rotate_left
 ·(intro w hSw; (try dsimp only at hSw); go_simp <;> rfl)
 try simp only [Act.put, List.getElem_toArray, List.getElem_cons_zero, List.getElem_cons_succ, List.setIfInBounds_toArray, List.set_cons_zero, List.set_cons_succ]
 refine wpAnyH_ready (rs := [1]) (by kernel_rfl) (by decide) (AllReadyH.cons rfl (fun K hK => ?_) AllReadyH.nil)
 go_simp
 refine (isCode_x d _).mono ?_
 rintro e w' ⟨rfl, hb⟩
 go_wp2_with fail
 refine hK.out _ _ (hHeld.grow hb) (fun hHeld => ?_)
 clear hK K
 try simp only [Act.put, List.getElem_toArray, List.getElem_cons_zero, List.getElem_cons_succ, List.setIfInBounds_toArray, List.set_cons_zero, List.set_cons_succ]
 cases hc : d.isCode
 ·have HR2 := Lib.hid (HR.out.trans (Ex.then_no (need_no (by rw [hc]; rfl) _ _ _)))
  clear hc HR
  refine wpAnyH_take (i := 2) (oi := _) (v := ?_) rfl (by kernel_rfl) (by kernel_rfl) (by kernel_rfl) (fun _ _ _ h => h) (Or.inl ⟨by rfl, ?_⟩) (by assumption) ?_
  rotate_left
  ·(intro w hSw; (try dsimp only at hSw); go_simp <;> rfl)
  try simp only [Act.put, List.getElem_toArray, List.getElem_cons_zero, List.getElem_cons_succ, List.setIfInBounds_toArray, List.set_cons_zero, List.set_cons_succ]
  refine wpAnyH_take (i := 3) (oi := _) (v := undef) rfl (by kernel_rfl) (by kernel_rfl) (by kernel_rfl) (fun _ _ _ h => h) (Or.inr ⟨by rfl, rfl⟩) (by assumption) ?_
  refine wpAnyH_take (i := 4) (oi := _) (v := undef) rfl (by kernel_rfl) (by kernel_rfl) (by kernel_rfl) (fun _ _ _ h => h) (Or.inr ⟨by rfl, rfl⟩) (by assumption) ?_
  refine wpAnyH_take (i := 5) (oi := _) (v := undef) rfl (by kernel_rfl) (by kernel_rfl) (by kernel_rfl) (fun _ _ _ h => h) (Or.inr ⟨by rfl, rfl⟩) (by assumption) ?_
  refine wpAnyH_take (i := 6) (oi := _) (v := undef) rfl (by kernel_rfl) (by kernel_rfl) (by kernel_rfl) (fun _ _ _ h => h) (Or.inr ⟨by rfl, rfl⟩) (by assumption) ?_
  refine wpAnyH_take (i := 7) (oi := _) (v := undef) rfl (by kernel_rfl) (by kernel_rfl) (by kernel_rfl) (fun _ _ _ h => h) (Or.inr ⟨by rfl, rfl⟩) (by assumption) ?_
  try simp only [Act.put, List.getElem_toArray, List.getElem_cons_zero, List.getElem_cons_succ, List.setIfInBounds_toArray, List.set_cons_zero, List.set_cons_succ]
  refine wpAnyH_take (i := 8) (oi := _) (v := ?_) rfl (by kernel_rfl) (by kernel_rfl) (by kernel_rfl) (fun _ _ _ h => h) (Or.inl ⟨by rfl, ?_⟩) (by assumption) ?_
  rotate_left
  ·(intro w hSw; (try dsimp only at hSw); go_simp <;> rfl)
  try simp only [Act.put, List.getElem_toArray, List.getElem_cons_zero, List.getElem_cons_succ, List.setIfInBounds_toArray, List.set_cons_zero, List.set_cons_succ]
  refine wpAnyH_ready (rs := [10]) (by kernel_rfl) (by decide) (AllReadyH.cons rfl (fun K hK => ?_) AllReadyH.nil)
  go_simp
  refine (need_not _ _ _).mono ?_
  rintro e w' ⟨he, rfl⟩
  unfold gaveX faultX at he; subst he
  go_wp2_with fail
  exact ⟨rfl, env_no hHeld (by have := HN0.out; omega) HR2.out⟩
 ·refine wpAnyH_take (i := 2) (oi := _) (v := ?_) rfl (by kernel_rfl) (by kernel_rfl) (by kernel_rfl) (fun _ _ _ h => h) (Or.inl ⟨by rfl, ?_⟩) (by assumption) ?_
  rotate_left
  ·(intro w hSw; (try dsimp only at hSw); go_simp <;> rfl)
  try simp only [Act.put, List.getElem_toArray, List.getElem_cons_zero, List.getElem_cons_succ, List.setIfInBounds_toArray, List.set_cons_zero, List.set_cons_succ]
  refine wpAnyH_take (i := 3) (oi := _) (v := ?_) rfl (by kernel_rfl) (by kernel_rfl) (by kernel_rfl) (fun _ _ _ h => h) (Or.inl ⟨by rfl, ?_⟩) (by assumption) ?_
  rotate_left
  ·(intro w hSw; (try dsimp only at hSw); go_simp <;> rfl)
  try simp only [Act.put, List.getElem_toArray, List.getElem_cons_zero, List.getElem_cons_succ, List.setIfInBounds_toArray, List.set_cons_zero, List.set_cons_succ]
  refine wpAnyH_take (i := 4) (oi := _) (v := ?_) rfl (by kernel_rfl) (by kernel_rfl) (by kernel_rfl) (fun _ _ _ h => h) (Or.inl ⟨by rfl, ?_⟩) (by assumption) ?_
  rotate_left
  ·(intro w hSw; obtain ⟨z0, z1, z2, z3, z4, z5, z6, zf, zl⟩ := hSw.dbox (d := d) 5 rfl; (try dsimp only at hSw); go_simp <;> rfl)
  try simp only [Act.put, List.getElem_toArray, List.getElem_cons_zero, List.getElem_cons_succ, List.setIfInBounds_toArray, List.set_cons_zero, List.set_cons_succ]
  refine wpAnyH_take (i := 5) (oi := _) (v := ?_) rfl (by kernel_rfl) (by kernel_rfl) (by kernel_rfl) (fun _ _ _ h => h) (Or.inl ⟨by rfl, ?_⟩) (by assumption) ?_
  rotate_left
  ·(intro w hSw; have hb := (hSw.lone 1 rfl).1; (try dsimp only at hSw); go_simp <;> rfl)
  try simp only [Act.put, List.getElem_toArray, List.getElem_cons_zero, List.getElem_cons_succ, List.setIfInBounds_toArray, List.set_cons_zero, List.set_cons_succ]
  refine wpAnyH_ready (rs := [6]) (by kernel_rfl) (by decide) (AllReadyH.cons rfl (fun K hK => ?_) AllReadyH.nil)
  go_simp
  refine (ring_c (hHeld.cpu 0 rfl)).mono ?_
  rintro e w' ⟨rfl, rfl⟩
  go_wp2_with fail
  refine hK.out _ _ (hHeld) (fun hHeld => ?_)
  clear hK K
  try simp only [Act.put, List.getElem_toArray, List.getElem_cons_zero, List.getElem_cons_succ, List.setIfInBounds_toArray, List.set_cons_zero, List.set_cons_succ]
  refine wpAnyH_take (i := 7) (oi := _) (v := ?_) rfl (by kernel_rfl) (by kernel_rfl) (by kernel_rfl) (fun _ _ _ h => h) (Or.inl ⟨by rfl, ?_⟩) (by assumption) ?_
  rotate_left
  ·(intro w hSw; (try dsimp only at hSw); go_simp <;> rfl)
  try simp only [Act.put, List.getElem_toArray, List.getElem_cons_zero, List.getElem_cons_succ, List.setIfInBounds_toArray, List.set_cons_zero, List.set_cons_succ]
  refine wpAnyH_take (i := 8) (oi := _) (v := ?_) rfl (by kernel_rfl) (by kernel_rfl) (by kernel_rfl) (fun _ _ _ h => h) (Or.inl ⟨by rfl, ?_⟩) (by assumption) ?_
  rotate_left
  ·(intro w hSw; (try dsimp only at hSw); go_simp <;> rfl)
  try simp only [Act.put, List.getElem_toArray, List.getElem_cons_zero, List.getElem_cons_succ, List.setIfInBounds_toArray, List.set_cons_zero, List.set_cons_succ]
  refine wpAnyH_ready (rs := [10]) (by kernel_rfl) (by decide) (AllReadyH.cons rfl (fun K hK => ?_) AllReadyH.nil)
  by_cases hl : d.dpl ≤ ((s1.C.ring : Nat) : Int)
  ·have HR2 := Lib.hid (HR.out.trans (Ex.then_ok (need_ok (by rw [hc, decide_eq_true hl]; rfl) _ _ _)))
   have hb : decide (d.dpl ≤ ((s1.C.ring : Nat) : Int)) = true := decide_eq_true hl
   try rw [hb]
   clear hc HR
   go_simp
   refine (need_yes _ _ _).mono ?_
   rintro e w' ⟨rfl, rfl⟩
   go_wp2_with fail
   refine hK.out _ _ (hHeld) (fun hHeld => ?_)
   clear hK K
   try simp only [Act.put, List.getElem_toArray, List.getElem_cons_zero, List.getElem_cons_succ, List.setIfInBounds_toArray, List.set_cons_zero, List.set_cons_succ]
   refine wpAnyH_done (by kernel_rfl) ?_ _
   go_upto_region 17 with (fail)
   exact enter_17 hHeld HN0.out.1 HN0.out.2 HP.out.1 HP.out.2 HO.out.1 HO.out.2.1 HO.out.2.2.1 HO.out.2.2.2 HR2.out (by assumption)
  ·have HR2 := Lib.hid (HR.out.trans (Ex.then_no (need_no (by rw [hc, decide_eq_false hl]; rfl) _ _ _)))
   have hb : decide (d.dpl ≤ ((s1.C.ring : Nat) : Int)) = false := decide_eq_false hl
   try rw [hb]
   clear hc HR
   go_simp
   refine (need_not _ _ _).mono ?_
   rintro e w' ⟨he, rfl⟩
   unfold gaveX faultX at he; subst he
   go_wp2_with fail
   exact ⟨rfl, env_no hHeld (by have := HN0.out; omega) HR2.out⟩
end
end Go.Proofs.YtmpcafdgkbpneaaGreat

/- except: Enter's inner function: the gate's words are looked at. -/
namespace Go.Proofs.YtmpcafdgkbpneaaGreat
open Go.RowKit Go.MapKept
set_option linter.unusedVariables false
set_option linter.unusedSimpArgs false
attribute [local go_sem ↓] Go.wp_at_zero Go.wp_at_succ

section
variable {w W w' w0 : World} {A A0 : Nat → Prop} {os bs loc : List Ob} {eb vb bb : Nat} {pl : Pl} {n n' N : Nat} {s s1 s' : Es} {r : Except FaultS Unit × Es} {x : FaultS}
variable {be bv bn bt gd go : Nat} {vec num : Int} {soft : Bool} {d : SegR} {old : CpuS}
def e15 (why y num : Int) (kind sel place : Nat) : Ex Unit := Ex.at fun s => (descE sel 13 why).then fun d => e16 d s.C.ring why y num kind sel place
theorem enter_15 {y why : Int} (T : Hp w A W (oEn eb vb bb pl n s1 :: (enterB eb be bv bn bt vec num soft ++ []))) (hn : n + 28 ≤ N) (hN : N * 12 ≤ 140737488355328) {place kind sel : Nat} (hp : place < 4294967296) (hs : sel < 65536) (hx : y = 0 ∨ y = 1) (hr : r = e15 why y num kind sel place s1) {y1 x8 x9 y0 o2 o3 o4 o5 o1 o6 o7 o8 o9 p0 p1 p2 p4 p5 p6 p7 p8 p9 q0 q1 p3 q2 q3 q4 q5 q6 q7 q8 q9 r0 r1 r2 r3 r4 r5 r6 r7 r8 r9 s0 s2 s4 s5 s6 s7 s8 s9 t0 t1 t2 t3 t4 t5 t6 t7 t8 t9 u2 u3 u4 u5 u6 u9 v0 v1 v2 v3 v4 v5 v6 v7 v8 v9 w0 w2 w3 w4 w5 w8 w9 x0 x1 x2 x3 x4 x5 x6 x7 a0 a1 a2 a3 a4 a5 a6 a7 a8 a9 b1 b2 b3 b4 b5 b6 b7 b8 b9 c0 c1 c2 c3 c4 c5 c6 c7 c8 c9 d0 d1 d2 d3 d4 d5 d6 d7 d8 d9 e0 e1 e2 e3 e4 e5 e6 e7 e8 e9 f0 f1 f2 f4 f5 f6 f7 f8 f9 g0 g1 g2 g3 g4 g5 g6 g7 g8 g9 h0 h1 h2 h4 h5 h6 h7 h8 h9 i0 i1 i2 i3 i4 i5 i6 i7 i8 i9 j0 j1 j2 j3 j4 j5 j6 j7 j8 j9 k0 k1 k2 k3 k4 k5 k6 k7 k8 k9 l0 l1 l2 l3 l4 l5 l6 l7 l8 l9 m0 m1 m2 m3 m4 m5 m6 m7 m8 m9 n0 n1 n2 n3 n4 n5 n6 n7 n8 n9 o0 : Value} {K15 : Act → World → Prop} (hK15 : ∀ a w1, Code.wp Tryz.prog (tl Tryz.f25 15) (bodyPost Tryz.prog Tryz.f25 (EnEnd w A eb vb bb pl N (enterB eb be bv bn bt vec num soft) r)) a w1 → K15 a w1) :
    Code.wp Tryz.prog (rg Tryz.f25 15) (Exit.then K15 (bodyPost Tryz.prog Tryz.f25 (EnEnd w A eb vb bb pl N (enterB eb be bv bn bt vec num soft) r))) ⟨#[y1, x8, .pointer (some ⟨be, 0, none⟩), .pointer (some ⟨bn, 0, none⟩), .int .i64 y, .pointer (some ⟨eb, 0, none⟩), .int .i64 why, x9, y0, .int .u32 (kind : Nat), .int .u16 (sel : Nat), .int .u32 (place : Nat), o2, o3, o4, o5, o1, o6, o7, o8, o9, p0, p1, p2, p4, p5, p6, p7, p8, p9, q0, q1, p3, q2, q3, q4, q5, q6, q7, q8, q9, r0, r1, r2, r3, r4, r5, r6, r7, r8, r9, s0, s2, s4, s5, s6, s7, s8, s9, t0, t1, t2, t3, t4, t5, t6, t7, t8, t9, u2, u3, u4, u5, u6, u9, v0, v1, v2, v3, v4, v5, v6, v7, v8, v9, w0, w2, w3, w4, w5, w8, w9, x0, x1, x2, x3, x4, x5, x6, x7, a0, a1, a2, a3, a4, a5, a6, a7, a8, a9, b1, b2, b3, b4, b5, b6, b7, b8, b9, c0, c1, c2, c3, c4, c5, c6, c7, c8, c9, d0, d1, d2, d3, d4, d5, d6, d7, d8, d9, e0, e1, e2, e3, e4, e5, e6, e7, e8, e9, f0, f1, f2, f4, f5, f6, f7, f8, f9, g0, g1, g2, g3, g4, g5, g6, g7, g8, g9, h0, h1, h2, h4, h5, h6, h7, h8, h9, i0, i1, i2, i3, i4, i5, i6, i7, i8, i9, j0, j1, j2, j3, j4, j5, j6, j7, j8, j9, k0, k1, k2, k3, k4, k5, k6, k7, k8, k9, l0, l1, l2, l3, l4, l5, l6, l7, l8, l9, m0, m1, m2, m3, m4, m5, m6, m7, m8, m9, n0, n1, n2, n3, n4, n5, n6, n7, n8, n9, o0], []⟩ W := by
 have HN0 := Lib.hid (And.intro hn hN)
 have HP := Lib.hid (And.intro hp (And.intro hs hx))
 have HR := Lib.hid (show r = ((descE sel 13 why).then fun d => e16 d s1.C.ring why y num kind sel place) s1 from hr)
 have HT := Lib.hid T
 have HG := Lib.hid (show s1.good from ⟨T.wide 0 rfl, (T.cpu 0 rfl).1⟩)
 obtain ⟨b0, bf, bl⟩ := T.lone 1 rfl
 clear T hn hN hp hs hx hr
 conv => arg 2; whnf
 conv at hK15 => enter [a, w1, 1, 2]; whnf
 go_wp2_with fail
 rcases h3 : descE sel 13 why s1 with ⟨f3 | d, s3⟩
 ·refine (HT.out.go_no 0 rfl (desc_x sel HP.out.2.1 13 _ (by have := HN0.out; omega)) h3).mono ?_
  rintro e w6 ⟨rfl, T4⟩
  go_wp2_with fail
  exact ⟨rfl, env_no T4 (by have := HN0.out; omega) (HR.out.trans (Ex.then_no h3))⟩
 ·refine (HT.out.go_ok 0 rfl (desc_x sel HP.out.2.1 13 _ (by have := HN0.out; omega)) h3).mono ?_
  rintro e w6 ⟨rfl, T4⟩
  have HDD := Lib.hid ((Safe.desc HG.out sel HP.out.2.1 13 why (by decide) _ _ h3).2.1 d rfl)
  have HE5 := Lib.hid (show r = e16 d s3.C.ring why y num kind sel place s3 by rw [HDD.out.1]; exact HR.out.trans (Ex.then_ok h3))
  have HT5 := Lib.hid (show Hp w A (w6.alloc (descO d)) (oEn eb vb bb pl (n + 4) s3 :: (enterB eb be bv bn bt vec num soft ++ [Ob.box w6.heap.size (descO d)])) from Hp.make (os := oEn eb vb bb pl (n + 4) s3 :: (enterB eb be bv bn bt vec num soft ++ [])) T4 _)
  clear T4 h3 HR b0 bf bl
  obtain ⟨z0, z1, z2, z3, z4, z5, z6, zf, zl⟩ := HT5.out.dbox 5 rfl
  unfold SegR.dval
  go_upto_region 16 with (fail)
  change Code.wp _ _ _ _ (w6.alloc (descO d))
  clear z0 z1 z2 z3 z4 z5 z6 zf zl
  generalize w6.alloc (descO d) = w7 at *
  generalize w6.heap.size = gd at *
  exact enter_16 HT5.out (by have := HN0.out; omega) HN0.out.2 HP.out.1 HP.out.2.1 HDD.out.2.1 HDD.out.2.2.2.2.2.2.2 ⟨HDD.out.2.2.2.1, HDD.out.2.2.2.2.1⟩ HP.out.2.2 HE5.out (by assumption)
def e11 (lo hi : Nat) (why y num : Int) (kind : Nat) : Ex Unit :=
 (needE (hi / 32768 % 2 == 1) 11 why).then fun _ => (needE (codeOfN (lo / 65536) != 0) 13 y).then fun _ => e15 ((codeOfN (lo / 65536) : Nat) + y) y num kind (lo / 65536) (lo % 65536 + hi / 65536 * 65536)
theorem place_bits (lo hi : Nat) (hl : lo < 4294967296) (hh : hi < 4294967296) : bits .or .u32 (bits .and .u32 (lo : Int) 65535) (bits .and .u32 (hi : Int) 4294901760) = ((lo % 65536 + hi / 65536 * 65536 : Nat) : Int) := by
 have e := u32_and_nat lo 65535 hl (by decide)
 have f := u32_and_nat hi 4294901760 hh (by decide)
 have g := nat_field lo 0 16
 have h := nat_field hi 16 16
 rw [show (65535 : Int) = ((65535 : Nat) : Int) from rfl, e, show (4294901760 : Int) = ((4294901760 : Nat) : Int) from rfl, f]
 rw [show (2 ^ 16 - 1) * 2 ^ 0 = 65535 by decide] at g
 rw [show (2 ^ 16 - 1) * 2 ^ 16 = 4294901760 by decide] at h
 rw [g, h, u32_or_nat _ _ (by omega) (by omega)]
 congr 1
 rw [Nat.or_comm, show hi / 2 ^ 16 % 2 ^ 16 * 2 ^ 16 = 2 ^ 16 * (hi / 65536) by omega, ← Nat.two_pow_add_eq_or_of_lt (by omega)]
 omega
theorem enter_11 {y why : Int} (T : Hp w A W (oEn eb vb bb pl n s1 :: (enterB eb be bv bn bt vec num soft ++ []))) (hn : n + 28 ≤ N) (hN : N * 12 ≤ 140737488355328) {lo hi kind : Nat} (hl : lo < 4294967296) (hh : hi < 4294967296) (hx : y = 0 ∨ y = 1) (hr : r = e11 lo hi why y num kind s1) {x7 x6 o2 o3 o4 o5 o6 o7 o1 o8 o9 p0 p1 p2 p3 p4 p6 p7 p8 p9 q0 q1 q2 q3 p5 q4 q5 q6 q7 q8 q9 r0 r1 r2 r3 r4 r5 r6 r7 r8 r9 s0 s2 s3 s4 s5 s6 s7 s8 s9 t0 t1 t2 t3 t4 t5 t6 t7 t8 t9 u2 u3 u4 u5 u6 u7 u8 u9 v0 v1 v2 v3 v4 v5 v6 v7 v8 v9 w0 w3 w4 w5 w6 w7 w8 w9 x0 x1 x2 x3 x4 x5 a0 a1 a2 a3 a4 a5 a6 a7 a8 a9 b0 b1 b2 b3 b4 b5 b6 b7 b8 b9 c0 c1 c2 c3 c4 c5 c6 c7 c8 c9 d0 d1 d2 d3 d4 d5 d6 d7 d8 d9 e0 e4 e5 e6 e7 e8 e9 f0 f1 f2 f3 f4 f5 f6 f7 f8 f9 g0 g1 g2 g3 g4 g5 g6 g7 g8 g9 h0 h1 h2 h3 h4 h5 h6 h7 h8 h9 i0 i1 i2 i3 i4 i5 i6 i7 i8 i9 j0 j1 j2 j3 j4 j5 j6 j7 j8 j9 k0 k1 k2 k3 k4 k5 k6 k7 k8 k9 l0 l1 l2 l3 l4 l5 l6 l7 l8 l9 m0 m1 m2 m3 m4 m5 m6 m7 m8 m9 n0 n1 n2 n3 n4 n5 n6 n7 n8 n9 o0 : Value} {K11 : Act → World → Prop} (hK11 : ∀ a w1, Code.wp Tryz.prog (tl Tryz.f25 11) (bodyPost Tryz.prog Tryz.f25 (EnEnd w A eb vb bb pl N (enterB eb be bv bn bt vec num soft) r)) a w1 → K11 a w1) :
    Code.wp Tryz.prog (rg Tryz.f25 11) (Exit.then K11 (bodyPost Tryz.prog Tryz.f25 (EnEnd w A eb vb bb pl N (enterB eb be bv bn bt vec num soft) r))) ⟨#[x7, x6, .pointer (some ⟨be, 0, none⟩), .pointer (some ⟨bn, 0, none⟩), .int .i64 y, .pointer (some ⟨eb, 0, none⟩), .int .i64 why, .int .u32 (lo : Nat), .int .u32 (hi : Nat), .int .u32 (kind : Nat), o2, o3, o4, o5, o6, o7, o1, o8, o9, p0, p1, p2, p3, p4, p6, p7, p8, p9, q0, q1, q2, q3, p5, q4, q5, q6, q7, q8, q9, r0, r1, r2, r3, r4, r5, r6, r7, r8, r9, s0, s2, s3, s4, s5, s6, s7, s8, s9, t0, t1, t2, t3, t4, t5, t6, t7, t8, t9, u2, u3, u4, u5, u6, u7, u8, u9, v0, v1, v2, v3, v4, v5, v6, v7, v8, v9, w0, w3, w4, w5, w6, w7, w8, w9, x0, x1, x2, x3, x4, x5, a0, a1, a2, a3, a4, a5, a6, a7, a8, a9, b0, b1, b2, b3, b4, b5, b6, b7, b8, b9, c0, c1, c2, c3, c4, c5, c6, c7, c8, c9, d0, d1, d2, d3, d4, d5, d6, d7, d8, d9, e0, e4, e5, e6, e7, e8, e9, f0, f1, f2, f3, f4, f5, f6, f7, f8, f9, g0, g1, g2, g3, g4, g5, g6, g7, g8, g9, h0, h1, h2, h3, h4, h5, h6, h7, h8, h9, i0, i1, i2, i3, i4, i5, i6, i7, i8, i9, j0, j1, j2, j3, j4, j5, j6, j7, j8, j9, k0, k1, k2, k3, k4, k5, k6, k7, k8, k9, l0, l1, l2, l3, l4, l5, l6, l7, l8, l9, m0, m1, m2, m3, m4, m5, m6, m7, m8, m9, n0, n1, n2, n3, n4, n5, n6, n7, n8, n9, o0], []⟩ W := by
 have HN0 := Lib.hid (And.intro hn hN)
 have HR := Lib.hid hr
 have HT := Lib.hid T
 have HX := Lib.hid hx
 have e1 := place_bits lo hi hl hh
 have hp : lo % 65536 + hi / 65536 * 65536 < 4294967296 := by omega
 have hs : lo / 65536 < 65536 := by omega
 have e2 : IntKind.u16.wrap ((lo : Int) / 65536) = ((lo / 65536 : Nat) : Int) := by
  rw [IntKind.wrap_u16]; omega
 have e3 : bits .and .u32 (hi : Int) 32768 = ((hi / 32768 % 2 * 32768 : Nat) : Int) := by
  have f := u32_and_nat hi 32768 hh (by decide)
  have g := nat_field hi 15 1
  rw [show (2 ^ 1 - 1) * 2 ^ 15 = 32768 by decide] at g
  rw [show (32768 : Int) = ((32768 : Nat) : Int) from rfl, f, g]
 obtain ⟨q, hq⟩ : ∃ q, q = hi / 32768 % 2 := ⟨_, rfl⟩
 have HQ := Lib.hid hq
 rw [← hq] at e3
 have hq2 : q < 2 := by omega
 clear T hn hN hx hr hq
 conv => arg 2; whnf
 conv at hK11 => enter [a, w1, 1, 2]; whnf
 go_wp2_with fail
 refine (need_d _ _ _ _).mono ?_
 rintro e w2 ⟨rfl, ⟨hb, rfl⟩ | ⟨hb, rfl⟩⟩
 ·have hq1 : (hi / 32768 % 2 == 1) = true := by
    rw [← HQ.out]
    simp only [bne_iff_ne, ne_eq] at hb
    rw [beq_iff_eq]; omega
  have HR2 := Lib.hid (HR.out.trans (Ex.then_ok (need_ok hq1 _ _ _)))
  clear hb hq1 HR e3 HQ hq2
  obtain ⟨sel, hsel⟩ : ∃ sel, sel = lo / 65536 := ⟨_, rfl⟩
  obtain ⟨place, hplace⟩ : ∃ place, place = lo % 65536 + hi / 65536 * 65536 := ⟨_, rfl⟩
  rw [← hsel, ← hplace] at HR2
  rw [← hsel] at e2 hs
  rw [← hplace] at e1 hp
  have HP := Lib.hid (And.intro hp hs)
  clear hsel hplace
  have hcs : codeOfN sel ≤ sel := Nat.sub_le _ _
  have hy0 : 0 ≤ y := by have := HX.out; omega
  have hy1 : y ≤ 1 := by have := HX.out; omega
  go_wp2_with fail
  refine (code_x sel HP.out.2 _ rfl _).mono ?_
  rintro e w2 ⟨rfl, rfl⟩
  go_wp2_with fail
  refine (code_x sel HP.out.2 _ rfl _).mono ?_
  rintro e w2 ⟨rfl, rfl⟩
  go_wp2_with fail
  refine (need_d _ _ _ _).mono ?_
  rintro e w2 ⟨rfl, ⟨hb, rfl⟩ | ⟨hb, rfl⟩⟩
  ·have hq1 : (codeOfN sel != 0) = true := by
     simp only [bne_iff_ne, ne_eq] at hb ⊢
     omega
   have HR3 := Lib.hid (HR2.out.trans (Ex.then_ok (need_ok hq1 _ _ _)))
   clear hb hq1 HR2 hcs hy0 hy1 e1 e2 hp hs
   go_upto_region 15 with (fail)
   exact enter_15 HT.out HN0.out.1 HN0.out.2 HP.out.1 HP.out.2 HX.out HR3.out (by assumption)
  ·have hq1 : (codeOfN sel != 0) = false := by
     simp only [bne_eq_false_iff_eq] at hb ⊢
     omega
   have HR3 := Lib.hid (HR2.out.trans (Ex.then_no (need_no hq1 _ _ _)))
   clear hb hq1
   go_wp2_with fail
   exact ⟨rfl, env_no HT.out (by have := HN0.out; omega) HR3.out⟩
 ·have hq1 : (hi / 32768 % 2 == 1) = false := by
    rw [← HQ.out]
    simp only [bne_eq_false_iff_eq] at hb
    rw [beq_eq_false_iff_ne]; omega
  have HR2 := Lib.hid (HR.out.trans (Ex.then_no (need_no hq1 _ _ _)))
  clear hb hq1
  go_wp2_with fail
  exact ⟨rfl, env_no HT.out (by have := HN0.out; omega) HR2.out⟩
end
end Go.Proofs.YtmpcafdgkbpneaaGreat

