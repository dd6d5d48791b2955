/- Steps of a proof: ExG, ExP, together. -/
import Derived.Test.YtmpcafdgkbpneaaGreatS15
import Derived.Test.YtmpcafdgkbpneaaGreatS6
/- except: Enter's inner function, its end: what is pushed, the place and the flags. -/
set_option maxHeartbeats 4000000
set_option maxRecDepth 20000
namespace Go.Proofs.YtmpcafdgkbpneaaGreat
open Go.RowKit Go.MapKept
set_option linter.unusedVariables false
attribute [local go_sem ↓] Go.wp_at_zero Go.wp_at_succ

def EnEnd (w : World) (A : Nat → Prop) (eb vb bb : Nat) (pl : Pl) (N : Nat) (bs : List Ob) (r : Except FaultS Unit × Es) (e : Ending) (w' : World) : Prop :=
 ((∀ a, r.1 = .ok a → e = .returned (.tuple #[])) ∧ (∀ x, r.1 = .error x → e = gaveX x)) ∧ ∃ A', (oEs eb vb bb pl N bs r.2).P w' A' ∧ Moves A A' w w'
section
variable {w W w' w0 : World} {A A0 : Nat → Prop} {os bs loc : List Ob} {eb vb bb : Nat} {pl : Pl} {n n' N : Nat} {s s1 s' : Es} {r : Except FaultS Unit × Es} {x : FaultS}
theorem Hp.lone (T : Hp w0 A0 w os) (i : Nat) {b : Nat} {v : Value} {T0 : TypeId} (h : os[i]? = some (Ob.box b (.cells #[v] T0))) : w.cell? ⟨b, 0, none⟩ = some v ∧ w.frozen? ⟨b, 0, none⟩ = false ∧ b < w.heap.size := by
 have hb := T.box i h
 exact ⟨by rw [cell_at hb]; rfl, free_at hb, heap_lt hb⟩
theorem env_end (T : Hp w A W (oEn eb vb bb pl n s1 :: (bs ++ loc))) (hn : n ≤ N) : ∃ A', (oEs eb vb bb pl N bs s1).P W A' ∧ Moves A A' w W := by
 have T1 : Hp w A W (oEn eb vb bb pl N s1 :: (bs ++ loc)) := T.moreN 0 rfl hn
 obtain ⟨B, b, M⟩ := Hp.left (l1 := oEn eb vb bb pl N s1 :: bs) T1
 exact ⟨B, b, M⟩
theorem env_ok (T : Hp w A W (oEn eb vb bb pl n s1 :: (bs ++ loc))) (hn : n ≤ N) (hr : r = (.ok (), s1)) : EnEnd w A eb vb bb pl N bs r (.returned (.tuple #[])) W := by
 subst hr
 exact ⟨⟨fun b h => rfl, fun x h => (by cases h)⟩, env_end T hn⟩
theorem env_no (T : Hp w A W (oEn eb vb bb pl n s1 :: (bs ++ loc))) (hn : n ≤ N) (hr : r = (.error x, s1)) : EnEnd w A eb vb bb pl N bs r (.panicked [{ v := .iface 141 (.agg #[.int .i64 x.vec, .int .i64 x.cd, .int .u32 (x.cr2 : Nat)]), recovered := false }]) W := by
 subst hr
 exact ⟨⟨fun b h => (by cases h), fun y h => (by cases h; rfl)⟩, env_end T hn⟩
theorem CpuAt.ends {w : World} {b : Nat} {C : CpuS} (h : CpuAt w b C) : w.cell? ⟨b, 8, none⟩ = some (.int .u32 (C.eip : Nat)) ∧ w.cell? ⟨b, 9, none⟩ = some (.int .u32 (C.flags : Nat)) ∧ w.cell? ⟨b, 80, none⟩ = some (.bool C.shadow) ∧ w.cell? ⟨b, 81, none⟩ = some (.bool C.halted) ∧ (∀ k, w.frozen? ⟨b, k, none⟩ = false) ∧ b < w.heap.size :=
 ⟨(h.cell 8 (by decide)).trans rfl, (h.cell 9 (by decide)).trans rfl, (h.cell 80 (by decide)).trans rfl, (h.cell 81 (by decide)).trans rfl, fun k => h.free k, h.lt⟩
theorem env_eip (C : CpuS) (vb bb v : Nat) : (envCells C vb bb).setIfInBounds 8 (.int .u32 (v : Nat)) = envCells { C with eip := v } vb bb := by kernel_rfl
theorem env_flags (C : CpuS) (vb bb v : Nat) : (envCells C vb bb).setIfInBounds 9 (.int .u32 (v : Nat)) = envCells { C with flags := v } vb bb := by kernel_rfl
theorem env_shadow (C : CpuS) (vb bb : Nat) : (envCells C vb bb).setIfInBounds 80 (.bool false) = envCells { C with shadow := false } vb bb := by kernel_rfl
theorem env_halted (C : CpuS) (vb bb : Nat) : (envCells C vb bb).setIfInBounds 81 (.bool false) = envCells { C with halted := false } vb bb := by kernel_rfl
theorem clr_lt (f m : Nat) (h : f < 4294967296) : clr f m < 4294967296 := Nat.lt_of_le_of_lt Nat.and_le_left h
theorem clr_bits (f m : Nat) (h : f < 4294967296) (hm : m < 4294967296) : bits .andNot .u32 (f : Int) (m : Int) = ((clr f m : Nat) : Int) := u32_andNot_nat f m h hm
theorem Hp.setEip (T : Hp w0 A0 w os) (i : Nat) (hi : os[i]? = some (oEn eb vb bb pl n s)) (v : Nat) (hv : v < 4294967296) : Hp w0 A0 (w.setCell ⟨eb, 8, none⟩ (.int .u32 (v : Nat))) (os.set i (oEn eb vb bb pl n ⟨{ s.C with eip := v }, s.R⟩)) :=
 have h := (T.cpu i hi).1
 T.setC i hi 8 _ (env_eip s.C vb bb v) ⟨h.r, hv, h.flags, h.seg, h.cr0, h.cr2, h.cr3, h.gb, h.gl, h.ib, h.il, h.tr⟩
theorem Hp.setFlags (T : Hp w0 A0 w os) (i : Nat) (hi : os[i]? = some (oEn eb vb bb pl n s)) (v : Nat) (hv : v < 4294967296) : Hp w0 A0 (w.setCell ⟨eb, 9, none⟩ (.int .u32 (v : Nat))) (os.set i (oEn eb vb bb pl n ⟨{ s.C with flags := v }, s.R⟩)) :=
 have h := (T.cpu i hi).1
 T.setC i hi 9 _ (env_flags s.C vb bb v) ⟨h.r, h.eip, hv, h.seg, h.cr0, h.cr2, h.cr3, h.gb, h.gl, h.ib, h.il, h.tr⟩
theorem Hp.setShadow (T : Hp w0 A0 w os) (i : Nat) (hi : os[i]? = some (oEn eb vb bb pl n s)) : Hp w0 A0 (w.setCell ⟨eb, 80, none⟩ (.bool false)) (os.set i (oEn eb vb bb pl n ⟨{ s.C with shadow := false }, s.R⟩)) :=
 have h := (T.cpu i hi).1
 T.setC i hi 80 _ (env_shadow s.C vb bb) ⟨h.r, h.eip, h.flags, h.seg, h.cr0, h.cr2, h.cr3, h.gb, h.gl, h.ib, h.il, h.tr⟩
theorem Hp.setHalted (T : Hp w0 A0 w os) (i : Nat) (hi : os[i]? = some (oEn eb vb bb pl n s)) : Hp w0 A0 (w.setCell ⟨eb, 81, none⟩ (.bool false)) (os.set i (oEn eb vb bb pl n ⟨{ s.C with halted := false }, s.R⟩)) :=
 have h := (T.cpu i hi).1
 T.setC i hi 81 _ (env_halted s.C vb bb) ⟨h.r, h.eip, h.flags, h.seg, h.cr0, h.cr2, h.cr3, h.gb, h.gl, h.ib, h.il, h.tr⟩
def enterB (eb be bv bn bt : Nat) (vec num : Int) (soft : Bool) : List Ob := [Ob.box be (.cells #[.pointer (some ⟨eb, 0, none⟩)] 24), Ob.box bv (.cells #[.int .i64 vec] 3), Ob.box bn (.cells #[.int .i64 num] 3), Ob.box bt (.cells #[.bool soft] 4)]
variable {be bv bn bt : Nat} {vec num : Int} {soft : Bool}
theorem enter_34 (T : Hp w A W (oEn eb vb bb pl n s1 :: (enterB eb be bv bn bt vec num soft ++ loc))) (hn : n ≤ N) {place kind : Nat} (hp : place < 4294967296) (hr : r = (.ok (), ⟨s1.C.placed place kind, s1.R⟩)) {y8 y1 y2 y3 y4 y5 y6 y7 o2 o3 o4 o5 o6 o7 o8 o9 p0 p1 p2 p3 p4 p6 p7 p8 p9 q0 q1 q2 q3 p5 q4 q5 q6 q7 q8 q9 r0 r1 r2 r3 r4 r5 r6 r7 r8 r9 s0 s2 s3 s4 s5 s6 s7 s8 s9 t0 t1 t2 t3 t4 t5 t6 t7 t8 t9 u5 u9 v0 v1 v2 v3 v4 v5 v6 v7 v8 v9 w0 w2 w3 w4 w5 w6 w7 w8 w9 x0 x1 x2 x3 x4 x5 x6 x7 x8 x9 y0 a0 a1 a2 a3 a4 a5 a6 a7 a8 a9 b0 b1 b2 b3 b4 b5 b6 b7 b8 b9 c0 c1 c2 c3 c4 c5 c6 c7 c8 c9 d0 d1 d2 d3 d4 d5 d6 d7 d8 d9 e0 e3 e4 e5 e6 e7 e8 e9 f0 f1 f2 f3 f4 f5 f6 f7 f8 f9 g0 g1 g2 g3 g4 g5 g6 g7 g8 g9 h0 h1 h2 h3 h4 h5 h6 h7 h8 h9 i0 i1 i2 i3 i4 i5 i6 i7 i8 i9 j0 j1 j2 j3 j4 j5 j6 j7 j8 j9 k0 k1 k2 k3 k4 k5 k6 k7 l0 l1 l2 l3 l4 l5 l6 l7 l8 l9 m0 m1 m2 m3 m4 m5 m6 m7 m8 m9 n0 n1 n2 n3 n4 n5 n6 n7 n8 n9 o0 o1 : Value} {K34 : Act → World → Prop} (hK34 : ∀ a w1, Code.wp Tryz.prog (tl Tryz.f25 34) (bodyPost Tryz.prog Tryz.f25 (EnEnd w A eb vb bb pl N (enterB eb be bv bn bt vec num soft) r)) a w1 → K34 a w1) :
    Code.wp Tryz.prog (rg Tryz.f25 34) (Exit.then K34 (bodyPost Tryz.prog Tryz.f25 (EnEnd w A eb vb bb pl N (enterB eb be bv bn bt vec num soft) r))) ⟨#[y8, y1, y2, y3, y4, .pointer (some ⟨eb, 0, none⟩), y5, y6, y7, .int .u32 (kind : Nat), o2, .int .u32 (place : Nat), o3, o4, o5, o6, o7, o8, o9, p0, p1, p2, p3, p4, p6, p7, p8, p9, q0, q1, q2, q3, p5, q4, q5, q6, q7, q8, q9, r0, r1, r2, r3, r4, r5, r6, r7, r8, r9, s0, s2, s3, s4, s5, s6, s7, s8, s9, t0, t1, t2, t3, t4, t5, t6, t7, t8, t9, u5, u9, v0, v1, v2, v3, v4, v5, v6, v7, v8, v9, w0, w2, w3, w4, w5, w6, w7, w8, w9, x0, x1, x2, x3, x4, x5, x6, x7, x8, x9, y0, a0, a1, a2, a3, a4, a5, a6, a7, a8, a9, b0, b1, b2, b3, b4, b5, b6, b7, b8, b9, c0, c1, c2, c3, c4, c5, c6, c7, c8, c9, d0, d1, d2, d3, d4, d5, d6, d7, d8, d9, e0, e3, e4, e5, e6, e7, e8, e9, f0, f1, f2, f3, f4, f5, f6, f7, f8, f9, g0, g1, g2, g3, g4, g5, g6, g7, g8, g9, h0, h1, h2, h3, h4, h5, h6, h7, h8, h9, i0, i1, i2, i3, i4, i5, i6, i7, i8, i9, j0, j1, j2, j3, j4, j5, j6, j7, j8, j9, k0, k1, k2, k3, k4, k5, k6, k7, l0, l1, l2, l3, l4, l5, l6, l7, l8, l9, m0, m1, m2, m3, m4, m5, m6, m7, m8, m9, n0, n1, n2, n3, n4, n5, n6, n7, n8, n9, o0, o1], []⟩ W := by
 have HT := Lib.hid T
 have HN := Lib.hid hn
 have HR := Lib.hid hr
 have HP := Lib.hid hp
 obtain ⟨k8, k9, k80, k81, kf, kl⟩ := (T.cpu 0 rfl).ends
 have hf := (T.cpu 0 rfl).1.flags
 clear T hn hr hp
 conv => arg 2; whnf
 conv at hK34 => enter [a, w1, 1, 2]; whnf
 go_upto_region 35 with (fail)
 change Code.wp _ _ _ _ (W.setCell ⟨eb, 8, none⟩ (.int .u32 (place : Nat)))
 have HT1 := Lib.hid (HT.out.setEip 0 rfl place HP.out)
 clear HT k8 k9 k80 k81 kf kl
 generalize W.setCell ⟨eb, 8, none⟩ (.int .u32 (place : Nat)) = W1 at *
 obtain ⟨k8, k9, k80, k81, kf, kl⟩ := (HT1.out.cpu 0 rfl).ends
 have e1 := clr_bits s1.C.flags 16640 hf (by decide)
 have hf1 := clr_lt s1.C.flags 16640 hf
 go_upto_region 36 with (fail)
 simp only [Int.cast_ofNat_Int] at e1
 rw [e1]
 change Code.wp _ _ _ _ (W1.setCell ⟨eb, 9, none⟩ (.int .u32 (clr s1.C.flags 16640 : Nat)))
 have HT2 := Lib.hid (HT1.out.setFlags 0 rfl _ hf1)
 clear HT1 k8 k9 k80 k81 kf kl e1
 generalize W1.setCell ⟨eb, 9, none⟩ (.int .u32 (clr s1.C.flags 16640 : Nat)) = W2 at *
 obtain ⟨k8, k9, k80, k81, kf, kl⟩ := (HT2.out.cpu 0 rfl).ends
 have hf2 : clr s1.C.flags 16640 < 4294967296 := hf1
 by_cases hk : kind = 14
 ·have hb : (((kind : Nat) : Int) == 14) = true := by rw [hk]; rfl
  have e2 := clr_bits (clr s1.C.flags 16640) 512 hf2 (by decide)
  have hf3 := clr_lt (clr s1.C.flags 16640) 512 hf2
  simp only [Int.cast_ofNat_Int] at e2
  go_upto_region 38 with (fail)
  change Code.wp _ _ _ _ (W2.setCell ⟨eb, 9, none⟩ (.int .u32 (clr (clr s1.C.flags 16640) 512 : Nat)))
  have HT3 := Lib.hid (HT2.out.setFlags 0 rfl _ hf3)
  clear HT2 k8 k9 k80 k81 kf kl e2
  generalize W2.setCell ⟨eb, 9, none⟩ (.int .u32 (clr (clr s1.C.flags 16640) 512 : Nat)) = W3 at *
  obtain ⟨k8, k9, k80, k81, kf, kl⟩ := (HT3.out.cpu 0 rfl).ends
  have HT4 := Lib.hid ((HT3.out.setShadow 0 rfl).setHalted 0 rfl)
  have HE := Lib.hid (show r = (.ok (), ⟨{ s1.C with eip := place, flags := clr (clr s1.C.flags 16640) 512, shadow := false, halted := false }, s1.R⟩) by rw [HR.out, CpuS.placed, if_pos hk])
  clear hb hk HR
  go_wp2_with fail
  go_end0
  exact env_ok HT4.out HN.out HE.out
 ·have hb : (((kind : Nat) : Int) == 14) = false := by
    rw [beq_eq_false_iff_ne]; omega
  have HT4 := Lib.hid ((HT2.out.setShadow 0 rfl).setHalted 0 rfl)
  have HE := Lib.hid (show r = (.ok (), ⟨{ s1.C with eip := place, flags := clr s1.C.flags 16640, shadow := false, halted := false }, s1.R⟩) by rw [HR.out, CpuS.placed, if_neg hk])
  clear hk HR
  go_wp2_with fail
  go_end0
  exact env_ok HT4.out HN.out HE.out
theorem Ex.assoc {α β γ : Type} (m : Ex α) (k : α → Ex β) (l : β → Ex γ) : (m.then k).then l = m.then fun a => (k a).then l := by
 funext s
 unfold Ex.then
 rcases m s with ⟨f | a, s1⟩ <;> rfl
theorem push_y (v : Nat) (hv : v < 4294967296) (hn : (n + 2) * 12 ≤ 140737488355328) (x : Int) (hx : x = (v : Int)) :
    Goes 34 #[.pointer (some ⟨eb, 0, none⟩), .int .u32 x] (oEn eb vb bb pl n s) (pushE v s) (fun _ => .tuple #[]) (oEn eb vb bb pl (n + 2)) := by
 subst hx
 exact push_x v hv hn
def finE (place kind : Nat) : Ex Unit := Ex.upd fun s2 => ⟨s2.C.placed place kind, s2.R⟩
def e32 (num : Int) (place kind : Nat) : Ex Unit := (whenE (decide (0 ≤ num)) (pushE (num % 4294967296).toNat)).then fun _ => finE place kind
def e27 (old : CpuS) (num : Int) (place kind : Nat) : Ex Unit := (pushE old.flags).then fun _ => (pushE (old.seg 1).sel).then fun _ => (pushE old.eip).then fun _ => e32 num place kind
def e24 (old : CpuS) (other : Bool) (num : Int) (place kind : Nat) : Ex Unit := (whenE other ((pushE (old.seg 2).sel).then fun _ => pushE (old.r 4))).then fun _ => e27 old num place kind
theorem enter_32 (T : Hp w A W (oEn eb vb bb pl n s1 :: (enterB eb be bv bn bt vec num soft ++ loc))) (hn : n + 2 ≤ N) (hN : N * 12 ≤ 140737488355328) {place kind : Nat} (hp : place < 4294967296) (hr : r = e32 num place kind s1) {y7 y2 y3 y4 y5 y6 o3 o4 o5 o6 o7 o8 o9 p0 p1 p2 p3 p4 p5 p7 p8 p9 q0 q1 q2 q3 q4 p6 q5 q6 q7 q8 q9 r0 r1 r2 r3 r4 r5 r6 r7 r8 r9 s0 s3 s4 s5 s6 s7 s8 s9 t0 t1 t2 t3 t4 t5 t6 t7 t8 t9 u2 u3 u5 u9 v0 v1 v2 v3 v4 v5 v6 v7 v8 v9 w0 w3 w4 w5 w6 w7 w8 w9 x0 x1 x2 x3 x4 x5 x6 x7 x8 x9 y0 y1 a0 a1 a2 a3 a4 a5 a6 a7 a8 a9 b1 b2 b3 b4 b5 b6 b7 b8 b9 c0 c1 c2 c3 c4 c5 c6 c7 c8 c9 d0 d1 d2 d3 d4 d5 d6 d7 d8 d9 e0 e1 e2 e3 e4 e5 e6 e7 e8 e9 f0 f1 f2 f3 f4 f5 f6 f7 f8 f9 g0 g1 g2 g3 g4 g5 g6 g7 g8 g9 h3 h4 h5 h6 h7 h8 h9 i0 i1 i2 i3 i4 i5 i6 i7 i8 i9 j0 j1 j2 j3 j4 j5 j6 j7 j8 j9 k0 k1 k2 k3 k4 k5 k6 k7 k8 k9 l0 l1 l2 l3 l4 l5 l6 l7 l8 l9 m1 m2 m3 m4 m5 m6 m7 m8 m9 n0 n1 n2 n3 n4 n5 n6 n7 n8 n9 o0 o1 o2 : Value} {K34 : Act → World → Prop} (hK34 : ∀ a w1, Code.wp Tryz.prog (.seq (rg Tryz.f25 34) (tl Tryz.f25 34)) (bodyPost Tryz.prog Tryz.f25 (EnEnd w A eb vb bb pl N (enterB eb be bv bn bt vec num soft) r)) a w1 → K34 a w1) {K32 : Act → World → Prop} (hK32 : ∀ a w1, Code.wp Tryz.prog (tl Tryz.f25 32) (Exit.then K34 (bodyPost Tryz.prog Tryz.f25 (EnEnd w A eb vb bb pl N (enterB eb be bv bn bt vec num soft) r))) a w1 → K32 a w1) :
    Code.wp Tryz.prog (rg Tryz.f25 32) (Exit.then K32 (Exit.then K34 (bodyPost Tryz.prog Tryz.f25 (EnEnd w A eb vb bb pl N (enterB eb be bv bn bt vec num soft) r)))) ⟨#[y7, y2, .pointer (some ⟨be, 0, none⟩), .pointer (some ⟨bn, 0, none⟩), y3, .pointer (some ⟨eb, 0, none⟩), y4, y5, y6, .int .u32 (kind : Nat), o3, .int .u32 (place : Nat), o4, o5, o6, o7, o8, o9, p0, p1, p2, p3, p4, p5, p7, p8, p9, q0, q1, q2, q3, q4, p6, q5, q6, q7, q8, q9, r0, r1, r2, r3, r4, r5, r6, r7, r8, r9, s0, s3, s4, s5, s6, s7, s8, s9, t0, t1, t2, t3, t4, t5, t6, t7, t8, t9, u2, u3, u5, u9, v0, v1, v2, v3, v4, v5, v6, v7, v8, v9, w0, w3, w4, w5, w6, w7, w8, w9, x0, x1, x2, x3, x4, x5, x6, x7, x8, x9, y0, y1, a0, a1, a2, a3, a4, a5, a6, a7, a8, a9, b1, b2, b3, b4, b5, b6, b7, b8, b9, c0, c1, c2, c3, c4, c5, c6, c7, c8, c9, d0, d1, d2, d3, d4, d5, d6, d7, d8, d9, e0, e1, e2, e3, e4, e5, e6, e7, e8, e9, f0, f1, f2, f3, f4, f5, f6, f7, f8, f9, g0, g1, g2, g3, g4, g5, g6, g7, g8, g9, h3, h4, h5, h6, h7, h8, h9, i0, i1, i2, i3, i4, i5, i6, i7, i8, i9, j0, j1, j2, j3, j4, j5, j6, j7, j8, j9, k0, k1, k2, k3, k4, k5, k6, k7, k8, k9, l0, l1, l2, l3, l4, l5, l6, l7, l8, l9, m1, m2, m3, m4, m5, m6, m7, m8, m9, n0, n1, n2, n3, n4, n5, n6, n7, n8, n9, o0, o1, o2], []⟩ W := by
 have HT := Lib.hid T
 have HN := Lib.hid (And.intro hn hN)
 have HR := Lib.hid hr
 have HP := Lib.hid hp
 obtain ⟨b0, bf, bl⟩ := T.lone 1 rfl
 obtain ⟨m0, mf, ml⟩ := T.lone 3 rfl
 clear T hn hN hr hp
 conv => arg 2; whnf
 conv at hK32 => enter [a, w1, 1, 2]; whnf
 conv at hK34 => enter [a, w1, 1, 2, 1]; whnf
 conv at hK34 => enter [a, w1, 1, 2, 2]; whnf
 by_cases h0 : 0 ≤ num
 ·have h1 : (num % 4294967296).toNat < 4294967296 := by omega
  have h2 : num % 4294967296 = (((num % 4294967296).toNat : Nat) : Int) := by omega
  have HR2 := Lib.hid (show r = ((pushE (num % 4294967296).toNat).then fun _ => finE place kind) s1 by rw [HR.out, e32, decide_eq_true h0]; rfl)
  have HH := Lib.hid (And.intro h1 h2)
  clear h1 h2
  go_wp2_with fail
  rcases h : pushE (num % 4294967296).toNat s1 with ⟨f | u, s2⟩
  ·refine (HT.out.go_no 0 rfl (push_y _ HH.out.1 (by have := HN.out; omega) _ (by first | exact HH.out.2 | (rw [IntKind.wrap_u32]; exact HH.out.2))) h).mono ?_
   rintro e w2 ⟨rfl, T2⟩
   go_wp2_with fail
   exact ⟨rfl, env_no T2 HN.out.1 (HR2.out.trans (Ex.then_no h))⟩
  ·refine (HT.out.go_ok 0 rfl (push_y _ HH.out.1 (by have := HN.out; omega) _ (by first | exact HH.out.2 | (rw [IntKind.wrap_u32]; exact HH.out.2))) h).mono ?_
   rintro e w2 ⟨rfl, T2⟩
   have HT2 := Lib.hid (show Hp w A w2 (oEn eb vb bb pl (n + 2) s2 :: (enterB eb be bv bn bt vec num soft ++ loc)) from T2)
   have HR3 := Lib.hid (HR2.out.trans (Ex.then_ok h))
   clear T2 h b0 bf bl m0 mf ml
   go_upto_region 34 with (fail)
   exact enter_34 HT2.out HN.out.1 HP.out HR3.out (by assumption)
 ·have HR2 := Lib.hid (show r = finE place kind s1 by rw [HR.out, e32, decide_eq_false h0]; rfl)
  go_upto_region 34 with (fail)
  exact enter_34 HT.out (by have := HN.out; omega) HP.out HR2.out (by assumption)
theorem Hp.ocpu {g : Nat} {C : CpuS} (T : Hp w0 A0 w os) (i : Nat) (h : os[i]? = some (Ob.box g (cpuO C))) (ok : C.ok) : CpuAt w g C := CpuAt.of_block ok (T.box i h)
theorem enter_27 {gd go : Nat} {d : SegR} {old : CpuS} (T : Hp w A W (oEn eb vb bb pl n s1 :: (enterB eb be bv bn bt vec num soft ++ [Ob.box gd (descO d), Ob.box go (cpuO old)]))) (hn : n + 8 ≤ N) (hN : N * 12 ≤ 140737488355328) {place kind : Nat} (hp : place < 4294967296) (ok : old.ok) (hr : r = e27 old num place kind s1) {z2 y7 y8 y9 z0 z1 o3 o4 o5 o6 o7 p0 p1 p2 p3 p4 p5 p6 p7 p8 p9 q0 q1 q2 q3 q4 o2 q5 q6 q7 q8 q9 r0 r1 r2 r3 r4 r5 r6 r7 r8 r9 s0 s2 s3 s4 s5 s6 s7 s8 s9 t0 t4 t5 t6 t7 t8 t9 u2 u3 u5 u9 v0 v1 v2 v3 v4 v5 v6 v7 v8 v9 w0 w3 w4 w5 w6 w7 w8 w9 x0 x1 x2 x3 x4 x5 x6 x7 x8 x9 y3 y4 y5 y6 a0 a1 a2 a3 a4 a5 a6 a7 a8 a9 b1 b2 b3 b4 b5 b6 b7 b8 b9 c0 c1 c2 c3 c4 c5 c6 c7 c8 c9 d0 d1 d2 d3 d4 d5 d6 d7 d8 d9 e0 e1 e2 e3 e4 e5 e6 e7 e8 e9 f0 f1 f2 f3 f4 f5 f6 f7 f8 f9 g0 g1 g2 g3 g4 g5 g6 g7 g8 g9 h3 h4 h5 h6 h7 h8 h9 i0 i1 i2 i3 i4 i5 i6 i7 i8 i9 j0 j1 j2 j3 j4 j5 j6 j7 j8 j9 k0 k1 k2 k3 k4 k5 k6 k7 k8 k9 l0 l1 l2 l3 l4 l5 l6 l7 l8 l9 m0 m1 m2 m3 m4 m5 m6 m7 m8 m9 n0 n1 n2 n3 n4 n5 n6 n7 n8 n9 o0 o1 : Value} {K32 : Act → World → Prop} (hK32 : ∀ a w1, Code.wp Tryz.prog (.seq (.seq (rg Tryz.f25 32) (tl Tryz.f25 32)) (.seq (rg Tryz.f25 34) (tl Tryz.f25 34))) (bodyPost Tryz.prog Tryz.f25 (EnEnd w A eb vb bb pl N (enterB eb be bv bn bt vec num soft) r)) a w1 → K32 a w1) {K27 : Act → World → Prop} (hK27 : ∀ a w1, Code.wp Tryz.prog (tl Tryz.f25 27) (Exit.then K32 (bodyPost Tryz.prog Tryz.f25 (EnEnd w A eb vb bb pl N (enterB eb be bv bn bt vec num soft) r))) a w1 → K27 a w1) :
    Code.wp Tryz.prog (rg Tryz.f25 27) (Exit.then K27 (Exit.then K32 (bodyPost Tryz.prog Tryz.f25 (EnEnd w A eb vb bb pl N (enterB eb be bv bn bt vec num soft) r)))) ⟨#[z2, y7, .pointer (some ⟨be, 0, none⟩), .pointer (some ⟨bn, 0, none⟩), y8, .pointer (some ⟨eb, 0, none⟩), y9, z0, z1, .int .u32 (kind : Nat), o3, .int .u32 (place : Nat), o4, .pointer (some ⟨go, 0, none⟩), o5, o6, o7, p0, p1, p2, p3, p4, p5, p6, p7, p8, p9, q0, q1, q2, q3, q4, o2, q5, q6, q7, q8, q9, r0, r1, r2, r3, r4, r5, r6, r7, r8, r9, s0, s2, s3, s4, s5, s6, s7, s8, s9, t0, t4, t5, t6, t7, t8, t9, u2, u3, u5, u9, v0, v1, v2, v3, v4, v5, v6, v7, v8, v9, w0, w3, w4, w5, w6, w7, w8, w9, x0, x1, x2, x3, x4, x5, x6, x7, x8, x9, y3, y4, y5, y6, a0, a1, a2, a3, a4, a5, a6, a7, a8, a9, b1, b2, b3, b4, b5, b6, b7, b8, b9, c0, c1, c2, c3, c4, c5, c6, c7, c8, c9, d0, d1, d2, d3, d4, d5, d6, d7, d8, d9, e0, e1, e2, e3, e4, e5, e6, e7, e8, e9, f0, f1, f2, f3, f4, f5, f6, f7, f8, f9, g0, g1, g2, g3, g4, g5, g6, g7, g8, g9, h3, h4, h5, h6, h7, h8, h9, i0, i1, i2, i3, i4, i5, i6, i7, i8, i9, j0, j1, j2, j3, j4, j5, j6, j7, j8, j9, k0, k1, k2, k3, k4, k5, k6, k7, k8, k9, l0, l1, l2, l3, l4, l5, l6, l7, l8, l9, m0, m1, m2, m3, m4, m5, m6, m7, m8, m9, n0, n1, n2, n3, n4, n5, n6, n7, n8, n9, o0, o1], []⟩ W := by
 have HT := Lib.hid T
 have HN := Lib.hid (And.intro hn hN)
 have HR := Lib.hid hr
 have HP := Lib.hid hp
 have HO := Lib.hid ok
 obtain ⟨o8, o9, -, -, -, ol⟩ := (T.ocpu 6 rfl ok).ends
 obtain ⟨o19, -⟩ := (T.ocpu 6 rfl ok).codeSeg
 have hse := (ok.seg 1).sel
 clear T hn hN hr hp ok
 conv => arg 2; whnf
 conv at hK27 => enter [a, w1, 1, 2]; whnf
 conv at hK32 => enter [a, w1, 1, 2, 1, 1]; whnf
 conv at hK32 => enter [a, w1, 1, 2, 1, 2]; whnf
 conv at hK32 => enter [a, w1, 1, 2, 2, 1]; whnf
 conv at hK32 => enter [a, w1, 1, 2, 2, 2]; whnf
 go_wp2_with fail
 change Code.wp _ _ _ _ (W.alloc (.cells #[.int .u32 (old.flags : Nat), .int .u32 ((old.seg 1).sel : Nat), .int .u32 (old.eip : Nat)] 22))
 have HT1 := Lib.hid (show Hp w A (W.alloc (.cells #[.int .u32 (old.flags : Nat), .int .u32 ((old.seg 1).sel : Nat), .int .u32 (old.eip : Nat)] 22)) (oEn eb vb bb pl n s1 :: (enterB eb be bv bn bt vec num soft ++ [Ob.box gd (descO d), Ob.box go (cpuO old), Ob.box W.heap.size (.cells #[.int .u32 (old.flags : Nat), .int .u32 ((old.seg 1).sel : Nat), .int .u32 (old.eip : Nat)] 22)])) from HT.out.make _)
 clear HT o8 o9 ol o19
 generalize W.alloc (.cells #[.int .u32 (old.flags : Nat), .int .u32 ((old.seg 1).sel : Nat), .int .u32 (old.eip : Nat)] 22) = W1 at *
 generalize W.heap.size = gs at *
 refine wp_loop_rounds 4 ?_
 rw [rounds_succ]
 obtain ⟨b0, bf, bl⟩ := HT1.out.lone 1 rfl
 have hgs := HT1.out.box 7 rfl
 have y0 := cell_at (k := 0) hgs
 have y1 := cell_at (k := 1) hgs
 have y2 := cell_at (k := 2) hgs
 simp at y0 y1 y2
 have yl := heap_lt hgs
 clear hgs
 go_wp2_with fail
 clear b0 bf bl y0 y1 y2 yl
 rcases h0 : pushE old.flags s1 with ⟨f | u, t1⟩
 ·refine (HT1.out.go_no 0 rfl (push_y _ HO.out.flags (by have := HN.out; omega) _ (by rfl)) h0).mono ?_
  rintro e w2 ⟨rfl, T2⟩
  go_wp2_with fail
  exact ⟨rfl, env_no T2 (by have := HN.out; omega) (HR.out.trans (Ex.then_no h0))⟩
 ·refine (HT1.out.go_ok 0 rfl (push_y _ HO.out.flags (by have := HN.out; omega) _ (by rfl)) h0).mono ?_
  rintro e W2 ⟨rfl, T2⟩
  have HT2 := Lib.hid (show Hp w A W2 (oEn eb vb bb pl (n + 2) t1 :: (enterB eb be bv bn bt vec num soft ++ [Ob.box gd (descO d), Ob.box go (cpuO old), Ob.box gs (.cells #[.int .u32 (old.flags : Nat), .int .u32 ((old.seg 1).sel : Nat), .int .u32 (old.eip : Nat)] 22)])) from T2)
  have HR2 := Lib.hid (HR.out.trans (Ex.then_ok h0))
  clear T2 h0 HT1 HR
  go_wp2_with fail
  rw [rounds_succ]
  obtain ⟨b0, bf, bl⟩ := HT2.out.lone 1 rfl
  have hgs := HT2.out.box 7 rfl
  have y0 := cell_at (k := 0) hgs
  have y1 := cell_at (k := 1) hgs
  have y2 := cell_at (k := 2) hgs
  simp at y0 y1 y2
  have yl := heap_lt hgs
  clear hgs
  go_wp2_with fail
  clear b0 bf bl y0 y1 y2 yl
  rcases h1 : pushE (old.seg 1).sel t1 with ⟨f | u, t2⟩
  ·refine (HT2.out.go_no 0 rfl (push_y _ (by have := (HO.out.seg 1).sel; omega) (by have := HN.out; omega) _ (by rfl)) h1).mono ?_
   rintro e w2 ⟨rfl, T2⟩
   go_wp2_with fail
   exact ⟨rfl, env_no T2 (by have := HN.out; omega) (HR2.out.trans (Ex.then_no h1))⟩
  ·refine (HT2.out.go_ok 0 rfl (push_y _ (by have := (HO.out.seg 1).sel; omega) (by have := HN.out; omega) _ (by rfl)) h1).mono ?_
   rintro e W3 ⟨rfl, T2⟩
   have HT3 := Lib.hid (show Hp w A W3 (oEn eb vb bb pl (n + 4) t2 :: (enterB eb be bv bn bt vec num soft ++ [Ob.box gd (descO d), Ob.box go (cpuO old), Ob.box gs (.cells #[.int .u32 (old.flags : Nat), .int .u32 ((old.seg 1).sel : Nat), .int .u32 (old.eip : Nat)] 22)])) from T2)
   have HR3 := Lib.hid (HR2.out.trans (Ex.then_ok h1))
   clear T2 h1 HT2 HR2
   go_wp2_with fail
   rw [rounds_succ]
   obtain ⟨b0, bf, bl⟩ := HT3.out.lone 1 rfl
   have hgs := HT3.out.box 7 rfl
   have y0 := cell_at (k := 0) hgs
   have y1 := cell_at (k := 1) hgs
   have y2 := cell_at (k := 2) hgs
   simp at y0 y1 y2
   have yl := heap_lt hgs
   clear hgs
   go_wp2_with fail
   clear b0 bf bl y0 y1 y2 yl
   rcases h2 : pushE old.eip t2 with ⟨f | u, t3⟩
   ·refine (HT3.out.go_no 0 rfl (push_y _ HO.out.eip (by have := HN.out; omega) _ (by rfl)) h2).mono ?_
    rintro e w2 ⟨rfl, T2⟩
    go_wp2_with fail
    exact ⟨rfl, env_no T2 (by have := HN.out; omega) (HR3.out.trans (Ex.then_no h2))⟩
   ·refine (HT3.out.go_ok 0 rfl (push_y _ HO.out.eip (by have := HN.out; omega) _ (by rfl)) h2).mono ?_
    rintro e W4 ⟨rfl, T2⟩
    have HT4 := Lib.hid (show Hp w A W4 (oEn eb vb bb pl (n + 6) t3 :: (enterB eb be bv bn bt vec num soft ++ [Ob.box gd (descO d), Ob.box go (cpuO old), Ob.box gs (.cells #[.int .u32 (old.flags : Nat), .int .u32 ((old.seg 1).sel : Nat), .int .u32 (old.eip : Nat)] 22)])) from T2)
    have HR4 := Lib.hid (HR3.out.trans (Ex.then_ok h2))
    clear T2 h2 HT3 HR3
    go_wp2_with fail
    rw [rounds_succ]
    go_upto_region 32 with (fail)
    exact enter_32 HT4.out (by have := HN.out; omega) HN.out.2 HP.out HR4.out (by assumption) (by assumption)
end
end Go.Proofs.YtmpcafdgkbpneaaGreat

/- except, in plain words: what stays sound; which faults come. -/
namespace Go.Proofs.YtmpcafdgkbpneaaGreat
open Go.RowKit
set_option linter.unusedVariables false

theorem pg_wide {R : RS} {C : CpuS} {lin size : Nat} {wr us : Bool} (h : Wide R) (hl : lin < 4294967296) (hc : C.cr3 < 4294967296) : Wide (pg R C lin size wr us).2 := by
 have hl2 : lin2 lin size < 4294967296 := Nat.mod_lt _ (by decide)
 obtain ⟨⟨x, cd, R1⟩, e1⟩ : ∃ r, find R C.cr3 lin wr us C.wp = r := ⟨_, rfl⟩
 have h1 : Wide R1 := (find_parts h hc hl e1).1
 obtain ⟨⟨y, cd2, R2⟩, e2⟩ : ∃ r, find R1 C.cr3 (lin2 lin size) wr us C.wp = r := ⟨_, rfl⟩
 have h2 : Wide R2 := (find_parts h1 hc hl2 e2).1
 unfold pg
 rw [e1]
 split
 ·by_cases h0 : 0 ≤ cd
  ·rw [pg1_fault h0]; exact h1
  ·by_cases hs : size = first lin size
   ·rw [pg1_one h0 hs]; exact h1
   ·rw [pg1_two h0 hs, e2]
    by_cases h3 : 0 ≤ cd2
    ·rw [pg2_fault h3]; exact h2
    ·rw [pg2_ok h3]; exact h2
 ·exact h
theorem putN_wide {R : RS} (h : Wide R) (s : SpanS) (v : Nat) : ∀ n, Wide (putN R s v n)
 | 0 => h
 | n + 1 => (putN_wide h s v n).wrb _ _
theorem sg_wide {R : RS} {C : CpuS} {seg : Int} {off : Nat} {size : Int} {wr : Bool} (h : Wide R) (hc : C.ok) : Wide (sg R C seg off size wr).2 := by
 unfold sg
 split
 ·unfold sg2
  split
  ·exact pg_wide h (Nat.mod_lt _ (by decide)) hc.cr3
  ·exact h
 ·exact h
theorem sg_vec {R R' : RS} {C : CpuS} {seg : Int} {off : Nat} {size : Int} {wr : Bool} {a b : Int} {c : Nat} (h : sg R C seg off size wr = (.no a b c, R')) : 12 ≤ a ∧ a ≤ 14 := by
 unfold sg at h
 split at h
 ·unfold sg2 at h
  split at h
  ·obtain ⟨h1, _⟩ := Prod.mk.inj h
   rename_i hh
   cases hp : (pg R C (((C.seg seg.toNat).base + off) % 4294967296) size.toNat wr C.user).1 with
   | ok s => rw [hp] at h1; cases h1
   | fault cd x => rw [hp] at h1; cases h1; decide
  ·obtain ⟨h1, _⟩ := Prod.mk.inj h
   injection h1 with h1
   rw [← h1]
   split <;> decide
 ·obtain ⟨h1, _⟩ := Prod.mk.inj h
  cases h1
  decide
structure Es.good (s : Es) : Prop where
 wide : Wide s.R
 ok : s.C.ok
def Safe {α : Type} (m : Ex α) (s : Es) (Q : α → Es → Prop) : Prop := ∀ r s1, m s = (r, s1) → s1.good ∧ (∀ a, r = .ok a → Q a s1) ∧ (∀ f, r = .error f → 10 ≤ f.vec ∧ f.vec ≤ 14)
section
variable {α β : Type} {m : Ex α} {s s1 : Es} {Q : α → Es → Prop}
theorem Safe.mono {Q' : α → Es → Prop} (h : Safe m s Q) (g : ∀ a s1, s1.good → Q a s1 → Q' a s1) : Safe m s Q' := fun r s1 e =>
 have ⟨h1, h2, h3⟩ := h r s1 e
 ⟨h1, fun a ea => g a s1 h1 (h2 a ea), h3⟩
theorem Safe.bind {k : α → Ex β} {Q' : β → Es → Prop} (h : Safe m s Q) (g : ∀ a s1, s1.good → Q a s1 → Safe (k a) s1 Q') : Safe (m.then k) s Q' := fun r s2 e => by
 rcases hm : m s with ⟨f | a, s1⟩
 ·rw [Ex.then_no hm] at e
  obtain ⟨rfl, rfl⟩ := Prod.mk.inj e
  have ⟨h1, h2, h3⟩ := h _ _ hm
  exact ⟨h1, fun a ea => (by cases ea), fun f' ef => (by cases ef; exact h3 f rfl)⟩
 ·rw [Ex.then_ok hm] at e
  have ⟨h1, h2, h3⟩ := h _ _ hm
  exact g a s1 h1 (h2 a rfl) r s2 e
theorem Safe.here {f : Es → Ex α} (h : Safe (f s) s Q) : Safe (Ex.at f) s Q := h
theorem Safe.done (hg : s.good) {a : α} (h : Q a s) : Safe (Ex.ret a) s Q := fun r s1 e => by
 obtain ⟨rfl, rfl⟩ := Prod.mk.inj (show ((.ok a : Except FaultS α), s) = (r, s1) from e)
 exact ⟨hg, fun b eb => (by cases eb; exact h), fun f ef => (by cases ef)⟩
theorem Safe.turn {f : Es → Es} {Q : Unit → Es → Prop} (hg : (f s).good) (h : Q () (f s)) : Safe (Ex.upd f) s Q := fun r s1 e => by
 obtain ⟨rfl, rfl⟩ := Prod.mk.inj (show ((.ok () : Except FaultS Unit), f s) = (r, s1) from e)
 exact ⟨hg, fun b eb => (by cases eb; exact h), fun f ef => (by cases ef)⟩
theorem Safe.need (hg : s.good) (p : Bool) (vec cd : Int) (hv : 10 ≤ vec ∧ vec ≤ 14) : Safe (needE p vec cd) s fun _ s1 => s1 = s ∧ p = true := fun r s1 e => by
 cases p
 ·rw [need_no rfl] at e
  obtain ⟨rfl, rfl⟩ := Prod.mk.inj e
  exact ⟨hg, fun b eb => (by cases eb), fun f ef => (by cases ef; exact hv)⟩
 ·rw [need_ok rfl] at e
  obtain ⟨rfl, rfl⟩ := Prod.mk.inj e
  exact ⟨hg, fun b eb => ⟨rfl, rfl⟩, fun f ef => (by cases ef)⟩
theorem Safe.told (hg : s.good) (g : (Nat × FaultS) × RS) (hw : Wide g.2) (hf : 0 ≤ g.1.2.vec → 10 ≤ g.1.2.vec ∧ g.1.2.vec ≤ 14) {Q : Nat → Es → Prop} (hq : g.1.2.vec < 0 → Q g.1.1 ⟨s.C, g.2⟩) : Safe (fun s => toldE g s) s Q := fun r s1 e => by
 have e : (if 0 ≤ g.1.2.vec then (.error g.1.2, ⟨s.C, g.2⟩) else (.ok g.1.1, ⟨s.C, g.2⟩)) = (r, s1) := e
 split at e
 ·rename_i h
  obtain ⟨rfl, rfl⟩ := Prod.mk.inj e
  exact ⟨⟨hw, hg.ok⟩, fun b eb => (by cases eb), fun f ef => (by cases ef; exact hf h)⟩
 ·rename_i h
  obtain ⟨rfl, rfl⟩ := Prod.mk.inj e
  exact ⟨⟨hw, hg.ok⟩, fun b eb => (by cases eb; exact hq (by omega)), fun f ef => (by cases ef)⟩
theorem Safe.sys (hg : s.good) (a : Nat) (ha : a < 4294967296) (k : Nat) (hk : k = 1 ∨ k = 2 ∨ k = 4) : Safe (sysE a (k : Int)) s fun v s1 => v < 256 ^ k ∧ s1.C = s.C := by
 have hw : Wide (ldOf (sy s.R s.C a (k : Int) false)).2 := by
  rw [sy_yes hk]
  have := pg_wide (size := k) (wr := false) (us := false) hg.wide ha hg.ok.cr3
  generalize pg s.R s.C a k false false = p at *
  obtain ⟨p, R'⟩ := p
  cases p <;> exact this
 have h14 : 0 ≤ (ldOf (sy s.R s.C a (k : Int) false)).1.2.vec → (ldOf (sy s.R s.C a (k : Int) false)).1.2.vec = 14 := by
  rw [sy_yes hk]
  generalize pg s.R s.C a k false false = p at *
  obtain ⟨p, R'⟩ := p
  cases p with
  | ok sp => intro h; exact absurd (show (0 : Int) ≤ -1 from h) (by decide)
  | fault cd x => intro h; rfl
 refine fun r s1 e => ?_
 obtain ⟨h1, h2, h3⟩ := Safe.told hg (ldOf (sy s.R s.C a (k : Int) false)) hw (fun h => by have := h14 h; omega) (Q := fun v s1 => True) (fun _ => trivial) r s1 e
 refine ⟨h1, fun v ev => ?_, h3⟩
 subst ev
 exact sysE_ok hg.wide h1.wide hg.ok ha hk e
theorem Safe.load (hg : s.good) (seg : Int) (off : Nat) (ho : off < 4294967296) (k : Nat) (hk : k = 2 ∨ k = 4) : Safe (loadE seg off (k : Int)) s fun v s1 => v < 256 ^ k ∧ s1.C = s.C := by
 have hw := sg_wide (seg := seg) (off := off) (size := (k : Int)) (wr := false) hg.wide hg.ok
 have hv := fun a b c R' => sg_vec (R := s.R) (C := s.C) (seg := seg) (off := off) (size := (k : Int)) (wr := false) (a := a) (b := b) (c := c) (R' := R')
 have hf := fun sp R' => sg_fits (R := s.R) (C := s.C) (seg := seg) (off := off) (size := (k : Int)) (wr := false) (s := sp) (R' := R') hg.wide hg.ok
 show Safe (fun t => toldE (ldOf (sg t.R t.C seg off (k : Int) false)) t) s _
 intro r s1 e
 refine Safe.told (Q := fun v s1 => v < 256 ^ k ∧ s1.C = s.C) hg (ldOf (sg s.R s.C seg off (k : Int) false)) ?_ ?_ ?_ r s1 e
 ·generalize sg s.R s.C seg off (k : Int) false = p at *
  obtain ⟨p, R'⟩ := p
  cases p <;> exact hw
 ·generalize sg s.R s.C seg off (k : Int) false = p at *
  obtain ⟨p, R'⟩ := p
  cases p with
  | ok sp => intro h; exact absurd (show (0 : Int) ≤ -1 from h) (by decide)
  | no a b c =>
   intro h
   obtain ⟨h1, h2⟩ := hv a b c R' rfl
   exact ⟨show 10 ≤ a by omega, h2⟩
 ·generalize sg s.R s.C seg off (k : Int) false = p at *
  obtain ⟨p, R'⟩ := p
  cases p with
  | ok sp =>
   intro h
   obtain ⟨h1, h2⟩ := hf sp R' rfl
   refine ⟨?_, rfl⟩
   show getN R' sp (sp.n0 + sp.n1) < _
   rw [h2, Int.toNat_natCast]
   exact getN_lt hw.ok sp _
  | no a b c =>
   intro h
   obtain ⟨h1, h2⟩ := hv a b c R' rfl
   exact absurd (show a < 0 from h) (by omega)
theorem Safe.store (hg : s.good) (seg : Int) (off : Nat) (size : Int) (v : Nat) : Safe (storeE seg off size v) s fun _ s1 => s1.C = s.C := by
 have hw := sg_wide (seg := seg) (off := off) (size := size) (wr := true) hg.wide hg.ok
 have hv := fun a b c R' => sg_vec (R := s.R) (C := s.C) (seg := seg) (off := off) (size := size) (wr := true) (a := a) (b := b) (c := c) (R' := R')
 intro r s1 e
 refine Safe.told (Q := fun _ s1 => s1.C = s.C) hg ((0, (st s.R s.C seg off size v).1), (st s.R s.C seg off size v).2) ?_ ?_ (fun _ => rfl) r s1 e
 ·unfold st
  generalize sg s.R s.C seg off size true = p at *
  obtain ⟨p, R'⟩ := p
  cases p
  ·exact putN_wide hw _ _ _
  ·exact hw
 ·unfold st
  generalize sg s.R s.C seg off size true = p at *
  obtain ⟨p, R'⟩ := p
  cases p with
  | ok sp => intro h; exact absurd (show (0 : Int) ≤ -1 from h) (by decide)
  | no a b c =>
   intro h
   obtain ⟨h1, h2⟩ := hv a b c R' rfl
   exact ⟨show 10 ≤ a by omega, h2⟩
theorem Safe.sys4 (hg : s.good) (a : Nat) (ha : a < 4294967296) : Safe (sysE a 4) s fun v s1 => v < 4294967296 ∧ s1.C = s.C := Safe.sys hg a ha 4 (.inr (.inr rfl))
theorem Safe.sys2 (hg : s.good) (a : Nat) (ha : a < 4294967296) : Safe (sysE a 2) s fun v s1 => v < 65536 ∧ s1.C = s.C := Safe.sys hg a ha 2 (.inr (.inl rfl))
theorem Safe.push (hg : s.good) (v : Nat) : Safe (pushE v) s fun _ s1 => s1.C = s.C.setR 4 ((s.C.r 4 + 4294967292) % 4294967296) := by
 unfold pushE
 refine Safe.here ?_
 have hl : (s.C.r 4 + 4294967292) % 4294967296 < 4294967296 := Nat.mod_lt _ (by decide)
 generalize (s.C.r 4 + 4294967292) % 4294967296 = a at *
 refine (Safe.store hg 2 a 4 v).bind fun _ s1 g1 e1 => Safe.turn ⟨g1.wide, setR_ok g1.ok 4 a hl⟩ ?_
 show s1.C.setR 4 a = _
 rw [e1]
theorem Safe.desc (hg : s.good) (sel : Nat) (hs : sel < 65536) (vec cd : Int) (hv : 10 ≤ vec ∧ vec ≤ 14) : Safe (descE sel vec cd) s fun d s1 => s1.C = s.C ∧ d.ok ∧ d.sel = sel ∧ 0 ≤ d.dpl ∧ d.dpl ≤ 3 ∧ 0 ≤ d.typ ∧ d.typ ≤ 15 ∧ d.nul = false := by
 unfold descE
 refine Safe.here ((Safe.need hg _ _ _ hv).bind fun _ s1 g1 e1 => ?_)
 obtain ⟨rfl, _⟩ := e1
 refine (Safe.sys4 g1 _ (Nat.mod_lt _ (by decide))).bind fun lo s2 g2 e2 => ?_
 refine (Safe.sys4 g2 _ (Nat.mod_lt _ (by decide))).bind fun hi s3 g3 e3 => Safe.done g3 ?_
 have hl : lo < 4294967296 := e2.1
 have hh : hi < 4294967296 := e3.1
 refine ⟨e3.2.trans e2.2, seg_of_ok sel lo hi hs hl hh, rfl, ?_, ?_, ?_, ?_, rfl⟩
 ·show 0 ≤ pDpl (hi : Int)
  unfold pDpl; omega
 ·show pDpl (hi : Int) ≤ 3
  unfold pDpl; omega
 ·show 0 ≤ pTy (hi : Int)
  unfold pTy; omega
 ·show pTy (hi : Int) ≤ 15
  unfold pTy; omega
end
end Go.Proofs.YtmpcafdgkbpneaaGreat

