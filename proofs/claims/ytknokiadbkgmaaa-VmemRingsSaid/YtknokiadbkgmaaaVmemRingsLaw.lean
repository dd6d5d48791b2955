/- 'drawloom/drawloomlaw16.VmemRings' answers true for every input. Conditions: none. -/
import Derived.Test.YtknokiadbkgmaaaFrame
import Derived.Test.YtknokiadbkgmaaaVmTop
import Derived.Test.YtknokiadbkgmaaaVmV
import Derived.Test.YtknokiadbkgmaaaPArgs
import Derived.Test.YtknokiadbkgmaaaVmIn
namespace Go.Proofs.Ytknokiadbkgmaaa.vmemRings
open Go.ChangeShapes Go.WideShapes Go.ChangeAt Go.RowKit
set_option linter.unusedVariables false

open Go.MapKept
theorem outer_cells : ((flatC 3).cells.toArray.setIfInBounds 64 (.int .u32 2147483649)).setIfInBounds 66 (.int .u32 4096) = outerC.cells.toArray := by kernel_rfl
theorem inner_f : ((flatC 0).cells.toArray.setIfInBounds 64 (.int .u32 2147483649)).setIfInBounds 66 (.int .u32 4096) = (innerC false).cells.toArray := by kernel_rfl
theorem inner_t : (((flatC 0).cells.toArray.setIfInBounds 64 (.int .u32 2147483649)).setIfInBounds 64 (.int .u32 2147549185)).setIfInBounds 66 (.int .u32 4096) = (innerC true).cells.toArray := by kernel_rfl
theorem cr_or (a : Nat) (ok : (flatC 0).ok) (h : a < 4294967296) (C : CpuS) (hC : C.ok) : ({ C with cr0 := a, cr3 := 4096 } : CpuS).ok := ⟨hC.r, hC.eip, hC.flags, hC.seg, h, hC.cr2, (by show 4096 < 4294967296; decide), hC.gb, hC.gl, hC.ib, hC.il, hC.tr⟩
theorem outer_ok : outerC.ok := cr_or 2147483649 (flat_ok 0 (by decide) (by decide)) (by decide) _ (flat_ok 3 (by decide) (by decide))
theorem inner_ok (wp : Bool) : (innerC wp).ok := by
  cases wp
  · exact cr_or 2147483649 (flat_ok 0 (by decide) (by decide)) (by decide) _ (flat_ok 0 (by decide) (by decide))
  · exact cr_or 2147549185 (flat_ok 0 (by decide) (by decide)) (by decide) _ (flat_ok 0 (by decide) (by decide))
/-- The processors as they are behind the stores. -/
def CpusAt (w W : World) (c3 c0 : Nat) (wp : Bool) : Prop := NB w W [(c0, cpuO (innerC wp)), (c3, cpuO outerC)]
theorem set_two {w W : World} {c3 c0 : Nat} (h : NB w W [(c0, cpuO (flatC 0)), (c3, cpuO (flatC 3))]) (hne : c3 ≠ c0) :
    CpusAt w ((((W.setCell ⟨c3, 64, none⟩ (.int .u32 2147483649)).setCell ⟨c0, 64, none⟩ (.int .u32 2147483649)).setCell ⟨c3, 66, none⟩ (.int .u32 4096)).setCell ⟨c0, 66, none⟩ (.int .u32 4096)) c3 c0 false := by
  have h0 := h.get (g := c0) (o := cpuO (flatC 0)) (by simp)
  have h3 := h.get (g := c3) (o := cpuO (flatC 3)) (by simp)
  have b0 := (h.2 (c0, cpuO (flatC 0)) (by simp)).2
  have b3 := (h.2 (c3, cpuO (flatC 3)) (by simp)).2
  refine ⟨(((h.1.setCell b3 _).setCell b0 _).setCell b3 _).setCell b0 _, fun p hp => ?_⟩
  simp only [List.mem_cons, List.not_mem_nil, or_false] at hp
  rcases hp with rfl | rfl
  · refine ⟨?_, b0⟩
    show _ = some (cpuO (innerC false))
    unfold cpuO
    rw [← inner_f]
    refine heap_set_same _ ?_
    rw [heap_set_ne _ _ _ _ _ (Ne.symm hne)]
    refine heap_set_same _ ?_
    rw [heap_set_ne _ _ _ _ _ (Ne.symm hne)]
    exact h0
  · refine ⟨?_, b3⟩
    show _ = some (cpuO outerC)
    unfold cpuO
    rw [← outer_cells, heap_set_ne _ _ _ _ _ hne]
    refine heap_set_same _ ?_
    rw [heap_set_ne _ _ _ _ _ hne]
    exact heap_set_same _ h3
theorem set_three {w W : World} {c3 c0 : Nat} (h : NB w W [(c0, cpuO (flatC 0)), (c3, cpuO (flatC 3))]) (hne : c3 ≠ c0) :
    CpusAt w (((((W.setCell ⟨c3, 64, none⟩ (.int .u32 2147483649)).setCell ⟨c0, 64, none⟩ (.int .u32 2147483649)).setCell ⟨c0, 64, none⟩ (.int .u32 2147549185)).setCell ⟨c3, 66, none⟩ (.int .u32 4096)).setCell ⟨c0, 66, none⟩ (.int .u32 4096)) c3 c0 true := by
  have h0 := h.get (g := c0) (o := cpuO (flatC 0)) (by simp)
  have h3 := h.get (g := c3) (o := cpuO (flatC 3)) (by simp)
  have b0 := (h.2 (c0, cpuO (flatC 0)) (by simp)).2
  have b3 := (h.2 (c3, cpuO (flatC 3)) (by simp)).2
  refine ⟨((((h.1.setCell b3 _).setCell b0 _).setCell b0 _).setCell b3 _).setCell b0 _, fun p hp => ?_⟩
  simp only [List.mem_cons, List.not_mem_nil, or_false] at hp
  rcases hp with rfl | rfl
  · refine ⟨?_, b0⟩
    show _ = some (cpuO (innerC true))
    unfold cpuO
    rw [← inner_t]
    refine heap_set_same _ ?_
    rw [heap_set_ne _ _ _ _ _ (Ne.symm hne)]
    refine heap_set_same _ ?_
    refine heap_set_same _ ?_
    rw [heap_set_ne _ _ _ _ _ (Ne.symm hne)]
    exact h0
  · refine ⟨?_, b3⟩
    show _ = some (cpuO outerC)
    unfold cpuO
    rw [← outer_cells, heap_set_ne _ _ _ _ _ hne]
    refine heap_set_same _ ?_
    rw [heap_set_ne _ _ _ _ _ hne, heap_set_ne _ _ _ _ _ hne]
    exact heap_set_same _ h3
theorem cpu_cells {W : World} {b : Nat} {k : Int} (h : W.heap[b]? = some (cpuO (flatC k))) : W.cell? ⟨b, 64, none⟩ = some (.int .u32 1) ∧ W.cell? ⟨b, 66, none⟩ = some (.int .u32 0) ∧ (∀ j, W.frozen? ⟨b, j, none⟩ = false) ∧ b < W.heap.size :=
  ⟨by rw [cell_at h]; rfl, by rw [cell_at h]; rfl, fun j => free_at h, heap_lt h⟩
def R0_ (n : Nat) (at_ v : Nat → Nat) : RS := bothR 16 at_ v n (fun _ => 0) 0
/-- Where the three memories stand behind all setting up. -/
def Ready (w W : World) (c3 c0 : Nat) (wp : Bool) (a b d : Nat) (R : RS) : Prop :=
  TB w W (VmO a 8 0 R) (VmO b 8 0 R) (VmO d 8 0 R) [(c0, cpuO (innerC wp)), (c3, cpuO outerC)]
theorem words_low {w w1 : World} {a : Option Addr} {len : Nat} {at_ v : Nat → Nat} (h : WordsIn w a len at_ v) (hb : Below w.heap.size w w1) : WordsIn w1 a len at_ v := by
  rcases h with h | ⟨b, o, e, h⟩
  · exact .inl h
  · exact .inr ⟨b, o, e, h.below hb⟩
set_option maxRecDepth 100000 in
set_option maxHeartbeats 8000000 in
theorem rings_tail {w W : World} {c3 c0 : Nat} {wp : Bool} (hC : CpusAt w W c3 c0 wp) {a0 : Option Addr} {n0 cc : Nat} {at0 v0 : Nat → Nat} (hm : n0 ≤ 9223372036854775807) (hW : WordsIn w a0 n0 at0 v0) {off : Nat} (ho : off < 4294967296) {size : Int} {st_ : Bool} {u5 u6 u7 u8 u9 u10 u14 u15 u16 u17 u18 u19 u20 u21 u22 u23 u24 u25 u26 u27 u28 u29 u30 u31 u32 u33 u34 u35 u36 u37 u38 u39 u40 u41 u42 u43 u44 u45 u46 u47 u48 u49 u50 u51 u52 u53 u54 u55 u56 u57 u58 u59 u60 u61 u62 u63 u64 u65 u66 u67 u68 u69 u70 u71 u72 u73 u74 u75 u76 u77 u78 u79 u80 u81 u82 u83 u84 u85 u86 u87 u88 u89 u90 u91 u92 u93 u94 u95 u96 u97 u98 u99 u100 u101 u102 u103 u104 u105 u106 u107 u108 u109 u110 u111 u112 u113 u114 u115 u116 u117 u118 u119 u120 u121 u122 u123 u124 u125 u126 u127 u128 u129 u130 u131 u132 u133 u134 u135 u136 u137 u138 u139 u140 u141 u142 u143 u144 u145 u146 u147 u148 u149 u150 u151 u152 u153 u154 u155 u156 u157 u158 u159 u160 u161 u162 : Value} {K : Act → World → Prop}
    (hK : ∀ a w1, Code.wp Try.prog (tl Try.f5 10) (bodyPost Try.prog Try.f5 fun e w' => e = .returned (.bool true) ∧ Below w.heap.size w w') a w1 → K a w1) :
    Code.wp Try.prog (rg Try.f5 10) (Exit.then K (bodyPost Try.prog Try.f5 fun e w' => e = .returned (.bool true) ∧ Below w.heap.size w w')) ⟨#[.slice a0 n0 cc, .int .u32 (off : Nat), .int .i64 size, .bool st_, .bool wp, u5, u6, u7, u8, u9, u10, .bool true, .pointer (some ⟨c3, 0, none⟩), .pointer (some ⟨c0, 0, none⟩), u14, u15, u16, u17, u18, u19, u20, u21, u22, u23, u24, u25, u26, u27, u28, u29, u30, u31, u32, u33, u34, u35, u36, u37, u38, u39, u40, u41, u42, u43, u44, u45, u46, u47, u48, u49, u50, u51, u52, u53, u54, u55, u56, u57, u58, u59, u60, u61, u62, u63, u64, u65, u66, u67, u68, u69, u70, u71, u72, u73, u74, u75, u76, u77, u78, u79, u80, u81, u82, u83, u84, u85, u86, u87, u88, u89, u90, u91, u92, u93, u94, u95, u96, u97, u98, u99, u100, u101, u102, u103, u104, u105, u106, u107, u108, u109, u110, u111, u112, u113, u114, u115, u116, u117, u118, u119, u120, u121, u122, u123, u124, u125, u126, u127, u128, u129, u130, u131, u132, u133, u134, u135, u136, u137, u138, u139, u140, u141, u142, u143, u144, u145, u146, u147, u148, u149, u150, u151, u152, u153, u154, u155, u156, u157, u158, u159, u160, u161, u162], []⟩ W := by
  have T0 := Lib.hid (TB.ofNB hC)
  have HW := Lib.hid hW
  have HMX := Lib.hid hm
  have HO := Lib.hid ho
  clear hW hm ho hC
  conv => arg 2; whnf
  conv at hK => enter [a, w1, 1, 2]; whnf
  go_wp2_with fail
  refine (both_any W 16 a0 n0 cc at0 v0 (words_low HW.out T0.out.1.B) none 0 0 (fun _ => 0) (.inl rfl) HMX.out (by decide)).mono ?_
  rintro e w1 ⟨b1, S1, b1', S1', rfl, Tw⟩
  have T1 := Lib.hid ((T0.out.both Nothing.local Nothing.local Tw).rot)
  clear Tw T0
  go_wp2_with fail
  refine (both_any w1 16 a0 n0 cc at0 v0 (words_low HW.out T1.out.1.B) none 0 0 (fun _ => 0) (.inl rfl) HMX.out (by decide)).mono ?_
  rintro e w2 ⟨b2, S2, b2', S2', rfl, Tw⟩
  have T2 := Lib.hid ((T1.out.both Nothing.local (RamP_local _ _) Tw).rot)
  clear Tw T1
  go_wp2_with fail
  refine (both_any w2 16 a0 n0 cc at0 v0 (words_low HW.out T2.out.1.B) none 0 0 (fun _ => 0) (.inl rfl) HMX.out (by decide)).mono ?_
  rintro e w3 ⟨b3, S3, b3', S3', rfl, Tw⟩
  have T3 := Lib.hid ((T2.out.both (RamP_local _ _) (RamP_local _ _) Tw).rot)
  clear Tw T2
  go_wp2_with fail
  refine (TB.vnew T3.out (RamP_local _ _) (RamP_local _ _) (Wide.both _ _ _ _ _ _) 8 (by decide) 8 rfl).mono ?_
  rintro e w4 ⟨vb1, rfl, Tv⟩
  have T4 := Lib.hid Tv.rot
  clear Tv T3
  go_wp2_with fail
  refine (TB.vnew T4.out (RamP_local _ _) (VmO.local _ _ _ _) (Wide.both _ _ _ _ _ _) 8 (by decide) 8 rfl).mono ?_
  rintro e w5 ⟨vb2, rfl, Tv⟩
  have T5 := Lib.hid Tv.rot
  clear Tv T4
  go_wp2_with fail
  refine (TB.vnew T5.out (VmO.local _ _ _ _) (VmO.local _ _ _ _) (Wide.both _ _ _ _ _ _) 8 (by decide) 8 rfl).mono ?_
  rintro e w6 ⟨vb3, rfl, Tv⟩
  have T6 := Lib.hid Tv.rot
  clear Tv T5
  have HWD : Hid (Wide (bothR 16 at0 v0 n0 (fun _ => 0) 0)) := Lib.hid (Wide.both _ _ _ _ _ _)
  generalize bothR 16 at0 v0 n0 (fun _ => 0) 0 = R at *
  obtain ⟨⟨g, R1⟩, hg⟩ : ∃ r, sg R outerC 3 off size st_ = r := ⟨_, rfl⟩
  have HG := Lib.hid hg
  clear hg
  cases st_ with
  | true =>
    cases g with
    | ok s =>
      have E1 := Lib.hid (show st R outerC 3 off size 5 = ((⟨-1, -1, 0⟩ : FaultS), putN R1 s 5 (s.n0 + s.n1)) from st_ok HG.out)
      have E2 := Lib.hid (show st R (innerC wp) 3 off size 5 = ((⟨-1, -1, 0⟩ : FaultS), putN R1 s 5 (s.n0 + s.n1)) from st_ok (ring_sg HWD.out HO.out HG.out).1)
      have E3 := Lib.hid (show stOf 5 (sy R outerC off size true) = ((⟨-1, -1, 0⟩ : FaultS), putN R1 s 5 (s.n0 + s.n1)) by rw [(ring_sg (wp := wp) HWD.out HO.out HG.out).2]; rfl)
      go_wp2_with fail
      refine (TB.store (cb := c3) (C := outerC) T6.out (VmO.local _ _ _ _) (VmO.local _ _ _ _) (by simp) outer_ok 3 off size HO.out 5 (by decide) (by decide) E1.out).mono ?_
      rintro e w7 ⟨rfl, Tc⟩
      have T7 := Lib.hid ((Tc.alloc (VmO.local _ _ _ _) (VmO.local _ _ _ _) (VmO.local _ _ _ _) (faultO (-1) (-1) 0)).rot)
      clear Tc T6
      go_upto_region 20 with (fail)
      change Code.wp _ _ _ _ (w7.alloc (faultO (-1) (-1) 0))
      generalize w7.alloc (faultO (-1) (-1) 0) = w7x at *
      generalize w7.heap.size = g26 at *
      go_wp2_with fail
      refine (TB.store (cb := c0) (C := (innerC wp)) T7.out (VmO.local _ _ _ _) (VmO.local _ _ _ _) (by simp) (inner_ok wp) 3 off size HO.out 5 (by decide) (by decide) E2.out).mono ?_
      rintro e w8 ⟨rfl, Tc⟩
      have T8 := Lib.hid ((Tc.alloc (VmO.local _ _ _ _) (VmO.local _ _ _ _) (VmO.local _ _ _ _) (faultO (-1) (-1) 0)).rot)
      clear Tc T7
      go_upto_region 21 with (fail)
      change Code.wp _ _ _ _ (w8.alloc (faultO (-1) (-1) 0))
      generalize w8.alloc (faultO (-1) (-1) 0) = w8x at *
      generalize w8.heap.size = g27 at *
      go_wp2_with fail
      refine (TB.setsys (cb := c3) (C := outerC) T8.out (VmO.local _ _ _ _) (VmO.local _ _ _ _) (by simp) outer_ok off size HO.out 5 (by decide) (by decide) E3.out).mono ?_
      rintro e w9 ⟨rfl, Tc⟩
      have T9 := Lib.hid ((Tc.alloc (VmO.local _ _ _ _) (VmO.local _ _ _ _) (VmO.local _ _ _ _) (faultO (-1) (-1) 0)).rot)
      clear Tc T8
      go_upto_region 22 with (fail)
      change Code.wp _ _ _ _ (w9.alloc (faultO (-1) (-1) 0))
      generalize w9.alloc (faultO (-1) (-1) 0) = w9x at *
      generalize w9.heap.size = g28 at *
      have y0 := cell_at (k := 0) (T9.out.get (g := g26) (o := faultO (-1) (-1) 0) (by simp))
      have z0 := heap_lt (T9.out.get (g := g26) (o := faultO (-1) (-1) 0) (by simp))
      have y1 := cell_at (k := 0) (T9.out.get (g := g27) (o := faultO (-1) (-1) 0) (by simp))
      have z1 := heap_lt (T9.out.get (g := g27) (o := faultO (-1) (-1) 0) (by simp))
      have y2 := cell_at (k := 0) (T9.out.get (g := g28) (o := faultO (-1) (-1) 0) (by simp))
      have z2 := heap_lt (T9.out.get (g := g28) (o := faultO (-1) (-1) 0) (by simp))
      simp at y0 y1 y2
      go_wp2_with fail
      go_ret
      exact ⟨rfl, T9.out.1.B⟩
    | no v cd a =>
      have E1 := Lib.hid (show st R outerC 3 off size 5 = ((⟨v, cd, a⟩ : FaultS), R1) from st_no HG.out)
      obtain ⟨⟨⟨v2, cd2, a2⟩, R2⟩, h2⟩ : ∃ r, st R (innerC wp) 3 off size 5 = r := ⟨_, rfl⟩
      obtain ⟨⟨⟨v3, cd3, a3⟩, R3⟩, h3⟩ : ∃ r, stOf 5 (sy R outerC off size true) = r := ⟨_, rfl⟩
      have E2 := Lib.hid h2
      have E3 := Lib.hid h3
      clear h2 h3
      have hv : 0 ≤ v := by rcases sg_vec HG.out with h | h | h <;> omega
      go_wp2_with fail
      refine (TB.store (cb := c3) (C := outerC) T6.out (VmO.local _ _ _ _) (VmO.local _ _ _ _) (by simp) outer_ok 3 off size HO.out 5 (by decide) (by decide) E1.out).mono ?_
      rintro e w7 ⟨rfl, Tc⟩
      have T7 := Lib.hid ((Tc.alloc (VmO.local _ _ _ _) (VmO.local _ _ _ _) (VmO.local _ _ _ _) (faultO v cd a)).rot)
      clear Tc T6
      go_upto_region 20 with (fail)
      change Code.wp _ _ _ _ (w7.alloc (faultO v cd a))
      generalize w7.alloc (faultO v cd a) = w7x at *
      generalize w7.heap.size = g26 at *
      go_wp2_with fail
      refine (TB.store (cb := c0) (C := (innerC wp)) T7.out (VmO.local _ _ _ _) (VmO.local _ _ _ _) (by simp) (inner_ok wp) 3 off size HO.out 5 (by decide) (by decide) E2.out).mono ?_
      rintro e w8 ⟨rfl, Tc⟩
      have T8 := Lib.hid ((Tc.alloc (VmO.local _ _ _ _) (VmO.local _ _ _ _) (VmO.local _ _ _ _) (faultO v2 cd2 a2)).rot)
      clear Tc T7
      go_upto_region 21 with (fail)
      change Code.wp _ _ _ _ (w8.alloc (faultO v2 cd2 a2))
      generalize w8.alloc (faultO v2 cd2 a2) = w8x at *
      generalize w8.heap.size = g27 at *
      go_wp2_with fail
      refine (TB.setsys (cb := c3) (C := outerC) T8.out (VmO.local _ _ _ _) (VmO.local _ _ _ _) (by simp) outer_ok off size HO.out 5 (by decide) (by decide) E3.out).mono ?_
      rintro e w9 ⟨rfl, Tc⟩
      have T9 := Lib.hid ((Tc.alloc (VmO.local _ _ _ _) (VmO.local _ _ _ _) (VmO.local _ _ _ _) (faultO v3 cd3 a3)).rot)
      clear Tc T8
      go_upto_region 22 with (fail)
      change Code.wp _ _ _ _ (w9.alloc (faultO v3 cd3 a3))
      generalize w9.alloc (faultO v3 cd3 a3) = w9x at *
      generalize w9.heap.size = g28 at *
      have y0 := cell_at (k := 0) (T9.out.get (g := g26) (o := faultO v cd a) (by simp))
      have z0 := heap_lt (T9.out.get (g := g26) (o := faultO v cd a) (by simp))
      have y1 := cell_at (k := 0) (T9.out.get (g := g27) (o := faultO v2 cd2 a2) (by simp))
      have z1 := heap_lt (T9.out.get (g := g27) (o := faultO v2 cd2 a2) (by simp))
      have y2 := cell_at (k := 0) (T9.out.get (g := g28) (o := faultO v3 cd3 a3) (by simp))
      have z2 := heap_lt (T9.out.get (g := g28) (o := faultO v3 cd3 a3) (by simp))
      simp at y0 y1 y2
      go_wp2_with fail
      go_ret
      exact ⟨rfl, T9.out.1.B⟩
  | false =>
    cases g with
    | ok s =>
      have E1 := Lib.hid (show ld R outerC 3 off size = ((getN R1 s (s.n0 + s.n1), (⟨-1, -1, 0⟩ : FaultS)), R1) by unfold ld; rw [HG.out]; rfl)
      have E2 := Lib.hid (show ld R (innerC wp) 3 off size = ((getN R1 s (s.n0 + s.n1), (⟨-1, -1, 0⟩ : FaultS)), R1) by unfold ld; rw [(ring_sg (wp := wp) HWD.out HO.out HG.out).1]; rfl)
      have E3 := Lib.hid (show ldOf (sy R outerC off size false) = ((getN R1 s (s.n0 + s.n1), (⟨-1, -1, 0⟩ : FaultS)), R1) by rw [(ring_sg (wp := wp) HWD.out HO.out HG.out).2]; rfl)
      go_wp2_with fail
      refine (TB.load (cb := c3) (C := outerC) T6.out (VmO.local _ _ _ _) (VmO.local _ _ _ _) (by simp) outer_ok 3 off size HO.out (by decide) E1.out).mono ?_
      rintro e w7 ⟨rfl, Tc⟩
      have T7 := Lib.hid ((Tc.alloc (VmO.local _ _ _ _) (VmO.local _ _ _ _) (VmO.local _ _ _ _) (faultO (-1) (-1) 0)).rot)
      clear Tc T6
      go_upto_region 24 with (fail)
      change Code.wp _ _ _ _ (w7.alloc (faultO (-1) (-1) 0))
      generalize w7.alloc (faultO (-1) (-1) 0) = w7x at *
      generalize w7.heap.size = g26 at *
      go_wp2_with fail
      refine (TB.load (cb := c0) (C := (innerC wp)) T7.out (VmO.local _ _ _ _) (VmO.local _ _ _ _) (by simp) (inner_ok wp) 3 off size HO.out (by decide) E2.out).mono ?_
      rintro e w8 ⟨rfl, Tc⟩
      have T8 := Lib.hid ((Tc.alloc (VmO.local _ _ _ _) (VmO.local _ _ _ _) (VmO.local _ _ _ _) (faultO (-1) (-1) 0)).rot)
      clear Tc T7
      go_upto_region 25 with (fail)
      change Code.wp _ _ _ _ (w8.alloc (faultO (-1) (-1) 0))
      generalize w8.alloc (faultO (-1) (-1) 0) = w8x at *
      generalize w8.heap.size = g27 at *
      go_wp2_with fail
      refine (TB.sys (cb := c3) (C := outerC) T8.out (VmO.local _ _ _ _) (VmO.local _ _ _ _) (by simp) outer_ok off size HO.out (by decide) E3.out).mono ?_
      rintro e w9 ⟨rfl, Tc⟩
      have T9 := Lib.hid ((Tc.alloc (VmO.local _ _ _ _) (VmO.local _ _ _ _) (VmO.local _ _ _ _) (faultO (-1) (-1) 0)).rot)
      clear Tc T8
      go_upto_region 26 with (fail)
      change Code.wp _ _ _ _ (w9.alloc (faultO (-1) (-1) 0))
      generalize w9.alloc (faultO (-1) (-1) 0) = w9x at *
      generalize w9.heap.size = g28 at *
      have y0 := cell_at (k := 0) (T9.out.get (g := g26) (o := faultO (-1) (-1) 0) (by simp))
      have z0 := heap_lt (T9.out.get (g := g26) (o := faultO (-1) (-1) 0) (by simp))
      have y1 := cell_at (k := 0) (T9.out.get (g := g27) (o := faultO (-1) (-1) 0) (by simp))
      have z1 := heap_lt (T9.out.get (g := g27) (o := faultO (-1) (-1) 0) (by simp))
      have y2 := cell_at (k := 0) (T9.out.get (g := g28) (o := faultO (-1) (-1) 0) (by simp))
      have z2 := heap_lt (T9.out.get (g := g28) (o := faultO (-1) (-1) 0) (by simp))
      simp at y0 y1 y2
      go_wp2_with fail
      go_ret
      exact ⟨rfl, T9.out.1.B⟩
    | no v cd a =>
      have E1 := Lib.hid (show ld R outerC 3 off size = ((0, (⟨v, cd, a⟩ : FaultS)), R1) by unfold ld; rw [HG.out]; rfl)
      obtain ⟨⟨⟨x2, ⟨v2, cd2, a2⟩⟩, R2⟩, h2⟩ : ∃ r, ld R (innerC wp) 3 off size = r := ⟨_, rfl⟩
      obtain ⟨⟨⟨x3, ⟨v3, cd3, a3⟩⟩, R3⟩, h3⟩ : ∃ r, ldOf (sy R outerC off size false) = r := ⟨_, rfl⟩
      have E2 := Lib.hid h2
      have E3 := Lib.hid h3
      clear h2 h3
      have hv : 0 ≤ v := by rcases sg_vec HG.out with h | h | h <;> omega
      go_wp2_with fail
      refine (TB.load (cb := c3) (C := outerC) T6.out (VmO.local _ _ _ _) (VmO.local _ _ _ _) (by simp) outer_ok 3 off size HO.out (by decide) E1.out).mono ?_
      rintro e w7 ⟨rfl, Tc⟩
      have T7 := Lib.hid ((Tc.alloc (VmO.local _ _ _ _) (VmO.local _ _ _ _) (VmO.local _ _ _ _) (faultO v cd a)).rot)
      clear Tc T6
      go_upto_region 24 with (fail)
      change Code.wp _ _ _ _ (w7.alloc (faultO v cd a))
      generalize w7.alloc (faultO v cd a) = w7x at *
      generalize w7.heap.size = g26 at *
      go_wp2_with fail
      refine (TB.load (cb := c0) (C := (innerC wp)) T7.out (VmO.local _ _ _ _) (VmO.local _ _ _ _) (by simp) (inner_ok wp) 3 off size HO.out (by decide) E2.out).mono ?_
      rintro e w8 ⟨rfl, Tc⟩
      have T8 := Lib.hid ((Tc.alloc (VmO.local _ _ _ _) (VmO.local _ _ _ _) (VmO.local _ _ _ _) (faultO v2 cd2 a2)).rot)
      clear Tc T7
      go_upto_region 25 with (fail)
      change Code.wp _ _ _ _ (w8.alloc (faultO v2 cd2 a2))
      generalize w8.alloc (faultO v2 cd2 a2) = w8x at *
      generalize w8.heap.size = g27 at *
      go_wp2_with fail
      refine (TB.sys (cb := c3) (C := outerC) T8.out (VmO.local _ _ _ _) (VmO.local _ _ _ _) (by simp) outer_ok off size HO.out (by decide) E3.out).mono ?_
      rintro e w9 ⟨rfl, Tc⟩
      have T9 := Lib.hid ((Tc.alloc (VmO.local _ _ _ _) (VmO.local _ _ _ _) (VmO.local _ _ _ _) (faultO v3 cd3 a3)).rot)
      clear Tc T8
      go_upto_region 26 with (fail)
      change Code.wp _ _ _ _ (w9.alloc (faultO v3 cd3 a3))
      generalize w9.alloc (faultO v3 cd3 a3) = w9x at *
      generalize w9.heap.size = g28 at *
      have y0 := cell_at (k := 0) (T9.out.get (g := g26) (o := faultO v cd a) (by simp))
      have z0 := heap_lt (T9.out.get (g := g26) (o := faultO v cd a) (by simp))
      have y1 := cell_at (k := 0) (T9.out.get (g := g27) (o := faultO v2 cd2 a2) (by simp))
      have z1 := heap_lt (T9.out.get (g := g27) (o := faultO v2 cd2 a2) (by simp))
      have y2 := cell_at (k := 0) (T9.out.get (g := g28) (o := faultO v3 cd3 a3) (by simp))
      have z2 := heap_lt (T9.out.get (g := g28) (o := faultO v3 cd3 a3) (by simp))
      simp at y0 y1 y2
      go_wp2_with fail
      go_ret
      exact ⟨rfl, T9.out.1.B⟩
set_option maxRecDepth 100000 in
set_option maxHeartbeats 8000000 in
theorem walk0 (a0 : Option Addr) (n0 c0 : Nat) (at0 v0 : Nat → Nat) (hm : n0 ≤ 9223372036854775807) (w : World) (hW : WordsIn w a0 n0 at0 v0) (off : Nat) (ho : off < 4294967296) (size : Int) (st_ wp : Bool) :
    Calls Try.prog 5 #[.slice a0 n0 c0, .int .u32 (off : Nat), .int .i64 size, .bool st_, .bool wp] w fun e w' => e = .returned (.bool true) ∧ Below w.heap.size w w' := by
  have HW := Lib.hid hW
  have HMX := Lib.hid hm
  have HO := Lib.hid ho
  have hz := fun w => zero83n w
  clear hW hm ho
  go_enter Try.func5, Try.ntmps5
  go_wp2_with fail
  refine (awake16 _).mono ?_
  rintro e w1 ⟨rfl, hb1⟩
  have HN1 := Lib.hid ((NB.start w).below hb1)
  clear hb1
  go_wp2_with fail
  refine (flat_any 3 w1).mono ?_
  rintro e w2 ⟨rfl, hb2⟩
  have HN2 := Lib.hid (((HN1.out.below hb2).alloc (.cells zero83C 38)).setRow (flatC 3).cells.toArray (old := zero83C) (T := 38) (g := w2.heap.size) (by simp) (L' := [(w2.heap.size, cpuO (flatC 3))]) (fun p hp => by simp at hp; exact .inl hp))
  have HX2 := Lib.hid (heap_new w2 (.cells zero83C 38))
  clear hb2 HN1
  go_upto_region 3 with (first | (refine wpList_store_row rfl _ _ _ rfl w2.heap.size (flatC 3).cells.toArray rfl rfl _ _ HX2.out info83 rfl (flat_one 3) ?_))
  generalize (w2.alloc (.cells zero83C 38)).setRow w2.heap.size (flatC 3).cells.toArray = w3 at *
  generalize w2.heap.size = c3 at *
  clear HX2
  go_wp2_with fail
  refine (flat_any 0 w3).mono ?_
  rintro e w4 ⟨rfl, hb4⟩
  have HN4 := Lib.hid (((HN2.out.below hb4).alloc (.cells zero83C 38)).setRow (flatC 0).cells.toArray (old := zero83C) (T := 38) (g := w4.heap.size) (by simp) (L' := [(w4.heap.size, cpuO (flatC 0)), (c3, cpuO (flatC 3))]) (fun p hp => by
    simp only [List.mem_cons, List.not_mem_nil, or_false] at hp
    rcases hp with rfl | rfl
    · exact .inl rfl
    · exact .inr ⟨fun e => by have := heap_lt ((HN2.out.below hb4).get (g := c3) (o := cpuO (flatC 3)) (by simp)); have e' : c3 = w4.heap.size := e; omega, by simp⟩))
  have HNE := Lib.hid (show c3 ≠ w4.heap.size from fun e => by have := heap_lt ((HN2.out.below hb4).get (g := c3) (o := cpuO (flatC 3)) (by simp)); omega)
  have HX4 := Lib.hid (heap_new w4 (.cells zero83C 38))
  clear hb4 HN2
  go_upto_region 4 with (first | (refine wpList_store_row rfl _ _ _ rfl w4.heap.size (flatC 0).cells.toArray rfl rfl _ _ HX4.out info83 rfl (flat_one 0) ?_))
  generalize (w4.alloc (.cells zero83C 38)).setRow w4.heap.size (flatC 0).cells.toArray = w5 at *
  generalize w4.heap.size = c0' at *
  clear HX4 hz
  obtain ⟨p64, p66, pf, pl⟩ := cpu_cells (HN4.out.get (g := c3) (o := cpuO (flatC 3)) (by simp))
  obtain ⟨q64, q66, qf, ql⟩ := cpu_cells (HN4.out.get (g := c0') (o := cpuO (flatC 0)) (by simp))
  have hne := HNE.out
  have hne2 := Ne.symm HNE.out
  cases wp with
  | false =>
    have HC := Lib.hid (set_two HN4.out HNE.out)
    go_upto_region 10 with (fail)
    change Code.wp _ _ _ _ ((((w5.setCell ⟨c3, 64, none⟩ (.int .u32 2147483649)).setCell ⟨c0', 64, none⟩ (.int .u32 2147483649)).setCell ⟨c3, 66, none⟩ (.int .u32 4096)).setCell ⟨c0', 66, none⟩ (.int .u32 4096))
    generalize ((((w5.setCell ⟨c3, 64, none⟩ (.int .u32 2147483649)).setCell ⟨c0', 64, none⟩ (.int .u32 2147483649)).setCell ⟨c3, 66, none⟩ (.int .u32 4096)).setCell ⟨c0', 66, none⟩ (.int .u32 4096)) = w6 at *
    exact rings_tail HC.out HMX.out HW.out HO.out (by assumption)
  | true =>
    have HC := Lib.hid (set_three HN4.out HNE.out)
    have hor : bits .or .u32 2147483649 65536 = 2147549185 := by decide
    go_upto_region 10 with (fail)
    change Code.wp _ _ _ _ (((((w5.setCell ⟨c3, 64, none⟩ (.int .u32 2147483649)).setCell ⟨c0', 64, none⟩ (.int .u32 2147483649)).setCell ⟨c0', 64, none⟩ (.int .u32 2147549185)).setCell ⟨c3, 66, none⟩ (.int .u32 4096)).setCell ⟨c0', 66, none⟩ (.int .u32 4096))
    generalize (((((w5.setCell ⟨c3, 64, none⟩ (.int .u32 2147483649)).setCell ⟨c0', 64, none⟩ (.int .u32 2147483649)).setCell ⟨c0', 64, none⟩ (.int .u32 2147549185)).setCell ⟨c3, 66, none⟩ (.int .u32 4096)).setCell ⟨c0', 66, none⟩ (.int .u32 4096)) = w6 at *
    exact rings_tail HC.out HMX.out HW.out HO.out (by assumption)
theorem walk (w : World) (a0 : Option Addr) (n0 c0 : Nat) (at0 v0 : Nat → Nat) (hm : n0 ≤ 9223372036854775807) (hW : WordsIn w a0 n0 at0 v0) (x1 : Int) (l1 : IntKind.u32.min ≤ x1) (u1 : x1 ≤ IntKind.u32.max) (size : Int) (_ : IntKind.i64.min ≤ size) (_ : size ≤ IntKind.i64.max) (st_ wp : Bool) :
    Calls Try.prog 5 #[.slice a0 n0 c0, .int .u32 x1, .int .i64 size, .bool st_, .bool wp] w fun e w' => e = .returned (.bool true) ∧ Below w.heap.size w w' := by
  obtain ⟨off, h, ho⟩ := cell_n32 (c := .int .u32 x1) ⟨x1, rfl, l1, u1⟩
  rw [h]
  exact walk0 a0 n0 c0 at0 v0 hm w hW off ho size st_ wp

set_option maxRecDepth 100000 in
theorem lifted (os : Os) (started : os.Started) (H : Type) (enc : TypeId × Value → H) :
    ReturnsInHanded {} Try.checked os 5 .any (Rows.vmemRingsSpec.pre6 enc Try.prog Try.f5 Rows.vmemRingsRow.domain false) (Rows.vmemRingsSpec.post enc Try.prog Try.f5 false true false false) := by
  refine returnsInHanded_of_change (C := Try.checked) own started (by kernel_rfl) Try.func5
    (ChangeSpec.witness6 (enc := enc) (C := Try.checked) false ⟨#[], #[.slice none 0 0, .int .u32 0, .int .i64 0, .bool false, .bool false], []⟩ 8 (by kernel_rfl) (by kernel_rfl) (by kernel_rfl) (by kernel_rfl)) ?_
  intro W base args ds gs before hval0 hW hcnd _
  have hval : ∀ (j : Nat) t v, Try.f5.params[j]? = some t → args[j]? = some v → Value.okWide Try.prog W .any base t v := hval0
  have hW' := hW
  obtain ⟨p, q, hA0, hV, rfl, hfz, hnd⟩ := hW
  have hA : DataW.TrodAll enc Try.prog W 0 (fun _ => true) true Try.f5.params.toList args.toList ds p := hA0
  rw [Try.params5] at hA hval
  obtain ⟨v0, vs0, d0, ds0, p0, q0, hargs, rfl, rfl, h0, r0⟩ := trodAll_cons hA
  obtain ⟨v1, vs1, d1, ds1, p1, q1, rfl, rfl, rfl, h1, r1⟩ := trodAll_cons r0
  obtain ⟨v2, vs2, d2, ds2, p2, q2, rfl, rfl, rfl, h2, r2⟩ := trodAll_cons r1
  obtain ⟨v3, vs3, d3, ds3, p3, q3, rfl, rfl, rfl, h3, r3⟩ := trodAll_cons r2
  obtain ⟨v4, vs4, d4, ds4, p4, q4, rfl, rfl, rfl, h4, r4⟩ := trodAll_cons r3
  obtain ⟨rfl, rfl, rfl⟩ := trodAll_nil r4
  obtain rfl : args = #[v0, v1, v2, v3, v4] := by cases args; simp_all
  clear hA0 hval0
  obtain ⟨a0, n0, c0, t0, x0, rfl, m0, J0⟩ := arg_words (hval 0 27 v0 rfl rfl) h0
  obtain ⟨a1, rfl, l1, u1⟩ := arg_int Try.underlying23 (hval 1 23 v1 rfl rfl)
  obtain ⟨a2, rfl, l2, u2⟩ := arg_int Try.underlying3 (hval 2 3 v2 rfl rfl)
  obtain ⟨a3, rfl⟩ := arg_bool Try.underlying4 (hval 3 4 v3 rfl rfl)
  obtain ⟨a4, rfl⟩ := arg_bool Try.underlying4 (hval 4 4 v4 rfl rfl)
  exact law_end (by kernel_rfl) hW' rfl (by kernel_rfl) Try.underlying4 rfl rfl (walk W a0 n0 c0 t0 x0 m0 J0 a1 l1 u1 a2 l2 u2 a3 a4)

theorem proved : Rows.VmemRingsSaid :=
  OpenClaim.holds_of_wide 5 Try.f5 rfl rfl rfl rfl rfl rfl rfl ⟨rfl, rfl, rfl, rfl, rfl⟩ rfl rfl rfl rfl rfl (by kernel_rfl) Try.func5 (by kernel_rfl)
    (of_decide_eq_true (by kernel_rfl)) (by unfold Func.isWrapper; first | (rw [if_pos (by decide +kernel)]; kernel_rfl) | (rw [if_neg (by decide +kernel)]; exact ⟨rfl, rfl⟩))
    (fun os started H enc _ => lifted os started H enc)
#print axioms proved
end Go.Proofs.Ytknokiadbkgmaaa.vmemRings
