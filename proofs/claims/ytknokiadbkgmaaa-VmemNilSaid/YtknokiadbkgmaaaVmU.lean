/- vmem: the head of all statements. -/
import Derived.Test.YtknokiadbkgmaaaVmT
namespace Go.Proofs.Ytknokiadbkgmaaa
open Go.RowKit Go.MapKept
set_option linter.unusedVariables false

def seg7 : SegR := ⟨16, false, 0, 7, 2, false, 0, true, true⟩
/-- Flat segments, but one that ends at 7. -/
def cpu7 : CpuS := { flatC 0 with seg := fun i => if i = 3 then seg7 else (flatC 0).seg i }
theorem cpu7_ok : cpu7.ok := by
  have h := flat_ok 0 (by decide) (by decide)
  have hs : ∀ i, (cpu7.seg i).ok := fun i => by
    show (if i = 3 then seg7 else (flatC 0).seg i).ok
    split
    · exact ⟨(show (16 : Nat) < 65536 by decide), z32, (show (7 : Nat) < 4294967296 by decide), (show (-9223372036854775808 : Int) ≤ 2 ∧ (2 : Int) ≤ 9223372036854775807 by decide), zi⟩
    · exact h.seg i
  exact ⟨h.r, h.eip, h.flags, hs, h.cr0, h.cr2, h.cr3, h.gb, h.gl, h.ib, h.il, h.tr⟩
theorem cpu7_cells : (flatC 0).cells.toArray.setIfInBounds 40 (.int .u32 7) = cpu7.cells.toArray := by kernel_rfl
def aw0 : RS := bothR 16 (fun _ => 0) (fun _ => 0) 0 (fun _ => 0) 0
def aw1 : RS := (st aw0 cpu7 3 4 4 16909060).2
theorem aw_a : (st aw0 cpu7 3 4 4 16909060).1 = noF := by kernel_rfl
theorem aw_b : ld aw1 cpu7 3 4 4 = ((16909060, noF), aw1) := by kernel_rfl
theorem aw_c : ld aw1 cpu7 3 5 4 = ((0, ⟨13, 0, 0⟩), aw1) := by kernel_rfl
theorem aw_d : ld aw1 cpu7 2 4294967295 2 = ((0, ⟨12, 0, 0⟩), aw1) := by kernel_rfl
set_option maxRecDepth 100000 in
theorem zero83n (w : World) : (zeroValue 38).run Try.prog w = .ok (.agg zero83C) w := zero83 w
theorem pair_of {α β : Type} {r : α × β} {a : α} (h : r.1 = a) : r = (a, r.2) := by rw [← h]
set_option maxRecDepth 100000 in
set_option maxHeartbeats 8000000 in
theorem awake16 (w : World) : Calls Try.prog 8 #[] w fun e w' => e = .returned (.bool true) ∧ Below w.heap.size w w' := by
  have E1 := Lib.hid (show st aw0 cpu7 3 4 4 16909060 = ((⟨-1, -1, 0⟩ : FaultS), aw1) from pair_of aw_a)
  have E2 := Lib.hid (show ld aw1 cpu7 3 4 4 = ((16909060, (⟨-1, -1, 0⟩ : FaultS)), aw1) from aw_b)
  have E3 := Lib.hid aw_c
  have E4 := Lib.hid aw_d
  have hz := fun w => zero83n w
  go_enter Try.func8, Try.ntmps8
  go_wp2_with fail
  refine (both_any w 16 none 0 0 (fun _ => 0) (fun _ => 0) (.inl rfl) none 0 0 (fun _ => 0) (.inl rfl) (by decide) (by decide)).mono ?_
  rintro e w1 ⟨b, S, b', S', rfl, T⟩
  have T1 := Lib.hid (tri_two T)
  clear T
  go_wp2_with fail
  refine (tri_vnew T1.out Nothing.local Nothing.local (Wide.both _ _ _ _ _ _) 4 (by decide) 4 rfl).mono ?_
  rintro e w2 ⟨vb, rfl, T2⟩
  have HT2 := Lib.hid T2
  clear T1 T2
  go_wp2_with fail
  refine (flat_any 0 w2).mono ?_
  rintro e w3 ⟨rfl, hb3⟩
  have HT3 := Lib.hid (HT2.out.below (VmO.local _ _ _ _) Nothing.local Nothing.local hb3)
  clear hb3 HT2
  have hx := heap_new w3 (.cells zero83C 38)
  have HX := Lib.hid hx
  have hb4 : Below w3.heap.size w3 (((w3.alloc (.cells zero83C 38)).setRow w3.heap.size (flatC 0).cells.toArray).setCell ⟨w3.heap.size, 40, none⟩ (.int .u32 7)) := (below_setRow ((Below.refl _ _).alloc (Nat.le_refl _) _) (Nat.le_refl _) _).setCell (Nat.le_refl _) _
  have hx4 : (((w3.alloc (.cells zero83C 38)).setRow w3.heap.size (flatC 0).cells.toArray).setCell ⟨w3.heap.size, 40, none⟩ (.int .u32 7)).heap[w3.heap.size]? = some (.cells cpu7.cells.toArray 38) := by
    rw [heap_set_same _ (setRow_heap _ _ _ _ _ _ hx), cpu7_cells]
  have HB4 := Lib.hid hb4
  have HX4 := Lib.hid hx4
  have HR := Lib.hid (setRow_heap _ w3.heap.size _ (flatC 0).cells.toArray _ _ hx)
  have c40 : ((w3.alloc (.cells zero83C 38)).setRow w3.heap.size (flatC 0).cells.toArray).cell? ⟨w3.heap.size, 40, none⟩ = some (.int .u32 4294967295) := by rw [cell_at HR.out]; rfl
  have f40 : ∀ k, ((w3.alloc (.cells zero83C 38)).setRow w3.heap.size (flatC 0).cells.toArray).frozen? ⟨w3.heap.size, k, none⟩ = false := fun k => free_at HR.out
  clear hb4 hx4 hx
  go_upto_region 7 with (first | (refine wpList_store_row rfl _ _ _ rfl w3.heap.size (flatC 0).cells.toArray rfl rfl _ _ HX.out info83 rfl (flat_one 0) ?_))
  have HT5 := Lib.hid (HT3.out.boxes (VmO.local _ _ _ _) Nothing.local Nothing.local HB4.out (F' := (· = w3.heap.size)) (fun k h => .inr ⟨by omega, by have := heap_lt HX4.out; omega⟩))
  clear HR c40 f40 HB4 HX HT3
  generalize ((w3.alloc (.cells zero83C 38)).setRow w3.heap.size (flatC 0).cells.toArray).setCell ⟨w3.heap.size, 40, none⟩ (.int .u32 7) = w5 at *
  generalize hG : w3.heap.size = cb at *
  clear hG hz
  have HC := Lib.hid (CpuAt.of_block cpu7_ok HX4.out)
  clear HX4
  go_wp2_with fail
  refine (tri_store (cb := cb) (wF := w5) HT5.out Nothing.local Nothing.local rfl HC.out 3 4 4 (by decide) 16909060 (by decide) (by decide) E1.out).mono ?_
  rintro e w6 ⟨rfl, T6⟩
  have HT6 := Lib.hid T6
  clear T6 HT5
  go_upto_region 8 with (fail)
  have HCn := Lib.hid ((HT6.out.cpu rfl HC.out).below ((Below.refl _ _).alloc (Nat.le_refl _) (.cells #[.int .i64 (-1), .int .i64 (-1), .int .u32 0] 25)))
  have HTn := Lib.hid (tri_box HT6.out (VmO.local _ _ _ _) Nothing.local Nothing.local (.cells #[.int .i64 (-1), .int .i64 (-1), .int .u32 0] 25))
  have Xn := Lib.hid (heap_new w6 (.cells #[.int .i64 (-1), .int .i64 (-1), .int .u32 0] 25))
  clear HC HT6
  generalize hW : w6.alloc (.cells #[.int .i64 (-1), .int .i64 (-1), .int .u32 0] 25) = w6x at *
  generalize hG : w6.heap.size = g6 at *
  clear hW hG
  have HC := Lib.hid HCn.out
  have HTa := Lib.hid HTn.out
  have Xg6 := Lib.hid Xn.out
  clear HCn HTn Xn
  go_wp2_with fail
  refine (tri_load (cb := cb) HTa.out Nothing.local Nothing.local (by simp) HC.out 3 4 4 (by decide) (by decide) E2.out).mono ?_
  rintro e w7 ⟨rfl, T⟩
  have HTb := Lib.hid T
  clear T
  go_upto_region 9 with (fail)
  have Yg6 := Lib.hid (heap_alloc_lt (o' := (.cells #[.int .i64 (-1), .int .i64 (-1), .int .u32 0] 25)) ((HTb.out.box (by simp)).trans Xg6.out))
  have HCn := Lib.hid ((HTb.out.cpu (by simp) HC.out).below ((Below.refl _ _).alloc (Nat.le_refl _) (.cells #[.int .i64 (-1), .int .i64 (-1), .int .u32 0] 25)))
  have HTn := Lib.hid (tri_box HTb.out (VmO.local _ _ _ _) Nothing.local Nothing.local (.cells #[.int .i64 (-1), .int .i64 (-1), .int .u32 0] 25))
  have Xn := Lib.hid (heap_new w7 (.cells #[.int .i64 (-1), .int .i64 (-1), .int .u32 0] 25))
  clear HTa HC Xg6 HTb
  generalize hW : w7.alloc (.cells #[.int .i64 (-1), .int .i64 (-1), .int .u32 0] 25) = w7x at *
  generalize hG : w7.heap.size = g7 at *
  clear hW hG
  have HC := Lib.hid HCn.out
  have HTa := Lib.hid HTn.out
  have Xg7 := Lib.hid Xn.out
  have Xg6 := Lib.hid Yg6.out
  clear HCn HTn Xn Yg6
  go_wp2_with fail
  refine (tri_load (cb := cb) HTa.out Nothing.local Nothing.local (by simp) HC.out 3 5 4 (by decide) (by decide) E3.out).mono ?_
  rintro e w8 ⟨rfl, T⟩
  have HTb := Lib.hid T
  clear T
  go_upto_region 10 with (fail)
  have Yg6 := Lib.hid (heap_alloc_lt (o' := (.cells #[.int .i64 (13), .int .i64 (0), .int .u32 0] 25)) ((HTb.out.box (by simp)).trans Xg6.out))
  have Yg7 := Lib.hid (heap_alloc_lt (o' := (.cells #[.int .i64 (13), .int .i64 (0), .int .u32 0] 25)) ((HTb.out.box (by simp)).trans Xg7.out))
  have HCn := Lib.hid ((HTb.out.cpu (by simp) HC.out).below ((Below.refl _ _).alloc (Nat.le_refl _) (.cells #[.int .i64 (13), .int .i64 (0), .int .u32 0] 25)))
  have HTn := Lib.hid (tri_box HTb.out (VmO.local _ _ _ _) Nothing.local Nothing.local (.cells #[.int .i64 (13), .int .i64 (0), .int .u32 0] 25))
  have Xn := Lib.hid (heap_new w8 (.cells #[.int .i64 (13), .int .i64 (0), .int .u32 0] 25))
  clear HTa HC Xg6 Xg7 HTb
  generalize hW : w8.alloc (.cells #[.int .i64 (13), .int .i64 (0), .int .u32 0] 25) = w8x at *
  generalize hG : w8.heap.size = g8 at *
  clear hW hG
  have HC := Lib.hid HCn.out
  have HTa := Lib.hid HTn.out
  have Xg8 := Lib.hid Xn.out
  have Xg6 := Lib.hid Yg6.out
  have Xg7 := Lib.hid Yg7.out
  clear HCn HTn Xn Yg6 Yg7
  go_wp2_with fail
  refine (tri_load (cb := cb) HTa.out Nothing.local Nothing.local (by simp) HC.out 2 4294967295 2 (by decide) (by decide) E4.out).mono ?_
  rintro e w9 ⟨rfl, T⟩
  have HTb := Lib.hid T
  clear T
  go_upto_region 11 with (fail)
  have Yg6 := Lib.hid (heap_alloc_lt (o' := (.cells #[.int .i64 (12), .int .i64 (0), .int .u32 0] 25)) ((HTb.out.box (by simp)).trans Xg6.out))
  have Yg7 := Lib.hid (heap_alloc_lt (o' := (.cells #[.int .i64 (12), .int .i64 (0), .int .u32 0] 25)) ((HTb.out.box (by simp)).trans Xg7.out))
  have Yg8 := Lib.hid (heap_alloc_lt (o' := (.cells #[.int .i64 (12), .int .i64 (0), .int .u32 0] 25)) ((HTb.out.box (by simp)).trans Xg8.out))
  have HCn := Lib.hid ((HTb.out.cpu (by simp) HC.out).below ((Below.refl _ _).alloc (Nat.le_refl _) (.cells #[.int .i64 (12), .int .i64 (0), .int .u32 0] 25)))
  have HTn := Lib.hid (tri_box HTb.out (VmO.local _ _ _ _) Nothing.local Nothing.local (.cells #[.int .i64 (12), .int .i64 (0), .int .u32 0] 25))
  have Xn := Lib.hid (heap_new w9 (.cells #[.int .i64 (12), .int .i64 (0), .int .u32 0] 25))
  clear HTa HC Xg6 Xg7 Xg8 HTb
  generalize hW : w9.alloc (.cells #[.int .i64 (12), .int .i64 (0), .int .u32 0] 25) = w9x at *
  generalize hG : w9.heap.size = g9 at *
  clear hW hG
  have HC := Lib.hid HCn.out
  have HTa := Lib.hid HTn.out
  have Xg9 := Lib.hid Xn.out
  have Xg6 := Lib.hid Yg6.out
  have Xg7 := Lib.hid Yg7.out
  have Xg8 := Lib.hid Yg8.out
  clear HCn HTn Xn Yg6 Yg7 Yg8
  have g60 := cell_at (k := 0) Xg6.out
  have g61 := cell_at (k := 1) Xg6.out
  have g62 := cell_at (k := 2) Xg6.out
  have g6l := heap_lt Xg6.out
  have g70 := cell_at (k := 0) Xg7.out
  have g71 := cell_at (k := 1) Xg7.out
  have g72 := cell_at (k := 2) Xg7.out
  have g7l := heap_lt Xg7.out
  have g80 := cell_at (k := 0) Xg8.out
  have g81 := cell_at (k := 1) Xg8.out
  have g82 := cell_at (k := 2) Xg8.out
  have g8l := heap_lt Xg8.out
  have g90 := cell_at (k := 0) Xg9.out
  have g91 := cell_at (k := 1) Xg9.out
  have g92 := cell_at (k := 2) Xg9.out
  have g9l := heap_lt Xg9.out
  simp at g60 g61 g62 g70 g71 g72 g80 g81 g82 g90 g91 g92
  go_wp2_with fail
  go_ret
  exact ⟨rfl, HTa.out.B.alloc HTa.out.B.size _⟩
end Go.Proofs.Ytknokiadbkgmaaa
