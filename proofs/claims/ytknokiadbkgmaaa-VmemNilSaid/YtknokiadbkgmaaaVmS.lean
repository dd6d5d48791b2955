/- vmem: Flat. -/
import Derived.Test.YtknokiadbkgmaaaVmA
import Derived.Deep.MidRow
import Derived.Laws.CopyOwn
namespace Go.Proofs.Ytknokiadbkgmaaa
open Go.RowKit Go.MapKept
set_option linter.unusedVariables false

def flatSeg (sel : Nat) (typ k : Int) : SegR := ⟨sel, false, 0, 4294967295, typ, false, k, true, true⟩
def noSeg : SegR := ⟨0, false, 0, 0, 0, false, 0, false, false⟩
/-- A processor of a ring, with flat segments. -/
def flatC (k : Int) : CpuS :=
  { r := fun _ => 0, eip := 0, flags := 2, seg := fun i => if i = 1 then flatSeg ((8 + k) % 65536).toNat 10 k else flatSeg ((16 + k) % 65536).toNat 2 k, cr0 := 1, cr2 := 0, cr3 := 0, gb := 0, gl := 0, ib := 0, il := 0, tr := noSeg, shadow := false, halted := false, dead := false }
theorem wrap_sel (k m : Int) : IntKind.u16.wrap (m + IntKind.u16.wrap k) = (((m + k) % 65536).toNat : Int) := by
  rw [IntKind.wrap_u16, IntKind.wrap_u16]; omega
theorem info83 : (Try.prog.info? 38).map (·.size) = some 83 := by kernel_rfl
def zero83C : Array Value := #[.int .u32 0, .int .u32 0, .int .u32 0, .int .u32 0, .int .u32 0, .int .u32 0, .int .u32 0, .int .u32 0, .int .u32 0, .int .u32 0, .int .u16 0, .bool false, .int .u32 0, .int .u32 0, .int .i64 0, .bool false, .int .i64 0, .bool false, .bool false, .int .u16 0, .bool false, .int .u32 0, .int .u32 0, .int .i64 0, .bool false, .int .i64 0, .bool false, .bool false, .int .u16 0, .bool false, .int .u32 0, .int .u32 0, .int .i64 0, .bool false, .int .i64 0, .bool false, .bool false, .int .u16 0, .bool false, .int .u32 0, .int .u32 0, .int .i64 0, .bool false, .int .i64 0, .bool false, .bool false, .int .u16 0, .bool false, .int .u32 0, .int .u32 0, .int .i64 0, .bool false, .int .i64 0, .bool false, .bool false, .int .u16 0, .bool false, .int .u32 0, .int .u32 0, .int .i64 0, .bool false, .int .i64 0, .bool false, .bool false, .int .u32 0, .int .u32 0, .int .u32 0, .int .u32 0, .int .u16 0, .int .u32 0, .int .u16 0, .int .u16 0, .bool false, .int .u32 0, .int .u32 0, .int .i64 0, .bool false, .int .i64 0, .bool false, .bool false, .bool false, .bool false, .bool false]
set_option maxRecDepth 100000 in
theorem zero83 (w : World) : (zeroValue 38).run Try.prog w = .ok (.agg #[.int .u32 0, .int .u32 0, .int .u32 0, .int .u32 0, .int .u32 0, .int .u32 0, .int .u32 0, .int .u32 0, .int .u32 0, .int .u32 0, .int .u16 0, .bool false, .int .u32 0, .int .u32 0, .int .i64 0, .bool false, .int .i64 0, .bool false, .bool false, .int .u16 0, .bool false, .int .u32 0, .int .u32 0, .int .i64 0, .bool false, .int .i64 0, .bool false, .bool false, .int .u16 0, .bool false, .int .u32 0, .int .u32 0, .int .i64 0, .bool false, .int .i64 0, .bool false, .bool false, .int .u16 0, .bool false, .int .u32 0, .int .u32 0, .int .i64 0, .bool false, .int .i64 0, .bool false, .bool false, .int .u16 0, .bool false, .int .u32 0, .int .u32 0, .int .i64 0, .bool false, .int .i64 0, .bool false, .bool false, .int .u16 0, .bool false, .int .u32 0, .int .u32 0, .int .i64 0, .bool false, .int .i64 0, .bool false, .bool false, .int .u32 0, .int .u32 0, .int .u32 0, .int .u32 0, .int .u16 0, .int .u32 0, .int .u16 0, .int .u16 0, .bool false, .int .u32 0, .int .u32 0, .int .i64 0, .bool false, .int .i64 0, .bool false, .bool false, .bool false, .bool false, .bool false]) w := by kernel_rfl
set_option maxRecDepth 100000 in
theorem flat_one (k : Int) : (flatC k).cells.toArray.all (·.oneCell') = true := by kernel_rfl
set_option maxRecDepth 100000 in
set_option maxHeartbeats 4000000 in
theorem flat_any (ring : Int) (w : World) :
    Calls Try.prog 10 #[.int .i64 ring] w fun e w' => e = .returned (.agg (flatC (ring.tmod 4)).cells.toArray) ∧ Below w.heap.size w w' := by
  generalize hk : ring.tmod 4 = k
  have hz := fun w => zero83 w
  go_enter Try.func10, Try.ntmps10
  go_wp2_with fail
  refine wp_loop_rounds 7 ?_
  rw [rounds_succ]
  go_wp2_with fail
  rw [rounds_succ]
  go_wp2_with fail
  rw [rounds_succ]
  go_wp2_with fail
  rw [rounds_succ]
  go_wp2_with fail
  rw [rounds_succ]
  go_wp2_with fail
  rw [rounds_succ]
  go_wp2_with fail
  rw [rounds_succ]
  go_upto_region 12 with (fail)
  rw [hk] at *
  simp only [wrap_sel]
  have hc := heap_alloc_lt (o' := .cells #[.int .u32 0, .int .u32 4294967295, .int .i64 2, .bool false, .int .i64 k, .bool true, .bool true] 31) (heap_alloc_lt (o' := .cells #[.int .u32 0, .int .u32 4294967295, .int .i64 10, .bool false, .int .i64 k, .bool true, .bool true] 31) (heap_new (w.alloc (.cells zero83C 38)) (.cells (flatC k).cells.toArray 38)))
  have hr := heap_alloc_lt (o' := .cells #[.int .u32 0, .int .u32 4294967295, .int .i64 2, .bool false, .int .i64 k, .bool true, .bool true] 31) (heap_alloc_lt (o' := .cells #[.int .u32 0, .int .u32 4294967295, .int .i64 10, .bool false, .int .i64 k, .bool true, .bool true] 31) (heap_alloc_lt (o' := .cells (flatC k).cells.toArray 38) (heap_new w (.cells zero83C 38))))
  have hb : Below w.heap.size w ((((w.alloc (.cells zero83C 38)).alloc (.cells (flatC k).cells.toArray 38)).alloc (.cells #[.int .u32 0, .int .u32 4294967295, .int .i64 10, .bool false, .int .i64 k, .bool true, .bool true] 31)).alloc (.cells #[.int .u32 0, .int .u32 4294967295, .int .i64 2, .bool false, .int .i64 k, .bool true, .bool true] 31)) := ((((Below.refl _ _).alloc (Nat.le_refl _) _).alloc (by simp) _).alloc (by simp; omega) _).alloc (by simp; omega) _
  change Code.wp _ _ _ _ ((((w.alloc (.cells zero83C 38)).alloc (.cells (flatC k).cells.toArray 38)).alloc (.cells #[.int .u32 0, .int .u32 4294967295, .int .i64 10, .bool false, .int .i64 k, .bool true, .bool true] 31)).alloc (.cells #[.int .u32 0, .int .u32 4294967295, .int .i64 2, .bool false, .int .i64 k, .bool true, .bool true] 31))
  simp only [show (w.alloc (.cells zero83C 38)).heap.size = w.heap.size + 1 by simp] at hc
  have HB := Lib.hid hb
  have HC := Lib.hid hc
  have HR := Lib.hid hr
  clear hb hc hr hz
  generalize (((w.alloc (.cells zero83C 38)).alloc (.cells (flatC k).cells.toArray 38)).alloc (.cells #[.int .u32 0, .int .u32 4294967295, .int .i64 10, .bool false, .int .i64 k, .bool true, .bool true] 31)).alloc (.cells #[.int .u32 0, .int .u32 4294967295, .int .i64 2, .bool false, .int .i64 k, .bool true, .bool true] 31) = W at *
  go_wp2_with (first | (refine wpList_load_row rfl _ _ rfl (w.heap.size + 1) rfl _ _ _ _ HC.out Try.underlying38 rfl info83 ?_) | (refine wpList_store_row rfl _ _ _ rfl w.heap.size (flatC k).cells.toArray rfl rfl _ _ HR.out info83 rfl (flat_one k) ?_))
  refine bodyPost_ret (v := .agg (flatC k).cells.toArray) (results_cell_row rfl _ _ w.heap.size _ _ _ _ rfl (setRow_heap W _ _ _ _ _ HR.out) Try.underlying38 rfl info83) rfl ⟨rfl, ?_⟩
  exact below_setRow HB.out (Nat.le_refl _) _
end Go.Proofs.Ytknokiadbkgmaaa
