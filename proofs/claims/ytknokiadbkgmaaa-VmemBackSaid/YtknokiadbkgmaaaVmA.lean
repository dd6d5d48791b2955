/- vmem, in plain words: a processor's state and its cells; where bytes lie. -/
import Derived.Test.YtknokiadbkgmaaaTlbC
namespace Go.Proofs.Ytknokiadbkgmaaa
open Go.RowKit
set_option linter.unusedVariables false

/-- A segment register. -/
structure SegR where
  sel : Nat
  nul : Bool
  base : Nat
  lim : Nat
  typ : Int
  sys : Bool
  dpl : Int
  pre : Bool
  big : Bool
def SegR.cells (s : SegR) : List Value := [.int .u16 (s.sel : Nat), .bool s.nul, .int .u32 (s.base : Nat), .int .u32 (s.lim : Nat), .int .i64 s.typ, .bool s.sys, .int .i64 s.dpl, .bool s.pre, .bool s.big]
/-- A processor's state. -/
structure CpuS where
  r : Nat → Nat
  eip : Nat
  flags : Nat
  seg : Nat → SegR
  cr0 : Nat
  cr2 : Nat
  cr3 : Nat
  gb : Nat
  gl : Nat
  ib : Nat
  il : Nat
  tr : SegR
  shadow : Bool
  halted : Bool
  dead : Bool
def regCells (r : Nat → Nat) : List Value := [.int .u32 (r 0 : Nat), .int .u32 (r 1 : Nat), .int .u32 (r 2 : Nat), .int .u32 (r 3 : Nat), .int .u32 (r 4 : Nat), .int .u32 (r 5 : Nat), .int .u32 (r 6 : Nat), .int .u32 (r 7 : Nat)]
def CpuS.cells (c : CpuS) : List Value :=
  regCells c.r ++ [.int .u32 (c.eip : Nat), .int .u32 (c.flags : Nat)] ++ ((c.seg 0).cells ++ (c.seg 1).cells ++ (c.seg 2).cells ++ (c.seg 3).cells ++ (c.seg 4).cells ++ (c.seg 5).cells) ++
    [.int .u32 (c.cr0 : Nat), .int .u32 (c.cr2 : Nat), .int .u32 (c.cr3 : Nat), .int .u32 (c.gb : Nat), .int .u16 (c.gl : Nat), .int .u32 (c.ib : Nat), .int .u16 (c.il : Nat)] ++ c.tr.cells ++ [.bool c.shadow, .bool c.halted, .bool c.dead]
structure SegR.ok (s : SegR) : Prop where
  sel : s.sel < 65536
  base : s.base < 4294967296
  lim : s.lim < 4294967296
  typ : -9223372036854775808 ≤ s.typ ∧ s.typ ≤ 9223372036854775807
  dpl : -9223372036854775808 ≤ s.dpl ∧ s.dpl ≤ 9223372036854775807
structure CpuS.ok (c : CpuS) : Prop where
  r : ∀ i, c.r i < 4294967296
  eip : c.eip < 4294967296
  flags : c.flags < 4294967296
  seg : ∀ i, (c.seg i).ok
  cr0 : c.cr0 < 4294967296
  cr2 : c.cr2 < 4294967296
  cr3 : c.cr3 < 4294967296
  gb : c.gb < 4294967296
  gl : c.gl < 65536
  ib : c.ib < 4294967296
  il : c.il < 65536
  tr : c.tr.ok
/-- A processor's state at the head of a block. -/
def CpuAt (w : World) (b : Nat) (c : CpuS) : Prop := c.ok ∧ ∃ rest T, w.heap[b]? = some (.cells (c.cells ++ rest).toArray T (0, 0))
theorem CpuAt.of_heap {w w' : World} {b : Nat} {c : CpuS} (h : CpuAt w b c) (e : w'.heap[b]? = w.heap[b]?) : CpuAt w' b c := by
  obtain ⟨ok, rest, T, hb⟩ := h
  exact ⟨ok, rest, T, by rw [e]; exact hb⟩
theorem CpuAt.lt {w : World} {b : Nat} {c : CpuS} (h : CpuAt w b c) : b < w.heap.size := by
  obtain ⟨ok, rest, T, hb⟩ := h
  exact heap_lt hb
theorem CpuAt.below {w w' : World} {b : Nat} {c : CpuS} (h : CpuAt w b c) (hb : Below w.heap.size w w') : CpuAt w' b c := h.of_heap (hb.block b h.lt)
theorem CpuAt.free {w : World} {b : Nat} {c : CpuS} (h : CpuAt w b c) (k : Nat) : w.frozen? ⟨b, k, none⟩ = false := by
  obtain ⟨ok, rest, T, hb⟩ := h
  exact free_at hb
theorem CpuS.cells_len (c : CpuS) : c.cells.length = 83 := rfl
theorem CpuAt.cell {w : World} {b : Nat} {c : CpuS} (h : CpuAt w b c) (k : Nat) (hk : k < 83) : w.cell? ⟨b, k, none⟩ = c.cells[k]? := by
  obtain ⟨ok, rest, T, hb⟩ := h
  rw [cell_at hb]
  simp only [List.getElem?_toArray]
  rw [List.getElem?_append_left (by rw [c.cells_len]; exact hk)]
/-- The paging words. -/
theorem CpuAt.cr {w : World} {b : Nat} {c : CpuS} (h : CpuAt w b c) : w.cell? ⟨b, 64, none⟩ = some (.int .u32 (c.cr0 : Nat)) ∧ w.cell? ⟨b, 66, none⟩ = some (.int .u32 (c.cr3 : Nat)) ∧ w.cell? ⟨b, 19, none⟩ = some (.int .u16 ((c.seg 1).sel : Nat)) ∧ b < w.heap.size :=
  ⟨(h.cell 64 (by decide)).trans rfl, (h.cell 66 (by decide)).trans rfl, (h.cell 19 (by decide)).trans rfl, h.lt⟩
set_option maxHeartbeats 2000000 in
/-- A segment register's cells. -/
theorem CpuAt.segAt {w : World} {b : Nat} {c : CpuS} (h : CpuAt w b c) (i : Nat) (hi : i < 6) :
    w.cell? ⟨b, 10 + i * 9, none⟩ = some (.int .u16 ((c.seg i).sel : Nat)) ∧ w.cell? ⟨b, 10 + i * 9 + 1, none⟩ = some (.bool (c.seg i).nul) ∧ w.cell? ⟨b, 10 + i * 9 + 2, none⟩ = some (.int .u32 ((c.seg i).base : Nat)) ∧ w.cell? ⟨b, 10 + i * 9 + 3, none⟩ = some (.int .u32 ((c.seg i).lim : Nat)) ∧
      w.cell? ⟨b, 10 + i * 9 + 4, none⟩ = some (.int .i64 (c.seg i).typ) ∧ w.cell? ⟨b, 10 + i * 9 + 5, none⟩ = some (.bool (c.seg i).sys) ∧ w.cell? ⟨b, 10 + i * 9 + 6, none⟩ = some (.int .i64 (c.seg i).dpl) ∧ w.cell? ⟨b, 10 + i * 9 + 7, none⟩ = some (.bool (c.seg i).pre) ∧ w.cell? ⟨b, 10 + i * 9 + 8, none⟩ = some (.bool (c.seg i).big) := by
  rcases (show i = 0 ∨ i = 1 ∨ i = 2 ∨ i = 3 ∨ i = 4 ∨ i = 5 by omega) with rfl | rfl | rfl | rfl | rfl | rfl <;>
    exact ⟨(h.cell _ (by decide)).trans (by kernel_rfl), (h.cell _ (by decide)).trans (by kernel_rfl), (h.cell _ (by decide)).trans (by kernel_rfl), (h.cell _ (by decide)).trans (by kernel_rfl), (h.cell _ (by decide)).trans (by kernel_rfl), (h.cell _ (by decide)).trans (by kernel_rfl), (h.cell _ (by decide)).trans (by kernel_rfl), (h.cell _ (by decide)).trans (by kernel_rfl), (h.cell _ (by decide)).trans (by kernel_rfl)⟩
/-- Bytes in at most two pages. -/
structure SpanS where
  a0 : Nat
  a1 : Nat
  n0 : Nat
  n1 : Nat
def SpanS.val (s : SpanS) : Value := .agg #[.int .u32 (s.a0 : Nat), .int .u32 (s.a1 : Nat), .int .u32 (s.n0 : Nat), .int .u32 (s.n1 : Nat)]
def first (lin size : Nat) : Nat := min size (4096 - lin % 4096)
def lin2 (lin size : Nat) : Nat := (lin + first lin size) % 4294967296
def CpuS.paged (c : CpuS) : Bool := c.cr0 / 2147483648 % 2 == 1
def CpuS.wp (c : CpuS) : Bool := c.cr0 / 65536 % 2 == 1
def CpuS.user (c : CpuS) : Bool := (c.seg 1).sel % 4 == 3
/-- Where bytes lie: a fault (its code, where it is), or the places; what is left of memory. -/
inductive PgR where
  | ok (s : SpanS)
  | fault (cd : Int) (at_ : Nat)
def onPage (frame lin : Nat) : Nat := frame + lin % 4096
/-- The second page. -/
def pg2 (c : CpuS) (lin size : Nat) (wr us : Bool) (a0 : Nat) (r : WalkR × Int × RS) : PgR × RS :=
  if 0 ≤ r.2.1 then (.fault r.2.1 (lin2 lin size), r.2.2) else (.ok ⟨a0, onPage r.1.frame (lin2 lin size), first lin size, size - first lin size⟩, r.2.2)
/-- The first page. -/
def pg1 (c : CpuS) (lin size : Nat) (wr us : Bool) (r : WalkR × Int × RS) : PgR × RS :=
  if 0 ≤ r.2.1 then (.fault r.2.1 lin, r.2.2) else
  if size = first lin size then (.ok ⟨onPage r.1.frame lin, lin2 lin size, first lin size, 0⟩, r.2.2) else
  pg2 c lin size wr us (onPage r.1.frame lin) (find r.2.2 c.cr3 (lin2 lin size) wr us c.wp)
def pg (R : RS) (c : CpuS) (lin size : Nat) (wr us : Bool) : PgR × RS :=
  if c.paged then pg1 c lin size wr us (find R c.cr3 lin wr us c.wp) else (.ok ⟨lin, lin2 lin size, first lin size, size - first lin size⟩, R)
theorem first_pos (lin size : Nat) (h : 0 < size) : 0 < first lin size := by unfold first; omega
theorem first_le (lin size : Nat) : first lin size ≤ size := by unfold first; omega
theorem frame_page {R : RS} {c lin : Nat} {wr us wp : Bool} {x : WalkR} {cd : Int} {R' : RS} (hf : find R c lin wr us wp = (x, cd, R')) : x.frame % 4096 = 0 := by
  unfold find at hf
  split at hf
  · obtain ⟨rfl, _⟩ := Prod.mk.inj hf; rfl
  · split at hf
    · obtain ⟨rfl, _⟩ := Prod.mk.inj hf; rfl
    · simp only at hf
      split at hf
      · obtain ⟨rfl, _⟩ := Prod.mk.inj hf; rfl
      · obtain ⟨rfl, _⟩ := Prod.mk.inj hf
        show _ / 4096 * 4096 % 4096 = 0
        omega
end Go.Proofs.Ytknokiadbkgmaaa
