/- Steps of a proof: VmA, VmB, Sep, Tri, VmC, VmD, together. -/
import Derived.Test.YtmpcafdgkbpneaaGreatS7
import Derived.Recover
import Derived.Laws.Pointers
import Derived.Test.YtmpcafdgkbpneaaGreatS1
import Derived.Deep.RegionWith
import Derived.LoopN
/- vmem, in plain words: a processor's state and its cells; where bytes lie. -/
set_option maxHeartbeats 4000000
namespace Go.Proofs.YtmpcafdgkbpneaaGreat
open Go.RowKit
set_option linter.unusedVariables false

structure SegR where
 sel : Nat
 nul : Bool
 base : Nat
 lim : Nat
 typ : Int
 sys : Bool
 dpl : Int
 pre : Bool
 big : Bool
def SegR.cells (s : SegR) : List Value := [.int .u16 (s.sel : Nat), .bool s.nul, .int .u32 (s.base : Nat), .int .u32 (s.lim : Nat), .int .i64 s.typ, .bool s.sys, .int .i64 s.dpl, .bool s.pre, .bool s.big]
structure CpuS where
 r : Nat → Nat
 eip : Nat
 flags : Nat
 seg : Nat → SegR
 cr0 : Nat
 cr2 : Nat
 cr3 : Nat
 gb : Nat
 gl : Nat
 ib : Nat
 il : Nat
 tr : SegR
 shadow : Bool
 halted : Bool
 dead : Bool
def regCells (r : Nat → Nat) : List Value := [.int .u32 (r 0 : Nat), .int .u32 (r 1 : Nat), .int .u32 (r 2 : Nat), .int .u32 (r 3 : Nat), .int .u32 (r 4 : Nat), .int .u32 (r 5 : Nat), .int .u32 (r 6 : Nat), .int .u32 (r 7 : Nat)]
def CpuS.cells (c : CpuS) : List Value :=
 regCells c.r ++ [.int .u32 (c.eip : Nat), .int .u32 (c.flags : Nat)] ++ ((c.seg 0).cells ++ (c.seg 1).cells ++ (c.seg 2).cells ++ (c.seg 3).cells ++ (c.seg 4).cells ++ (c.seg 5).cells) ++
  [.int .u32 (c.cr0 : Nat), .int .u32 (c.cr2 : Nat), .int .u32 (c.cr3 : Nat), .int .u32 (c.gb : Nat), .int .u16 (c.gl : Nat), .int .u32 (c.ib : Nat), .int .u16 (c.il : Nat)] ++ c.tr.cells ++ [.bool c.shadow, .bool c.halted, .bool c.dead]
structure SegR.ok (s : SegR) : Prop where
 sel : s.sel < 65536
 base : s.base < 4294967296
 lim : s.lim < 4294967296
 typ : -9223372036854775808 ≤ s.typ ∧ s.typ ≤ 9223372036854775807
 dpl : -9223372036854775808 ≤ s.dpl ∧ s.dpl ≤ 9223372036854775807
structure CpuS.ok (c : CpuS) : Prop where
 r : ∀ i, c.r i < 4294967296
 eip : c.eip < 4294967296
 flags : c.flags < 4294967296
 seg : ∀ i, (c.seg i).ok
 cr0 : c.cr0 < 4294967296
 cr2 : c.cr2 < 4294967296
 cr3 : c.cr3 < 4294967296
 gb : c.gb < 4294967296
 gl : c.gl < 65536
 ib : c.ib < 4294967296
 il : c.il < 65536
 tr : c.tr.ok
def CpuAt (w : World) (b : Nat) (c : CpuS) : Prop := c.ok ∧ ∃ rest T, w.heap[b]? = some (.cells (c.cells ++ rest).toArray T (0, 0))
theorem CpuAt.of_heap {w w' : World} {b : Nat} {c : CpuS} (h : CpuAt w b c) (e : w'.heap[b]? = w.heap[b]?) : CpuAt w' b c := by
 obtain ⟨ok, rest, T, hb⟩ := h
 exact ⟨ok, rest, T, by rw [e]; exact hb⟩
theorem CpuAt.lt {w : World} {b : Nat} {c : CpuS} (h : CpuAt w b c) : b < w.heap.size := by
 obtain ⟨ok, rest, T, hb⟩ := h
 exact heap_lt hb
theorem CpuAt.below {w w' : World} {b : Nat} {c : CpuS} (h : CpuAt w b c) (hb : Below w.heap.size w w') : CpuAt w' b c := h.of_heap (hb.block b h.lt)
theorem CpuAt.free {w : World} {b : Nat} {c : CpuS} (h : CpuAt w b c) (k : Nat) : w.frozen? ⟨b, k, none⟩ = false := by
 obtain ⟨ok, rest, T, hb⟩ := h
 exact free_at hb
theorem CpuS.cells_len (c : CpuS) : c.cells.length = 83 := rfl
theorem CpuAt.cell {w : World} {b : Nat} {c : CpuS} (h : CpuAt w b c) (k : Nat) (hk : k < 83) : w.cell? ⟨b, k, none⟩ = c.cells[k]? := by
 obtain ⟨ok, rest, T, hb⟩ := h
 rw [cell_at hb]
 simp only [List.getElem?_toArray]
 rw [List.getElem?_append_left (by rw [c.cells_len]; exact hk)]
theorem CpuAt.cr {w : World} {b : Nat} {c : CpuS} (h : CpuAt w b c) : w.cell? ⟨b, 64, none⟩ = some (.int .u32 (c.cr0 : Nat)) ∧ w.cell? ⟨b, 66, none⟩ = some (.int .u32 (c.cr3 : Nat)) ∧ w.cell? ⟨b, 19, none⟩ = some (.int .u16 ((c.seg 1).sel : Nat)) ∧ b < w.heap.size :=
 ⟨(h.cell 64 (by decide)).trans rfl, (h.cell 66 (by decide)).trans rfl, (h.cell 19 (by decide)).trans rfl, h.lt⟩
theorem CpuAt.segAt {w : World} {b : Nat} {c : CpuS} (h : CpuAt w b c) (i : Nat) (hi : i < 6) :
    w.cell? ⟨b, 10 + i * 9, none⟩ = some (.int .u16 ((c.seg i).sel : Nat)) ∧ w.cell? ⟨b, 10 + i * 9 + 1, none⟩ = some (.bool (c.seg i).nul) ∧ w.cell? ⟨b, 10 + i * 9 + 2, none⟩ = some (.int .u32 ((c.seg i).base : Nat)) ∧ w.cell? ⟨b, 10 + i * 9 + 3, none⟩ = some (.int .u32 ((c.seg i).lim : Nat)) ∧
     w.cell? ⟨b, 10 + i * 9 + 4, none⟩ = some (.int .i64 (c.seg i).typ) ∧ w.cell? ⟨b, 10 + i * 9 + 5, none⟩ = some (.bool (c.seg i).sys) ∧ w.cell? ⟨b, 10 + i * 9 + 6, none⟩ = some (.int .i64 (c.seg i).dpl) ∧ w.cell? ⟨b, 10 + i * 9 + 7, none⟩ = some (.bool (c.seg i).pre) ∧ w.cell? ⟨b, 10 + i * 9 + 8, none⟩ = some (.bool (c.seg i).big) := by
 rcases (show i = 0 ∨ i = 1 ∨ i = 2 ∨ i = 3 ∨ i = 4 ∨ i = 5 by omega) with rfl | rfl | rfl | rfl | rfl | rfl <;>
  exact ⟨(h.cell _ (by decide)).trans (by kernel_rfl), (h.cell _ (by decide)).trans (by kernel_rfl), (h.cell _ (by decide)).trans (by kernel_rfl), (h.cell _ (by decide)).trans (by kernel_rfl), (h.cell _ (by decide)).trans (by kernel_rfl), (h.cell _ (by decide)).trans (by kernel_rfl), (h.cell _ (by decide)).trans (by kernel_rfl), (h.cell _ (by decide)).trans (by kernel_rfl), (h.cell _ (by decide)).trans (by kernel_rfl)⟩
structure SpanS where
 a0 : Nat
 a1 : Nat
 n0 : Nat
 n1 : Nat
def SpanS.val (s : SpanS) : Value := .agg #[.int .u32 (s.a0 : Nat), .int .u32 (s.a1 : Nat), .int .u32 (s.n0 : Nat), .int .u32 (s.n1 : Nat)]
def first (lin size : Nat) : Nat := min size (4096 - lin % 4096)
def lin2 (lin size : Nat) : Nat := (lin + first lin size) % 4294967296
def CpuS.paged (c : CpuS) : Bool := c.cr0 / 2147483648 % 2 == 1
def CpuS.wp (c : CpuS) : Bool := c.cr0 / 65536 % 2 == 1
def CpuS.user (c : CpuS) : Bool := (c.seg 1).sel % 4 == 3
inductive PgR where
 | ok (s : SpanS)
 | fault (cd : Int) (at_ : Nat)
def onPage (frame lin : Nat) : Nat := frame + lin % 4096
def pg2 (c : CpuS) (lin size : Nat) (wr us : Bool) (a0 : Nat) (r : WalkR × Int × RS) : PgR × RS :=
 if 0 ≤ r.2.1 then (.fault r.2.1 (lin2 lin size), r.2.2) else (.ok ⟨a0, onPage r.1.frame (lin2 lin size), first lin size, size - first lin size⟩, r.2.2)
def pg1 (c : CpuS) (lin size : Nat) (wr us : Bool) (r : WalkR × Int × RS) : PgR × RS :=
 if 0 ≤ r.2.1 then (.fault r.2.1 lin, r.2.2) else
 if size = first lin size then (.ok ⟨onPage r.1.frame lin, lin2 lin size, first lin size, 0⟩, r.2.2) else
 pg2 c lin size wr us (onPage r.1.frame lin) (find r.2.2 c.cr3 (lin2 lin size) wr us c.wp)
def pg (R : RS) (c : CpuS) (lin size : Nat) (wr us : Bool) : PgR × RS :=
 if c.paged then pg1 c lin size wr us (find R c.cr3 lin wr us c.wp) else (.ok ⟨lin, lin2 lin size, first lin size, size - first lin size⟩, R)
theorem first_pos (lin size : Nat) (h : 0 < size) : 0 < first lin size := by unfold first; omega
theorem first_le (lin size : Nat) : first lin size ≤ size := by unfold first; omega
theorem frame_page {R : RS} {c lin : Nat} {wr us wp : Bool} {x : WalkR} {cd : Int} {R' : RS} (hf : find R c lin wr us wp = (x, cd, R')) : x.frame % 4096 = 0 := by
 unfold find at hf
 split at hf
 ·obtain ⟨rfl, _⟩ := Prod.mk.inj hf; rfl
 ·split at hf
  ·obtain ⟨rfl, _⟩ := Prod.mk.inj hf; rfl
  ·simp only at hf
   split at hf
   ·obtain ⟨rfl, _⟩ := Prod.mk.inj hf; rfl
   ·obtain ⟨rfl, _⟩ := Prod.mk.inj hf
    show _ / 4096 * 4096 % 4096 = 0
    omega
end Go.Proofs.YtmpcafdgkbpneaaGreat

/- vmem: giving up, and what is caught. -/
namespace Go.Proofs.YtmpcafdgkbpneaaGreat
open Go.RowKit
set_option linter.unusedVariables false

def faultV (vec cd : Int) (cr2 : Nat) : Value := .iface 269 (.agg #[.int .i64 vec, .int .i64 cd, .int .u32 (cr2 : Nat)])
def gaveUp (vec cd : Int) (cr2 : Nat) : Ending := .panicked [{ v := faultV vec cd cr2, recovered := false }]
theorem general_any (vec : Int) (w : World) : Calls Tryz.prog 158 #[.int .i64 vec] w fun e w' => e = gaveUp vec 0 0 ∧ w = w' := by
 go_enter Tryz.func158, Tryz.ntmps158
 go_wp2_with fail
 exact ⟨rfl, rfl, rfl⟩
theorem assert_yes (W : World) (v : Value) : (Instr.typeAssert (.iface 269 v) 20 269 true).run Tryz.prog W = .ok (.tuple #[v, .bool true]) W := by kernel_rfl
theorem assert_nil (W : World) : (Instr.typeAssert .nilIface 20 269 true).run Tryz.prog W = .ok (.tuple #[.agg #[.int .i64 0, .int .i64 0, .int .u32 0], .bool false]) W := by kernel_rfl
theorem caught_panic (fb : Nat) (a b c : Value) (vec cd : Int) (cr2 : Nat) (older : List PanicEntry) (w : World) (hf : w.heap[fb]? = some (.cells #[a, b, c] 42)) :
    CallsD Tryz.prog 103 #[.pointer (some ⟨fb, 0, none⟩)] (.panicking ({ v := faultV vec cd cr2, recovered := false } :: older)) w fun e u' w' =>
     e = .returned (.tuple #[]) ∧ u' = .panicking ({ v := faultV vec cd cr2, recovered := true } :: older) ∧ w'.heap[fb]? = some (.cells #[.int .i64 vec, .int .i64 cd, .int .u32 (cr2 : Nat)] 42) ∧ Keeps (· = fb) w w' := by
 have c0 := cell_at (k := 0) hf
 have c1 := cell_at (k := 1) hf
 have c2 := cell_at (k := 2) hf
 have cf : ∀ k, w.frozen? ⟨fb, k, none⟩ = false := fun k => free_at hf
 have cl := heap_lt hf
 simp at c0 c1 c2
 have HF := Lib.hid hf
 clear hf
 refine callsD_of_wpS Tryz.func103 rfl fun c₀ cs hu => ?_
 apply wpS_seq
 apply wpS_region
 simp [wpOpsS, go_sem, recoverD, hu, Tryz.ntmps103, Exit.thenS]
 refine wpS_of_wp ?_
 have ha := fun W v => assert_yes W v
 unfold faultV
 change Code.wp _ _ _ ⟨#[.pointer (some ⟨fb, 0, none⟩), undef, .iface 269 (.agg #[.int .i64 vec, .int .i64 cd, .int .u32 (cr2 : Nat)]), undef, undef, .iface 269 (.agg #[.int .i64 vec, .int .i64 cd, .int .u32 (cr2 : Nat)]), undef, undef, undef, undef, undef, undef, undef, undef, undef, undef, undef, undef, undef], []⟩ w
 go_wp2_with fail
 refine ⟨rfl, _, rfl, .tuple #[], by simp [results, Tryz.results103, go_sem], rfl, rfl, ?_, ?_⟩
 ·exact heap_alloc_lt (by rw [heap_set_map, heap_set_map, heap_set_map, HF.out]; rfl)
 ·exact ((((Keeps.refl (· = fb) w).setOne 0 _).setOne 1 _).setOne 2 _).alloc _
theorem caught_idle (fb : Nat) (w : World) :
    CallsD Tryz.prog 103 #[.pointer (some ⟨fb, 0, none⟩)] .returning w fun e u' w' => e = .returned (.tuple #[]) ∧ u' = .returning ∧ Below w.heap.size w w' := by
 refine callsD_of_wpS Tryz.func103 rfl fun c₀ cs hu => ?_
 apply wpS_seq
 apply wpS_region
 simp [wpOpsS, go_sem, recoverD, hu, Tryz.ntmps103, Exit.thenS]
 refine wpS_of_wp ?_
 have ha := fun W => assert_nil W
 change Code.wp _ _ _ ⟨#[.pointer (some ⟨fb, 0, none⟩), undef, .nilIface, undef, undef, .nilIface, undef, undef, undef, undef, undef, undef, undef, undef, undef, undef, undef, undef, undef], []⟩ w
 go_wp2_with fail
 refine ⟨rfl, .returning, by rw [← hu], .tuple #[], by simp [results, Tryz.results103, go_sem], rfl, rfl, ?_⟩
 exact (Below.refl _ w).alloc (Nat.le_refl _) _
end Go.Proofs.YtmpcafdgkbpneaaGreat

/- Three objects side by side, each with blocks of its own, all made behind a world. -/
namespace Go.Proofs.YtmpcafdgkbpneaaGreat
open Go.RowKit
set_option linter.unusedVariables false

structure Sep (w0 w : World) (A B C : Nat → Prop) : Prop where
 ab : ∀ k, A k → ¬ B k
 bc : ∀ k, B k → ¬ C k
 ca : ∀ k, C k → ¬ A k
 la : ∀ k, A k → w0.heap.size ≤ k
 lb : ∀ k, B k → w0.heap.size ≤ k
 lc : ∀ k, C k → w0.heap.size ≤ k
 ha : ∀ k, A k → k < w.heap.size
 hb : ∀ k, B k → k < w.heap.size
 hc : ∀ k, C k → k < w.heap.size
 B : Below w0.heap.size w0 w
section
variable {w0 w w' : World} {A A' B C : Nat → Prop}
end
theorem Moves.below {S S' : Nat → Prop} {w w1 w2 : World} (M : Moves S S' w w1) (hb : Below w1.heap.size w1 w2) : Moves S S' w w2 := ⟨M.1.below hb, M.2⟩
end Go.Proofs.YtmpcafdgkbpneaaGreat

/- Three objects side by side, whatever they are, and boxes beside them that stay as they are. -/
namespace Go.Proofs.YtmpcafdgkbpneaaGreat
open Go.RowKit
set_option linter.unusedVariables false

def Tri (w0 w : World) (PA PB PC : World → (Nat → Prop) → Prop) (F : Nat → Prop) (wF : World) : Prop :=
 ∃ A B C, Sep w0 w A B C ∧ PA w A ∧ PB w B ∧ PC w C ∧ ∀ k, F k → k < w.heap.size ∧ ¬ A k ∧ ¬ B k ∧ ¬ C k ∧ w0.heap.size ≤ k ∧ w.heap[k]? = wF.heap[k]?
section
variable {w0 w w' wF : World} {PA PA' PB PC : World → (Nat → Prop) → Prop} {F : Nat → Prop}
end
end Go.Proofs.YtmpcafdgkbpneaaGreat

/- vmem: the object; sized, user. -/
namespace Go.Proofs.YtmpcafdgkbpneaaGreat
open Go.RowKit Go.MapKept
set_option linter.unusedVariables false

structure Pl where
 n : Nat
 rb : Nat
def Kq (w : World) (t rb : Nat) (places : Pl) (n : Nat) (H : Nat → Prop) (R : RS) : Prop :=
 ∃ mb S ov cnt all order, TlbIn w t rb mb S ov places.n cnt all order R ∧ (order.length ≤ n ∧ rb = places.rb) ∧ ∀ k, H k ↔ THeld t mb S ov k
section
variable {w w' : World} {t rb vb cb : Nat} {places : Pl} {n : Nat} {H : Nat → Prop} {R : RS} {C : CpuS}
theorem Kq.lt (h : Kq w t rb places n H R) : ∀ k, H k → k < w.heap.size := by
 obtain ⟨mb, S, ov, cnt, all, order, T, _, hH⟩ := h
 exact fun k hk => T.lt ((hH k).1 hk)
theorem Kq.of_heap (h : Kq w t rb places n H R) (e : ∀ k, H k → w'.heap[k]? = w.heap[k]?) : Kq w' t rb places n H R := by
 obtain ⟨mb, S, ov, cnt, all, order, T, hl, hH⟩ := h
 exact ⟨mb, S, ov, cnt, all, order, T.of_heap fun k hk => e k ((hH k).2 hk), hl, hH⟩
theorem Kq.more (h : Kq w t rb places n H R) {n' : Nat} (hn : n ≤ n') : Kq w t rb places n' H R := by
 obtain ⟨mb, S, ov, cnt, all, order, T, hl, hH⟩ := h
 exact ⟨mb, S, ov, cnt, all, order, T, ⟨Nat.le_trans hl.1 hn, hl.2⟩, hH⟩
theorem Kq.wide (h : Kq w t rb places n H R) : Wide R := by obtain ⟨mb, S, ov, cnt, all, order, T, hl, hH⟩ := h; exact T.wide
theorem Kq.ram (h : Kq w t rb places n H R) : ∃ S, Ram w rb S R ∧ (∀ k, S k → H k) ∧ ∀ {w' : World} {S' : Nat → Prop} {R' : RS}, Ram w' rb S' R' → Moves S S' w w' → Wide R' → ∃ H', Kq w' t rb places n H' R' ∧ Moves H H' w w' := by
 obtain ⟨mb, S, ov, cnt, all, order, T, hl, hH⟩ := h
 refine ⟨S, T.ram, fun k hk => (hH k).2 (.inr (.inr (.inr hk))), fun {w' S' R'} hR M hw => ⟨_, ⟨mb, S', ov, cnt, all, order, T.found hR M hw, hl, fun k => Iff.rfl⟩, M.1.mono fun k _ hk => (hH k).2 (.inr (.inr (.inr hk))), fun k hk => ?_⟩⟩
 rcases hk with h | h | h | h
 ·exact .inl ((hH k).2 (.inl h))
 ·exact .inl ((hH k).2 (.inr (.inl h)))
 ·exact .inl ((hH k).2 (.inr (.inr (.inl h))))
 ·rcases M.2 k h with h | h
  ·exact .inl ((hH k).2 (.inr (.inr (.inr h))))
  ·exact .inr h
theorem kq_find (h : Kq w t rb places n H R) (c lin : Nat) (hc : c < 4294967296) (hl : lin < 4294967296) (wr us wp : Bool) (hn : (n + 1) * 12 ≤ 140737488355328) (x y : Int) (hx : x = (c : Int)) (hy : y = (lin : Int)) {fr pd pt : Nat} {xw xu : Bool} {cd : Int} {R' : RS} (hr : find R c lin wr us wp = (⟨fr, pd, pt, xw, xu⟩, cd, R')) :
    Calls Tryz.prog 176 #[.pointer (some ⟨t, 0, none⟩), .int .u32 x, .int .u32 y, .agg #[.bool wr, .bool us, .bool wp]] w fun e w' =>
     e = .returned (.tuple #[.agg #[.int .u32 (fr : Nat), .int .u32 (pd : Nat), .int .u32 (pt : Nat), .bool xw, .bool xu], .int .i64 cd, .int .i64 0]) ∧ ∃ H', Kq w' t rb places (n + 1) H' R' ∧ Moves H H' w w' := by
 obtain ⟨mb, S, ov, cnt, all, order, T, hlen, hH⟩ := h
 rw [hx, hy]
 have hlen1 := hlen.1
 refine (tfind T c lin hc hl wr us wp (by omega)).mono ?_
 rintro e w' ⟨he, S', ov', cnt', all', order', T', hl', K', N'⟩
 rw [hr] at he T'
 exact ⟨he, _, ⟨mb, S', ov', cnt', all', order', T', ⟨by omega, hlen.2⟩, fun k => Iff.rfl⟩, K'.mono fun k _ hk => (hH k).2 hk, fun k hk => (N' k hk).imp (fun h => (hH k).2 h) id⟩
def Vm (w : World) (vb : Nat) (places : Pl) (n : Nat) (H : Nat → Prop) (R : RS) : Prop :=
 ∃ t rb G, w.heap[vb]? = some (.cells #[.pointer (some ⟨rb, 0, none⟩), .pointer (some ⟨t, 0, none⟩)] 89) ∧ Kq w t rb places n G R ∧ ¬ G vb ∧ ∀ k, H k ↔ k = vb ∨ G k
theorem Vm.lt (h : Vm w vb places n H R) : ∀ k, H k → k < w.heap.size := by
 obtain ⟨t, rb, G, ho, hK, _, hH⟩ := h
 intro k hk
 rcases (hH k).1 hk with rfl | h
 ·exact heap_lt ho
 ·exact hK.lt k h
theorem Vm.of_heap (h : Vm w vb places n H R) (e : ∀ k, H k → w'.heap[k]? = w.heap[k]?) : Vm w' vb places n H R := by
 obtain ⟨t, rb, G, ho, hK, hn, hH⟩ := h
 exact ⟨t, rb, G, by rw [e vb ((hH vb).2 (.inl rfl))]; exact ho, hK.of_heap fun k hk => e k ((hH k).2 (.inr hk)), hn, hH⟩
theorem Vm.below (h : Vm w vb places n H R) (hb : Below w.heap.size w w') : Vm w' vb places n H R := h.of_heap fun k hk => hb.block k (h.lt k hk)
theorem Vm.more (h : Vm w vb places n H R) {n' : Nat} (hn : n ≤ n') : Vm w vb places n' H R := by
 obtain ⟨t, rb, G, ho, hK, h1, hH⟩ := h
 exact ⟨t, rb, G, ho, hK.more hn, h1, hH⟩
theorem Vm.wide (h : Vm w vb places n H R) : Wide R := by obtain ⟨t, rb, G, ho, hK, h1, hH⟩ := h; exact hK.wide
theorem Vm.lift {t rb : Nat} {G G' : Nat → Prop} {R' : RS} {n' : Nat} (ho : w.heap[vb]? = some (.cells #[.pointer (some ⟨rb, 0, none⟩), .pointer (some ⟨t, 0, none⟩)] 89)) (hn : ¬ G vb) (hH : ∀ k, H k ↔ k = vb ∨ G k) (hK : Kq w' t rb places n' G' R') (M : Moves G G' w w') :
    Vm w' vb places n' (fun k => k = vb ∨ G' k) R' ∧ Moves H (fun k => k = vb ∨ G' k) w w' := by
 have hl := heap_lt ho
 refine ⟨⟨t, rb, G', (M.1.block vb hl hn).trans ho, hK, fun h => ?_, fun k => Iff.rfl⟩, M.1.mono fun k _ h => (hH k).2 (.inr h), fun k h => ?_⟩
 ·rcases M.2 vb h with h | h
  ·exact hn h
  ·omega
 ·rcases h with rfl | h
  ·exact .inl ((hH k).2 (.inl rfl))
  ·exact (M.2 k h).imp (fun h => (hH k).2 (.inr h)) id
theorem and_3 (x : Nat) (h : x < 65536) : bits .and .u16 (x : Int) 3 = ((x % 4 : Nat) : Int) := by
 have e := u16_and_nat x 3 h (by decide)
 rw [show x &&& 3 = x % 4 from Nat.and_two_pow_sub_one_eq_mod x 2] at e
 exact e
theorem user_any (hC : CpuAt w cb C) : Calls Tryz.prog 160 #[.pointer (some ⟨cb, 0, none⟩)] w fun e w' => e = .returned (.bool C.user) ∧ w = w' := by
 obtain ⟨-, -, k1, kl⟩ := hC.cr
 have ha := and_3 (C.seg 1).sel (hC.1.seg 1).sel
 have hb : (((C.seg 1).sel : Int) % 4 == 3) = C.user := by unfold CpuS.user; rw [Bool.eq_iff_iff]; simp; omega
 have HB := Lib.hid hb
 clear hC hb
 go_enter Tryz.func160, Tryz.ntmps160
 go_wp2_with fail
 go_ret
 refine ⟨?_, rfl⟩
 rw [← HB.out]; simp
theorem sized_ok (vb cb : Nat) (s : Int) (hs : s = 1 ∨ s = 2 ∨ s = 4) (w : World) : Calls Tryz.prog 136 #[.pointer (some ⟨vb, 0, none⟩), .pointer (some ⟨cb, 0, none⟩), .int .i64 s] w fun e w' => e = .returned (.tuple #[]) ∧ w = w' := by
 rcases hs with rfl | rfl | rfl
 all_goals
  go_enter Tryz.func136, Tryz.ntmps136
  go_wp2_with fail
  go_end0
  exact ⟨rfl, rfl⟩
theorem sized_bad (a b : Option Addr) (s : Int) (h1 : s ≠ 1) (h2 : s ≠ 2) (h4 : s ≠ 4) (w : World) : Calls Tryz.prog 136 #[.pointer (a.map fun p => ⟨p.block, 0, none⟩), .pointer (b.map fun p => ⟨p.block, 0, none⟩), .int .i64 s] w fun e w' => e = gaveUp 13 0 0 ∧ w = w' := by
 have g1 : (s != 1) = true := by simpa using h1
 have g2 : (s != 2) = true := by simpa using h2
 have g4 : (s != 4) = true := by simpa using h4
 cases a <;> cases b
 all_goals
  simp only [Option.map_none, Option.map_some]
  go_enter Tryz.func136, Tryz.ntmps136
  go_wp2_with (go_at_call 158; refine (general_any _ _).mono ?_; rintro e w' ⟨he, rfl⟩; unfold gaveUp faultV at he; subst he)
  exact ⟨rfl, rfl, rfl⟩
end
end Go.Proofs.YtmpcafdgkbpneaaGreat

/- vmem: pages. -/
namespace Go.Proofs.YtmpcafdgkbpneaaGreat
open Go.RowKit Go.MapKept
set_option linter.unusedVariables false

def PgEnd (w : World) (vb : Nat) (places : Pl) (n : Nat) (H : Nat → Prop) (g : PgR × RS) (e : Ending) (w' : World) : Prop :=
 (∀ s, g.1 = .ok s → e = .returned s.val) ∧ (∀ cd a, g.1 = .fault cd a → e = gaveUp 14 cd a) ∧ ∃ H', Vm w' vb places (n + 2) H' g.2 ∧ Moves H H' w w'
section
variable {w : World} {vb cb : Nat} {places : Pl} {n : Nat} {H : Nat → Prop} {R : RS} {C : CpuS}
theorem bit_ands (x i : Nat) (hi : i < 32) (h : x < 4294967296) : bits .and .u32 (x : Int) ((2 ^ i : Nat) : Int) = ((x / 2 ^ i % 2 * 2 ^ i : Nat) : Int) := by
 have e := u32_and_nat x (2 ^ i) h (Nat.lt_of_lt_of_le (Nat.pow_lt_pow_right (by decide) hi) (by decide))
 rw [e]
 congr 1
 refine Nat.eq_of_testBit_eq fun j => ?_
 rw [Nat.testBit_and, Nat.testBit_two_pow, Nat.mul_comm, Nat.testBit_two_pow_mul]
 by_cases hj : i = j
 ·subst hj
  rw [Nat.sub_self, Nat.testBit_zero]
  simp [Nat.testBit_eq_decide_div_mod_eq]
 ·by_cases hl : i ≤ j
  ·have h1 : ((x / 2 ^ i % 2).testBit (j - i)) = false := by
     refine Nat.testBit_lt_two_pow (Nat.lt_of_lt_of_le (Nat.mod_lt _ (by decide)) ?_)
     calc 2 = 2 ^ 1 := rfl
      _ ≤ 2 ^ (j - i) := Nat.pow_le_pow_right (by decide) (by omega)
   simp [hj, h1]
  ·simp [hj, hl]
theorem Moves.ofBelow2 {S : Nat → Prop} {w w' : World} (hb : Below w.heap.size w w') : Moves S S w w' := ⟨Keeps.ofBelow hb, fun k h => .inl h⟩
theorem flat_end {w' : World} {lin size : Nat} {wr us : Bool} (hV : Vm w vb places n H R) (hp : C.paged = false) (hb : Below w.heap.size w w') {v : Value} (hv : v = (⟨lin, lin2 lin size, first lin size, size - first lin size⟩ : SpanS).val) : PgEnd w vb places n H (pg R C lin size wr us) (.returned v) w' := by
 have e : pg R C lin size wr us = (.ok ⟨lin, lin2 lin size, first lin size, size - first lin size⟩, R) := by unfold pg; rw [hp]; rfl
 rw [e]
 refine ⟨fun s h => ?_, (fun cd a h => by cases h), H, (hV.more (by omega)).below hb, Moves.ofBelow2 hb⟩
 cases h
 rw [hv]
theorem span_eq {a b c d a' b' c' d' : Int} (h1 : a = a') (h2 : b = b') (h3 : c = c') (h4 : d = d') : (Value.agg #[.int .u32 a, .int .u32 b, .int .u32 c, .int .u32 d]) = .agg #[.int .u32 a', .int .u32 b', .int .u32 c', .int .u32 d'] := by rw [h1, h2, h3, h4]
theorem pages_flat (hV : Vm w vb places n H R) (hC : CpuAt w cb C) (lin size : Nat) (hl : lin < 4294967296) (h1 : 1 ≤ size) (h4 : size ≤ 4) (wr us wp0 : Bool) (hp : C.paged = false) :
    Calls Tryz.prog 137 #[.pointer (some ⟨vb, 0, none⟩), .pointer (some ⟨cb, 0, none⟩), .int .u32 (lin : Nat), .int .i64 (size : Nat), .agg #[.bool wr, .bool us, .bool wp0]] w (PgEnd w vb places n H (pg R C lin size wr us)) := by
 obtain ⟨k0, -, -, kl⟩ := hC.cr
 have ha : bits .and .u32 (C.cr0 : Int) 2147483648 = ((C.cr0 / 2147483648 % 2 * 2147483648 : Nat) : Int) := bit_ands C.cr0 31 (by decide) hC.1.cr0
 have hz : C.cr0 / 2147483648 % 2 = 0 := by unfold CpuS.paged at hp; simp at hp; omega
 rw [hz] at ha
 have ha0 : bits .and .u32 (C.cr0 : Int) 2147483648 = 0 := ha
 have kl1 : cb < w.heap.size + 1 := by omega
 have kl2 : cb < w.heap.size + 1 + 1 := by omega
 have HV := Lib.hid hV
 have HP := Lib.hid hp
 clear ha hz hV hC hp
 by_cases hfit : lin % 4096 + size ≤ 4096
 ·have hf1 : (size : Int) ≤ 4096 - (lin : Int) % 4096 := by omega
  have HF := Lib.hid hfit
  clear hfit
  go_enter Tryz.func137, Tryz.ntmps137
  go_wp2_with fail
  refine bodyPost_ret (v := .agg #[.int .u32 (lin : Nat), .int .u32 (((lin : Int) + (size : Int)) % 4294967296), .int .u32 (size : Nat), .int .u32 0]) (by simp [results, Tryz.results137, go_sem]) rfl (flat_end HV.out HP.out ((((Below.refl _ _).alloc (Nat.le_refl _) _).alloc (by simp) _).alloc (by simp; omega) _) ?_)
  have hfi : first lin size = size := by have := HF.out; unfold first; omega
  exact span_eq rfl (by show _ = ((lin2 lin size : Nat) : Int); unfold lin2; rw [hfi]; omega) (by show _ = ((first lin size : Nat) : Int); rw [hfi]) (by show _ = ((size - first lin size : Nat) : Int); rw [hfi]; omega)
 ·have hf1 : 4096 - (lin : Int) % 4096 < (size : Int) := by omega
  have hf2 : ¬ (size : Int) ≤ 4096 - (lin : Int) % 4096 := by omega
  have HF := Lib.hid hfit
  clear hfit
  go_enter Tryz.func137, Tryz.ntmps137
  go_wp2_with fail
  refine bodyPost_ret (v := .agg #[.int .u32 (lin : Nat), .int .u32 (((lin : Int) + (4096 - (lin : Int) % 4096)) % 4294967296), .int .u32 (4096 - (lin : Int) % 4096), .int .u32 ((size : Int) - (4096 - (lin : Int) % 4096))]) (by simp [results, Tryz.results137, go_sem]) rfl (flat_end HV.out HP.out ((((Below.refl _ _).alloc (Nat.le_refl _) _).alloc (by simp) _).alloc (by simp; omega) _) ?_)
  have hfi : first lin size = 4096 - lin % 4096 := by have := HF.out; unfold first; omega
  exact span_eq rfl (by show _ = ((lin2 lin size : Nat) : Int); unfold lin2; rw [hfi]; omega) (by show _ = ((first lin size : Nat) : Int); rw [hfi]; omega) (by show _ = ((size - first lin size : Nat) : Int); rw [hfi]; omega)
end
end Go.Proofs.YtmpcafdgkbpneaaGreat

