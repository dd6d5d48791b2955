/- Steps of a proof: VmG, together. -/
import Derived.Test.YtmpcafdgkbpneaaGreatS8
import Derived.Test.YtmpcafdgkbpneaaGreatS6
import Derived.Deep.RegionHeld3
import Derived.Deep.DrawnRows
import Derived.RegionTactic
/- VmG0, SpineL, VmG1, VmG2, VmG3, VmG4, VmG5, VmG6, together. -/
/- vmem: pages, with pages on. -/
set_option maxHeartbeats 8000000
set_option maxRecDepth 20000
namespace Go.Proofs.YtmpcafdgkbpneaaGreat
open Go.RowKit Go.MapKept
set_option linter.unusedVariables false

def SpanS.cells (s : SpanS) : Array Value := #[.int .u32 (s.a0 : Nat), .int .u32 (s.a1 : Nat), .int .u32 (s.n0 : Nat), .int .u32 (s.n1 : Nat)]
structure PgAt (w wr : World) (vb cb gs gw gr : Nat) (places : Pl) (n : Nat) (H : Nat → Prop) (R : RS) (C : CpuS) (s : SpanS) (ww wu wq : Bool) (F : Nat → Prop) : Prop where
 v : ∃ H', Vm wr vb places n H' R ∧ Moves H H' w wr ∧ ∀ k, k = cb ∨ k = gs ∨ k = gw ∨ k = gr ∨ F k → ¬ H' k ∧ k < wr.heap.size
 c : CpuAt wr cb C
 s : wr.heap[gs]? = some (.cells s.cells 196)
 y : wr.heap[gw]? = some (.cells #[.bool ww, .bool wu, .bool wq] 223)
 z : wr.heap[gr]? = some (.cells #[.int .u32 0, .int .u32 0, .int .u32 0, .int .u32 0] 196)
 lo : w.heap.size ≤ gs ∧ w.heap.size ≤ gw ∧ w.heap.size ≤ gr
 ne : gs ≠ gr
def PgC (t vb cb gs gw : Nat) (C : CpuS) (s : SpanS) (ww wu wq : Bool) (W : World) : Prop :=
 W.cell? ⟨vb, 1, none⟩ = some (.pointer (some ⟨t, 0, none⟩)) ∧ W.cell? ⟨cb, 66, none⟩ = some (.int .u32 (C.cr3 : Nat)) ∧ W.cell? ⟨gs, 0, none⟩ = some (.int .u32 (s.a0 : Nat)) ∧ W.cell? ⟨gs, 1, none⟩ = some (.int .u32 (s.a1 : Nat)) ∧ W.cell? ⟨gw, 0, none⟩ = some (.bool ww) ∧ W.cell? ⟨gw, 1, none⟩ = some (.bool wu) ∧ W.cell? ⟨gw, 2, none⟩ = some (.bool wq)
section
variable {t vb cb gs gw : Nat} {C : CpuS} {s : SpanS} {ww wu wq : Bool} {W : World}
theorem PgC.same {W' : World} (h : PgC t vb cb gs gw C s ww wu wq W) (e : ∀ b, (b = vb ∨ b = cb ∨ b = gs ∨ b = gw) → ∀ k, W.cell? ⟨b, k, none⟩ ≠ none → W'.cell? ⟨b, k, none⟩ = W.cell? ⟨b, k, none⟩) : PgC t vb cb gs gw C s ww wu wq W' := by
 obtain ⟨h0, h1, h2, h3, h4, h5, h6⟩ := h
 exact ⟨(e _ (.inl rfl) _ (by rw [h0]; simp)).trans h0, (e _ (.inr (.inl rfl)) _ (by rw [h1]; simp)).trans h1, (e _ (.inr (.inr (.inl rfl))) _ (by rw [h2]; simp)).trans h2, (e _ (.inr (.inr (.inl rfl))) _ (by rw [h3]; simp)).trans h3, (e _ (.inr (.inr (.inr rfl))) _ (by rw [h4]; simp)).trans h4, (e _ (.inr (.inr (.inr rfl))) _ (by rw [h5]; simp)).trans h5, (e _ (.inr (.inr (.inr rfl))) _ (by rw [h6]; simp)).trans h6⟩
theorem PgC.drew (h : PgC t vb cb gs gw C s ww wu wq W) : PgC t vb cb gs gw C s ww wu wq W.drew := h
theorem PgC.drewN (h : PgC t vb cb gs gw C s ww wu wq W) (n : Nat) : PgC t vb cb gs gw C s ww wu wq (W.drewN n) := h
theorem cell_some_lt {W : World} {b k : Nat} (h : W.cell? ⟨b, k, none⟩ ≠ none) : b < W.heap.size := by
 refine Nat.lt_of_not_le fun hl => h ?_
 have e : W.heap[b]? = none := by simp; omega
 simp [World.cell?, e]
theorem PgC.alloc (h : PgC t vb cb gs gw C s ww wu wq W) (o : Obj) : PgC t vb cb gs gw C s ww wu wq (W.alloc o) :=
 h.same fun b _ k hv => World.cell?_of_block (w := W) (a := ⟨b, k, none⟩) (Below.heap_alloc _ _ _ (cell_some_lt hv))
theorem PgC.set (h : PgC t vb cb gs gw C s ww wu wq W) {g : Nat} (hl : cb < g ∧ gs < g ∧ gw < g ∧ vb < g) (k : Nat) (x : Value) : PgC t vb cb gs gw C s ww wu wq (W.setCell ⟨g, k, none⟩ x) :=
 h.same fun b hb j hv => World.cell?_of_block (w := W) (a := ⟨b, j, none⟩) (Below.heap_setCell _ _ _ _ (by show b ≠ g; rcases hb with rfl | rfl | rfl | rfl <;> omega))
end
section
variable {w wr w' : World} {vb cb gs gw gr : Nat} {places : Pl} {n : Nat} {H F F' : Nat → Prop} {R : RS} {C : CpuS} {s : SpanS} {ww wu wq : Bool}
theorem PgAt.below (h : PgAt w wr vb cb gs gw gr places n H R C s ww wu wq F) (hb : Below wr.heap.size wr w') (hF : ∀ k, F' k → F k ∨ (wr.heap.size ≤ k ∧ k < w'.heap.size)) : PgAt w w' vb cb gs gw gr places n H R C s ww wu wq F' := by
 obtain ⟨H', hV, hM, hn⟩ := h.v
 have e : ∀ k, k = cb ∨ k = gs ∨ k = gw ∨ k = gr ∨ F k → w'.heap[k]? = wr.heap[k]? := fun k hk => hb.block k (hn k hk).2
 refine ⟨⟨H', hV.below hb, hM.trans (Moves.ofBelow hb), fun k hk => ?_⟩, h.c.below hb, (e gs (.inr (.inl rfl))).trans h.s, (e gw (.inr (.inr (.inl rfl)))).trans h.y, (e gr (.inr (.inr (.inr (.inl rfl))))).trans h.z, h.lo, h.ne⟩
 have old : (k = cb ∨ k = gs ∨ k = gw ∨ k = gr ∨ F k) → ¬ H' k ∧ k < w'.heap.size := fun hk => ⟨(hn k hk).1, Nat.lt_of_lt_of_le (hn k hk).2 hb.size⟩
 rcases hk with h | h | h | h | h
 ·exact old (.inl h)
 ·exact old (.inr (.inl h))
 ·exact old (.inr (.inr (.inl h)))
 ·exact old (.inr (.inr (.inr (.inl h))))
 ·rcases hF k h with h | ⟨h1, h2⟩
  ·exact old (.inr (.inr (.inr (.inr h))))
  ·exact ⟨fun hh => by have := hV.lt k hh; omega, h2⟩
theorem PgAt.touch (h : PgAt w wr vb cb gs gw gr places n H R C s ww wu wq F) {g : Nat} (hk : Keeps (· = g) wr w') (hg : F g) (h1 : g ≠ cb) (h2 : g ≠ gs) (h3 : g ≠ gw) (h4 : g ≠ gr) (h5 : w.heap.size ≤ g) : PgAt w w' vb cb gs gw gr places n H R C s ww wu wq F := by
 obtain ⟨H', hV, hM, hn⟩ := h.v
 have hng := (hn g (.inr (.inr (.inr (.inr hg))))).1
 have e : ∀ k, k = cb ∨ k = gs ∨ k = gw ∨ k = gr ∨ F k → k ≠ g → w'.heap[k]? = wr.heap[k]? := fun k hk' hne => hk.block k (hn k hk').2 hne
 exact ⟨⟨H', hV.of_heap fun k hk2 => hk.block k (hV.lt k hk2) (fun e => hng (by rw [← e]; exact hk2)), ⟨hM.1.andThen hk fun i hi e => by omega, fun k h => hM.2 k h⟩, fun k hk' => ⟨(hn k hk').1, Nat.lt_of_lt_of_le (hn k hk').2 hk.size⟩⟩,
  h.c.of_heap (e cb (.inl rfl) h1.symm), (e gs (.inr (.inl rfl)) h2.symm).trans h.s, (e gw (.inr (.inr (.inl rfl))) h3.symm).trans h.y, (e gr (.inr (.inr (.inr (.inl rfl)))) h4.symm).trans h.z, h.lo, h.ne⟩
def WBox (W : World) (g : Nat) (fr pd pt : Nat) (xw xu : Bool) : Prop := W.heap[g]? = some (.cells #[.int .u32 (fr : Nat), .int .u32 (pd : Nat), .int .u32 (pt : Nat), .bool xw, .bool xu] 287)
theorem PgAt.obj (h : PgAt w wr vb cb gs gw gr places n H R C s ww wu wq F) : ∃ t rb, wr.heap[vb]? = some (.cells #[.pointer (some ⟨rb, 0, none⟩), .pointer (some ⟨t, 0, none⟩)] 89) := by
 obtain ⟨H', ⟨t, rb, G, ho, _⟩, _⟩ := h.v
 exact ⟨t, rb, ho⟩
theorem pg_find (h : PgAt w wr vb cb gs gw gr places n H R C s ww wu wq F) {t rb : Nat} (ho0 : wr.heap[vb]? = some (.cells #[.pointer (some ⟨rb, 0, none⟩), .pointer (some ⟨t, 0, none⟩)] 89)) (hn : (n + 1) * 12 ≤ 140737488355328) (a : Nat) (ha : a < 4294967296) {fr pd pt : Nat} {xw xu : Bool} {cd : Int} {R' : RS} (hr : find R C.cr3 a ww wu wq = (⟨fr, pd, pt, xw, xu⟩, cd, R')) :
    Calls Tryz.prog 176 #[.pointer (some ⟨t, 0, none⟩), .int .u32 (C.cr3 : Nat), .int .u32 (a : Nat), .agg #[.bool ww, .bool wu, .bool wq]] wr fun e w' =>
     e = .returned (.tuple #[.agg #[.int .u32 (fr : Nat), .int .u32 (pd : Nat), .int .u32 (pt : Nat), .bool xw, .bool xu], .int .i64 cd, .int .i64 0]) ∧ PgAt w w' vb cb gs gw gr places (n + 1) H R' C s ww wu wq F ∧ (∀ k, F k → w'.heap[k]? = wr.heap[k]?) ∧ w'.heap[vb]? = some (.cells #[.pointer (some ⟨rb, 0, none⟩), .pointer (some ⟨t, 0, none⟩)] 89) := by
 obtain ⟨H', hV, hM, hnn⟩ := h.v
 obtain ⟨t', rb', G, ho, hK, hg, hH⟩ := hV
 rw [ho0] at ho
 have he : rb = rb' ∧ t = t' := by simpa using ho
 obtain ⟨rfl, rfl⟩ := he
 refine (kq_find hK C.cr3 a h.c.1.cr3 ha ww wu wq hn _ _ rfl rfl hr).mono ?_
 rintro e w' ⟨he, G', hK', M'⟩
 obtain ⟨hV', M2⟩ := Vm.lift ho0 hg hH hK' M'
 have e2 : ∀ k, k = cb ∨ k = gs ∨ k = gw ∨ k = gr ∨ F k → w'.heap[k]? = wr.heap[k]? := fun k hk => M2.1.block k (hnn k hk).2 (hnn k hk).1
 refine ⟨he, ⟨⟨_, hV', hM.trans M2, fun k hk => ⟨fun hh => ?_, Nat.lt_of_lt_of_le (hnn k hk).2 M2.1.size⟩⟩, h.c.of_heap (e2 cb (.inl rfl)), (e2 gs (.inr (.inl rfl))).trans h.s, (e2 gw (.inr (.inr (.inl rfl)))).trans h.y, (e2 gr (.inr (.inr (.inr (.inl rfl))))).trans h.z, h.lo, h.ne⟩, fun k hk => e2 k (.inr (.inr (.inr (.inr hk)))), ?_⟩
 ·rcases M2.2 k hh with h | h
  ·exact (hnn k hk).1 h
  ·have := (hnn k hk).2; omega
 ·exact (M'.1.block vb (heap_lt ho0) hg).trans ho0
theorem PgAt.facts (h : PgAt w wr vb cb gs gw gr places n H R C s ww wu wq F) :
    (wr.cell? ⟨gs, 0, none⟩ = some (.int .u32 (s.a0 : Nat)) ∧ wr.cell? ⟨gs, 1, none⟩ = some (.int .u32 (s.a1 : Nat)) ∧ wr.cell? ⟨gs, 2, none⟩ = some (.int .u32 (s.n0 : Nat)) ∧ wr.cell? ⟨gs, 3, none⟩ = some (.int .u32 (s.n1 : Nat)) ∧ (∀ k, wr.frozen? ⟨gs, k, none⟩ = false) ∧ gs < wr.heap.size) ∧
    (wr.cell? ⟨gw, 0, none⟩ = some (.bool ww) ∧ wr.cell? ⟨gw, 1, none⟩ = some (.bool wu) ∧ wr.cell? ⟨gw, 2, none⟩ = some (.bool wq) ∧ gw < wr.heap.size) ∧ (wr.cell? ⟨cb, 66, none⟩ = some (.int .u32 (C.cr3 : Nat)) ∧ cb < wr.heap.size) := by
 have h1 := h.s
 have h2 := h.y
 obtain ⟨-, k3, -, kl⟩ := h.c.cr
 refine ⟨⟨?_, ?_, ?_, ?_, fun k => free_at h1, heap_lt h1⟩, ⟨?_, ?_, ?_, heap_lt h2⟩, k3, kl⟩
 all_goals first | (rw [cell_at h1]; rfl) | (rw [cell_at h2]; rfl)
theorem PgAt.pc_ (h : PgAt w wr vb cb gs gw gr places n H R C s ww wu wq F) {t rb : Nat} (ho : wr.heap[vb]? = some (.cells #[.pointer (some ⟨rb, 0, none⟩), .pointer (some ⟨t, 0, none⟩)] 89)) : PgC t vb cb gs gw C s ww wu wq wr := by
 obtain ⟨⟨s0, s1, -, -, -, -⟩, ⟨y0, y1, y2, -⟩, k3, -⟩ := h.facts
 exact ⟨by rw [cell_at ho]; rfl, k3, s0, s1, y0, y1, y2⟩
theorem set5w {w3 : World} {g : Nat} (h : w3.heap[g]? = some (.cells #[.int .u32 0, .int .u32 0, .int .u32 0, .bool false, .bool false] 287)) (fr pd pt : Nat) (xw xu : Bool) : WBox (sets5 w3 g (.int .u32 fr) (.int .u32 pd) (.int .u32 pt) (.bool xw) (.bool xu)) g fr pd pt xw xu := by
 unfold WBox sets5
 simp only [heap_set_map, putObj_cells, h, Option.map_some, List.set_cons_succ, List.set_cons_zero]
end
end Go.Proofs.YtmpcafdgkbpneaaGreat

/- A loop of a function's code. -/
namespace Go.Proofs.YtmpcafdgkbpneaaGreat
open Go
def lpOf (n : Nat) : Code → Option Code
 | .loop c => match rgOf n c with
  | some _ => some (.loop c)
  | none => none
 | .seq a b => match lpOf n a with
  | some c => some c
  | none => lpOf n b
 | .cond _ a b => match lpOf n a with
  | some c => some c
  | none => lpOf n b
 | .block _ c => lpOf n c
 | .scope c => lpOf n c
 | _ => none
noncomputable def lp (f : Func) (n : Nat) : Code := ((f.body.bind (lpOf n))).getD .skip
end Go.Proofs.YtmpcafdgkbpneaaGreat

/- vmem: pages, region 10 with pages on (piece). -/
namespace Go.Proofs.YtmpcafdgkbpneaaGreat
open Go.RowKit Go.MapKept
set_option linter.unusedVariables false
attribute [local go_sem ↓] Go.wp_at_zero Go.wp_at_succ
theorem pg_r10_0 {w wr : World} {vb cb gs gw gr : Nat} {places : Pl} {n : Nat} {H : Nat → Prop} {R R' : RS} {C : CpuS} {s : SpanS} {ww wu wq : Bool} {fr pd pt : Nat} {xw xu : Bool} {cd : Int} (h : PgAt w wr vb cb gs gw gr places n H R C s ww wu wq (fun _ => False)) (hn : (n + 1) * 12 ≤ 140737488355328) (ha : s.a0 < 4294967296)
    (hr : find R C.cr3 s.a0 ww wu wq = (⟨fr, pd, pt, xw, xu⟩, cd, R')) {Q : Exit → Act → World → Prop} {K : Act → World → Prop} {j6 j5 j7 j9 k1 k0 j8 a3 a4 h4 h5 h6 a5 a6 a7 a8 a9 b0 b1 b2 b3 b4 b5 b6 b7 b8 b9 a2 c7 c8 c9 d0 d1 d2 d3 d4 d5 d6 d7 d8 d9 e0 e1 e2 e3 e4 e5 e6 e7 e8 e9 f0 h7 h8 h9 i0 i1 i2 i3 i4 i5 i6 i7 i8 i9 j0 j1 j2 j3 j4 f1 f2 f3 f4 f5 f6 f7 f8 f9 g0 g1 g2 g3 g4 g5 g6 g7 g8 g9 h0 h1 h2 h3 : Value}
    (hK : ∀ gx w' (v57 v58 v59 v60 v61 v62 v63 v64 v65 v66 v67 v68 v69 v70 v71 v72 v73 v74 : Value), PgAt w w' vb cb gs gw gr places (n + 1) H R' C s ww wu wq (· = gx) → WBox w' gx fr pd pt xw xu → gx ≠ gs ∧ gx ≠ gr → K ⟨#[.pointer (some ⟨vb, 0, none⟩), .pointer (some ⟨cb, 0, none⟩), j6, j5, j7, j9, k1, k0, j8, .pointer (some ⟨gw, 0, none⟩), a3, a4, .pointer (some ⟨gs, 0, none⟩), .int .i64 0, .pointer (some ⟨gx, 0, none⟩), .int .i64 cd, .int .i64 0, a5, a6, a7, a8, a9, b0, b1, b2, b3, b4, b5, b6, b7, b8, b9, a2, c7, c8, c9, d0, d1, d2, d3, d4, d5, d6, d7, d8, d9, e0, e1, e2, e3, e4, e5, e6, e7, e8, e9, f0, v57, v58, v59, v60, v61, v62, v63, v64, v65, v66, v67, v68, v69, v70, v71, v72, v73, v74, f1, f2, f3, f4, f5, f6, f7, f8, f9, g0, g1, g2, g3, g4, g5, g6, g7, g8, g9, h0, h1, h2, h3], []⟩ w') :
    Code.wp Tryz.prog (rg Tryz.f137 10) (Exit.then K Q) ⟨#[.pointer (some ⟨vb, 0, none⟩), .pointer (some ⟨cb, 0, none⟩), j6, j5, j7, j9, k1, k0, j8, .pointer (some ⟨gw, 0, none⟩), a3, a4, .pointer (some ⟨gs, 0, none⟩), .int .i64 0, h4, h5, h6, a5, a6, a7, a8, a9, b0, b1, b2, b3, b4, b5, b6, b7, b8, b9, a2, c7, c8, c9, d0, d1, d2, d3, d4, d5, d6, d7, d8, d9, e0, e1, e2, e3, e4, e5, e6, e7, e8, e9, f0, h7, h8, h9, i0, i1, i2, i3, i4, i5, i6, i7, i8, i9, j0, j1, j2, j3, j4, f1, f2, f3, f4, f5, f6, f7, f8, f9, g0, g1, g2, g3, g4, g5, g6, g7, g8, g9, h0, h1, h2, h3], []⟩ wr := by
 obtain ⟨t, rb, ho⟩ := h.obj
 have HKK := Lib.hid hK
 have HC := Lib.hid (h.pc_ ho)
 have hA : PgAt w wr.drew vb cb gs gw gr places n H R C s ww wu wq (fun _ => False) := h.below (Below.refl _ _).drew (fun k hk => hk.elim)
 have hB : PgAt w (wr.alloc (.cells #[.int .u32 0, .int .u32 0, .int .u32 0, .bool false, .bool false] 287)).drew vb cb gs gw gr places n H R C s ww wu wq (· = wr.heap.size) := h.below (((Below.refl _ wr).alloc (Nat.le_refl _) (.cells #[.int .u32 0, .int .u32 0, .int .u32 0, .bool false, .bool false] 287)).drew) (fun k hk => .inr ⟨by omega, by show k < (wr.alloc (.cells #[.int .u32 0, .int .u32 0, .int .u32 0, .bool false, .bool false] 287)).heap.size; simp; omega⟩)
 have cA := Lib.hid (pg_find hA (t := t) (rb := rb) ho hn s.a0 ha hr)
 have cB := Lib.hid (pg_find hB (t := t) (rb := rb) (heap_alloc_lt ho) hn s.a0 ha hr)
 have oB := Lib.hid (show ((wr.alloc (.cells #[.int .u32 0, .int .u32 0, .int .u32 0, .bool false, .bool false] 287)).drew).heap[vb]? = _ from heap_alloc_lt ho)
 have oA := Lib.hid ho
 have HZ : Hid ((wr.alloc (.cells #[.int .u32 0, .int .u32 0, .int .u32 0, .bool false, .bool false] 287)).drew.heap[wr.heap.size]? = some (.cells #[.int .u32 0, .int .u32 0, .int .u32 0, .bool false, .bool false] 287)) := Lib.hid (heap_new wr _)
 have HGR := Lib.hid (heap_lt h.z)
 have HWS : Hid (w.heap.size ≤ wr.heap.size) := Lib.hid (by obtain ⟨_, _, hM, _⟩ := h.v; exact hM.1.size)
 obtain ⟨⟨-, -, -, -, -, sl⟩, ⟨-, -, -, yl⟩, -, kl⟩ := h.facts
 have ml := heap_lt ho
 have HL := Lib.hid (And.intro kl (And.intro sl (And.intro yl ml)))
 obtain ⟨c0, c1, c2, c3, c4, c5, c6⟩ := HC.out
 clear hA hB ho hK h hr
 conv => arg 2; whnf
 go_wp2_with fail
 go_region_held3 (fun w' => w'.cell? ⟨vb, 1, none⟩ = some (.pointer (some ⟨t, 0, none⟩)) ∧ w'.cell? ⟨cb, 66, none⟩ = some (.int .u32 (C.cr3 : Nat)) ∧ w'.cell? ⟨gs, 0, none⟩ = some (.int .u32 (s.a0 : Nat)) ∧ w'.cell? ⟨gs, 1, none⟩ = some (.int .u32 (s.a1 : Nat)) ∧ w'.cell? ⟨gw, 0, none⟩ = some (.bool ww) ∧ w'.cell? ⟨gw, 1, none⟩ = some (.bool wu) ∧ w'.cell? ⟨gw, 2, none⟩ = some (.bool wq))
  ((change PgC t vb cb gs gw C s ww wu wq _; repeat' (first | (with_reducible exact HC2.out) | (with_reducible exact HC.out) | (with_reducible refine PgC.drewN ?_ _) | (with_reducible refine PgC.drew ?_) | (with_reducible refine PgC.alloc ?_ _) | (with_reducible refine PgC.set ?_ HL.out _ _))))
  (first
  | (go_at_call 176; (with_reducible refine (cA.out).mono ?_); rintro e W' ⟨rfl, hP, -, ho'⟩; have HC2 := Lib.hid (hP.pc_ ho'); have HPZ := Lib.hid (show PgAt w (W'.alloc (.cells #[.int .u32 (fr : Nat), .int .u32 (pd : Nat), .int .u32 (pt : Nat), .bool xw, .bool xu] 287)) vb cb gs gw gr places (n + 1) H R' C s ww wu wq (· = W'.heap.size) ∧ WBox (W'.alloc (.cells #[.int .u32 (fr : Nat), .int .u32 (pd : Nat), .int .u32 (pt : Nat), .bool xw, .bool xu] 287)) W'.heap.size fr pd pt xw xu ∧ W'.heap.size ≠ gs ∧ W'.heap.size ≠ gr from ⟨hP.below ((Below.refl _ W').alloc (Nat.le_refl _) _) (fun k hk => .inr ⟨by omega, by simp; omega⟩), heap_new W' _, fun e => by have := heap_lt hP.s; omega, fun e => by have := heap_lt hP.z; omega⟩); have q3 := HC2.out; clear hP ho')
  | (go_at_call 176; (with_reducible refine (cB.out).mono ?_); rintro e W' ⟨rfl, hP, hF, ho'⟩; have HC2 := Lib.hid (hP.pc_ ho'); have hx3 := (hF _ rfl).trans HZ.out; have hf3 : ∀ j, W'.frozen? ⟨wr.heap.size, j, none⟩ = false := fun j => free_at hx3; have z0 : W'.cell? ⟨wr.heap.size, 0, .none⟩ = some (.int .u32 0) := (by rw [cell_at hx3]; rfl); have z1 : W'.cell? ⟨wr.heap.size, 1, .none⟩ = some (.int .u32 0) := (by rw [cell_at hx3]; rfl); have z2 : W'.cell? ⟨wr.heap.size, 2, .none⟩ = some (.int .u32 0) := (by rw [cell_at hx3]; rfl); have z3 : W'.cell? ⟨wr.heap.size, 3, .none⟩ = some (.bool false) := (by rw [cell_at hx3]; rfl); have z4 : W'.cell? ⟨wr.heap.size, 4, .none⟩ = some (.bool false) := (by rw [cell_at hx3]; rfl); have hl3 := heap_lt hx3; have HPZ := Lib.hid (show PgAt w (sets5 W' wr.heap.size (.int .u32 fr) (.int .u32 pd) (.int .u32 pt) (.bool xw) (.bool xu)) vb cb gs gw gr places (n + 1) H R' C s ww wu wq (· = wr.heap.size) ∧ WBox (sets5 W' wr.heap.size (.int .u32 fr) (.int .u32 pd) (.int .u32 pt) (.bool xw) (.bool xu)) wr.heap.size fr pd pt xw xu ∧ wr.heap.size ≠ gs ∧ wr.heap.size ≠ gr from ⟨hP.touch (keeps_sets5 W' _ _ _ _ _ _) rfl (fun e => by have := HL.out.1; omega) (fun e => by have := HL.out.2.1; omega) (fun e => by have := HL.out.2.2.1; omega) (fun e => by have := HGR.out; omega) HWS.out, set5w hx3 fr pd pt xw xu, (fun e => by have := HL.out.2.1; omega), fun e => by have := HGR.out; omega⟩); have q3 := HC2.out; clear hx3 hP hF ho'))
 all_goals
  go_wp2_with fail
  exact HKK.out _ _ _ _ _ _ _ _ _ _ _ _ _ _ _ _ _ _ _ _ HPZ.out.1 HPZ.out.2.1 HPZ.out.2.2
end Go.Proofs.YtmpcafdgkbpneaaGreat

/- vmem: pages, region 10 with pages on (piece). -/
namespace Go.Proofs.YtmpcafdgkbpneaaGreat
open Go.RowKit Go.MapKept
set_option linter.unusedVariables false
attribute [local go_sem ↓] Go.wp_at_zero Go.wp_at_succ
theorem pg_r10_1 {w wr : World} {vb cb gs gw gr : Nat} {places : Pl} {n : Nat} {H : Nat → Prop} {R R' : RS} {C : CpuS} {s : SpanS} {ww wu wq : Bool} {fr pd pt : Nat} {xw xu : Bool} {cd : Int} (h : PgAt w wr vb cb gs gw gr places n H R C s ww wu wq (fun _ => False)) (hn : (n + 1) * 12 ≤ 140737488355328) (ha : s.a1 < 4294967296)
    (hr : find R C.cr3 s.a1 ww wu wq = (⟨fr, pd, pt, xw, xu⟩, cd, R')) {Q : Exit → Act → World → Prop} {K : Act → World → Prop} {j6 j5 j7 j9 k1 k0 j8 a3 a4 h4 h5 h6 a5 a6 a7 a8 a9 b0 b1 b2 b3 b4 b5 b6 b7 b8 b9 a2 c7 c8 c9 d0 d1 d2 d3 d4 d5 d6 d7 d8 d9 e0 e1 e2 e3 e4 e5 e6 e7 e8 e9 f0 h7 h8 h9 i0 i1 i2 i3 i4 i5 i6 i7 i8 i9 j0 j1 j2 j3 j4 f1 f2 f3 f4 f5 f6 f7 f8 f9 g0 g1 g2 g3 g4 g5 g6 g7 g8 g9 h0 h1 h2 h3 : Value}
    (hK : ∀ gx w' (v57 v58 v59 v60 v61 v62 v63 v64 v65 v66 v67 v68 v69 v70 v71 v72 v73 v74 : Value), PgAt w w' vb cb gs gw gr places (n + 1) H R' C s ww wu wq (· = gx) → WBox w' gx fr pd pt xw xu → gx ≠ gs ∧ gx ≠ gr → K ⟨#[.pointer (some ⟨vb, 0, none⟩), .pointer (some ⟨cb, 0, none⟩), j6, j5, j7, j9, k1, k0, j8, .pointer (some ⟨gw, 0, none⟩), a3, a4, .pointer (some ⟨gs, 0, none⟩), .int .i64 1, .pointer (some ⟨gx, 0, none⟩), .int .i64 cd, .int .i64 0, a5, a6, a7, a8, a9, b0, b1, b2, b3, b4, b5, b6, b7, b8, b9, a2, c7, c8, c9, d0, d1, d2, d3, d4, d5, d6, d7, d8, d9, e0, e1, e2, e3, e4, e5, e6, e7, e8, e9, f0, v57, v58, v59, v60, v61, v62, v63, v64, v65, v66, v67, v68, v69, v70, v71, v72, v73, v74, f1, f2, f3, f4, f5, f6, f7, f8, f9, g0, g1, g2, g3, g4, g5, g6, g7, g8, g9, h0, h1, h2, h3], []⟩ w') :
    Code.wp Tryz.prog (rg Tryz.f137 10) (Exit.then K Q) ⟨#[.pointer (some ⟨vb, 0, none⟩), .pointer (some ⟨cb, 0, none⟩), j6, j5, j7, j9, k1, k0, j8, .pointer (some ⟨gw, 0, none⟩), a3, a4, .pointer (some ⟨gs, 0, none⟩), .int .i64 1, h4, h5, h6, a5, a6, a7, a8, a9, b0, b1, b2, b3, b4, b5, b6, b7, b8, b9, a2, c7, c8, c9, d0, d1, d2, d3, d4, d5, d6, d7, d8, d9, e0, e1, e2, e3, e4, e5, e6, e7, e8, e9, f0, h7, h8, h9, i0, i1, i2, i3, i4, i5, i6, i7, i8, i9, j0, j1, j2, j3, j4, f1, f2, f3, f4, f5, f6, f7, f8, f9, g0, g1, g2, g3, g4, g5, g6, g7, g8, g9, h0, h1, h2, h3], []⟩ wr := by
 obtain ⟨t, rb, ho⟩ := h.obj
 have HKK := Lib.hid hK
 have HC := Lib.hid (h.pc_ ho)
 have hA : PgAt w wr.drew vb cb gs gw gr places n H R C s ww wu wq (fun _ => False) := h.below (Below.refl _ _).drew (fun k hk => hk.elim)
 have hB : PgAt w (wr.alloc (.cells #[.int .u32 0, .int .u32 0, .int .u32 0, .bool false, .bool false] 287)).drew vb cb gs gw gr places n H R C s ww wu wq (· = wr.heap.size) := h.below (((Below.refl _ wr).alloc (Nat.le_refl _) (.cells #[.int .u32 0, .int .u32 0, .int .u32 0, .bool false, .bool false] 287)).drew) (fun k hk => .inr ⟨by omega, by show k < (wr.alloc (.cells #[.int .u32 0, .int .u32 0, .int .u32 0, .bool false, .bool false] 287)).heap.size; simp; omega⟩)
 have cA := Lib.hid (pg_find hA (t := t) (rb := rb) ho hn s.a1 ha hr)
 have cB := Lib.hid (pg_find hB (t := t) (rb := rb) (heap_alloc_lt ho) hn s.a1 ha hr)
 have oB := Lib.hid (show ((wr.alloc (.cells #[.int .u32 0, .int .u32 0, .int .u32 0, .bool false, .bool false] 287)).drew).heap[vb]? = _ from heap_alloc_lt ho)
 have oA := Lib.hid ho
 have HZ : Hid ((wr.alloc (.cells #[.int .u32 0, .int .u32 0, .int .u32 0, .bool false, .bool false] 287)).drew.heap[wr.heap.size]? = some (.cells #[.int .u32 0, .int .u32 0, .int .u32 0, .bool false, .bool false] 287)) := Lib.hid (heap_new wr _)
 have HGR := Lib.hid (heap_lt h.z)
 have HWS : Hid (w.heap.size ≤ wr.heap.size) := Lib.hid (by obtain ⟨_, _, hM, _⟩ := h.v; exact hM.1.size)
 obtain ⟨⟨-, -, -, -, -, sl⟩, ⟨-, -, -, yl⟩, -, kl⟩ := h.facts
 have ml := heap_lt ho
 have HL := Lib.hid (And.intro kl (And.intro sl (And.intro yl ml)))
 obtain ⟨c0, c1, c2, c3, c4, c5, c6⟩ := HC.out
 clear hA hB ho hK h hr
 conv => arg 2; whnf
 go_wp2_with fail
 go_region_held3 (fun w' => w'.cell? ⟨vb, 1, none⟩ = some (.pointer (some ⟨t, 0, none⟩)) ∧ w'.cell? ⟨cb, 66, none⟩ = some (.int .u32 (C.cr3 : Nat)) ∧ w'.cell? ⟨gs, 0, none⟩ = some (.int .u32 (s.a0 : Nat)) ∧ w'.cell? ⟨gs, 1, none⟩ = some (.int .u32 (s.a1 : Nat)) ∧ w'.cell? ⟨gw, 0, none⟩ = some (.bool ww) ∧ w'.cell? ⟨gw, 1, none⟩ = some (.bool wu) ∧ w'.cell? ⟨gw, 2, none⟩ = some (.bool wq))
  ((change PgC t vb cb gs gw C s ww wu wq _; repeat' (first | (with_reducible exact HC2.out) | (with_reducible exact HC.out) | (with_reducible refine PgC.drewN ?_ _) | (with_reducible refine PgC.drew ?_) | (with_reducible refine PgC.alloc ?_ _) | (with_reducible refine PgC.set ?_ HL.out _ _))))
  (first
  | (go_at_call 176; (with_reducible refine (cA.out).mono ?_); rintro e W' ⟨rfl, hP, -, ho'⟩; have HC2 := Lib.hid (hP.pc_ ho'); have HPZ := Lib.hid (show PgAt w (W'.alloc (.cells #[.int .u32 (fr : Nat), .int .u32 (pd : Nat), .int .u32 (pt : Nat), .bool xw, .bool xu] 287)) vb cb gs gw gr places (n + 1) H R' C s ww wu wq (· = W'.heap.size) ∧ WBox (W'.alloc (.cells #[.int .u32 (fr : Nat), .int .u32 (pd : Nat), .int .u32 (pt : Nat), .bool xw, .bool xu] 287)) W'.heap.size fr pd pt xw xu ∧ W'.heap.size ≠ gs ∧ W'.heap.size ≠ gr from ⟨hP.below ((Below.refl _ W').alloc (Nat.le_refl _) _) (fun k hk => .inr ⟨by omega, by simp; omega⟩), heap_new W' _, fun e => by have := heap_lt hP.s; omega, fun e => by have := heap_lt hP.z; omega⟩); have q3 := HC2.out; clear hP ho')
  | (go_at_call 176; (with_reducible refine (cB.out).mono ?_); rintro e W' ⟨rfl, hP, hF, ho'⟩; have HC2 := Lib.hid (hP.pc_ ho'); have hx3 := (hF _ rfl).trans HZ.out; have hf3 : ∀ j, W'.frozen? ⟨wr.heap.size, j, none⟩ = false := fun j => free_at hx3; have z0 : W'.cell? ⟨wr.heap.size, 0, .none⟩ = some (.int .u32 0) := (by rw [cell_at hx3]; rfl); have z1 : W'.cell? ⟨wr.heap.size, 1, .none⟩ = some (.int .u32 0) := (by rw [cell_at hx3]; rfl); have z2 : W'.cell? ⟨wr.heap.size, 2, .none⟩ = some (.int .u32 0) := (by rw [cell_at hx3]; rfl); have z3 : W'.cell? ⟨wr.heap.size, 3, .none⟩ = some (.bool false) := (by rw [cell_at hx3]; rfl); have z4 : W'.cell? ⟨wr.heap.size, 4, .none⟩ = some (.bool false) := (by rw [cell_at hx3]; rfl); have hl3 := heap_lt hx3; have HPZ := Lib.hid (show PgAt w (sets5 W' wr.heap.size (.int .u32 fr) (.int .u32 pd) (.int .u32 pt) (.bool xw) (.bool xu)) vb cb gs gw gr places (n + 1) H R' C s ww wu wq (· = wr.heap.size) ∧ WBox (sets5 W' wr.heap.size (.int .u32 fr) (.int .u32 pd) (.int .u32 pt) (.bool xw) (.bool xu)) wr.heap.size fr pd pt xw xu ∧ wr.heap.size ≠ gs ∧ wr.heap.size ≠ gr from ⟨hP.touch (keeps_sets5 W' _ _ _ _ _ _) rfl (fun e => by have := HL.out.1; omega) (fun e => by have := HL.out.2.1; omega) (fun e => by have := HL.out.2.2.1; omega) (fun e => by have := HGR.out; omega) HWS.out, set5w hx3 fr pd pt xw xu, (fun e => by have := HL.out.2.1; omega), fun e => by have := HGR.out; omega⟩); have q3 := HC2.out; clear hx3 hP hF ho'))
 all_goals
  go_wp2_with fail
  exact HKK.out _ _ _ _ _ _ _ _ _ _ _ _ _ _ _ _ _ _ _ _ HPZ.out.1 HPZ.out.2.1 HPZ.out.2.2
end Go.Proofs.YtmpcafdgkbpneaaGreat

/- vmem: pages, with pages on. -/
namespace Go.Proofs.YtmpcafdgkbpneaaGreat
open Go.RowKit Go.MapKept
set_option linter.unusedVariables false

def sets4 (w : World) (b : Nat) (v0 v1 v2 v3 : Value) : World := (((w.setCell ⟨b, 0, .none⟩ v0).setCell ⟨b, 1, .none⟩ v1).setCell ⟨b, 2, .none⟩ v2).setCell ⟨b, 3, .none⟩ v3
theorem keeps_sets4 (w : World) (b : Nat) (v0 v1 v2 v3 : Value) : Keeps (· = b) w (sets4 w b v0 v1 v2 v3) := ((((Keeps.refl (· = b) w).setOne 0 _).setOne 1 _).setOne 2 _).setOne 3 _
theorem cell_sets4 {w : World} {b : Nat} {a0 a1 a2 a3 : Value} {T : TypeId} (h : w.heap[b]? = some (.cells #[a0, a1, a2, a3] T (0, 0))) (v0 v1 v2 v3 : Value) :
    (sets4 w b v0 v1 v2 v3).cell? ⟨b, 0, none⟩ = some v0 ∧ (sets4 w b v0 v1 v2 v3).cell? ⟨b, 1, none⟩ = some v1 ∧ (sets4 w b v0 v1 v2 v3).cell? ⟨b, 2, none⟩ = some v2 ∧ (sets4 w b v0 v1 v2 v3).cell? ⟨b, 3, none⟩ = some v3 := by
 have e : (sets4 w b v0 v1 v2 v3).heap[b]? = some (.cells #[v0, v1, v2, v3] T (0, 0)) := by
  unfold sets4
  simp only [heap_set_map, putObj_cells, h, Option.map_some, List.set_cons_succ, List.set_cons_zero]
 exact ⟨by rw [cell_at e]; rfl, by rw [cell_at e]; rfl, by rw [cell_at e]; rfl, by rw [cell_at e]; rfl⟩
theorem or_onPage (fr lin : Nat) (h0 : fr % 4096 = 0) (h1 : fr < 4294967296) : bits .or .u32 (fr : Int) ((lin : Int) % 4096) = ((onPage fr lin : Nat) : Int) := by
 have e := u32_or_nat fr (lin % 4096) h1 (by omega)
 have e2 : ((lin : Int) % 4096) = ((lin % 4096 : Nat) : Int) := by omega
 rw [e2, e]
 congr 1
 show fr ||| lin % 4096 = fr + lin % 4096
 have h := Nat.two_pow_add_eq_or_of_lt (i := 12) (b := lin % 4096) (by omega) (fr / 4096)
 rw [show 2 ^ 12 * (fr / 4096) = fr by omega] at h
 exact h.symm
section
variable {w wr w' : World} {vb cb gs gw gr : Nat} {places : Pl} {n : Nat} {H F F' : Nat → Prop} {R : RS} {C : CpuS} {s : SpanS} {ww wu wq : Bool}
theorem PgAt.fin (h : PgAt w wr vb cb gs gw gr places n H R C s ww wu wq F) (hk : Keeps (· = gr) wr w') {n' : Nat} (hn : n ≤ n') : ∃ H', Vm w' vb places n' H' R ∧ Moves H H' w w' := by
 obtain ⟨H', hV, hM, hnn⟩ := h.v
 have hg := (hnn gr (.inr (.inr (.inr (.inl rfl))))).1
 exact ⟨H', (hV.more hn).of_heap fun k hk2 => hk.block k (hV.lt k hk2) (fun e => hg (by rw [← e]; exact hk2)), hM.1.andThen hk fun i hi e => by have := h.lo; omega, fun k h => hM.2 k h⟩
theorem PgAt.fault (h : PgAt w wr vb cb gs gw gr places n H R C s ww wu wq F) {n' : Nat} (hn : n ≤ n') : ∃ H', Vm wr vb places n' H' R ∧ Moves H H' w wr := h.fin (Keeps.refl _ _) hn
theorem PgAt.span (h : PgAt w wr vb cb gs gw gr places n H R C s ww wu wq F) (hne : cb ≠ gs ∧ gw ≠ gs) (hF : ∀ k, F' k → F k ∧ k ≠ gs) (s' : SpanS) (k : Nat) (v : Value) (hs : s.cells.setIfInBounds k v = s'.cells) : PgAt w (wr.setCell ⟨gs, k, none⟩ v) vb cb gs gw gr places n H R C s' ww wu wq F' := by
 obtain ⟨H', hV, hM, hn⟩ := h.v
 have hk : Keeps (· = gs) wr (wr.setCell ⟨gs, k, none⟩ v) := (Keeps.refl _ _).setOne k v
 have hng := (hn gs (.inr (.inl rfl))).1
 have e : ∀ j, j = cb ∨ j = gs ∨ j = gw ∨ j = gr ∨ F j → j ≠ gs → (wr.setCell ⟨gs, k, none⟩ v).heap[j]? = wr.heap[j]? := fun j hj hne => hk.block j (hn j hj).2 hne
 refine ⟨⟨H', hV.of_heap fun j hj => hk.block j (hV.lt j hj) (fun e => hng (by rw [← e]; exact hj)), ⟨hM.1.andThen hk fun i hi e => by have := h.lo; omega, fun k h => hM.2 k h⟩, fun j hj => ?_⟩, h.c.of_heap (e cb (.inl rfl) hne.1), ?_, (e gw (.inr (.inr (.inl rfl))) hne.2).trans h.y, (e gr (.inr (.inr (.inr (.inl rfl)))) h.ne.symm).trans h.z, h.lo, h.ne⟩
 ·have hj' : j = cb ∨ j = gs ∨ j = gw ∨ j = gr ∨ F j := by
    rcases hj with h | h | h | h | h
    ·exact .inl h
    ·exact .inr (.inl h)
    ·exact .inr (.inr (.inl h))
    ·exact .inr (.inr (.inr (.inl h)))
    ·exact .inr (.inr (.inr (.inr (hF j h).1)))
  exact ⟨(hn j hj').1, Nat.lt_of_lt_of_le (hn j hj').2 hk.size⟩
 ·rw [heap_set_same v h.s, hs]
theorem PgAt.start (hV : Vm w vb places n H R) (hC : CpuAt w cb C) (hcb : ¬ H cb) {x0 x1 x2 x3 : Int} (h0 : x0 = (s.a0 : Nat)) (h1 : x1 = (s.a1 : Nat)) (h2 : x2 = (s.n0 : Nat)) (h3 : x3 = (s.n1 : Nat)) :
    PgAt w (((w.alloc (.cells #[.bool ww, .bool wu, .bool wq] 223)).alloc (.cells #[.int .u32 0, .int .u32 0, .int .u32 0, .int .u32 0] 196)).alloc (.cells #[.int .u32 x0, .int .u32 x1, .int .u32 x2, .int .u32 x3] 196)) vb cb (w.heap.size + 1 + 1) w.heap.size (w.heap.size + 1) places n H R C s ww wu wq (fun _ => False) := by
 subst h0 h1 h2 h3
 have hb : Below w.heap.size w (((w.alloc (.cells #[.bool ww, .bool wu, .bool wq] 223)).alloc (.cells #[.int .u32 0, .int .u32 0, .int .u32 0, .int .u32 0] 196)).alloc (.cells #[.int .u32 (s.a0 : Nat), .int .u32 (s.a1 : Nat), .int .u32 (s.n0 : Nat), .int .u32 (s.n1 : Nat)] 196)) :=
  (((Below.refl _ _).alloc (Nat.le_refl _) _).alloc (by simp) _).alloc (by simp; omega) _
 have h0 := heap_alloc_lt (o' := .cells #[.int .u32 (s.a0 : Nat), .int .u32 (s.a1 : Nat), .int .u32 (s.n0 : Nat), .int .u32 (s.n1 : Nat)] 196) (heap_alloc_lt (o' := .cells #[.int .u32 0, .int .u32 0, .int .u32 0, .int .u32 0] 196) (heap_new w (.cells #[.bool ww, .bool wu, .bool wq] 223)))
 have h1 := heap_alloc_lt (o' := .cells #[.int .u32 (s.a0 : Nat), .int .u32 (s.a1 : Nat), .int .u32 (s.n0 : Nat), .int .u32 (s.n1 : Nat)] 196) (heap_new (w.alloc (.cells #[.bool ww, .bool wu, .bool wq] 223)) (.cells #[.int .u32 0, .int .u32 0, .int .u32 0, .int .u32 0] 196))
 have h2 := heap_new ((w.alloc (.cells #[.bool ww, .bool wu, .bool wq] 223)).alloc (.cells #[.int .u32 0, .int .u32 0, .int .u32 0, .int .u32 0] 196)) (.cells #[.int .u32 (s.a0 : Nat), .int .u32 (s.a1 : Nat), .int .u32 (s.n0 : Nat), .int .u32 (s.n1 : Nat)] 196)
 simp only [show (w.alloc (.cells #[.bool ww, .bool wu, .bool wq] 223)).heap.size = w.heap.size + 1 by simp] at h1
 simp only [show ((w.alloc (.cells #[.bool ww, .bool wu, .bool wq] 223)).alloc (.cells #[.int .u32 0, .int .u32 0, .int .u32 0, .int .u32 0] 196)).heap.size = w.heap.size + 1 + 1 by simp] at h2
 have hs := heap_lt h2
 have hV' := hV.lt
 have hcl := hC.lt
 refine ⟨⟨H, hV.below hb, Moves.ofBelow hb, fun k hk => ?_⟩, hC.below hb, h2, h0, h1, ⟨by omega, by omega, by omega⟩, by omega⟩
 rcases hk with rfl | rfl | rfl | rfl | h
 ·exact ⟨hcb, by omega⟩
 ·exact ⟨fun h => by have := hV' _ h; omega, by omega⟩
 ·exact ⟨fun h => by have := hV' _ h; omega, by omega⟩
 ·exact ⟨fun h => by have := hV' _ h; omega, by omega⟩
 ·exact h.elim
theorem PgAt.res (h : PgAt w wr vb cb gs gw gr places n H R C s ww wu wq F) : wr.cell? ⟨gr, 0, none⟩ = some (.int .u32 0) ∧ wr.cell? ⟨gr, 1, none⟩ = some (.int .u32 0) ∧ wr.cell? ⟨gr, 2, none⟩ = some (.int .u32 0) ∧ wr.cell? ⟨gr, 3, none⟩ = some (.int .u32 0) ∧ (∀ k, wr.frozen? ⟨gr, k, none⟩ = false) ∧ gr < wr.heap.size := by
 have h1 := h.z
 exact ⟨by rw [cell_at h1]; rfl, by rw [cell_at h1]; rfl, by rw [cell_at h1]; rfl, by rw [cell_at h1]; rfl, fun k => free_at h1, heap_lt h1⟩
theorem WBox.facts {W : World} {g fr pd pt : Nat} {xw xu : Bool} (h : WBox W g fr pd pt xw xu) : W.cell? ⟨g, 0, none⟩ = some (.int .u32 (fr : Nat)) ∧ g < W.heap.size := by
 unfold WBox at h
 exact ⟨by rw [cell_at h]; rfl, heap_lt h⟩
end
end Go.Proofs.YtmpcafdgkbpneaaGreat

/- vmem: pages, with pages on: the loop. -/
namespace Go.Proofs.YtmpcafdgkbpneaaGreat
open Go.RowKit Go.MapKept
set_option linter.unusedVariables false
attribute [local go_sem ↓] Go.wp_at_zero Go.wp_at_succ

theorem pg1_fault {C : CpuS} {lin size : Nat} {wr us : Bool} {x : WalkR} {cd : Int} {R' : RS} (h : 0 ≤ cd) : pg1 C lin size wr us (x, cd, R') = (.fault cd lin, R') := by unfold pg1; rw [if_pos h]
theorem pg1_one {C : CpuS} {lin size : Nat} {wr us : Bool} {x : WalkR} {cd : Int} {R' : RS} (h : ¬ 0 ≤ cd) (h1 : size = first lin size) : pg1 C lin size wr us (x, cd, R') = (.ok ⟨onPage x.frame lin, lin2 lin size, first lin size, 0⟩, R') := by unfold pg1; rw [if_neg h, if_pos h1]
theorem pg1_two {C : CpuS} {lin size : Nat} {wr us : Bool} {x : WalkR} {cd : Int} {R' : RS} (h : ¬ 0 ≤ cd) (h1 : ¬ size = first lin size) : pg1 C lin size wr us (x, cd, R') = pg2 C lin size wr us (onPage x.frame lin) (find R' C.cr3 (lin2 lin size) wr us C.wp) := by unfold pg1; rw [if_neg h, if_neg h1]
theorem pg2_fault {C : CpuS} {lin size a0 : Nat} {wr us : Bool} {x : WalkR} {cd : Int} {R' : RS} (h : 0 ≤ cd) : pg2 C lin size wr us a0 (x, cd, R') = (.fault cd (lin2 lin size), R') := by unfold pg2; rw [if_pos h]
theorem pg2_ok {C : CpuS} {lin size a0 : Nat} {wr us : Bool} {x : WalkR} {cd : Int} {R' : RS} (h : ¬ 0 ≤ cd) : pg2 C lin size wr us a0 (x, cd, R') = (.ok ⟨a0, onPage x.frame (lin2 lin size), first lin size, size - first lin size⟩, R') := by unfold pg2; rw [if_neg h]
section
variable {w W : World} {vb cb gs gw gr : Nat} {places : Pl} {n m : Nat} {H F : Nat → Prop} {R R0 : RS} {C : CpuS} {s : SpanS} {ww wu wq : Bool}
theorem pg_end (h : PgAt w W vb cb gs gw gr places m H R C s ww wu wq F) (hm : m ≤ n + 2) {j7 j5 i9 i8 j0 j1 j2 j3 j4 j6 a3 a4 a5 a6 a7 a8 a9 b0 b1 b2 b3 b4 b5 b6 b7 b8 b9 c0 c1 c2 a2 c3 c4 c5 c6 c7 c8 c9 d0 d1 d2 d3 d4 d5 d6 d7 d8 d9 e0 e1 e2 e3 e4 e5 e6 e7 e8 e9 f0 f1 f2 f3 f4 f5 f6 f7 f8 f9 g0 g1 g2 g3 g4 g5 g6 g7 g8 g9 h0 h1 h2 h3 h4 h5 h6 h7 h8 h9 i0 i1 i2 i3 i4 i5 i6 i7 : Value} :
    Code.wp Tryz.prog (.seq (rg Tryz.f137 15) (tl Tryz.f137 15)) (bodyPost Tryz.prog Tryz.f137 (PgEnd w vb places n H (.ok s, R))) ⟨#[j7, j5, i9, i8, j0, j1, j2, j3, j4, j6, .pointer (some ⟨gr, 0, none⟩), a3, .pointer (some ⟨gs, 0, none⟩), a4, a5, a6, a7, a8, a9, b0, b1, b2, b3, b4, b5, b6, b7, b8, b9, c0, c1, c2, a2, c3, c4, c5, c6, c7, c8, c9, d0, d1, d2, d3, d4, d5, d6, d7, d8, d9, e0, e1, e2, e3, e4, e5, e6, e7, e8, e9, f0, f1, f2, f3, f4, f5, f6, f7, f8, f9, g0, g1, g2, g3, g4, g5, g6, g7, g8, g9, h0, h1, h2, h3, h4, h5, h6, h7, h8, h9, i0, i1, i2, i3, i4, i5, i6, i7], []⟩ W := by
 obtain ⟨⟨s0, s1, s2, s3, -, sl⟩, -, -⟩ := h.facts
 obtain ⟨z0, z1, z2, z3, zf, zl⟩ := h.res
 have hs := cell_sets4 h.z (.int .u32 (s.a0 : Nat)) (.int .u32 (s.a1 : Nat)) (.int .u32 (s.n0 : Nat)) (.int .u32 (s.n1 : Nat))
 have HS := Lib.hid hs
 have HF := Lib.hid (h.fin (keeps_sets4 W gr (.int .u32 (s.a0 : Nat)) (.int .u32 (s.a1 : Nat)) (.int .u32 (s.n0 : Nat)) (.int .u32 (s.n1 : Nat))) hm)
 clear hs h
 conv => arg 2; arg 1; whnf
 conv => arg 2; arg 2; whnf
 go_wp2_with fail
 change bodyPost _ _ _ _ _ (sets4 W gr (.int .u32 (s.a0 : Nat)) (.int .u32 (s.a1 : Nat)) (.int .u32 (s.n0 : Nat)) (.int .u32 (s.n1 : Nat)))
 obtain ⟨r0, r1, r2, r3⟩ := HS.out
 clear HS z0 z1 z2 z3 zf zl
 generalize sets4 W gr (.int .u32 (s.a0 : Nat)) (.int .u32 (s.a1 : Nat)) (.int .u32 (s.n0 : Nat)) (.int .u32 (s.n1 : Nat)) = Wf at *
 refine bodyPost_ret (v := s.val) (by simp [results, Tryz.results137, go_sem, r0, r1, r2, r3, SpanS.val]) rfl ?_
 exact ⟨(fun s' h => by cases h; rfl), (fun cd a h => by cases h), HF.out⟩
theorem pg_gave (h : PgAt w W vb cb gs gw gr places m H R C s ww wu wq F) (hm : m ≤ n + 2) (cd : Int) (a : Nat) : PgEnd w vb places n H (.fault cd a, R) (gaveUp 14 cd a) W :=
 ⟨(fun s h => by cases h), (fun cd a h => by cases h; rfl), h.fault hm⟩
end
section
variable {w W : World} {vb cb gs gw gr : Nat} {places : Pl} {n m : Nat} {H F : Nat → Prop} {R R0 : RS} {C : CpuS} {s : SpanS} {ww wu wq : Bool}
theorem pg_r13_0 {gx fr pd pt : Nat} {xw xu : Bool} (h : PgAt w W vb cb gs gw gr places m H R C s ww wu wq (· = gx)) (hb : WBox W gx fr pd pt xw xu) (hx : gx ≠ gs) (hne : cb ≠ gs ∧ gw ≠ gs) (h0 : fr % 4096 = 0) (h1 : fr < 4294967296) {Q : Exit → Act → World → Prop} {j8 j6 j0 i9 j1 j2 j3 j4 j5 j7 a3 a4 a5 a6 a7 a8 a9 b0 b1 b2 b3 b4 b5 b6 b7 b8 b9 c0 c1 a2 c2 c3 c4 c5 c6 c7 c8 c9 d0 d1 d2 d3 d4 d5 d6 d7 d8 d9 e0 e1 e2 e3 e4 e5 e6 e7 e8 e9 f0 f1 f2 f3 f4 f5 f6 f7 f8 f9 g0 g1 g2 g3 g4 g5 g6 g7 g8 g9 h2 h3 h4 h5 h8 h9 i0 i1 i2 i3 i4 i5 i6 i7 i8 h6 h7 : Value}
    (hK : ∀ w' (v85 v86 v87 v88 v89 v90 v91 v92 v93 v94 v95 : Value), PgAt w w' vb cb gs gw gr places m H R C ⟨onPage fr s.a0, s.a1, s.n0, s.n1⟩ ww wu wq (fun _ => False) → Q .normal ⟨#[j8, j6, j0, i9, j1, j2, j3, j4, j5, j7, a3, a4, .pointer (some ⟨gs, 0, none⟩), .int .i64 0, .pointer (some ⟨gx, 0, none⟩), a5, a6, a7, a8, a9, b0, b1, b2, b3, b4, b5, b6, b7, b8, b9, c0, c1, a2, c2, c3, c4, c5, c6, c7, c8, c9, d0, d1, d2, d3, d4, d5, d6, d7, d8, d9, e0, e1, e2, e3, e4, e5, e6, e7, e8, e9, f0, f1, f2, f3, f4, f5, f6, f7, f8, f9, g0, g1, g2, g3, g4, g5, g6, g7, g8, g9, h2, h3, h4, h5, v85, v86, v87, v88, v89, v90, v91, v92, v93, v94, v95, h6, h7], []⟩ w') :
    Code.wp Tryz.prog (rg Tryz.f137 13) Q ⟨#[j8, j6, j0, i9, j1, j2, j3, j4, j5, j7, a3, a4, .pointer (some ⟨gs, 0, none⟩), .int .i64 0, .pointer (some ⟨gx, 0, none⟩), a5, a6, a7, a8, a9, b0, b1, b2, b3, b4, b5, b6, b7, b8, b9, c0, c1, a2, c2, c3, c4, c5, c6, c7, c8, c9, d0, d1, d2, d3, d4, d5, d6, d7, d8, d9, e0, e1, e2, e3, e4, e5, e6, e7, e8, e9, f0, f1, f2, f3, f4, f5, f6, f7, f8, f9, g0, g1, g2, g3, g4, g5, g6, g7, g8, g9, h2, h3, h4, h5, h8, h9, i0, i1, i2, i3, i4, i5, i6, i7, i8, h6, h7], []⟩ W := by
 obtain ⟨⟨s0, s1, s2, s3, sf, sl⟩, -, -⟩ := h.facts
 obtain ⟨x0, xl⟩ := hb.facts
 have HKK := Lib.hid hK
 have HE := Lib.hid (or_onPage fr s.a0 h0 h1)
 have HT : Hid ((s.a0 : Int).tmod 4096 = (s.a0 : Int) % 4096) := Lib.hid (Int.tmod_eq_emod_of_nonneg (by omega))
 have HP := Lib.hid ((h.span (F' := fun _ => False) hne (fun k h => h.elim) ⟨onPage fr s.a0, s.a1, s.n0, s.n1⟩ 0 (.int .u32 ((onPage fr s.a0 : Nat) : Int)) rfl).below (Below.refl _ _).drew (F' := fun _ => False) (fun k h => h.elim))
 clear hK h hb h0
 conv => arg 2; whnf
 refine wp_region_noPanic ?_
 go_region
 all_goals
  rw [HT.out, HE.out]
  exact HKK.out _ _ _ _ _ _ _ _ _ _ _ _ HP.out
theorem pg_r13_1 {gx fr pd pt : Nat} {xw xu : Bool} (h : PgAt w W vb cb gs gw gr places m H R C s ww wu wq (· = gx)) (hb : WBox W gx fr pd pt xw xu) (hx : gx ≠ gs) (hne : cb ≠ gs ∧ gw ≠ gs) (h0 : fr % 4096 = 0) (h1 : fr < 4294967296) {Q : Exit → Act → World → Prop} {j8 j6 j0 i9 j1 j2 j3 j4 j5 j7 a3 a4 a5 a6 a7 a8 a9 b0 b1 b2 b3 b4 b5 b6 b7 b8 b9 c0 c1 a2 c2 c3 c4 c5 c6 c7 c8 c9 d0 d1 d2 d3 d4 d5 d6 d7 d8 d9 e0 e1 e2 e3 e4 e5 e6 e7 e8 e9 f0 f1 f2 f3 f4 f5 f6 f7 f8 f9 g0 g1 g2 g3 g4 g5 g6 g7 g8 g9 h2 h3 h4 h5 h8 h9 i0 i1 i2 i3 i4 i5 i6 i7 i8 h6 h7 : Value}
    (hK : ∀ w' (v85 v86 v87 v88 v89 v90 v91 v92 v93 v94 v95 : Value), PgAt w w' vb cb gs gw gr places m H R C ⟨s.a0, onPage fr s.a1, s.n0, s.n1⟩ ww wu wq (fun _ => False) → Q .normal ⟨#[j8, j6, j0, i9, j1, j2, j3, j4, j5, j7, a3, a4, .pointer (some ⟨gs, 0, none⟩), .int .i64 1, .pointer (some ⟨gx, 0, none⟩), a5, a6, a7, a8, a9, b0, b1, b2, b3, b4, b5, b6, b7, b8, b9, c0, c1, a2, c2, c3, c4, c5, c6, c7, c8, c9, d0, d1, d2, d3, d4, d5, d6, d7, d8, d9, e0, e1, e2, e3, e4, e5, e6, e7, e8, e9, f0, f1, f2, f3, f4, f5, f6, f7, f8, f9, g0, g1, g2, g3, g4, g5, g6, g7, g8, g9, h2, h3, h4, h5, v85, v86, v87, v88, v89, v90, v91, v92, v93, v94, v95, h6, h7], []⟩ w') :
    Code.wp Tryz.prog (rg Tryz.f137 13) Q ⟨#[j8, j6, j0, i9, j1, j2, j3, j4, j5, j7, a3, a4, .pointer (some ⟨gs, 0, none⟩), .int .i64 1, .pointer (some ⟨gx, 0, none⟩), a5, a6, a7, a8, a9, b0, b1, b2, b3, b4, b5, b6, b7, b8, b9, c0, c1, a2, c2, c3, c4, c5, c6, c7, c8, c9, d0, d1, d2, d3, d4, d5, d6, d7, d8, d9, e0, e1, e2, e3, e4, e5, e6, e7, e8, e9, f0, f1, f2, f3, f4, f5, f6, f7, f8, f9, g0, g1, g2, g3, g4, g5, g6, g7, g8, g9, h2, h3, h4, h5, h8, h9, i0, i1, i2, i3, i4, i5, i6, i7, i8, h6, h7], []⟩ W := by
 obtain ⟨⟨s0, s1, s2, s3, sf, sl⟩, -, -⟩ := h.facts
 obtain ⟨x0, xl⟩ := hb.facts
 have HKK := Lib.hid hK
 have HE := Lib.hid (or_onPage fr s.a1 h0 h1)
 have HT : Hid ((s.a1 : Int).tmod 4096 = (s.a1 : Int) % 4096) := Lib.hid (Int.tmod_eq_emod_of_nonneg (by omega))
 have HP := Lib.hid ((h.span (F' := fun _ => False) hne (fun k h => h.elim) ⟨s.a0, onPage fr s.a1, s.n0, s.n1⟩ 1 (.int .u32 ((onPage fr s.a1 : Nat) : Int)) rfl).below (Below.refl _ _).drew (F' := fun _ => False) (fun k h => h.elim))
 clear hK h hb h0
 conv => arg 2; whnf
 refine wp_region_noPanic ?_
 go_region
 all_goals
  rw [HT.out, HE.out]
  exact HKK.out _ _ _ _ _ _ _ _ _ _ _ _ HP.out
end
end Go.Proofs.YtmpcafdgkbpneaaGreat

/- vmem: pages, with pages on: the loop. -/
namespace Go.Proofs.YtmpcafdgkbpneaaGreat
open Go.RowKit Go.MapKept
set_option linter.unusedVariables false

section
variable {w W : World} {vb cb gs gw gr : Nat} {places : Pl} {n m : Nat} {H F : Nat → Prop} {R : RS} {C : CpuS} {s : SpanS} {ww wu wq : Bool}
theorem find_frame {R R' : RS} (hw : Wide R) {c l : Nat} {a b d : Bool} {fr pd pt : Nat} {xw xu : Bool} {cd : Int} (h : find R c l a b d = (⟨fr, pd, pt, xw, xu⟩, cd, R')) : fr % 4096 = 0 ∧ fr < 4294967296 := by
 refine ⟨frame_page h, ?_⟩
 unfold find at h
 split at h
 ·obtain ⟨h1, _⟩ := Prod.mk.inj h; injection h1 with h2; subst h2; decide
 ·split at h
  ·obtain ⟨h1, _⟩ := Prod.mk.inj h; injection h1 with h2; subst h2; decide
  ·simp only at h
   split at h
   ·obtain ⟨h1, _⟩ := Prod.mk.inj h; injection h1 with h2; subst h2; decide
   ·obtain ⟨h1, _⟩ := Prod.mk.inj h
    injection h1 with h2
    have hlt : R.read (pteOf (R.read (pdeOf c l) 4) l) 4 < 4294967296 := RS.read_lt hw.ok _ 4
    omega
theorem pg_loop (h : PgAt w W vb cb gs gw gr places n H R C s ww wu C.wp (fun _ => False)) (lin size : Nat) (hs : s = ⟨lin, lin2 lin size, first lin size, size - first lin size⟩) (hl : lin < 4294967296) (h1 : 1 ≤ size) (h4 : size ≤ 4) (hn : (n + 2) * 12 ≤ 140737488355328) (hne : cb ≠ gs ∧ gw ≠ gs) {j4 j5 k0 j6 j7 j8 j9 a2 a3 a4 a5 a6 a7 a8 a9 b0 b1 b2 b3 b4 b5 b6 b7 b8 b9 c0 c1 c2 c3 c4 c5 c6 c7 c8 c9 d0 d1 d2 d3 d4 d5 d6 d7 d8 d9 e1 e4 e5 e6 e7 e8 e9 f0 f1 f2 f3 f4 f5 f6 f7 f8 f9 g0 g1 g2 g3 g4 g5 g6 g7 g8 g9 h3 h5 h6 h7 h8 h9 i0 i1 i2 i3 i4 i5 i6 i7 i8 i9 j0 j1 j2 j3 : Value} {K : Act → World → Prop}
    (hK : ∀ a w1, Code.wp Tryz.prog (.seq (rg Tryz.f137 15) (tl Tryz.f137 15)) (bodyPost Tryz.prog Tryz.f137 (PgEnd w vb places n H (pg1 C lin size ww wu (find R C.cr3 lin ww wu C.wp)))) a w1 → K a w1) :
    Code.wp Tryz.prog (lp Tryz.f137 10) (Exit.inBlock 0 (Exit.then K (bodyPost Tryz.prog Tryz.f137 (PgEnd w vb places n H (pg1 C lin size ww wu (find R C.cr3 lin ww wu C.wp)))))) ⟨#[.pointer (some ⟨vb, 0, none⟩), .pointer (some ⟨cb, 0, none⟩), j4, j5, k0, j6, j7, j8, j9, .pointer (some ⟨gw, 0, none⟩), .pointer (some ⟨gr, 0, none⟩), a2, .pointer (some ⟨gs, 0, none⟩), a3, a4, a5, a6, a7, a8, a9, b0, b1, b2, b3, b4, b5, b6, b7, b8, b9, c0, c1, c2, c3, c4, c5, c6, c7, c8, c9, d0, d1, d2, d3, d4, d5, d6, d7, d8, .int .i64 0, d9, e1, e4, e5, e6, e7, e8, e9, f0, f1, f2, f3, f4, f5, f6, f7, f8, f9, g0, g1, g2, g3, g4, g5, g6, g7, g8, g9, h3, h5, h6, h7, h8, h9, i0, i1, i2, i3, i4, i5, i6, i7, i8, i9, j0, j1, j2, j3], []⟩ W := by
 obtain ⟨⟨⟨fr, pd, pt, xw, xu⟩, cd, R1⟩, hr⟩ : ∃ r, find R C.cr3 lin ww wu C.wp = r := ⟨_, rfl⟩
 rw [hr] at hK ⊢
 have hwide : Wide R := by obtain ⟨H', hV, _⟩ := h.v; exact hV.wide
 have hcr := h.c.1.cr3
 have HFR := Lib.hid (find_frame hwide hr)
 have hcode := (find_parts hwide hcr hl hr).2.2.2
 have HW1 := Lib.hid (find_parts hwide hcr hl hr).1
 have HH := Lib.hid h
 have HR : Hid (find R C.cr3 s.a0 ww wu C.wp = (⟨fr, pd, pt, xw, xu⟩, cd, R1)) := by rw [hs]; exact hr
 have hfp := first_pos lin size (by omega)
 have hfl := first_le lin size
 have HS := Lib.hid hs
 have HN := Lib.hid hn
 have HNE := Lib.hid hne
 have e2 : ((s.n0 : Int) == 0) = false := by rw [hs]; simp; omega
 obtain ⟨⟨-, -, s2, -, -, sl⟩, -, -⟩ := h.facts
 have HK := Lib.hid hK
 have HCR := Lib.hid hcr
 have HCD := Lib.hid hcode
 clear hs hr h hn hne hwide hcr hcode hK
 conv => arg 2; whnf
 refine wp_loop_rounds 3 ?_
 rw [rounds_succ]
 go_upto_region 10 with (fail)
 refine pg_r10_0 HH.out (by have := HN.out; omega) (by rw [HS.out]; exact hl) HR.out ?_
 intro gx w1 v57 v58 v59 v60 v61 v62 v63 v64 v65 v66 v67 v68 v69 v70 v71 v72 v73 v74 hP1 hB1 hx
 have HP1 := Lib.hid hP1
 have HB1 := Lib.hid hB1
 have HX := Lib.hid hx.1
 clear hP1 hB1 hx s2 sl e2 HH
 obtain ⟨⟨s0, -, -, s3, -, sl⟩, -, -⟩ := HP1.out.facts
 by_cases h0 : 0 ≤ cd
 ·have HK2 := Lib.hid (pg1_fault (C := C) (lin := lin) (size := size) (wr := ww) (us := wu) (x := ⟨fr, pd, pt, xw, xu⟩) (R' := R1) h0)
  have e0 := Lib.hid (show s.a0 = lin by rw [HS.out])
  go_wp2_with fail
  rw [HK2.out, ← e0.out]
  exact ⟨rfl, pg_gave HP1.out (by omega) cd s.a0⟩
 ·go_upto_region 13 with (fail)
  refine pg_r13_0 HP1.out HB1.out HX.out HNE.out HFR.out.1 HFR.out.2 ?_
  intro w2 v85 v86 v87 v88 v89 v90 v91 v92 v93 v94 v95 hP2
  have HP2 := Lib.hid hP2
  obtain ⟨⟨-, t1, -, t3, -, tl2⟩, -, -⟩ := hP2.facts
  simp only at t1 t3
  clear hP2 HP1 HB1 s0 s3 sl
  go_wp2_with fail
  rw [rounds_succ]
  by_cases hone : size = first lin size
  ·have HK2 := Lib.hid (pg1_one (C := C) (lin := lin) (size := size) (wr := ww) (us := wu) (x := ⟨fr, pd, pt, xw, xu⟩) (cd := cd) (R' := R1) (by omega) hone)
   have e3 : ((s.n1 : Int) == 0) = true := by rw [HS.out]; simp; omega
   have es : (⟨onPage fr s.a0, s.a1, s.n0, s.n1⟩ : SpanS) = ⟨onPage fr lin, lin2 lin size, first lin size, 0⟩ := by rw [HS.out]; simp; omega
   have ES := Lib.hid es
   clear es
   have HOne := Lib.hid hone
   clear hone
   go_wp2_with fail
   rw [rounds_succ]
   go_wp2_with fail
   refine HK.out _ _ ?_
   rw [HK2.out, ← ES.out]
   exact pg_end HP2.out (by omega)
  ·obtain ⟨⟨⟨fr2, pd2, pt2, xw2, xu2⟩, cd2, R2⟩, hr2⟩ : ∃ r, find R1 C.cr3 (lin2 lin size) ww wu C.wp = r := ⟨_, rfl⟩
   have HK2 := Lib.hid ((pg1_two (C := C) (lin := lin) (size := size) (wr := ww) (us := wu) (x := ⟨fr, pd, pt, xw, xu⟩) (cd := cd) (R' := R1) (by omega) hone).trans (by rw [hr2]))
   have e3 : ((s.n1 : Int) == 0) = false := by rw [HS.out]; simp; omega
   have hl2 : lin2 lin size < 4294967296 := by unfold lin2; omega
   have HL2 := Lib.hid hl2
   have HFR2 := Lib.hid (find_frame HW1.out hr2)
   have HCD2 := Lib.hid (find_parts HW1.out HCR.out hl2 hr2).2.2.2
   have HR2 : Hid (find R1 C.cr3 s.a1 ww wu C.wp = (⟨fr2, pd2, pt2, xw2, xu2⟩, cd2, R2)) := by rw [HS.out]; exact hr2
   have HOne := Lib.hid hone
   have HC0 := Lib.hid h0
   clear hone hr2 hl2 h0
   go_upto_region 10 with (fail)
   refine pg_r10_1 HP2.out (by have := HN.out; omega) (by rw [HS.out]; exact HL2.out) HR2.out ?_
   intro gy w3 v57' v58' v59' v60' v61' v62' v63' v64' v65' v66' v67' v68' v69' v70' v71' v72' v73' v74' hP3 hB3 hx3
   have HP3 := Lib.hid hP3
   have HB3 := Lib.hid hB3
   have HX3 := Lib.hid hx3.1
   clear hP3 hB3 hx3 t1 t3 tl2 e3 HP2
   obtain ⟨⟨-, s1, -, -, -, sl⟩, -, -⟩ := HP3.out.facts
   by_cases h2 : 0 ≤ cd2
   ·have HK3 := Lib.hid (pg2_fault (C := C) (lin := lin) (size := size) (a0 := onPage fr lin) (wr := ww) (us := wu) (x := ⟨fr2, pd2, pt2, xw2, xu2⟩) (R' := R2) h2)
    have e0 := Lib.hid (show s.a1 = lin2 lin size by rw [HS.out])
    go_wp2_with fail
    rw [HK2.out, HK3.out, ← e0.out]
    exact ⟨rfl, pg_gave HP3.out (by omega) cd2 s.a1⟩
   ·go_upto_region 13 with (fail)
    refine pg_r13_1 HP3.out HB3.out HX3.out HNE.out HFR2.out.1 HFR2.out.2 ?_
    intro w4 v85' v86' v87' v88' v89' v90' v91' v92' v93' v94' v95' hP4
    have HP4 := Lib.hid hP4
    clear hP4 HP3 HB3 s1 sl
    have HK3 := Lib.hid (pg2_ok (C := C) (lin := lin) (size := size) (a0 := onPage fr lin) (wr := ww) (us := wu) (x := ⟨fr2, pd2, pt2, xw2, xu2⟩) (cd := cd2) (R' := R2) (by omega))
    have ES : Hid ((⟨onPage fr s.a0, onPage fr2 s.a1, s.n0, s.n1⟩ : SpanS) = ⟨onPage fr lin, onPage fr2 (lin2 lin size), first lin size, size - first lin size⟩) := Lib.hid (by rw [HS.out])
    go_wp2_with fail
    rw [rounds_succ]
    go_wp2_with fail
    refine HK.out _ _ ?_
    rw [HK2.out, HK3.out, ← ES.out]
    exact pg_end HP4.out (by omega)
end
end Go.Proofs.YtmpcafdgkbpneaaGreat

/- vmem: pages. -/
namespace Go.Proofs.YtmpcafdgkbpneaaGreat
open Go.RowKit Go.MapKept
set_option linter.unusedVariables false

section
variable {w : World} {vb cb : Nat} {places : Pl} {n : Nat} {H : Nat → Prop} {R : RS} {C : CpuS}
theorem pg_on {lin size : Nat} {wr us : Bool} (hp : C.paged = true) : pg R C lin size wr us = pg1 C lin size wr us (find R C.cr3 lin wr us C.wp) := by unfold pg; rw [if_pos hp]
theorem pages_on (hV : Vm w vb places n H R) (hC : CpuAt w cb C) (hcb : ¬ H cb) (lin size : Nat) (hl : lin < 4294967296) (h1 : 1 ≤ size) (h4 : size ≤ 4) (wr us wp0 : Bool) (hp : C.paged = true) (hn : (n + 2) * 12 ≤ 140737488355328) :
    Calls Tryz.prog 137 #[.pointer (some ⟨vb, 0, none⟩), .pointer (some ⟨cb, 0, none⟩), .int .u32 (lin : Nat), .int .i64 (size : Nat), .agg #[.bool wr, .bool us, .bool wp0]] w (PgEnd w vb places n H (pg R C lin size wr us)) := by
 rw [pg_on hp]
 obtain ⟨k0, -, -, kl⟩ := hC.cr
 have ha : bits .and .u32 (C.cr0 : Int) 2147483648 = ((C.cr0 / 2147483648 % 2 * 2147483648 : Nat) : Int) := bit_ands C.cr0 31 (by decide) hC.1.cr0
 have hz : C.cr0 / 2147483648 % 2 = 1 := by unfold CpuS.paged at hp; simp at hp; omega
 rw [hz] at ha
 have ha0 : bits .and .u32 (C.cr0 : Int) 2147483648 = 2147483648 := ha
 have hb : (bits .and .u32 (C.cr0 : Int) 65536 != 0) = C.wp := by
  rw [show bits .and .u32 (C.cr0 : Int) 65536 = ((C.cr0 / 65536 % 2 * 65536 : Nat) : Int) from bit_ands C.cr0 16 (by decide) hC.1.cr0]
  exact bit_ne (C.cr0 / 65536) 65536 (by decide)
 have kl1 : cb < w.heap.size + 1 := by omega
 have kl2 : cb < w.heap.size + 1 + 1 := by omega
 have HV := Lib.hid hV
 have HC := Lib.hid hC
 have HCB := Lib.hid hcb
 have HN := Lib.hid hn
 clear ha hz hV hC hp hcb hn
 by_cases hfit : lin % 4096 + size ≤ 4096
 ·have hf1 : (size : Int) ≤ 4096 - (lin : Int) % 4096 := by omega
  have hfi : first lin size = size := by unfold first; omega
  have HF := Lib.hid hfi
  clear hfit hfi
  go_enter Tryz.func137, Tryz.ntmps137
  go_wp2_with fail
  have hP := PgAt.start (ww := wr) (wu := us) (wq := C.wp) (s := ⟨lin, lin2 lin size, first lin size, size - first lin size⟩) HV.out HC.out HCB.out (x0 := (lin : Int)) (x1 := ((lin : Int) + (size : Int)) % 4294967296) (x2 := (size : Int)) (x3 := 0) rfl (by show _ = ((lin2 lin size : Nat) : Int); unfold lin2; rw [HF.out]; omega) (by show _ = ((first lin size : Nat) : Int); rw [HF.out]) (by show _ = ((size - first lin size : Nat) : Int); rw [HF.out]; omega)
  exact pg_loop hP lin size rfl hl h1 h4 HN.out (by omega) (by assumption)
 ·have hf1 : 4096 - (lin : Int) % 4096 < (size : Int) := by omega
  have hf2 : ¬ (size : Int) ≤ 4096 - (lin : Int) % 4096 := by omega
  have hfi : first lin size = 4096 - lin % 4096 := by unfold first; omega
  have HF := Lib.hid hfi
  clear hfit hfi
  go_enter Tryz.func137, Tryz.ntmps137
  go_wp2_with fail
  have hP := PgAt.start (ww := wr) (wu := us) (wq := C.wp) (s := ⟨lin, lin2 lin size, first lin size, size - first lin size⟩) HV.out HC.out HCB.out (x0 := (lin : Int)) (x1 := ((lin : Int) + (4096 - (lin : Int) % 4096)) % 4294967296) (x2 := 4096 - (lin : Int) % 4096) (x3 := (size : Int) - (4096 - (lin : Int) % 4096)) rfl (by show _ = ((lin2 lin size : Nat) : Int); unfold lin2; rw [HF.out]; omega) (by show _ = ((first lin size : Nat) : Int); rw [HF.out]; omega) (by show _ = ((size - first lin size : Nat) : Int); rw [HF.out]; omega)
  exact pg_loop hP lin size rfl hl h1 h4 HN.out (by omega) (by assumption)
theorem pages_any (hV : Vm w vb places n H R) (hC : CpuAt w cb C) (hcb : ¬ H cb) (lin size : Nat) (hl : lin < 4294967296) (h1 : 1 ≤ size) (h4 : size ≤ 4) (wr us wp0 : Bool) (hn : (n + 2) * 12 ≤ 140737488355328) (x y : Int) (hx : x = (lin : Int)) (hy : y = (size : Int)) :
    Calls Tryz.prog 137 #[.pointer (some ⟨vb, 0, none⟩), .pointer (some ⟨cb, 0, none⟩), .int .u32 x, .int .i64 y, .agg #[.bool wr, .bool us, .bool wp0]] w (PgEnd w vb places n H (pg R C lin size wr us)) := by
 subst hx hy
 cases hp : C.paged
 ·exact pages_flat hV hC lin size hl h1 h4 wr us wp0 hp
 ·exact pages_on hV hC hcb lin size hl h1 h4 wr us wp0 hp hn
end
end Go.Proofs.YtmpcafdgkbpneaaGreat

