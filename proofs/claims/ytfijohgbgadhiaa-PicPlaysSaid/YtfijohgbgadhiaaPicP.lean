/- pic: the document's pair: a byte that is written to a chip's command port. -/
import Derived.Test.YtfijohgbgadhiaaPicO
import Derived.Deep.CutRange
namespace Go.Proofs.Ytfijohgbgadhiaa
open Go.RowKit
set_option linter.unusedVariables false
set_option linter.unusedSimpArgs false

theorem infoInt : (Try.prog.info? 3).map (fun i => (i.zero, i.size, i.bytes)) = some (some (.int .i64 0), 1, 8) := by kernel_rfl
section
variable {w : World} {b g : Nat} {v u : Value} {c d : Chip}
theorem zero8 (w : World) : (zeroValue 56).run Try.prog w = .ok (.agg (bits8 0).toArray) w := by kernel_rfl
/-- A chip is given back, in memory of the call's own. -/
def Gave (w : World) (c : Chip) (e : Ending) (w' : World) : Prop := ∃ u, e = .returned (.agg (c.rcells u).toArray) ∧ RowC w' 3 1 u c.wants.length (numV c.wants) ∧ Below w.heap.size w w'
/-- The call's own chip in block g, what it will give back in the block behind. -/
structure Own36 (w0 w : World) (c : Chip) (v : Value) (L : List Nat) : Prop where
  A : ChipAt w w0.heap.size c v
  R : w.heap[w0.heap.size + 1]? = some (.cells zero36.toArray 58 (0, 0))
  B : Below w0.heap.size w0 w
  V : RowC w 3 1 v L.length (numV L)
theorem Own36.beg (w : World) (c : Chip) (hv : RowC w 3 1 v c.wants.length (numV c.wants)) : Own36 w ((w.alloc (.cells (c.rcells v).toArray 58)).alloc (.cells zero36.toArray 58)) c v c.wants := by
  have h1 := heap_new w (.cells (c.rcells v).toArray 58)
  have h2 := heap_new (w.alloc (.cells (c.rcells v).toArray 58)) (.cells zero36.toArray 58)
  refine ⟨⟨heap_alloc_lt h1⟩, ?_, below2 _ _ _, (hv.alloc _).alloc _⟩
  rw [show w.heap.size + 1 = (w.alloc (.cells (c.rcells v).toArray 58)).heap.size by simp]; exact h2
theorem Own36.alloc {w0 : World} {L : List Nat} (h : Own36 w0 w c v L) (o : Obj) : Own36 w0 (w.alloc o) c v L := ⟨⟨heap_alloc_lt h.A.obj⟩, heap_alloc_lt h.R, h.B.alloc h.B.size _, h.V.alloc _⟩
theorem Own36.keep {w0 w1 : World} {L : List Nat} {c' : Chip} (h : Own36 w0 w c v L) (K : Keeps (· = w0.heap.size) w w1) (A : ChipAt w1 w0.heap.size c' v) : Own36 w0 w1 c' v L :=
  ⟨A, (K.block _ (heap_lt h.R) (by omega)).trans h.R, Keeps.toBelow h.B K h.B.size (fun k hk => by omega), h.V.of_heap fun k hk => K.block k (h.V.lt hk) (h.A.apart h.V hk)⟩
theorem Own36.set {w0 : World} {L : List Nat} {c' : Chip} (h : Own36 w0 w c v L) (k : Nat) (x : Value) (e : (c.rcells v).set k x = c'.rcells v) : Own36 w0 (w.setCell ⟨w0.heap.size, k, none⟩ x) c' v L :=
  h.keep ((Keeps.refl _ _).setOne _ _) (h.A.set k x e)
def Chip.putPart (c : Chip) (f x : Nat) : Chip := if f = 0 then { c with asks := x } else if f = 1 then { c with served := x } else if f = 2 then { c with masked := x } else { c with up := x }
theorem ChipAt.putPart {g : Nat} (h : ChipAt w g c v) (f x : Nat) (hf : f < 4) : ChipAt (w.setCells g (8 * f) (bits8 x)) g (c.putPart f x) v := by
  refine ⟨?_⟩
  rw [setCells_heap g _ _ _ _ h.obj]
  rcases (show f = 0 ∨ f = 1 ∨ f = 2 ∨ f = 3 by omega) with rfl | rfl | rfl | rfl <;> kernel_rfl
theorem Own36.put {w0 : World} {L : List Nat} (h : Own36 w0 w c v L) (f x : Nat) (hf : f < 4) : Own36 w0 (w.setCells w0.heap.size (8 * f) (bits8 x)) (c.putPart f x) v L :=
  h.keep (keeps_setCells _ _ _ _) (h.A.putPart f x hf)
theorem Own36.there {w0 : World} {L : List Nat} (h : Own36 w0 w c v L) (o n : Nat) (hn : o + n ≤ 36) : w.there w0.heap.size o n := fun j hj => by
  refine ⟨?_, h.A.free _⟩
  rw [cell_at h.A.obj, Array.getElem?_eq_getElem (show o + j < (c.rcells v).toArray.size by show _ < 36; omega)]; rfl
/-- It is given back. -/
theorem Own36.gave {w0 : World} {L : List Nat} {c' : Chip} (h : Own36 w0 w c v L) (e : c.rcells v = c'.rcells v) (hw : c'.wants = L) : Gave w0 c' (.returned (.agg (c.rcells v).toArray)) (w.setRow (w0.heap.size + 1) (c.rcells v).toArray) := by
  have hh : (w.setRow (w0.heap.size + 1) (c.rcells v).toArray).heap[w0.heap.size + 1]? = _ := heap_row h.R
  refine ⟨v, by rw [e], ?_, below_setRow h.B (by omega) _⟩
  rw [hw]
  refine h.V.of_heap fun k hk => setRow_other _ _ _ _ ?_
  rintro rfl
  obtain ⟨cur, hc⟩ := h.V.block hk
  rw [h.R] at hc
  injection hc with hc; injection hc with _ hc _; exact absurd hc (by decide)
set_option maxRecDepth 100000 in
theorem bit_bt : ∀ x : Fin 256, bit x.val 16 = x.val.testBit 4 ∧ bit x.val 8 = x.val.testBit 3 ∧ bit x.val 2 = x.val.testBit 1 ∧ bit x.val 1 = x.val.testBit 0 ∧ x.val &&& 7 = x.val % 8 ∧ x.val &&& 248 = x.val - x.val % 8 := by decide +kernel
set_option maxRecDepth 100000 in
theorem low_clear : ∀ s : Fin 256, ∀ k : Fin 8, (s.val.testBit k.val = true ∧ ∀ j : Fin 8, j.val < k.val → s.val.testBit j.val = false) → s.val &&& ((s.val + 255) % 256) = s.val &&& (255 - 2 ^ k.val) := by decide +kernel
theorem serve_off (c : Chip) (v : Value) (j : Nat) (hj : j < 8) : (c.rcells v).set (8 + j) (.bool false) = ({ c with served := c.served &&& (255 - 2 ^ j) } : Chip).rcells v := by
  refine rc_set _ _ v 1 j (8 + j) (by decide) hj (by omega) false ?_ ⟨rfl, rfl, rfl⟩
  intro g i hg hi
  rcases (show g = 0 ∨ g = 1 ∨ g = 2 ∨ g = 3 by omega) with rfl | rfl | rfl | rfl
  · rw [if_neg (by omega)]; rfl
  · show bt (c.served &&& (255 - 2 ^ j)) i = _
    rw [bt_and, bt_npow j i hj hi]
    by_cases e : i = j
    · rw [if_pos ⟨rfl, e⟩, decide_eq_true e.symm]; simp
    · rw [if_neg (fun h => e h.2), decide_eq_false (fun h => e h.symm)]; simp; rfl
  · rw [if_neg (by omega)]; rfl
  · rw [if_neg (by omega)]; rfl
theorem bits8_one (x : Nat) : (bits8 x).toArray.all (·.oneCell') = true := by
  refine all_oneCell_toArray ?_
  intro y hy
  simp only [bits8, List.mem_cons, List.not_mem_nil, or_false] at hy
  rcases hy with rfl | rfl | rfl | rfl | rfl | rfl | rfl | rfl <;> rfl

-- LEMMAS
theorem Own36.ones {w0 : World} {L : List Nat} (h : Own36 w0 w c v L) : (c.rcells v).toArray.all (·.oneCell') = true := rc_one c h.V.one
theorem one_new' (w : World) (T : TypeId) (x : Value) : ∀ (j : Nat) (u : Value), [x][j]? = some u → (w.alloc (.cells #[x] T)).cell? ((⟨w.heap.size, 0, none⟩ : Addr).add j) = some u := by
  intro j u hj
  rw [Go.WideShapes.add_plain, Nat.zero_add]
  match j, hj with
  | 0, hj => injection hj with hj; rw [cell_at (heap_new _ _), ← hj]; rfl
theorem Own36.setV {w0 : World} {L : List Nat} {v' : Value} (h : Own36 w0 w c v L) {w1 : World} {L' : List Nat} (A : w1.heap[w0.heap.size]? = some (.cells (c.rcells v).toArray 58 (0, 0))) (R : w1.heap[w0.heap.size + 1]? = some (.cells zero36.toArray 58 (0, 0)))
    (B : Below w0.heap.size w0 w1) (V : RowC w1 3 1 v' L'.length (numV L')) : Own36 w0 (w1.setCell ⟨w0.heap.size, 35, none⟩ v') c v' L' := by
  have K : Keeps (· = w0.heap.size) w1 (w1.setCell ⟨w0.heap.size, 35, none⟩ v') := (Keeps.refl _ _).setOne _ _
  refine ⟨⟨?_⟩, (K.block _ (heap_lt R) (by omega)).trans R, Keeps.toBelow B K B.size (fun k hk => by omega), V.of_heap fun k hk => K.block k (V.lt hk) ((ChipAt.mk A).apart V hk)⟩
  rw [heap_set_map, A]; rfl
/-- A new slice of one element. -/
theorem Own36.one {w0 : World} {L : List Nat} (h : Own36 w0 w c v L) (n : Nat) : Own36 w0 ((w.setCell ⟨w0.heap.size, 35, none⟩ (.slice (some ⟨w.heap.size, 0, none⟩) 1 1)).alloc (.cells #[.int .i64 (n : Nat)] 3)) c (.slice (some ⟨w.heap.size, 0, none⟩) 1 1) [n] := by
  have K : Keeps (· = w0.heap.size) w (w.setCell ⟨w0.heap.size, 35, none⟩ (.slice (some ⟨w.heap.size, 0, none⟩) 1 1)) := (Keeps.refl _ _).setOne _ _
  have hA := h.A.set (c' := c) 35 (.slice (some ⟨w.heap.size, 0, none⟩) 1 1)
  have hs : (w.setCell ⟨w0.heap.size, 35, none⟩ (.slice (some ⟨w.heap.size, 0, none⟩) 1 1)).heap.size = w.heap.size := by simp
  have B1 := Keeps.toBelow h.B K h.B.size (fun k hk => by omega)
  refine ⟨⟨heap_alloc_lt ?_⟩, heap_alloc_lt ((K.block _ (heap_lt h.R) (by omega)).trans h.R), B1.alloc B1.size _, rfl, .inr ⟨w.heap.size, 0, 1, #[.int .i64 (n : Nat)], rfl, ?_, Nat.le_refl _, by decide, Nat.le_refl _, fun j hj => ?_⟩⟩
  · rw [heap_set_map, h.A.obj]; rfl
  · have := heap_new (w.setCell ⟨w0.heap.size, 35, none⟩ (.slice (some ⟨w.heap.size, 0, none⟩) 1 1)) (.cells #[.int .i64 (n : Nat)] 3)
    rw [hs] at this; exact this
  · obtain rfl : j = 0 := by have : j < 1 := hj; omega
    rfl
/-- What an append turned. -/
theorem Own36.grew {w0 : World} {L : List Nat} (h : Own36 w0 w c v L) (hlo : ∀ k, v.ownBlock = some k → w0.heap.size ≤ k) (o : Obj) {w1 : World} (hg : (w.alloc o).grownBy w1 v.ownBlock) :
    w1.heap[w0.heap.size]? = some (.cells (c.rcells v).toArray 58 (0, 0)) ∧ w1.heap[w0.heap.size + 1]? = some (.cells zero36.toArray 58 (0, 0)) ∧ Below w0.heap.size w0 w1 := by
  have hs : w.heap.size < (w.alloc o).heap.size := by simp
  have hR : ∀ k, v.ownBlock = some k → k ≠ w0.heap.size + 1 := by
    rintro k hk rfl
    obtain ⟨cur, hc⟩ := h.V.block hk
    rw [h.R] at hc
    injection hc with hc; injection hc with _ hc _; exact absurd hc (by decide)
  have BA := h.B.alloc h.B.size o
  refine ⟨(hg.block _ (Nat.lt_trans h.A.lt hs) (fun e => h.A.apart h.V e.symm rfl)).trans (heap_alloc_lt h.A.obj), (hg.block _ (Nat.lt_trans (heap_lt h.R) hs) (fun e => hR _ e.symm rfl)).trans (heap_alloc_lt h.R), BA.grown hg BA.size hlo⟩
-- A COMMAND THAT SETS A CHIP UP
/-- What a chip is behind the first stores. -/
def Chip.fresh (c : Chip) : Chip := { c with asks := 0, served := 0, masked := 0, told := false, ends := false }
set_option maxHeartbeats 8000000 in
theorem rcommand_16 (hv : RowC w 3 1 v c.wants.length (numV c.wants)) (x : Nat) (hx : x < 256) (h4 : x.testBit 4 = true) :
    Calls Try.prog 27 #[.agg (c.rcells v).toArray, .int .u8 (x : Nat)] w (Gave w (outC c true x)) := by
  obtain ⟨e4, -, e1, e0, -, -⟩ := bit_bt ⟨x, hx⟩
  have hout : outC c true x = Chip.mk 0 0 0 c.up c.base false false 1 (!x.testBit 1) (x.testBit 0) := by
    unfold outC
    rw [if_pos rfl, if_pos (e4.trans h4)]
    show Chip.mk _ _ _ _ _ _ _ _ (!bit x 2) (bit x 1) = _
    rw [show bit x 2 = _ from e1, show bit x 1 = _ from e0]
  have HOUT := Lib.hid hout
  obtain ⟨i0, hi, hz0, hz1, hz2⟩ := info_parts infoInt
  have hz := fun w => zeroChip w
  have hz8 := fun w => zero8 w
  have HB := Lib.hid (fun n (hn : n < 8) w => bit_any x n hx hn w)
  have h4' := Lib.hid h4
  have HO := Lib.hid (Own36.beg w c hv)
  clear h4 hx hv e4 e1 e0 hout
  go_enter Try.func27, Try.ntmps27
  go_wp2_with fail
  refine (HB.out 4 (by decide) _).mono ?_
  rintro e w1 ⟨rfl, rfl⟩
  rw [h4'.out]
  go_upto_region 3 with (fail)
  have O1 := HO.out.alloc (.cells (bits8 0).toArray 56)
  have N1 : (((w.alloc (.cells (c.rcells v).toArray 58)).alloc (.cells zero36.toArray 58)).alloc (.cells (bits8 0).toArray 56)).heap[w.heap.size + 1 + 1]? = some (.cells (bits8 0).toArray 56 (0, 0)) := by
    rw [show w.heap.size + 1 + 1 = ((w.alloc (.cells (c.rcells v).toArray 58)).alloc (.cells zero36.toArray 58)).heap.size by simp]; exact heap_new _ _
  change Code.wp _ _ _ _ (((w.alloc (.cells (c.rcells v).toArray 58)).alloc (.cells zero36.toArray 58)).alloc (.cells (bits8 0).toArray 56))
  generalize ((w.alloc (.cells (c.rcells v).toArray 58)).alloc (.cells zero36.toArray 58)).alloc (.cells (bits8 0).toArray 56) = W1 at *
  clear HO hz hz8
  have H1 := Lib.hid O1
  have M1 := Lib.hid N1
  clear O1 N1
  go_upto_region 4 with (first | (refine wpList_load_row rfl _ _ rfl (w.heap.size + 1 + 1) rfl _ _ _ _ M1.out Try.underlying56 rfl info8 ?_) | (refine wpList_store_mid rfl _ _ _ rfl w.heap.size 0 (bits8 0).toArray rfl rfl (H1.out.there 0 8 (by decide)) info8 (bits8_one 0) ?_))
  have O2 := H1.out.put 0 0 (by decide)
  have N2 := heap_keeps (keeps_setCells W1 w.heap.size (8 * 0) (bits8 0)) (by omega) M1.out
  change Code.wp _ _ _ _ (W1.setCells w.heap.size (8 * 0) (bits8 0))
  generalize W1.setCells w.heap.size (8 * 0) (bits8 0) = W2 at *
  clear H1 M1
  have H2 := Lib.hid O2
  have M2 := Lib.hid N2
  clear O2 N2
  go_upto_region 5 with (first | (refine wpList_load_row rfl _ _ rfl (w.heap.size + 1 + 1) rfl _ _ _ _ M2.out Try.underlying56 rfl info8 ?_) | (refine wpList_store_mid rfl _ _ _ rfl w.heap.size 8 (bits8 0).toArray rfl rfl (H2.out.there 8 8 (by decide)) info8 (bits8_one 0) ?_))
  have O3 := H2.out.put 1 0 (by decide)
  have N3 := heap_keeps (keeps_setCells W2 w.heap.size (8 * 1) (bits8 0)) (by omega) M2.out
  change Code.wp _ _ _ _ (W2.setCells w.heap.size (8 * 1) (bits8 0))
  generalize W2.setCells w.heap.size (8 * 1) (bits8 0) = W3 at *
  clear H2 M2
  have H3 := Lib.hid O3
  have M3 := Lib.hid N3
  clear O3 N3
  go_upto_region 6 with (first | (refine wpList_load_row rfl _ _ rfl (w.heap.size + 1 + 1) rfl _ _ _ _ M3.out Try.underlying56 rfl info8 ?_) | (refine wpList_store_mid rfl _ _ _ rfl w.heap.size 16 (bits8 0).toArray rfl rfl (H3.out.there 16 8 (by decide)) info8 (bits8_one 0) ?_))
  have O4 := H3.out.put 2 0 (by decide)
  change Code.wp _ _ _ _ (W3.setCells w.heap.size (8 * 2) (bits8 0))
  generalize W3.setCells w.heap.size (8 * 2) (bits8 0) = W4 at *
  clear H3 M3
  obtain ⟨k32, k33, k34, k35⟩ := O4.A.rest
  have hf := O4.A.free
  have hl := O4.A.lt
  have H4 := Lib.hid O4
  clear O4
  obtain ⟨va, vn, vc, hvv⟩ : ∃ a n c, v = .slice a n c := by obtain ⟨a, c, h⟩ := H4.out.V.len; exact ⟨_, _, _, h⟩
  rw [hvv] at k35
  clear hvv
  go_upto_region 9 with (fail)
  have O5 := ((H4.out.set (c' := { (c.putPart 0 0).putPart 1 0 |>.putPart 2 0 with told := false }) 33 (.bool false) rfl).set (c' := { (c.putPart 0 0).putPart 1 0 |>.putPart 2 0 with told := false, ends := false }) 34 (.bool false) rfl).one 1
  simp only [World.size_setCell] at O5
  change Code.wp _ _ _ _ ((((W4.setCell ⟨w.heap.size, 33, none⟩ (.bool false)).setCell ⟨w.heap.size, 34, none⟩ (.bool false)).setCell ⟨w.heap.size, 35, none⟩ (.slice (some ⟨W4.heap.size, 0, none⟩) 1 1)).alloc (.cells #[.int .i64 1] 3))
  have hlo : ∀ k, (Value.slice (some ⟨W4.heap.size, 0, none⟩) 1 1).ownBlock = some k → w.heap.size ≤ k := fun k hk => by injection hk with hk; rw [← hk]; exact H4.out.B.size
  clear k32 k33 k34 k35 hf hl
  generalize (((W4.setCell ⟨w.heap.size, 33, none⟩ (.bool false)).setCell ⟨w.heap.size, 34, none⟩ (.bool false)).setCell ⟨w.heap.size, 35, none⟩ (.slice (some ⟨W4.heap.size, 0, none⟩) 1 1)).alloc (.cells #[.int .i64 1] 3) = W5 at *
  generalize W4.heap.size = q at *
  clear H4
  have H5 := Lib.hid (And.intro O5 hlo)
  clear O5 hlo
  go_wp2_with fail
  refine (HB.out 1 (by decide) _).mono ?_
  rintro e w1 ⟨rfl, rfl⟩
  cases hb1 : x.testBit 1 <;> cases hb0 : x.testBit 0
  · have HB1 := Lib.hid hb1
    have HB0 := Lib.hid hb0
    clear hb1 hb0
    obtain ⟨-, -, -, k35⟩ := H5.out.1.A.rest
    have hf := H5.out.1.A.free
    have hl := H5.out.1.A.lt
    have hc2 := Lib.hid (one_new' W5 3 (.int .i64 2))
    go_upto_region 11 with (at_builtin; (refine wpList_append_c rfl _ _ 30 rfl i0 (.int .i64 0) 1 8 Try.underlying30 hi hz0 hz1 hz2 rfl (by decide) rfl (H5.out.1.V.alloc _) ⟨W5.heap.size, 0, none⟩ 1 [.int .i64 2] rfl rfl hc2.out (fun u hu => by rw [List.mem_singleton.1 hu]; rfl) (by decide) (by decide) ?_); intro a2 c2 w2 hown1 hgrow1 hat; obtain ⟨g1, g2, g3⟩ := H5.out.1.grew H5.out.2 _ hgrow1; have HX := Lib.hid (And.intro (H5.out.1.setV (L' := [1, 2]) g1 g2 g3 hown1) (fun k hk => (hat k hk).elim (H5.out.2 k) (fun h => Nat.le_trans (Nat.le_trans H5.out.1.B.size (by simp)) h))); have j35 := (ChipAt.mk g1).rest.2.2.2; have jf := (ChipAt.mk g1).free; have jl := heap_lt g1; clear hown1 hgrow1 hat g1 g2 g3 k35 hf hl)
    change Code.wp _ _ _ _ (w2.setCell ⟨w.heap.size, 35, none⟩ (.slice a2 2 c2))
    clear H5 j35 jf jl hc2
    generalize w2.setCell ⟨w.heap.size, 35, none⟩ (.slice a2 2 c2) = W6 at *
    have H6 := Lib.hid HX.out
    clear HX
    go_wp2_with fail
    refine (HB.out 0 (by decide) _).mono ?_
    rintro e w1 ⟨rfl, rfl⟩
    rw [HB0.out]
    have HR := Lib.hid H6.out.1.R
    have HA := Lib.hid H6.out.1.A.obj
    have HE := Lib.hid (show Gave w (outC c true x) _ _ from by rw [HOUT.out, HB1.out, HB0.out]; exact H6.out.1.gave rfl rfl)
    have HO1 := Lib.hid H6.out.1.ones
    go_wp2_with (first | (refine wpList_load_row rfl _ _ rfl w.heap.size rfl _ _ _ _ HA.out Try.underlying58 rfl info36 ?_) | (refine wpList_store_row rfl _ _ _ rfl (w.heap.size + 1) _ rfl rfl _ _ HR.out info36 rfl HO1.out ?_))
    exact bodyPost_ret (v := _) (results_cell_row rfl _ _ (w.heap.size + 1) _ _ _ _ rfl (heap_row HR.out) Try.underlying58 rfl info36) rfl HE.out
  · have HB1 := Lib.hid hb1
    have HB0 := Lib.hid hb0
    clear hb1 hb0
    obtain ⟨-, -, -, k35⟩ := H5.out.1.A.rest
    have hf := H5.out.1.A.free
    have hl := H5.out.1.A.lt
    have hc2 := Lib.hid (one_new' W5 3 (.int .i64 2))
    go_upto_region 11 with (at_builtin; (refine wpList_append_c rfl _ _ 30 rfl i0 (.int .i64 0) 1 8 Try.underlying30 hi hz0 hz1 hz2 rfl (by decide) rfl (H5.out.1.V.alloc _) ⟨W5.heap.size, 0, none⟩ 1 [.int .i64 2] rfl rfl hc2.out (fun u hu => by rw [List.mem_singleton.1 hu]; rfl) (by decide) (by decide) ?_); intro a2 c2 w2 hown1 hgrow1 hat; obtain ⟨g1, g2, g3⟩ := H5.out.1.grew H5.out.2 _ hgrow1; have HX := Lib.hid (And.intro (H5.out.1.setV (L' := [1, 2]) g1 g2 g3 hown1) (fun k hk => (hat k hk).elim (H5.out.2 k) (fun h => Nat.le_trans (Nat.le_trans H5.out.1.B.size (by simp)) h))); have j35 := (ChipAt.mk g1).rest.2.2.2; have jf := (ChipAt.mk g1).free; have jl := heap_lt g1; clear hown1 hgrow1 hat g1 g2 g3 k35 hf hl)
    change Code.wp _ _ _ _ (w2.setCell ⟨w.heap.size, 35, none⟩ (.slice a2 2 c2))
    clear H5 j35 jf jl hc2
    generalize w2.setCell ⟨w.heap.size, 35, none⟩ (.slice a2 2 c2) = W6 at *
    have H6 := Lib.hid HX.out
    clear HX
    go_wp2_with fail
    refine (HB.out 0 (by decide) _).mono ?_
    rintro e w1 ⟨rfl, rfl⟩
    rw [HB0.out]
    obtain ⟨-, -, -, k35⟩ := H6.out.1.A.rest
    have hf := H6.out.1.A.free
    have hl := H6.out.1.A.lt
    have hc3 := Lib.hid (one_new' W6 3 (.int .i64 3))
    go_upto_region 13 with (at_builtin; (refine wpList_append_c rfl _ _ 30 rfl i0 (.int .i64 0) 1 8 Try.underlying30 hi hz0 hz1 hz2 rfl (by decide) rfl (H6.out.1.V.alloc _) ⟨W6.heap.size, 0, none⟩ 1 [.int .i64 3] rfl rfl hc3.out (fun u hu => by rw [List.mem_singleton.1 hu]; rfl) (by decide) (by decide) ?_); intro a3 c3 w3 hown1 hgrow1 hat; obtain ⟨g1, g2, g3⟩ := H6.out.1.grew H6.out.2 _ hgrow1; have HX := Lib.hid (And.intro (H6.out.1.setV (L' := [1, 2, 3]) g1 g2 g3 hown1) (fun k hk => (hat k hk).elim (H6.out.2 k) (fun h => Nat.le_trans (Nat.le_trans H6.out.1.B.size (by simp)) h))); have j35 := (ChipAt.mk g1).rest.2.2.2; have jf := (ChipAt.mk g1).free; have jl := heap_lt g1; clear hown1 hgrow1 hat g1 g2 g3 k35 hf hl)
    change Code.wp _ _ _ _ (w3.setCell ⟨w.heap.size, 35, none⟩ (.slice a3 3 c3))
    clear H6 j35 jf jl hc3
    generalize w3.setCell ⟨w.heap.size, 35, none⟩ (.slice a3 3 c3) = W7 at *
    have H7 := Lib.hid HX.out
    clear HX
    have HR := Lib.hid H7.out.1.R
    have HA := Lib.hid H7.out.1.A.obj
    have HE := Lib.hid (show Gave w (outC c true x) _ _ from by rw [HOUT.out, HB1.out, HB0.out]; exact H7.out.1.gave rfl rfl)
    have HO1 := Lib.hid H7.out.1.ones
    go_wp2_with (first | (refine wpList_load_row rfl _ _ rfl w.heap.size rfl _ _ _ _ HA.out Try.underlying58 rfl info36 ?_) | (refine wpList_store_row rfl _ _ _ rfl (w.heap.size + 1) _ rfl rfl _ _ HR.out info36 rfl HO1.out ?_))
    exact bodyPost_ret (v := _) (results_cell_row rfl _ _ (w.heap.size + 1) _ _ _ _ rfl (heap_row HR.out) Try.underlying58 rfl info36) rfl HE.out
  · have HB1 := Lib.hid hb1
    have HB0 := Lib.hid hb0
    clear hb1 hb0
    go_wp2_with fail
    refine (HB.out 0 (by decide) _).mono ?_
    rintro e w1 ⟨rfl, rfl⟩
    rw [HB0.out]
    have HR := Lib.hid H5.out.1.R
    have HA := Lib.hid H5.out.1.A.obj
    have HE := Lib.hid (show Gave w (outC c true x) _ _ from by rw [HOUT.out, HB1.out, HB0.out]; exact H5.out.1.gave rfl rfl)
    have HO1 := Lib.hid H5.out.1.ones
    go_wp2_with (first | (refine wpList_load_row rfl _ _ rfl w.heap.size rfl _ _ _ _ HA.out Try.underlying58 rfl info36 ?_) | (refine wpList_store_row rfl _ _ _ rfl (w.heap.size + 1) _ rfl rfl _ _ HR.out info36 rfl HO1.out ?_))
    exact bodyPost_ret (v := _) (results_cell_row rfl _ _ (w.heap.size + 1) _ _ _ _ rfl (heap_row HR.out) Try.underlying58 rfl info36) rfl HE.out
  · have HB1 := Lib.hid hb1
    have HB0 := Lib.hid hb0
    clear hb1 hb0
    go_wp2_with fail
    refine (HB.out 0 (by decide) _).mono ?_
    rintro e w1 ⟨rfl, rfl⟩
    rw [HB0.out]
    obtain ⟨-, -, -, k35⟩ := H5.out.1.A.rest
    have hf := H5.out.1.A.free
    have hl := H5.out.1.A.lt
    have hc3 := Lib.hid (one_new' W5 3 (.int .i64 3))
    go_upto_region 13 with (at_builtin; (refine wpList_append_c rfl _ _ 30 rfl i0 (.int .i64 0) 1 8 Try.underlying30 hi hz0 hz1 hz2 rfl (by decide) rfl (H5.out.1.V.alloc _) ⟨W5.heap.size, 0, none⟩ 1 [.int .i64 3] rfl rfl hc3.out (fun u hu => by rw [List.mem_singleton.1 hu]; rfl) (by decide) (by decide) ?_); intro a3 c3 w3 hown1 hgrow1 hat; obtain ⟨g1, g2, g3⟩ := H5.out.1.grew H5.out.2 _ hgrow1; have HX := Lib.hid (And.intro (H5.out.1.setV (L' := [1, 3]) g1 g2 g3 hown1) (fun k hk => (hat k hk).elim (H5.out.2 k) (fun h => Nat.le_trans (Nat.le_trans H5.out.1.B.size (by simp)) h))); have j35 := (ChipAt.mk g1).rest.2.2.2; have jf := (ChipAt.mk g1).free; have jl := heap_lt g1; clear hown1 hgrow1 hat g1 g2 g3 k35 hf hl)
    change Code.wp _ _ _ _ (w3.setCell ⟨w.heap.size, 35, none⟩ (.slice a3 2 c3))
    clear H5 j35 jf jl hc3
    generalize w3.setCell ⟨w.heap.size, 35, none⟩ (.slice a3 2 c3) = W7 at *
    have H7 := Lib.hid HX.out
    clear HX
    have HR := Lib.hid H7.out.1.R
    have HA := Lib.hid H7.out.1.A.obj
    have HE := Lib.hid (show Gave w (outC c true x) _ _ from by rw [HOUT.out, HB1.out, HB0.out]; exact H7.out.1.gave rfl rfl)
    have HO1 := Lib.hid H7.out.1.ones
    go_wp2_with (first | (refine wpList_load_row rfl _ _ rfl w.heap.size rfl _ _ _ _ HA.out Try.underlying58 rfl info36 ?_) | (refine wpList_store_row rfl _ _ _ rfl (w.heap.size + 1) _ rfl rfl _ _ HR.out info36 rfl HO1.out ?_))
    exact bodyPost_ret (v := _) (results_cell_row rfl _ _ (w.heap.size + 1) _ _ _ _ rfl (heap_row HR.out) Try.underlying58 rfl info36) rfl HE.out
end
end Go.Proofs.Ytfijohgbgadhiaa
