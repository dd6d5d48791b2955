/- pic: the document's pair: a byte that is written to a chip's data port. -/
import Derived.Test.YtfijohgbgadhiaaPicQ
namespace Go.Proofs.Ytfijohgbgadhiaa
open Go.RowKit
set_option linter.unusedVariables false
set_option linter.unusedSimpArgs false

def mset (m k : Nat) (y : Bool) : Nat := if y then m ||| 2 ^ k else m &&& (255 - 2 ^ k)
theorem mset_lt {m k : Nat} (hm : m < 256) (hk : k < 8) (y : Bool) : mset m k y < 256 := by
  have h2 : 2 ^ k < 2 ^ 8 := Nat.pow_lt_pow_right (by decide) hk
  unfold mset
  split
  · exact Nat.or_lt_two_pow (n := 8) hm h2
  · exact Nat.lt_of_le_of_lt Nat.and_le_left hm
theorem bt_mset (m k i : Nat) (hk : k < 8) (hi : i < 8) (y : Bool) : bt (mset m k y) i = if i = k then y else bt m i := by
  unfold mset
  by_cases e : i = k
  · rw [if_pos e, e]
    cases y
    · rw [if_neg (by decide), bt_and, bt_npow k k hk hk]; simp
    · rw [if_pos rfl, bt_or, bt_pow k k hk hk]; simp
  · rw [if_neg e]
    cases y
    · rw [if_neg (by decide), bt_and, bt_npow k i hk hi, decide_eq_false (fun h => e h.symm)]; simp
    · rw [if_pos rfl, bt_or, bt_pow k i hk hi, decide_eq_false (fun h => e h.symm)]; simp
theorem mask_set (c : Chip) (v : Value) (j : Nat) (hj : j < 8) (y : Bool) : (c.rcells v).set (16 + j) (.bool y) = ({ c with masked := mset c.masked j y } : Chip).rcells v := by
  refine rc_set _ _ v 2 j (16 + j) (by decide) hj (by omega) y ?_ ⟨rfl, rfl, rfl⟩
  intro g i hg hi
  rcases (show g = 0 ∨ g = 1 ∨ g = 2 ∨ g = 3 by omega) with rfl | rfl | rfl | rfl
  · rw [if_neg (by omega)]; rfl
  · rw [if_neg (by omega)]; rfl
  · show bt (mset c.masked j y) i = _
    rw [bt_mset _ _ _ hj hi]
    by_cases e : i = j
    · rw [if_pos e, if_pos ⟨rfl, e⟩]
    · rw [if_neg e, if_neg (fun h => e h.2)]; rfl
  · rw [if_neg (by omega)]; rfl
theorem wants_cons (c : Chip) (h : c.stage = 1 ∨ c.stage = 2 ∨ c.stage = 3) : c.wants = c.stage :: (onC c).wants := by
  obtain ⟨a, s, m, u, bs, t, e, st, x, y⟩ := c
  rcases h with h | h | h <;> (dsimp only at h; subst h; cases x <;> cases y <;> rfl)
theorem wants_0 (c : Chip) (h : c.stage = 0) : c.wants = [] := by unfold Chip.wants; rw [h]; rfl
theorem size_int (w : World) : (sizeOf 3).run Try.prog w = .ok 1 w := by rfl
theorem run_tail_some {w : World} {v : Value} {n : Nat} {xs : List Value} (h : RowC w 3 1 v (n + 1) xs) :
    ∃ g o c', (Instr.slice 30 v (some (.int .i64 1)) none none).run Try.prog w = .ok (.slice (some ⟨g, o, none⟩) n c') w ∧ ∀ j, j < n → w.cell? ⟨g, o + j, none⟩ = xs[j + 1]? := by
  rcases h.2 with ⟨rfl, h0⟩ | ⟨g, o, cap, cur, rfl, hg, h2, h3, h4, h5⟩
  · cases h0
  · have hs := size_int w
    by_cases hc : cap = 1
    · subst hc
      obtain rfl : n = 0 := by omega
      refine ⟨g, o, 0, ?_, fun j hj => by omega⟩
      simp [Instr.slice, run_underlying Try.underlying30, Result.andThen, Instr.sliceBounds, Instr.sliceBound, asIntOf, hs]
    · have hle : (1 : Int) ≤ (n : Int) + 1 := by omega
      refine ⟨g, o + 1, cap - 1, ?_, fun j hj => ?_⟩
      · have ha : (⟨g, o, none⟩ : Addr).add 1 = ⟨g, o + 1, none⟩ := Go.WideShapes.add_plain _ _ _
        simp [Instr.slice, run_underlying Try.underlying30, Result.andThen, Instr.sliceBounds, Instr.sliceBound, asIntOf, hs, hc, ha, hle]
      · rw [cell_at hg, ← h5 (j + 1) (by omega)]; congr 1; omega
theorem numV_one (L : List Nat) : ∀ x ∈ numV L, x.oneCell' = true := by
  intro x hx
  obtain ⟨n, -, rfl⟩ := List.mem_map.1 hx; rfl
section
variable {w : World} {b g : Nat} {v u : Value} {c d : Chip}
theorem Own36.grew' {w0 : World} {L : List Nat} (h : Own36 w0 w c v L) (o : Obj) {w1 : World} (hg : (w.alloc o).grownBy w1 (some w.heap.size)) :
    w1.heap[w0.heap.size]? = some (.cells (c.rcells v).toArray 58 (0, 0)) ∧ w1.heap[w0.heap.size + 1]? = some (.cells zero36.toArray 58 (0, 0)) ∧ Below w0.heap.size w0 w1 := by
  have hs : w.heap.size < (w.alloc o).heap.size := by simp
  have BA := h.B.alloc h.B.size o
  have l1 := h.A.lt
  have l2 := heap_lt h.R
  refine ⟨(hg.block _ (Nat.lt_trans l1 hs) (fun e => by injection e with e; omega)).trans (heap_alloc_lt h.A.obj), (hg.block _ (Nat.lt_trans l2 hs) (fun e => by injection e with e; omega)).trans (heap_alloc_lt h.R), BA.grown hg BA.size ?_⟩
  intro k hk
  injection hk with hk; rw [← hk]; exact h.B.size
set_option maxHeartbeats 4000000 in
theorem rdata_0 (hv : RowC w 3 1 v c.wants.length (numV c.wants)) (hc : c.ok) (x : Nat) (hx : x < 256) (h0 : c.stage = 0) :
    Calls Try.prog 28 #[.agg (c.rcells v).toArray, .int .u8 (x : Nat)] w (Gave w (outC c false x)) := by
  have HOUT := Lib.hid (show outC c false x = { c with masked := x } from by unfold outC; rw [if_neg (by decide), if_pos h0])
  have hw0 := wants_0 c h0
  have hz := fun w => zeroChip w
  have HB := Lib.hid (fun n (hn : n < 8) w => bit_any x n hx hn w)
  have HO := Lib.hid (Own36.beg w c hv)
  have HC := Lib.hid (And.intro hc hx)
  have HW0 := Lib.hid hw0
  obtain ⟨va, vc, hvv⟩ := hv.len
  rw [hw0] at hvv
  have HVV := Lib.hid (show v = .slice va 0 vc from hvv)
  clear hw0 hx h0 hc hv hvv
  go_enter Try.func28, Try.ntmps28
  go_upto_region 1 with (fail)
  have O1 := HO.out
  change Code.wp _ _ _ _ ((w.alloc (.cells (c.rcells v).toArray 58)).alloc (.cells zero36.toArray 58))
  clear HO hz
  generalize (w.alloc (.cells (c.rcells v).toArray 58)).alloc (.cells zero36.toArray 58) = W1 at *
  have H1 := Lib.hid O1
  clear O1
  obtain ⟨-, -, -, k35⟩ := H1.out.A.rest
  rw [HVV.out] at k35
  go_wp2_with fail
  clear k35
  go_loopw [5] (fun i wc => ∃ k m : Nat, k ≤ 8 ∧ i = .int .i64 k ∧ m < 256 ∧ (∀ j, j < k → bt m j = bt x j) ∧ Own36 w wc { c with masked := m } v c.wants) (fun i _ => 8 - (intOf i).toNat)
  case atStart => exact ⟨0, c.masked, by omega, rfl, HC.out.1.masked, fun j hj => by omega, H1.out⟩
  case round =>
    clear H1
    obtain ⟨k, m, hk, rfl, hm, R, O⟩ := hrel
    have HR := Lib.hid (And.intro hm R)
    have H1 := Lib.hid O
    clear R O hm
    by_cases h8 : k < 8
    · have q1 : (0 : Int) ≤ (k : Int) := by omega
      have q2 : (k : Int) < 8 := by omega
      have k8 : wr.cell? ⟨w.heap.size, 16 + k, none⟩ = some (.bool (bt m k)) := H1.out.A.bit 2 _ _ (by decide) h8 rfl
      have hf := H1.out.A.free
      have hl := H1.out.A.lt
      go_wp2_with fail
      refine (HB.out k h8 _).mono ?_
      rintro e w1 ⟨rfl, rfl⟩
      have HS := Lib.hid (show Own36 w (wr.setCell ⟨w.heap.size, 16 + k, none⟩ (.bool (x.testBit k))) { c with masked := mset m k (x.testBit k) } v c.wants from H1.out.set (16 + k) _ (mask_set { c with masked := m } v k h8 _))
      have HMB := Lib.hid (show ∀ j, j < k + 1 → bt (mset m k (x.testBit k)) j = bt x j from fun j hj => by
        rw [bt_mset _ _ _ h8 (by omega)]
        by_cases e : j = k
        · rw [if_pos e, e]; rfl
        · rw [if_neg e]; exact HR.out.2 j (by omega))
      have HML := Lib.hid (mset_lt HR.out.1 h8 (x.testBit k))
      generalize x.testBit k = t at *
      go_wp2_with fail
      go_roundw
      case rel => exact ⟨k + 1, mset m k t, by omega, by go_num, HML.out, HMB.out, HS.out⟩
      case measure => (simp [intOf]) <;> omega
    · have q2 : (8 : Int) ≤ (k : Int) := by omega
      have em : m = x := bits_eq HR.out.1 HC.out.2 fun j hj => HR.out.2 j (by omega)
      rw [em] at H1
      clear em
      have HR1 := Lib.hid H1.out.R
      have HA := Lib.hid H1.out.A.obj
      have HG := Lib.hid (show Gave w (outC c false x) _ _ from by rw [HOUT.out]; exact H1.out.gave rfl rfl)
      have HO1 := Lib.hid H1.out.ones
      go_wp2_with (first | (refine wpList_load_row rfl _ _ rfl w.heap.size rfl _ _ _ _ HA.out Try.underlying58 rfl info36 ?_) | (refine wpList_store_row rfl _ _ _ rfl (w.heap.size + 1) _ rfl rfl _ _ HR1.out info36 rfl HO1.out ?_))
      exact bodyPost_ret (v := _) (results_cell_row rfl _ _ (w.heap.size + 1) _ _ _ _ rfl (heap_row HR1.out) Try.underlying58 rfl info36) rfl HG.out
/-- What is written is kept; then the first of what is waited for is left out. -/
theorem outC_data (c : Chip) (x : Nat) (h : c.stage = 1 ∨ c.stage = 2 ∨ c.stage = 3) : outC c false x = onC (if c.stage = 1 then { c with base := x &&& 248 } else if c.stage = 3 then { c with ends := bit x 2 } else c) := by
  unfold outC
  rw [if_neg (by decide), if_neg (by omega)]
  by_cases h1 : c.stage = 1
  · rw [if_pos h1, if_pos h1]
  · rw [if_neg h1, if_neg h1]
    by_cases h3 : c.stage = 3
    · rw [if_pos h3, if_pos h3]
    · rw [if_neg h3, if_neg h3]
-- STAGES
def GaveL (w : World) (c : Chip) (L : List Nat) (e : Ending) (w' : World) : Prop := ∃ u, e = .returned (.agg (c.rcells u).toArray) ∧ RowC w' 3 1 u L.length (numV L) ∧ Below w.heap.size w w'
theorem Own36.gaveL {w0 : World} {L : List Nat} (h : Own36 w0 w c v L) : GaveL w0 c L (.returned (.agg (c.rcells v).toArray)) (w.setRow (w0.heap.size + 1) (c.rcells v).toArray) := by
  refine ⟨v, rfl, ?_, below_setRow h.B (by omega) _⟩
  refine h.V.of_heap fun k hk => setRow_other _ _ _ _ ?_
  rintro rfl
  obtain ⟨cur, hc⟩ := h.V.block hk
  rw [h.R] at hc
  injection hc with hc; injection hc with _ hc _; exact absurd hc (by decide)
theorem Own36.begL (w : World) (c : Chip) {L : List Nat} (hv : RowC w 3 1 v L.length (numV L)) : Own36 w ((w.alloc (.cells (c.rcells v).toArray 58)).alloc (.cells zero36.toArray 58)) c v L := by
  have h1 := heap_new w (.cells (c.rcells v).toArray 58)
  have h2 := heap_new (w.alloc (.cells (c.rcells v).toArray 58)) (.cells zero36.toArray 58)
  refine ⟨⟨heap_alloc_lt h1⟩, ?_, below2 _ _ _, (hv.alloc _).alloc _⟩
  rw [show w.heap.size + 1 = (w.alloc (.cells (c.rcells v).toArray 58)).heap.size by simp]; exact h2
set_option maxHeartbeats 8000000 in
theorem rdata_2 (rest : List Nat) (hr : rest.length ≤ 2) (hv : RowC w 3 1 v (2 :: rest).length (numV (2 :: rest))) (x : Nat) (hx : x < 256) :
    Calls Try.prog 28 #[.agg (c.rcells v).toArray, .int .u8 (x : Nat)] w (GaveL w c rest) := by
  have hz := fun w => zeroChip w
  have HB := Lib.hid (fun n (hn : n < 8) w => bit_any x n hx hn w)
  have HO := Lib.hid (Own36.begL w c hv)
  obtain ⟨i0, hi, hz0, hz1, hz2⟩ := info_parts infoInt
  obtain ⟨n, hN⟩ : ∃ n, n = rest.length := ⟨_, rfl⟩
  have HN := Lib.hid hN
  have hn2 : n ≤ 2 := by omega
  clear hx hv hN hr
  go_enter Try.func28, Try.ntmps28
  go_upto_region 1 with (fail)
  have O1 := HO.out
  change Code.wp _ _ _ _ ((w.alloc (.cells (c.rcells v).toArray 58)).alloc (.cells zero36.toArray 58))
  clear HO hz
  generalize (w.alloc (.cells (c.rcells v).toArray 58)).alloc (.cells zero36.toArray 58) = W1 at *
  have H1 := Lib.hid O1
  clear O1
  obtain ⟨k32, -, k34, k35⟩ := H1.out.A.rest
  have hf := H1.out.A.free
  have hl := H1.out.A.lt
  obtain ⟨gv, ov, capv, hgv, hcell, hgl⟩ := H1.out.V.cell (j := 0) (u := .int .i64 2) rfl
  have HGV := Lib.hid (show v = .slice (some ⟨gv, ov, none⟩) (n + 1) capv from by rw [hgv, HN.out]; rfl)
  rw [HGV.out] at k35
  rw [Nat.add_zero] at hcell
  clear hgv
  go_upto_region 12 with (fail)
  have H2 := H1
  clear H1 k32 k34 k35 hf hl hcell
  generalize hWW : W1 = W2 at *
  clear hWW
  have hV2 := H2.out.V.alloc (.cells #[] 3)
  rw [HGV.out, show (2 :: rest).length = n + 1 by rw [HN.out]; rfl] at hV2
  obtain ⟨tg, tf, tc, hsl, hnews⟩ := run_tail_some (n := n) (h := hV2)
  have HNEWS := Lib.hid (show ∀ j u, (numV rest)[j]? = some u → (W2.alloc (.cells #[] 3)).cell? ((⟨tg, tf, none⟩ : Addr).add j) = some u from fun j u hj => by
    have hjl : j < n := by rw [HN.out]; have := (List.getElem?_eq_some_iff.1 hj).1; simpa [numV] using this
    rw [Go.WideShapes.add_plain, hnews j hjl]; exact hj)
  have HOWN := Lib.hid (show (W2.alloc (.cells #[] 3)).ownsRow W2.heap.size 3 1 (.slice (some ⟨W2.heap.size, 0, none⟩) 0 0) 0 [] from World.ownsRow_made W2 #[] 0 (Nat.le_refl _) (by decide) (by simp))
  have HLN := Lib.hid (show (numV rest).length = n * 1 from by rw [HN.out]; simp [numV])
  clear hnews hV2
  obtain ⟨-, -, -, k35⟩ := H2.out.A.rest
  rw [HGV.out] at k35
  have hf := H2.out.A.free
  have hl := H2.out.A.lt
  go_upto_region 13 with (at_builtin; (refine wpList_append_own _ rfl _ _ 30 rfl W2.heap.size 3 i0 (.int .i64 0) 1 8 Try.underlying30 hi hz0 hz1 hz2 rfl (by decide) _ 0 [] rfl HOWN.out ⟨tg, tf, none⟩ n tc (numV rest) rfl HLN.out HNEWS.out (numV_one rest) (by unfold maxLen; omega) (by omega) (by simp) ?_); intro v3 w3 hown1 hgrow1 _; obtain ⟨g1, g2, g3⟩ := H2.out.grew' _ hgrow1; have HRW := Lib.hid (RowC.own hown1); obtain ⟨a3, c3, hv3⟩ := HRW.out.len; have HV3 := Lib.hid hv3; have HX := Lib.hid (And.intro g1 (And.intro g2 g3)); have j35 := (ChipAt.mk g1).rest.2.2.2; have jf := (ChipAt.mk g1).free; have jl := heap_lt g1; clear hown1 hgrow1 g1 g2 g3 k35 hf hl hsl; obtain rfl := hv3)
  have O7 := H2.out.setV (L' := rest) HX.out.1 HX.out.2.1 HX.out.2.2 (by have h := HRW.out; rw [Nat.zero_add, List.nil_append, HN.out] at h; rw [← HN.out] at h ⊢; exact h)
  change Code.wp _ _ _ _ (w3.setCell ⟨w.heap.size, 35, none⟩ (.slice a3 n c3))
  clear HX HRW j35 jf jl HNEWS HOWN HLN
  generalize w3.setCell ⟨w.heap.size, 35, none⟩ (.slice a3 n c3) = W7 at *
  have HR := Lib.hid O7.R
  have HA := Lib.hid O7.A.obj
  have HE := Lib.hid O7.gaveL
  have HO1 := Lib.hid O7.ones
  clear O7 H2
  go_wp2_with (first | (refine wpList_load_row rfl _ _ rfl w.heap.size rfl _ _ _ _ HA.out Try.underlying58 rfl info36 ?_) | (refine wpList_store_row rfl _ _ _ rfl (w.heap.size + 1) _ rfl rfl _ _ HR.out info36 rfl HO1.out ?_))
  exact bodyPost_ret (v := _) (results_cell_row rfl _ _ (w.heap.size + 1) _ _ _ _ rfl (heap_row HR.out) Try.underlying58 rfl info36) rfl HE.out
set_option maxHeartbeats 8000000 in
theorem rdata_1 (rest : List Nat) (hr : rest.length ≤ 2) (hv : RowC w 3 1 v (1 :: rest).length (numV (1 :: rest))) (x : Nat) (hx : x < 256) :
    Calls Try.prog 28 #[.agg (c.rcells v).toArray, .int .u8 (x : Nat)] w (GaveL w ({ c with base := x &&& 248 } : Chip) rest) := by
  have hz := fun w => zeroChip w
  have HB := Lib.hid (fun n (hn : n < 8) w => bit_any x n hx hn w)
  have HO := Lib.hid (Own36.begL w c hv)
  obtain ⟨i0, hi, hz0, hz1, hz2⟩ := info_parts infoInt
  obtain ⟨n, hN⟩ : ∃ n, n = rest.length := ⟨_, rfl⟩
  have HN := Lib.hid hN
  have hn2 : n ≤ 2 := by omega
  obtain ⟨-, -, -, -, -, e8⟩ := bit_bt ⟨x, hx⟩
  have HE8 := Lib.hid (show (x : Int) - (x : Int) % 8 = ((x &&& 248 : Nat) : Int) from by rw [show x &&& 248 = x - x % 8 from e8]; omega)
  have p1 : (0 : Int) ≤ (x : Int) := by omega
  have p2 : (x : Int) ≤ 255 := by omega
  clear e8
  clear hx hv hN hr
  go_enter Try.func28, Try.ntmps28
  go_upto_region 1 with (fail)
  have O1 := HO.out
  change Code.wp _ _ _ _ ((w.alloc (.cells (c.rcells v).toArray 58)).alloc (.cells zero36.toArray 58))
  clear HO hz
  generalize (w.alloc (.cells (c.rcells v).toArray 58)).alloc (.cells zero36.toArray 58) = W1 at *
  have H1 := Lib.hid O1
  clear O1
  obtain ⟨k32, -, k34, k35⟩ := H1.out.A.rest
  have hf := H1.out.A.free
  have hl := H1.out.A.lt
  obtain ⟨gv, ov, capv, hgv, hcell, hgl⟩ := H1.out.V.cell (j := 0) (u := .int .i64 1) rfl
  have HGV := Lib.hid (show v = .slice (some ⟨gv, ov, none⟩) (n + 1) capv from by rw [hgv, HN.out]; rfl)
  rw [HGV.out] at k35
  rw [Nat.add_zero] at hcell
  clear hgv
  go_upto_region 12 with (fail)
  rw [HE8.out]
  have H2 := Lib.hid (H1.out.set (c' := { c with base := x &&& 248 }) 32 (.int .i64 ((x &&& 248 : Nat) : Int)) rfl)
  change Code.wp _ _ _ _ (W1.setCell ⟨w.heap.size, 32, none⟩ (.int .i64 ((x &&& 248 : Nat) : Int)))
  clear H1 k32 k34 k35 hf hl hcell
  generalize W1.setCell ⟨w.heap.size, 32, none⟩ (.int .i64 ((x &&& 248 : Nat) : Int)) = W2 at *
  have hV2 := H2.out.V.alloc (.cells #[] 3)
  rw [HGV.out, show (1 :: rest).length = n + 1 by rw [HN.out]; rfl] at hV2
  obtain ⟨tg, tf, tc, hsl, hnews⟩ := run_tail_some (n := n) (h := hV2)
  have HNEWS := Lib.hid (show ∀ j u, (numV rest)[j]? = some u → (W2.alloc (.cells #[] 3)).cell? ((⟨tg, tf, none⟩ : Addr).add j) = some u from fun j u hj => by
    have hjl : j < n := by rw [HN.out]; have := (List.getElem?_eq_some_iff.1 hj).1; simpa [numV] using this
    rw [Go.WideShapes.add_plain, hnews j hjl]; exact hj)
  have HOWN := Lib.hid (show (W2.alloc (.cells #[] 3)).ownsRow W2.heap.size 3 1 (.slice (some ⟨W2.heap.size, 0, none⟩) 0 0) 0 [] from World.ownsRow_made W2 #[] 0 (Nat.le_refl _) (by decide) (by simp))
  have HLN := Lib.hid (show (numV rest).length = n * 1 from by rw [HN.out]; simp [numV])
  clear hnews hV2
  obtain ⟨-, -, -, k35⟩ := H2.out.A.rest
  rw [HGV.out] at k35
  have hf := H2.out.A.free
  have hl := H2.out.A.lt
  go_upto_region 13 with (at_builtin; (refine wpList_append_own _ rfl _ _ 30 rfl W2.heap.size 3 i0 (.int .i64 0) 1 8 Try.underlying30 hi hz0 hz1 hz2 rfl (by decide) _ 0 [] rfl HOWN.out ⟨tg, tf, none⟩ n tc (numV rest) rfl HLN.out HNEWS.out (numV_one rest) (by unfold maxLen; omega) (by omega) (by simp) ?_); intro v3 w3 hown1 hgrow1 _; obtain ⟨g1, g2, g3⟩ := H2.out.grew' _ hgrow1; have HRW := Lib.hid (RowC.own hown1); obtain ⟨a3, c3, hv3⟩ := HRW.out.len; have HV3 := Lib.hid hv3; have HX := Lib.hid (And.intro g1 (And.intro g2 g3)); have j35 := (ChipAt.mk g1).rest.2.2.2; have jf := (ChipAt.mk g1).free; have jl := heap_lt g1; clear hown1 hgrow1 g1 g2 g3 k35 hf hl hsl; obtain rfl := hv3)
  have O7 := H2.out.setV (L' := rest) HX.out.1 HX.out.2.1 HX.out.2.2 (by have h := HRW.out; rw [Nat.zero_add, List.nil_append, HN.out] at h; rw [← HN.out] at h ⊢; exact h)
  change Code.wp _ _ _ _ (w3.setCell ⟨w.heap.size, 35, none⟩ (.slice a3 n c3))
  clear HX HRW j35 jf jl HNEWS HOWN HLN
  generalize w3.setCell ⟨w.heap.size, 35, none⟩ (.slice a3 n c3) = W7 at *
  have HR := Lib.hid O7.R
  have HA := Lib.hid O7.A.obj
  have HE := Lib.hid O7.gaveL
  have HO1 := Lib.hid O7.ones
  clear O7 H2
  go_wp2_with (first | (refine wpList_load_row rfl _ _ rfl w.heap.size rfl _ _ _ _ HA.out Try.underlying58 rfl info36 ?_) | (refine wpList_store_row rfl _ _ _ rfl (w.heap.size + 1) _ rfl rfl _ _ HR.out info36 rfl HO1.out ?_))
  exact bodyPost_ret (v := _) (results_cell_row rfl _ _ (w.heap.size + 1) _ _ _ _ rfl (heap_row HR.out) Try.underlying58 rfl info36) rfl HE.out
set_option maxHeartbeats 8000000 in
theorem rdata_3 (rest : List Nat) (hr : rest.length ≤ 2) (hv : RowC w 3 1 v (3 :: rest).length (numV (3 :: rest))) (x : Nat) (hx : x < 256) :
    Calls Try.prog 28 #[.agg (c.rcells v).toArray, .int .u8 (x : Nat)] w (GaveL w ({ c with ends := x.testBit 1 } : Chip) rest) := by
  have hz := fun w => zeroChip w
  have HB := Lib.hid (fun n (hn : n < 8) w => bit_any x n hx hn w)
  have HO := Lib.hid (Own36.begL w c hv)
  obtain ⟨i0, hi, hz0, hz1, hz2⟩ := info_parts infoInt
  obtain ⟨n, hN⟩ : ∃ n, n = rest.length := ⟨_, rfl⟩
  have HN := Lib.hid hN
  have hn2 : n ≤ 2 := by omega
  clear hx hv hN hr
  go_enter Try.func28, Try.ntmps28
  go_upto_region 1 with (fail)
  have O1 := HO.out
  change Code.wp _ _ _ _ ((w.alloc (.cells (c.rcells v).toArray 58)).alloc (.cells zero36.toArray 58))
  clear HO hz
  generalize (w.alloc (.cells (c.rcells v).toArray 58)).alloc (.cells zero36.toArray 58) = W1 at *
  have H1 := Lib.hid O1
  clear O1
  obtain ⟨k32, -, k34, k35⟩ := H1.out.A.rest
  have hf := H1.out.A.free
  have hl := H1.out.A.lt
  obtain ⟨gv, ov, capv, hgv, hcell, hgl⟩ := H1.out.V.cell (j := 0) (u := .int .i64 3) rfl
  have HGV := Lib.hid (show v = .slice (some ⟨gv, ov, none⟩) (n + 1) capv from by rw [hgv, HN.out]; rfl)
  rw [HGV.out] at k35
  rw [Nat.add_zero] at hcell
  clear hgv
  go_wp2_with fail
  refine (HB.out 1 (by decide) _).mono ?_
  rintro e w1 ⟨rfl, rfl⟩
  generalize x.testBit 1 = t at *
  go_upto_region 12 with (fail)
  have H2 := Lib.hid (H1.out.set (c' := { c with ends := t }) 34 (.bool t) rfl)
  change Code.wp _ _ _ _ (W1.setCell ⟨w.heap.size, 34, none⟩ (.bool t))
  clear H1 k32 k34 k35 hf hl hcell
  generalize W1.setCell ⟨w.heap.size, 34, none⟩ (.bool t) = W2 at *
  have hV2 := H2.out.V.alloc (.cells #[] 3)
  rw [HGV.out, show (3 :: rest).length = n + 1 by rw [HN.out]; rfl] at hV2
  obtain ⟨tg, tf, tc, hsl, hnews⟩ := run_tail_some (n := n) (h := hV2)
  have HNEWS := Lib.hid (show ∀ j u, (numV rest)[j]? = some u → (W2.alloc (.cells #[] 3)).cell? ((⟨tg, tf, none⟩ : Addr).add j) = some u from fun j u hj => by
    have hjl : j < n := by rw [HN.out]; have := (List.getElem?_eq_some_iff.1 hj).1; simpa [numV] using this
    rw [Go.WideShapes.add_plain, hnews j hjl]; exact hj)
  have HOWN := Lib.hid (show (W2.alloc (.cells #[] 3)).ownsRow W2.heap.size 3 1 (.slice (some ⟨W2.heap.size, 0, none⟩) 0 0) 0 [] from World.ownsRow_made W2 #[] 0 (Nat.le_refl _) (by decide) (by simp))
  have HLN := Lib.hid (show (numV rest).length = n * 1 from by rw [HN.out]; simp [numV])
  clear hnews hV2
  obtain ⟨-, -, -, k35⟩ := H2.out.A.rest
  rw [HGV.out] at k35
  have hf := H2.out.A.free
  have hl := H2.out.A.lt
  go_upto_region 13 with (at_builtin; (refine wpList_append_own _ rfl _ _ 30 rfl W2.heap.size 3 i0 (.int .i64 0) 1 8 Try.underlying30 hi hz0 hz1 hz2 rfl (by decide) _ 0 [] rfl HOWN.out ⟨tg, tf, none⟩ n tc (numV rest) rfl HLN.out HNEWS.out (numV_one rest) (by unfold maxLen; omega) (by omega) (by simp) ?_); intro v3 w3 hown1 hgrow1 _; obtain ⟨g1, g2, g3⟩ := H2.out.grew' _ hgrow1; have HRW := Lib.hid (RowC.own hown1); obtain ⟨a3, c3, hv3⟩ := HRW.out.len; have HV3 := Lib.hid hv3; have HX := Lib.hid (And.intro g1 (And.intro g2 g3)); have j35 := (ChipAt.mk g1).rest.2.2.2; have jf := (ChipAt.mk g1).free; have jl := heap_lt g1; clear hown1 hgrow1 g1 g2 g3 k35 hf hl hsl; obtain rfl := hv3)
  have O7 := H2.out.setV (L' := rest) HX.out.1 HX.out.2.1 HX.out.2.2 (by have h := HRW.out; rw [Nat.zero_add, List.nil_append, HN.out] at h; rw [← HN.out] at h ⊢; exact h)
  change Code.wp _ _ _ _ (w3.setCell ⟨w.heap.size, 35, none⟩ (.slice a3 n c3))
  clear HX HRW j35 jf jl HNEWS HOWN HLN
  generalize w3.setCell ⟨w.heap.size, 35, none⟩ (.slice a3 n c3) = W7 at *
  have HR := Lib.hid O7.R
  have HA := Lib.hid O7.A.obj
  have HE := Lib.hid O7.gaveL
  have HO1 := Lib.hid O7.ones
  clear O7 H2
  go_wp2_with (first | (refine wpList_load_row rfl _ _ rfl w.heap.size rfl _ _ _ _ HA.out Try.underlying58 rfl info36 ?_) | (refine wpList_store_row rfl _ _ _ rfl (w.heap.size + 1) _ rfl rfl _ _ HR.out info36 rfl HO1.out ?_))
  exact bodyPost_ret (v := _) (results_cell_row rfl _ _ (w.heap.size + 1) _ _ _ _ rfl (heap_row HR.out) Try.underlying58 rfl info36) rfl HE.out
theorem rdata_any (hv : RowC w 3 1 v c.wants.length (numV c.wants)) (hc : c.ok) (x : Nat) (hx : x < 256) :
    Calls Try.prog 28 #[.agg (c.rcells v).toArray, .int .u8 (x : Nat)] w (Gave w (outC c false x)) := by
  by_cases h0 : c.stage = 0
  · exact rdata_0 hv hc x hx h0
  · have hs : c.stage = 1 ∨ c.stage = 2 ∨ c.stage = 3 := by have := hc.stage; omega
    have hwc := wants_cons c hs
    have hr : (onC c).wants.length ≤ 2 := by
      have : c.wants.length ≤ 3 := by unfold Chip.wants; (repeat' split) <;> simp
      rw [hwc] at this; simp at this; omega
    obtain ⟨-, -, e1, -, -, -⟩ := bit_bt ⟨x, hx⟩
    rw [outC_data c x hs]
    rcases hs with h | h | h
    · rw [hwc, h] at hv
      rw [if_pos h]
      exact rdata_1 (onC c).wants hr hv x hx
    · rw [hwc, h] at hv
      rw [if_neg (by omega), if_neg (by omega)]
      exact rdata_2 (onC c).wants hr hv x hx
    · rw [hwc, h] at hv
      rw [if_neg (by omega), if_pos h, show bit x 2 = x.testBit 1 from e1]
      exact rdata_3 (onC c).wants hr hv x hx
end
end Go.Proofs.Ytfijohgbgadhiaa
