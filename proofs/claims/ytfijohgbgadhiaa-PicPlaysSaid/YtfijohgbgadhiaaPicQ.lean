/- pic: the document's pair: the other commands, data, what is written. -/
import Derived.Test.YtfijohgbgadhiaaPicP
namespace Go.Proofs.Ytfijohgbgadhiaa
open Go.RowKit
set_option linter.unusedVariables false
set_option linter.unusedSimpArgs false

theorem outC_8 (c : Chip) (x : Nat) (h4 : bit x 16 = false) (h3 : bit x 8 = true) : outC c true x = if bit x 2 then { c with told := bit x 1 } else c := by
  unfold outC; rw [if_pos rfl, if_neg (by rw [h4]; decide), if_pos h3]
theorem outC_0 (c : Chip) (x : Nat) (h4 : bit x 16 = false) (h3 : bit x 8 = false) : outC c true x = if x / 32 = 1 then { c with served := c.served &&& ((c.served + 255) % 256) } else if x / 32 = 3 then { c with served := c.served &&& (255 - 2 ^ (x &&& 7)) } else c := by
  unfold outC; rw [if_pos rfl, if_neg (by rw [h4]; decide), if_neg (by rw [h3]; decide)]
section
variable {w : World} {b g : Nat} {v u : Value} {c d : Chip}
set_option maxHeartbeats 4000000 in
theorem rcommand_8n (hv : RowC w 3 1 v c.wants.length (numV c.wants)) (hc : c.ok) (x : Nat) (hx : x < 256) (h4 : x.testBit 4 = false) (h3 : x.testBit 3 = true) (h1 : x.testBit 1 = false) :
    Calls Try.prog 27 #[.agg (c.rcells v).toArray, .int .u8 (x : Nat)] w (Gave w (outC c true x)) := by
  obtain ⟨e4, e3, e1, e0, e7, -⟩ := bit_bt ⟨x, hx⟩
  have HOUT := Lib.hid (show outC c true x = c from by rw [outC_8 c x (e4.trans h4) (e3.trans h3), show bit x 2 = _ from e1, h1]; rfl)
  have hz := fun w => zeroChip w
  have hz8 := fun w => zero8 w
  have HB := Lib.hid (fun n (hn : n < 8) w => bit_any x n hx hn w)
  have HO := Lib.hid ((Own36.beg w c hv).alloc (.cells (bits8 0).toArray 56))
  have HC := Lib.hid hc
  have H4 := Lib.hid h4
  have H3 := Lib.hid h3
  have H1b := Lib.hid h1
  clear hv hc hx h4 h3 h1 e4 e3 e1 e0 e7
  go_enter Try.func27, Try.ntmps27
  go_wp2_with fail
  refine (HB.out 4 (by decide) _).mono ?_
  rintro e w1 ⟨rfl, rfl⟩
  rw [H4.out]
  go_upto_region 14 with (fail)
  have O1 := HO.out
  change Code.wp _ _ _ _ (((w.alloc (.cells (c.rcells v).toArray 58)).alloc (.cells zero36.toArray 58)).alloc (.cells (bits8 0).toArray 56))
  clear HO hz hz8
  generalize ((w.alloc (.cells (c.rcells v).toArray 58)).alloc (.cells zero36.toArray 58)).alloc (.cells (bits8 0).toArray 56) = W1 at *
  have H1 := Lib.hid O1
  clear O1
  obtain ⟨k32, k33, k34, -⟩ := H1.out.A.rest
  have hf := H1.out.A.free
  have hl := H1.out.A.lt
  go_wp2_with fail
  refine (HB.out 3 (by decide) _).mono ?_
  rintro e w1 ⟨rfl, rfl⟩
  rw [H3.out]
  go_wp2_with fail
  refine (HB.out 1 (by decide) _).mono ?_
  rintro e w1 ⟨rfl, rfl⟩
  rw [H1b.out]
  have HE1 := H1
  have HGV : Own36 w W1 c v c.wants → Gave w (outC c true x) (.returned (.agg (c.rcells v).toArray)) (W1.setRow (w.heap.size + 1) (c.rcells v).toArray) := fun h => by rw [HOUT.out]; exact h.gave rfl rfl
  clear H1 k32 k33 k34 hf hl
  have HR := Lib.hid HE1.out.R
  have HA := Lib.hid HE1.out.A.obj
  have HG := Lib.hid (HGV HE1.out)
  have HO1 := Lib.hid HE1.out.ones
  clear HGV
  go_wp2_with (first | (refine wpList_load_row rfl _ _ rfl w.heap.size rfl _ _ _ _ HA.out Try.underlying58 rfl info36 ?_) | (refine wpList_store_row rfl _ _ _ rfl (w.heap.size + 1) _ rfl rfl _ _ HR.out info36 rfl HO1.out ?_))
  exact bodyPost_ret (v := _) (results_cell_row rfl _ _ (w.heap.size + 1) _ _ _ _ rfl (heap_row HR.out) Try.underlying58 rfl info36) rfl HG.out
set_option maxHeartbeats 4000000 in
theorem rcommand_8y (hv : RowC w 3 1 v c.wants.length (numV c.wants)) (hc : c.ok) (x : Nat) (hx : x < 256) (h4 : x.testBit 4 = false) (h3 : x.testBit 3 = true) (h1 : x.testBit 1 = true) :
    Calls Try.prog 27 #[.agg (c.rcells v).toArray, .int .u8 (x : Nat)] w (Gave w (outC c true x)) := by
  obtain ⟨e4, e3, e1, e0, e7, -⟩ := bit_bt ⟨x, hx⟩
  have HOUT := Lib.hid (show outC c true x = { c with told := x.testBit 0 } from by rw [outC_8 c x (e4.trans h4) (e3.trans h3), show bit x 2 = _ from e1, h1, show bit x 1 = _ from e0]; rfl)
  have hz := fun w => zeroChip w
  have hz8 := fun w => zero8 w
  have HB := Lib.hid (fun n (hn : n < 8) w => bit_any x n hx hn w)
  have HO := Lib.hid ((Own36.beg w c hv).alloc (.cells (bits8 0).toArray 56))
  have HC := Lib.hid hc
  have H4 := Lib.hid h4
  have H3 := Lib.hid h3
  have H1b := Lib.hid h1
  clear hv hc hx h4 h3 h1 e4 e3 e1 e0 e7
  go_enter Try.func27, Try.ntmps27
  go_wp2_with fail
  refine (HB.out 4 (by decide) _).mono ?_
  rintro e w1 ⟨rfl, rfl⟩
  rw [H4.out]
  go_upto_region 14 with (fail)
  have O1 := HO.out
  change Code.wp _ _ _ _ (((w.alloc (.cells (c.rcells v).toArray 58)).alloc (.cells zero36.toArray 58)).alloc (.cells (bits8 0).toArray 56))
  clear HO hz hz8
  generalize ((w.alloc (.cells (c.rcells v).toArray 58)).alloc (.cells zero36.toArray 58)).alloc (.cells (bits8 0).toArray 56) = W1 at *
  have H1 := Lib.hid O1
  clear O1
  obtain ⟨k32, k33, k34, -⟩ := H1.out.A.rest
  have hf := H1.out.A.free
  have hl := H1.out.A.lt
  go_wp2_with fail
  refine (HB.out 3 (by decide) _).mono ?_
  rintro e w1 ⟨rfl, rfl⟩
  rw [H3.out]
  go_wp2_with fail
  refine (HB.out 1 (by decide) _).mono ?_
  rintro e w1 ⟨rfl, rfl⟩
  rw [H1b.out]
  go_wp2_with fail
  refine (HB.out 0 (by decide) _).mono ?_
  rintro e w1 ⟨rfl, rfl⟩
  generalize x.testBit 0 = t at *
  go_upto_region 17 with (fail)
  have HE1 := Lib.hid (H1.out.set (c' := { c with told := t }) 33 (.bool t) rfl)
  change Code.wp _ _ _ _ (W1.setCell ⟨w.heap.size, 33, none⟩ (.bool t))
  clear k32 k33 k34 hf hl H1
  generalize W1.setCell ⟨w.heap.size, 33, none⟩ (.bool t) = W2 at *
  have HGV : Own36 w W2 { c with told := t } v c.wants → Gave w (outC c true x) (.returned (.agg (({ c with told := t } : Chip).rcells v).toArray)) (W2.setRow (w.heap.size + 1) (({ c with told := t } : Chip).rcells v).toArray) := fun h => by rw [HOUT.out]; exact h.gave rfl rfl
  have HR := Lib.hid HE1.out.R
  have HA := Lib.hid HE1.out.A.obj
  have HG := Lib.hid (HGV HE1.out)
  have HO1 := Lib.hid HE1.out.ones
  clear HGV
  go_wp2_with (first | (refine wpList_load_row rfl _ _ rfl w.heap.size rfl _ _ _ _ HA.out Try.underlying58 rfl info36 ?_) | (refine wpList_store_row rfl _ _ _ rfl (w.heap.size + 1) _ rfl rfl _ _ HR.out info36 rfl HO1.out ?_))
  exact bodyPost_ret (v := _) (results_cell_row rfl _ _ (w.heap.size + 1) _ _ _ _ rfl (heap_row HR.out) Try.underlying58 rfl info36) rfl HG.out
set_option maxHeartbeats 4000000 in
theorem rcommand_3 (hv : RowC w 3 1 v c.wants.length (numV c.wants)) (hc : c.ok) (x : Nat) (hx : x < 256) (h4 : x.testBit 4 = false) (h3 : x.testBit 3 = false) (h5 : x / 32 = 3) :
    Calls Try.prog 27 #[.agg (c.rcells v).toArray, .int .u8 (x : Nat)] w (Gave w (outC c true x)) := by
  obtain ⟨e4, e3, e1, e0, e7, -⟩ := bit_bt ⟨x, hx⟩
  have HOUT := Lib.hid (show outC c true x = { c with served := c.served &&& (255 - 2 ^ (x % 8)) } from by rw [outC_0 c x (e4.trans h4) (e3.trans h3), if_neg (by omega), if_pos h5, show x &&& 7 = _ from e7])
  have hz := fun w => zeroChip w
  have hz8 := fun w => zero8 w
  have HB := Lib.hid (fun n (hn : n < 8) w => bit_any x n hx hn w)
  have HO := Lib.hid ((Own36.beg w c hv).alloc (.cells (bits8 0).toArray 56))
  have HC := Lib.hid hc
  have H4 := Lib.hid h4
  have H3 := Lib.hid h3
  have p1 : (0 : Int) ≤ (x : Int) := by omega
  have p2 : (x : Int) ≤ 255 := by omega
  have p3 : ((x : Int) / 32 == 3) = true := by simpa using (by omega : (x : Int) / 32 = 3)
  have p4 : ((x : Int) / 32 == 1) = false := by simpa using (by omega : ¬ (x : Int) / 32 = 1)
  have hj : x % 8 < 8 := by omega
  have p5 : (x : Int) % 8 = ((x % 8 : Nat) : Int) := by omega
  have HP5 := Lib.hid p5
  have p6 : (0 : Int) ≤ (x : Int) % 8 := by omega
  have p7 : (x : Int) % 8 < 8 := by omega
  clear hv hc hx h4 h3 h5 e4 e3 e1 e0 e7 p5
  go_enter Try.func27, Try.ntmps27
  go_wp2_with fail
  refine (HB.out 4 (by decide) _).mono ?_
  rintro e w1 ⟨rfl, rfl⟩
  rw [H4.out]
  go_upto_region 14 with (fail)
  have O1 := HO.out
  change Code.wp _ _ _ _ (((w.alloc (.cells (c.rcells v).toArray 58)).alloc (.cells zero36.toArray 58)).alloc (.cells (bits8 0).toArray 56))
  clear HO hz hz8
  generalize ((w.alloc (.cells (c.rcells v).toArray 58)).alloc (.cells zero36.toArray 58)).alloc (.cells (bits8 0).toArray 56) = W1 at *
  have H1 := Lib.hid O1
  clear O1
  obtain ⟨k32, k33, k34, -⟩ := H1.out.A.rest
  have hf := H1.out.A.free
  have hl := H1.out.A.lt
  go_wp2_with fail
  refine (HB.out 3 (by decide) _).mono ?_
  rintro e w1 ⟨rfl, rfl⟩
  rw [H3.out]
  have k8 : W1.cell? ⟨w.heap.size, 8 + x % 8, none⟩ = some (.bool (bt c.served (x % 8))) := H1.out.A.bit 1 _ _ (by decide) hj rfl
  go_upto_region 27 with (fail)
  have HE1 := Lib.hid (H1.out.set (8 + x % 8) (.bool false) (serve_off c v (x % 8) hj))
  change Code.wp _ _ _ _ (W1.setCell ⟨w.heap.size, 8 + x % 8, none⟩ (.bool false))
  clear k32 k33 k34 hf hl H1 k8
  generalize W1.setCell ⟨w.heap.size, 8 + x % 8, none⟩ (.bool false) = W2 at *
  have HGV : Own36 w W2 { c with served := c.served &&& (255 - 2 ^ (x % 8)) } v c.wants → Gave w (outC c true x) (.returned (.agg (({ c with served := c.served &&& (255 - 2 ^ (x % 8)) } : Chip).rcells v).toArray)) (W2.setRow (w.heap.size + 1) (({ c with served := c.served &&& (255 - 2 ^ (x % 8)) } : Chip).rcells v).toArray) := fun h => by rw [HOUT.out]; exact h.gave rfl rfl
  have HR := Lib.hid HE1.out.R
  have HA := Lib.hid HE1.out.A.obj
  have HG := Lib.hid (HGV HE1.out)
  have HO1 := Lib.hid HE1.out.ones
  clear HGV
  go_wp2_with (first | (refine wpList_load_row rfl _ _ rfl w.heap.size rfl _ _ _ _ HA.out Try.underlying58 rfl info36 ?_) | (refine wpList_store_row rfl _ _ _ rfl (w.heap.size + 1) _ rfl rfl _ _ HR.out info36 rfl HO1.out ?_))
  exact bodyPost_ret (v := _) (results_cell_row rfl _ _ (w.heap.size + 1) _ _ _ _ rfl (heap_row HR.out) Try.underlying58 rfl info36) rfl HG.out
set_option maxHeartbeats 4000000 in
theorem rcommand_n (hv : RowC w 3 1 v c.wants.length (numV c.wants)) (hc : c.ok) (x : Nat) (hx : x < 256) (h4 : x.testBit 4 = false) (h3 : x.testBit 3 = false) (h5 : x / 32 ≠ 3) (h6 : x / 32 ≠ 1) :
    Calls Try.prog 27 #[.agg (c.rcells v).toArray, .int .u8 (x : Nat)] w (Gave w (outC c true x)) := by
  obtain ⟨e4, e3, e1, e0, e7, -⟩ := bit_bt ⟨x, hx⟩
  have HOUT := Lib.hid (show outC c true x = c from by rw [outC_0 c x (e4.trans h4) (e3.trans h3), if_neg h6, if_neg h5])
  have hz := fun w => zeroChip w
  have hz8 := fun w => zero8 w
  have HB := Lib.hid (fun n (hn : n < 8) w => bit_any x n hx hn w)
  have HO := Lib.hid ((Own36.beg w c hv).alloc (.cells (bits8 0).toArray 56))
  have HC := Lib.hid hc
  have H4 := Lib.hid h4
  have H3 := Lib.hid h3
  have p1 : (0 : Int) ≤ (x : Int) := by omega
  have p2 : (x : Int) ≤ 255 := by omega
  have p3 : ((x : Int) / 32 == 3) = false := by simpa using (by omega : ¬ (x : Int) / 32 = 3)
  have p4 : ((x : Int) / 32 == 1) = false := by simpa using (by omega : ¬ (x : Int) / 32 = 1)
  clear hv hc hx h4 h3 h5 h6 e4 e3 e1 e0 e7
  go_enter Try.func27, Try.ntmps27
  go_wp2_with fail
  refine (HB.out 4 (by decide) _).mono ?_
  rintro e w1 ⟨rfl, rfl⟩
  rw [H4.out]
  go_upto_region 14 with (fail)
  have O1 := HO.out
  change Code.wp _ _ _ _ (((w.alloc (.cells (c.rcells v).toArray 58)).alloc (.cells zero36.toArray 58)).alloc (.cells (bits8 0).toArray 56))
  clear HO hz hz8
  generalize ((w.alloc (.cells (c.rcells v).toArray 58)).alloc (.cells zero36.toArray 58)).alloc (.cells (bits8 0).toArray 56) = W1 at *
  have H1 := Lib.hid O1
  clear O1
  obtain ⟨k32, k33, k34, -⟩ := H1.out.A.rest
  have hf := H1.out.A.free
  have hl := H1.out.A.lt
  go_wp2_with fail
  refine (HB.out 3 (by decide) _).mono ?_
  rintro e w1 ⟨rfl, rfl⟩
  rw [H3.out]
  go_upto_region 27 with (fail)
  have HE1 := H1
  have HGV : Own36 w W1 c v c.wants → Gave w (outC c true x) (.returned (.agg (c.rcells v).toArray)) (W1.setRow (w.heap.size + 1) (c.rcells v).toArray) := fun h => by rw [HOUT.out]; exact h.gave rfl rfl
  clear H1 k32 k33 k34 hf hl
  have HR := Lib.hid HE1.out.R
  have HA := Lib.hid HE1.out.A.obj
  have HG := Lib.hid (HGV HE1.out)
  have HO1 := Lib.hid HE1.out.ones
  clear HGV
  go_wp2_with (first | (refine wpList_load_row rfl _ _ rfl w.heap.size rfl _ _ _ _ HA.out Try.underlying58 rfl info36 ?_) | (refine wpList_store_row rfl _ _ _ rfl (w.heap.size + 1) _ rfl rfl _ _ HR.out info36 rfl HO1.out ?_))
  exact bodyPost_ret (v := _) (results_cell_row rfl _ _ (w.heap.size + 1) _ _ _ _ rfl (heap_row HR.out) Try.underlying58 rfl info36) rfl HG.out
/-- Nothing is served below k. -/
def Low (s k : Nat) : Prop := ∀ j, j < k → bt s j = false
theorem low_all {s : Nat} (hs : s < 256) (h : Low s 8) : s = 0 := bits_eq hs (by decide) fun j hj => (h j hj).trans (by rw [Nat.zero_testBit])
theorem low_one {s k : Nat} (hs : s < 256) (hk : k < 8) (h : Low s k) (hb : bt s k = true) : s &&& ((s + 255) % 256) = s &&& (255 - 2 ^ k) := low_clear ⟨s, hs⟩ ⟨k, hk⟩ ⟨hb, fun j hj => h j.val hj⟩
set_option maxHeartbeats 8000000 in
theorem rcommand_1 (hv : RowC w 3 1 v c.wants.length (numV c.wants)) (hc : c.ok) (x : Nat) (hx : x < 256) (h4 : x.testBit 4 = false) (h3 : x.testBit 3 = false) (h5 : x / 32 = 1) :
    Calls Try.prog 27 #[.agg (c.rcells v).toArray, .int .u8 (x : Nat)] w (Gave w (outC c true x)) := by
  obtain ⟨e4, e3, e1, e0, e7, -⟩ := bit_bt ⟨x, hx⟩
  have HOUT := Lib.hid (show outC c true x = { c with served := c.served &&& ((c.served + 255) % 256) } from by rw [outC_0 c x (e4.trans h4) (e3.trans h3), if_pos h5])
  have hz := fun w => zeroChip w
  have hz8 := fun w => zero8 w
  have HB := Lib.hid (fun n (hn : n < 8) w => bit_any x n hx hn w)
  have HO := Lib.hid ((Own36.beg w c hv).alloc (.cells (bits8 0).toArray 56))
  have HC := Lib.hid hc
  have H4 := Lib.hid h4
  have H3 := Lib.hid h3
  have p1 : (0 : Int) ≤ (x : Int) := by omega
  have p2 : (x : Int) ≤ 255 := by omega
  have p3 : ((x : Int) / 32 == 3) = false := by simpa using (by omega : ¬ (x : Int) / 32 = 3)
  have p4 : ((x : Int) / 32 == 1) = true := by simpa using (by omega : (x : Int) / 32 = 1)
  clear hv hc hx h4 h3 h5 e4 e3 e1 e0 e7
  go_enter Try.func27, Try.ntmps27
  go_wp2_with fail
  refine (HB.out 4 (by decide) _).mono ?_
  rintro e w1 ⟨rfl, rfl⟩
  rw [H4.out]
  go_upto_region 14 with (fail)
  have O1 := HO.out
  change Code.wp _ _ _ _ (((w.alloc (.cells (c.rcells v).toArray 58)).alloc (.cells zero36.toArray 58)).alloc (.cells (bits8 0).toArray 56))
  clear HO hz hz8
  generalize ((w.alloc (.cells (c.rcells v).toArray 58)).alloc (.cells zero36.toArray 58)).alloc (.cells (bits8 0).toArray 56) = W1 at *
  have H1 := Lib.hid O1
  clear O1
  obtain ⟨k32, k33, k34, -⟩ := H1.out.A.rest
  have hf := H1.out.A.free
  have hl := H1.out.A.lt
  go_wp2_with fail
  refine (HB.out 3 (by decide) _).mono ?_
  rintro e w1 ⟨rfl, rfl⟩
  rw [H3.out]
  have hs := HC.out.served
  have HS := Lib.hid hs
  clear hs
  go_wp2_with fail
  clear k32 k33 k34
  go_loopw [6] (fun i wc => ∃ k : Nat, k ≤ 8 ∧ i = .int .i64 k ∧ Low c.served k ∧ wc = W1) (fun i _ => 8 - (intOf i).toNat)
  case atStart => exact ⟨0, by omega, rfl, fun j hj => by omega, rfl⟩
  case round =>
    obtain ⟨k, hk, rfl, R, rfl⟩ := hrel
    have HR := Lib.hid R
    clear R
    by_cases h8 : k < 8
    · have q1 : (0 : Int) ≤ (k : Int) := by omega
      have q2 : (k : Int) < 8 := by omega
      have k8 : wr.cell? ⟨w.heap.size, 8 + k, none⟩ = some (.bool (bt c.served k)) := H1.out.A.bit 1 _ _ (by decide) h8 rfl
      cases hb : bt c.served k
      · rw [hb] at k8
        have HB1 := Lib.hid hb
        clear hb
        go_wp2_with fail
        go_roundw
        case rel => exact ⟨k + 1, by omega, by go_num, fun j hj => by
          rcases (show j < k ∨ j = k by omega) with h | rfl
          · exact HR.out j h
          · exact HB1.out, by first | rfl | trivial⟩
        case measure => (simp [intOf]) <;> omega
      · rw [hb] at k8
        have HLO := Lib.hid (low_one HS.out h8 HR.out hb)
        clear hb
        go_upto_region 26 with (fail)
        have HE1 := Lib.hid (H1.out.set (8 + k) (.bool false) (serve_off c v k h8))
        change Code.wp _ _ _ _ (wr.setCell ⟨w.heap.size, 8 + k, none⟩ (.bool false))
        clear hf hl H1 k8
        generalize wr.setCell ⟨w.heap.size, 8 + k, none⟩ (.bool false) = W2 at *
        have HGV : Own36 w W2 { c with served := c.served &&& (255 - 2 ^ k) } v c.wants → Gave w (outC c true x) (.returned (.agg (({ c with served := c.served &&& (255 - 2 ^ k) } : Chip).rcells v).toArray)) (W2.setRow (w.heap.size + 1) (({ c with served := c.served &&& (255 - 2 ^ k) } : Chip).rcells v).toArray) := fun h => by rw [HOUT.out, HLO.out]; exact h.gave rfl rfl
        have HR := Lib.hid HE1.out.R
        have HA := Lib.hid HE1.out.A.obj
        have HG := Lib.hid (HGV HE1.out)
        have HO1 := Lib.hid HE1.out.ones
        clear HGV
        go_wp2_with (first | (refine wpList_load_row rfl _ _ rfl w.heap.size rfl _ _ _ _ HA.out Try.underlying58 rfl info36 ?_) | (refine wpList_store_row rfl _ _ _ rfl (w.heap.size + 1) _ rfl rfl _ _ HR.out info36 rfl HO1.out ?_))
        exact bodyPost_ret (v := _) (results_cell_row rfl _ _ (w.heap.size + 1) _ _ _ _ rfl (heap_row HR.out) Try.underlying58 rfl info36) rfl HG.out
    · have q2 : (8 : Int) ≤ (k : Int) := by omega
      have e0 : c.served = 0 := low_all HS.out (by rw [← show k = 8 by omega]; exact HR.out)
      have HE0 := Lib.hid (show c.served &&& ((c.served + 255) % 256) = c.served by rw [e0]; rfl)
      clear e0
      go_upto_region 27 with (fail)
      have HE1 := H1
      have HGV : Own36 w wr c v c.wants → Gave w (outC c true x) (.returned (.agg (c.rcells v).toArray)) (wr.setRow (w.heap.size + 1) (c.rcells v).toArray) := fun h => by rw [HOUT.out, HE0.out]; exact h.gave rfl rfl
      clear H1 hf hl
      have HR := Lib.hid HE1.out.R
      have HA := Lib.hid HE1.out.A.obj
      have HG := Lib.hid (HGV HE1.out)
      have HO1 := Lib.hid HE1.out.ones
      clear HGV
      go_wp2_with (first | (refine wpList_load_row rfl _ _ rfl w.heap.size rfl _ _ _ _ HA.out Try.underlying58 rfl info36 ?_) | (refine wpList_store_row rfl _ _ _ rfl (w.heap.size + 1) _ rfl rfl _ _ HR.out info36 rfl HO1.out ?_))
      exact bodyPost_ret (v := _) (results_cell_row rfl _ _ (w.heap.size + 1) _ _ _ _ rfl (heap_row HR.out) Try.underlying58 rfl info36) rfl HG.out

theorem rcommand_any (hv : RowC w 3 1 v c.wants.length (numV c.wants)) (hc : c.ok) (x : Nat) (hx : x < 256) :
    Calls Try.prog 27 #[.agg (c.rcells v).toArray, .int .u8 (x : Nat)] w (Gave w (outC c true x)) := by
  cases h4 : x.testBit 4
  · cases h3 : x.testBit 3
    · by_cases h5 : x / 32 = 3
      · exact rcommand_3 hv hc x hx h4 h3 h5
      · by_cases h6 : x / 32 = 1
        · exact rcommand_1 hv hc x hx h4 h3 h6
        · exact rcommand_n hv hc x hx h4 h3 h5 h6
    · cases h1 : x.testBit 1
      · exact rcommand_8n hv hc x hx h4 h3 h1
      · exact rcommand_8y hv hc x hx h4 h3 h1
  · exact rcommand_16 hv x hx h4
end
end Go.Proofs.Ytfijohgbgadhiaa
