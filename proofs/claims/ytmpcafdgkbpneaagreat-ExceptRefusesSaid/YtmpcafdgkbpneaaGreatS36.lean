/- Steps of a proof: PicN, together. -/
import Derived.Test.YtmpcafdgkbpneaaGreatS35
/- pic: the document's pair: Line. -/
set_option maxHeartbeats 8000000
set_option maxRecDepth 20000
namespace Go.Proofs.YtmpcafdgkbpneaaGreat.Pic
open Go.RowKit
set_option linter.unusedVariables false
set_option linter.unusedSimpArgs false

theorem puts_first (A A' B : List Value) (h : A'.length = A.length) : puts (A ++ B).toArray 0 A' = (A' ++ B).toArray := by
 refine Array.ext_getElem? fun i => ?_
 rw [puts_at _ _ _ (by simp; omega), List.getElem?_toArray, List.getElem?_toArray]
 by_cases hi : i < A'.length
 ·rw [if_pos (by omega), List.getElem?_append_left hi, Nat.sub_zero]
 ·rw [if_neg (by omega), List.getElem?_append_right (by omega), List.getElem?_append_right (by omega), h]
theorem puts_second (A B B' : List Value) (h : B'.length = B.length) : puts (A ++ B).toArray A.length B' = (A ++ B').toArray := by
 refine Array.ext_getElem? fun i => ?_
 rw [puts_at _ _ _ (by simp; omega), List.getElem?_toArray, List.getElem?_toArray]
 by_cases hi : i < A.length
 ·rw [if_neg (by omega), List.getElem?_append_left hi, List.getElem?_append_left hi]
 ·rw [List.getElem?_append_right (by omega), List.getElem?_append_right (by omega)]
  by_cases hj : i < A.length + B'.length
  ·rw [if_pos (by omega)]
  ·rw [if_neg (by omega), List.getElem?_eq_none (by omega), List.getElem?_eq_none (by omega)]
section
variable {w : World} {b g : Nat} {v u : Value} {c d : Chip}
theorem ChipAt.apart {g : Nat} (H : ChipAt w g c v) {n : Nat} {x : Value} {xs : List Value} (h : RowC w 3 1 x n xs) {k : Nat} (hk : x.ownBlock = some k) : k ≠ g := by
 obtain ⟨cur, hc⟩ := h.block hk
 rintro rfl
 rw [H.obj] at hc
 injection hc with hc; injection hc with _ hc _; exact absurd hc (by decide)
theorem RP.beside {w1 : World} {g : Nat} {c1 : Chip} {v1 : Value} (H : RP w b v u c d) (A : ChipAt w g c1 v1) (K : Keeps (· = g) w w1) (hg : b ≠ g) : RP w1 b v u c d :=
 ⟨(K.block b H.lt hg).trans H.obj, H.cw.of_heap fun k hk => K.block k (H.cw.lt hk) (A.apart H.cw hk), H.dw.of_heap fun k hk => K.block k (H.dw.lt hk) (A.apart H.dw hk)⟩
theorem keeps_setCells (w : World) (b k : Nat) (L : List Value) : Keeps (· = b) w (w.setCells b k L) := setCells_keeps b L k w
theorem RP.lay0 {w : World} {v' : Value} {c' : Chip} (H : RP w b v u c d) (hv : RowC w 3 1 v' c'.wants.length (numV c'.wants)) : RP (w.setCells b 0 (c'.rcells v')) b v' u c' d := by
 have hne : ∀ x : Value, ∀ k, (∃ cur, w.heap[k]? = some (.cells cur 3 (0, 0))) → k ≠ b := by
  rintro x k ⟨cur, hk⟩ rfl
  rw [H.obj] at hk
  injection hk with hk; injection hk with _ hk _; exact absurd hk (by decide)
 have K := keeps_setCells w b 0 (c'.rcells v')
 refine ⟨?_, hv.of_heap fun k hk => K.block k (hv.lt hk) (hne v' k (hv.block hk)), H.dw.of_heap fun k hk => K.block k (H.dw.lt hk) (hne u k (H.dw.block hk))⟩
 rw [setCells_heap b _ _ _ _ H.obj, puts_first (c.rcells v) (c'.rcells v') (d.rcells u) rfl]
theorem RP.lay1 {w : World} {u' : Value} {d' : Chip} (H : RP w b v u c d) (hu : RowC w 3 1 u' d'.wants.length (numV d'.wants)) : RP (w.setCells b 36 (d'.rcells u')) b v u' c d' := by
 have hne : ∀ x : Value, ∀ k, (∃ cur, w.heap[k]? = some (.cells cur 3 (0, 0))) → k ≠ b := by
  rintro x k ⟨cur, hk⟩ rfl
  rw [H.obj] at hk
  injection hk with hk; injection hk with _ hk _; exact absurd hk (by decide)
 have K := keeps_setCells w b 36 (d'.rcells u')
 refine ⟨?_, H.cw.of_heap fun k hk => K.block k (H.cw.lt hk) (hne v k (H.cw.block hk)), hu.of_heap fun k hk => K.block k (hu.lt hk) (hne u' k (hu.block hk))⟩
 rw [setCells_heap b _ _ _ _ H.obj, show 36 = (c.rcells v).length from rfl, puts_second (c.rcells v) (d.rcells u) (d'.rcells u') rfl]
theorem RP.drew (H : RP w b v u c d) : RP w.drew b v u c d := ⟨H.obj, H.cw.of_heap fun _ _ => rfl, H.dw.of_heap fun _ _ => rfl⟩
theorem RP.fin0 {c' : Chip} (H : RP w b v u c d) (e : c'.wants = c.wants := by rfl) : RP (w.drew.setCells b 0 (c'.rcells v).toArray.toList) b v u c' d := H.drew.lay0 (by rw [e]; exact H.drew.cw)
theorem RP.fin1 {d' : Chip} (H : RP w b v u c d) (e : d'.wants = d.wants := by rfl) : RP (w.drew.setCells b 36 (d'.rcells u).toArray.toList) b v u c d' := H.drew.lay1 (by rw [e]; exact H.drew.dw)
theorem rc_at (c : Chip) (v : Value) (f i : Nat) (hf : f < 4) (hi : i < 8) : (c.rcells v)[8 * f + i]? = some (.bool (bt (c.part f) i)) := by
 rcases (show f = 0 ∨ f = 1 ∨ f = 2 ∨ f = 3 by omega) with rfl | rfl | rfl | rfl <;>
  rcases (show i = 0 ∨ i = 1 ∨ i = 2 ∨ i = 3 ∨ i = 4 ∨ i = 5 ∨ i = 6 ∨ i = 7 by omega) with rfl | rfl | rfl | rfl | rfl | rfl | rfl | rfl <;> rfl
theorem rc_set (c c' : Chip) (v : Value) (f i k : Nat) (hf : f < 4) (hi : i < 8) (hk : k = 8 * f + i) (x : Bool) (hp : ∀ g j, g < 4 → j < 8 → bt (c'.part g) j = if g = f ∧ j = i then x else bt (c.part g) j) (hr : c'.base = c.base ∧ c'.told = c.told ∧ c'.ends = c.ends) :
    (c.rcells v).set k (.bool x) = c'.rcells v := by
 refine List.ext_getElem? fun k' => ?_
 rw [List.getElem?_set, hk]
 by_cases h36 : k' < 36
 ·by_cases h32 : k' < 32
  ·have e : k' = 8 * (k' / 8) + k' % 8 := by omega
   rw [e, rc_at _ _ _ _ (by omega) (by omega), rc_at _ _ _ _ (by omega) (by omega), hp _ _ (by omega) (by omega)]
   by_cases h : k' / 8 = f ∧ k' % 8 = i
   ·rw [if_pos (by omega), if_pos h, if_pos (by show _ < 36; omega)]
   ·rw [if_neg (by omega), if_neg h]
  ·rw [if_neg (by omega)]
   obtain ⟨h1, h2, h3⟩ := hr
   rcases (show k' = 32 ∨ k' = 33 ∨ k' = 34 ∨ k' = 35 by omega) with rfl | rfl | rfl | rfl
   ·show some _ = some _; rw [h1]
   ·show some _ = some _; rw [h2]
   ·show some _ = some _; rw [h3]
   ·rfl
 ·rw [if_neg (by omega), List.getElem?_eq_none (by show 36 ≤ _; omega), List.getElem?_eq_none (by show 36 ≤ _; omega)]
theorem bt_or (x y i : Nat) : bt (x ||| y) i = (bt x i || bt y i) := Nat.testBit_or ..
theorem bt_and (x y i : Nat) : bt (x &&& y) i = (bt x i && bt y i) := Nat.testBit_and ..
theorem bt_pow (j i : Nat) (hj : j < 8) (hi : i < 8) : bt (2 ^ j) i = decide (j = i) := bit_pow j i hj hi
theorem bt_npow (j i : Nat) (hj : j < 8) (hi : i < 8) : bt (255 - 2 ^ j) i = !decide (j = i) := by
 have : 2 ^ j < 2 ^ 8 := Nat.pow_lt_pow_right (by decide) hj
 unfold bt; rw [bit_not _ _ (by omega) hi, bit_pow j i hj hi]
theorem bt_not (m i : Nat) (hm : m < 256) (hi : i < 8) : bt (255 - m) i = !bt m i := bit_not m i hm hi
theorem ChipAt.set {g : Nat} (h : ChipAt w g c v) {c' : Chip} (k : Nat) (x : Value) (e : (c.rcells v).set k x = c'.rcells v) : ChipAt (w.setCell ⟨g, k, none⟩ x) g c' v := by
 refine ⟨?_⟩
 rw [heap_set_map, h.obj, ← e]
 show some (Obj.cells ((c.rcells v).toArray.setIfInBounds k x) _ _) = _
 rw [List.setIfInBounds_toArray]
theorem line_down (hc : c.ok) (h : ChipAt w g c v) (j : Nat) (hj : j < 8) : ChipAt ((w.setCell ⟨g, j, none⟩ (.bool false)).setCell ⟨g, 24 + j, none⟩ (.bool false)) g (lineC c j false) v := by
 refine (h.set (c' := { c with asks := c.asks &&& (255 - 2 ^ j) }) j _ (rc_set _ _ v 0 j j (by decide) hj (by omega) false ?_ ⟨rfl, rfl, rfl⟩)).set _ _ (rc_set _ _ v 3 j _ (by decide) hj (by omega) false ?_ ⟨rfl, rfl, rfl⟩)
 ·intro g i hg hi
  rcases (show g = 0 ∨ g = 1 ∨ g = 2 ∨ g = 3 by omega) with rfl | rfl | rfl | rfl
  ·show bt (c.asks &&& (255 - 2 ^ j)) i = _
   rw [bt_and, bt_npow j i hj hi]
   by_cases e : i = j
   ·rw [if_pos ⟨rfl, e⟩, decide_eq_true e.symm]; simp
   ·rw [if_neg (fun h => e h.2), decide_eq_false (fun h => e h.symm)]; simp; rfl
  ·rw [if_neg (by omega)]; rfl
  ·rw [if_neg (by omega)]; rfl
  ·rw [if_neg (by omega)]; rfl
 ·intro g i hg hi
  rcases (show g = 0 ∨ g = 1 ∨ g = 2 ∨ g = 3 by omega) with rfl | rfl | rfl | rfl
  ·rw [if_neg (by omega)]; rfl
  ·rw [if_neg (by omega)]; rfl
  ·rw [if_neg (by omega)]; rfl
  ·show bt (c.up &&& (255 - 2 ^ j)) i = _
   rw [bt_and, bt_npow j i hj hi]
   by_cases e : i = j
   ·rw [if_pos ⟨rfl, e⟩, decide_eq_true e.symm]; simp
   ·rw [if_neg (fun h => e h.2), decide_eq_false (fun h => e h.symm)]; simp; rfl
theorem part_up (hc : c.ok) (j : Nat) (hj : j < 8) (c1 : Chip) (ha : ∀ i, i < 8 → bt c1.asks i = bt (askUp c.asks c.up (2 ^ j)) i) (hs : c1.served = c.served) (hm : c1.masked = c.masked) (hu : c1.up = c.up) :
    ∀ g i, g < 4 → i < 8 → bt ((lineC c j true).part g) i = if g = 3 ∧ i = j then true else bt (c1.part g) i := by
 intro g i hg hi
 rcases (show g = 0 ∨ g = 1 ∨ g = 2 ∨ g = 3 by omega) with rfl | rfl | rfl | rfl
 ·rw [if_neg (by omega)]; exact (ha i hi).symm
 ·rw [if_neg (by omega)]; show bt c.served i = bt c1.served i; rw [hs]
 ·rw [if_neg (by omega)]; show bt c.masked i = bt c1.masked i; rw [hm]
 ·show bt (c.up ||| 2 ^ j) i = if _ then _ else bt c1.up i
  rw [bt_or, bt_pow j i hj hi, hu]
  by_cases e : i = j
  ·rw [if_pos ⟨rfl, e⟩, decide_eq_true e.symm]; simp
  ·rw [if_neg (fun h => e h.2), decide_eq_false (fun h => e h.symm)]; simp
theorem line_up0 (hc : c.ok) (h : ChipAt w g c v) (j : Nat) (hj : j < 8) (hu : bt c.up j = false) : ChipAt ((w.setCell ⟨g, j, none⟩ (.bool true)).setCell ⟨g, 24 + j, none⟩ (.bool true)) g (lineC c j true) v := by
 refine (h.set (c' := { c with asks := askUp c.asks c.up (2 ^ j) }) j _ (rc_set _ _ v 0 j j (by decide) hj (by omega) true ?_ ⟨rfl, rfl, rfl⟩)).set _ _ (rc_set _ _ v 3 j _ (by decide) hj (by omega) true (part_up hc j hj _ (fun i hi => rfl) rfl rfl rfl) ⟨rfl, rfl, rfl⟩)
 intro g i hg hi
 rcases (show g = 0 ∨ g = 1 ∨ g = 2 ∨ g = 3 by omega) with rfl | rfl | rfl | rfl
 ·show bt (askUp c.asks c.up (2 ^ j)) i = _
  unfold askUp
  rw [bt_or, bt_and, bt_pow j i hj hi, bt_not _ _ hc.up hi]
  by_cases e : i = j
  ·rw [if_pos ⟨rfl, e⟩, decide_eq_true e.symm, e, hu]; simp
  ·rw [if_neg (fun h => e h.2), decide_eq_false (fun h => e h.symm)]; simp; rfl
 ·rw [if_neg (by omega)]; rfl
 ·rw [if_neg (by omega)]; rfl
 ·rw [if_neg (by omega)]; rfl
theorem line_up1 (hc : c.ok) (h : ChipAt w g c v) (j : Nat) (hj : j < 8) (hu : bt c.up j = true) : ChipAt (w.setCell ⟨g, 24 + j, none⟩ (.bool true)) g (lineC c j true) v := by
 refine h.set _ _ (rc_set _ _ v 3 j _ (by decide) hj (by omega) true (part_up hc j hj _ (fun i hi => ?_) rfl rfl rfl) ⟨rfl, rfl, rfl⟩)
 unfold askUp
 rw [bt_or, bt_and, bt_pow j i hj hi, bt_not _ _ hc.up hi]
 by_cases e : i = j
 ·rw [e, hu]; simp
 ·rw [decide_eq_false (fun h => e h.symm)]; simp
theorem rline_0 (H : RP w b v u c d) (hc : c.ok) (hd : d.ok) (up : Bool) :
    Calls Tryz.prog 151 #[.pointer (some ⟨b, 0, none⟩), .int .i64 0, .bool up] w fun e w' => e = .returned (.int .i64 0) ∧ RP w' b v u (lineC c 0 up) d ∧ Keeps (· = b) w w' := by
 have hz := fun w => zeroChip w
 have HR := Lib.hid H.r0
 have HO := Lib.hid (rc_one c (RowC.one H.cw))
 have HN := Lib.hid (heap_new w (.cells zero36.toArray 255))
 have HC := Lib.hid (And.intro hc hd)
 have HX := Lib.hid (chip_copied (c := c) (v := v) w)
 have HH := Lib.hid H
 have hbl := H.lt
 clear H hc hd
 go_enter Tryz.func151, Tryz.ntmps151
 go_upto_region 6 with (first | (refine wpList_load_mid rfl _ _ rfl b 0 rfl (c.rcells v) _ HR.out Tryz.underlying255 rfl info36 ?_) | (refine wpList_store_row rfl _ _ _ rfl w.heap.size (c.rcells v).toArray rfl rfl _ _ HN.out info36 rfl HO.out ?_))
 obtain ⟨A, B⟩ := HX.out
 change Code.wp _ _ _ _ ((w.alloc (.cells zero36.toArray 255)).setRow w.heap.size (c.rcells v).toArray)
 have HP := Lib.hid (HH.out.below B)
 clear HX HN HR hz
 generalize (w.alloc (.cells zero36.toArray 255)).setRow w.heap.size (c.rcells v).toArray = W at *
 have ka : W.cell? ⟨w.heap.size, 0, none⟩ = some (.bool (bt c.asks 0)) := A.bit 0 0 0 (by decide) (by decide) rfl
 have ku : W.cell? ⟨w.heap.size, 24, none⟩ = some (.bool (bt c.up 0)) := A.bit 3 0 24 (by decide) (by decide) rfl
 have hf1 := A.free 0
 have hf2 := A.free 24
 have hql := A.lt
 have hu58 := Tryz.underlying255
 have hbW : b < W.heap.size := HP.out.lt
 have HA := Lib.hid A
 have HB := Lib.hid B
 clear A B HO
 have HV := Lib.hid (RowC.one HH.out.cw)
 cases up
 case' false =>
  go_upto_region 11 with (fail)
  have A2 := line_down HC.out.1 HA.out 0 (by decide)
  have K2 : Keeps (· = w.heap.size) W ((W.setCell ⟨w.heap.size, 0, none⟩ (.bool false)).setCell ⟨w.heap.size, 24 + 0, none⟩ (.bool false)) := ((Keeps.refl _ _).setOne _ _).setOne _ _
  change Code.wp _ _ _ _ ((W.setCell ⟨w.heap.size, 0, none⟩ (.bool false)).setCell ⟨w.heap.size, 24 + 0, none⟩ (.bool false))
  obtain ⟨X, hX⟩ : ∃ X, X = lineC c 0 false := ⟨_, rfl⟩
 case' true =>
  cases hbu : bt c.up 0
  case' false =>
   rw [hbu] at ku
   have HU := Lib.hid hbu
   clear hbu
   go_upto_region 11 with (fail)
   have A2 := line_up0 HC.out.1 HA.out 0 (by decide) HU.out
   have K2 : Keeps (· = w.heap.size) W ((W.setCell ⟨w.heap.size, 0, none⟩ (.bool true)).setCell ⟨w.heap.size, 24 + 0, none⟩ (.bool true)) := ((Keeps.refl _ _).setOne _ _).setOne _ _
   change Code.wp _ _ _ _ ((W.setCell ⟨w.heap.size, 0, none⟩ (.bool true)).setCell ⟨w.heap.size, 24 + 0, none⟩ (.bool true))
  case' true =>
   rw [hbu] at ku
   have HU := Lib.hid hbu
   clear hbu
   go_upto_region 11 with (fail)
   have A2 := line_up1 HC.out.1 HA.out 0 (by decide) HU.out
   have K2 : Keeps (· = w.heap.size) W (W.setCell ⟨w.heap.size, 24 + 0, none⟩ (.bool true)) := (Keeps.refl _ _).setOne _ _
   change Code.wp _ _ _ _ (W.setCell ⟨w.heap.size, 24 + 0, none⟩ (.bool true))
  all_goals obtain ⟨X, hX⟩ : ∃ X, X = lineC c 0 true := ⟨_, rfl⟩
 all_goals
  rw [← hX] at A2
  have HE := Lib.hid hX
  clear hX
  have P2 := HP.out.beside HA.out K2 (Nat.ne_of_lt hbl)
  have B2 := Keeps.toBelow HB.out K2 HB.out.size (fun k hk => by omega)
  clear ka ku hf1 hf2 hql hbW
  generalize World.setCell _ _ _ = W2 at *
  have HP2 := Lib.hid P2
  have HB2 := Lib.hid B2
  have HA2 := Lib.hid A2
  clear A2 K2 P2 B2
  refine wp_region_held_drew (S := fun w' => w'.rangeAt w.heap.size 0 (X.rcells v) ∧ w'.there b 0 36) (by kernel_rfl) ⟨HA2.out.row, HP2.out.there 0 36 (by decide)⟩ (fun hHeld => ?_)
  refine wpAnyH_take (i := 0) (oi := _) (v := ?_) rfl (by kernel_rfl) (by kernel_rfl) (by kernel_rfl) (fun _ _ _ h => h) (Or.inl ⟨by rfl, ?_⟩) (by assumption) ?_
  rotate_left
  ·(intro w hSw; (try dsimp only at hSw); go_simp <;> rfl)
  refine wpAnyH_take (i := 1) (oi := _) (v := ?_) rfl (by kernel_rfl) (by kernel_rfl) (by kernel_rfl) (fun _ _ _ h => h) (Or.inl ⟨by rfl, ?_⟩) (by assumption) ?_
  rotate_left
  ·(intro w hSw; (try dsimp only at hSw); go_simp <;> rfl)
  refine wpAnyH_take (i := 2) (oi := _) (v := ?_) rfl (by kernel_rfl) (by kernel_rfl) (by kernel_rfl) (fun _ _ _ h => h) (Or.inl ⟨by rfl, ?_⟩) (by assumption) ?_
  rotate_left
  ·(intro w hSw; (try dsimp only at hSw); go_simp <;> rfl)
  simp only [Act.put, List.getElem_toArray, List.getElem_cons_zero, List.getElem_cons_succ, List.setIfInBounds_toArray, List.set_cons_zero, List.set_cons_succ]
  refine wpAnyH_take (i := 3) (oi := _) (v := _) rfl (by kernel_rfl) (by kernel_rfl) (by kernel_rfl) (fun _ _ _ h => h) (yieldsIf_load_mid (by rfl) _ _ rfl _ _ rfl (X.rcells v) _ (fun _ h => h.1) Tryz.underlying255 rfl info36) (by assumption) ?_
  simp only [Act.put, List.getElem_toArray, List.getElem_cons_zero, List.getElem_cons_succ, List.setIfInBounds_toArray, List.set_cons_zero, List.set_cons_succ]
  refine wpAnyH_take (i := 4) (oi := _) (v := ?_) rfl (by kernel_rfl) (by kernel_rfl) (by kernel_rfl) (fun _ _ _ h => h) (Or.inl ⟨by rfl, ?_⟩) (by assumption) ?_
  rotate_left
  ·(intro w hSw; (try dsimp only at hSw); go_simp <;> rfl)
  refine wpAnyH_take (i := 5) (oi := _) (v := ?_) rfl (by kernel_rfl) (by kernel_rfl) (by kernel_rfl) (fun _ _ _ h => h) (Or.inl ⟨by rfl, ?_⟩) (by assumption) ?_
  rotate_left
  ·(intro w hSw; (try dsimp only at hSw); go_simp <;> rfl)
  refine wpAnyH_take (i := 6) (oi := _) (v := ?_) rfl (by kernel_rfl) (by kernel_rfl) (by kernel_rfl) (fun _ _ _ h => h) (Or.inl ⟨by rfl, ?_⟩) (by assumption) ?_
  rotate_left
  ·(intro w hSw; (try dsimp only at hSw); go_simp <;> rfl)
  simp only [Act.put, List.getElem_toArray, List.getElem_cons_zero, List.getElem_cons_succ, List.setIfInBounds_toArray, List.set_cons_zero, List.set_cons_succ]
  refine wpAnyH_ready (rs := [7]) (by kernel_rfl) (by decide) (AllReadyH.cons rfl (fun K' hK => ?_) AllReadyH.nil)
  rw [if_pos (by rfl)]
  refine wp_store_mid _ _ _ rfl b 0 (X.rcells v).toArray rfl rfl hHeld.2 info36 (rc_one X HV.out) ?_
  refine hK.out _ _ ⟨World.rangeAt_setCells_apart hHeld.1 _ _ _ (Or.inl (Nat.ne_of_gt hbl)), World.there_setCells hHeld.2 _ _ _⟩ (fun h2 => ?_)
  refine wpAnyH_done (by kernel_rfl) ?_ _
  simp only [Act.put, List.getElem_toArray, List.getElem_cons_zero, List.getElem_cons_succ, List.setIfInBounds_toArray, List.set_cons_zero, List.set_cons_succ]
  go_wp2_with fail
  go_ret
  rw [← HE.out]
  exact ⟨rfl, HP2.out.fin0 (by rw [HE.out]; rfl), (Keeps.ofBelow HB2.out).drew.andThen (keeps_setCells _ _ _ _) (fun _ _ h => h)⟩
theorem rline_4 (H : RP w b v u c d) (hc : c.ok) (hd : d.ok) (up : Bool) :
    Calls Tryz.prog 151 #[.pointer (some ⟨b, 0, none⟩), .int .i64 4, .bool up] w fun e w' => e = .returned (.int .i64 0) ∧ RP w' b v u (lineC c 4 up) d ∧ Keeps (· = b) w w' := by
 have hz := fun w => zeroChip w
 have HR := Lib.hid H.r0
 have HO := Lib.hid (rc_one c (RowC.one H.cw))
 have HN := Lib.hid (heap_new w (.cells zero36.toArray 255))
 have HC := Lib.hid (And.intro hc hd)
 have HX := Lib.hid (chip_copied (c := c) (v := v) w)
 have HH := Lib.hid H
 have hbl := H.lt
 clear H hc hd
 go_enter Tryz.func151, Tryz.ntmps151
 go_upto_region 6 with (first | (refine wpList_load_mid rfl _ _ rfl b 0 rfl (c.rcells v) _ HR.out Tryz.underlying255 rfl info36 ?_) | (refine wpList_store_row rfl _ _ _ rfl w.heap.size (c.rcells v).toArray rfl rfl _ _ HN.out info36 rfl HO.out ?_))
 obtain ⟨A, B⟩ := HX.out
 change Code.wp _ _ _ _ ((w.alloc (.cells zero36.toArray 255)).setRow w.heap.size (c.rcells v).toArray)
 have HP := Lib.hid (HH.out.below B)
 clear HX HN HR hz
 generalize (w.alloc (.cells zero36.toArray 255)).setRow w.heap.size (c.rcells v).toArray = W at *
 have ka : W.cell? ⟨w.heap.size, 4, none⟩ = some (.bool (bt c.asks 4)) := A.bit 0 4 4 (by decide) (by decide) rfl
 have ku : W.cell? ⟨w.heap.size, 28, none⟩ = some (.bool (bt c.up 4)) := A.bit 3 4 28 (by decide) (by decide) rfl
 have hf1 := A.free 4
 have hf2 := A.free 28
 have hql := A.lt
 have hu58 := Tryz.underlying255
 have hbW : b < W.heap.size := HP.out.lt
 have HA := Lib.hid A
 have HB := Lib.hid B
 clear A B HO
 have HV := Lib.hid (RowC.one HH.out.cw)
 cases up
 case' false =>
  go_upto_region 11 with (fail)
  have A2 := line_down HC.out.1 HA.out 4 (by decide)
  have K2 : Keeps (· = w.heap.size) W ((W.setCell ⟨w.heap.size, 4, none⟩ (.bool false)).setCell ⟨w.heap.size, 24 + 4, none⟩ (.bool false)) := ((Keeps.refl _ _).setOne _ _).setOne _ _
  change Code.wp _ _ _ _ ((W.setCell ⟨w.heap.size, 4, none⟩ (.bool false)).setCell ⟨w.heap.size, 24 + 4, none⟩ (.bool false))
  obtain ⟨X, hX⟩ : ∃ X, X = lineC c 4 false := ⟨_, rfl⟩
 case' true =>
  cases hbu : bt c.up 4
  case' false =>
   rw [hbu] at ku
   have HU := Lib.hid hbu
   clear hbu
   go_upto_region 11 with (fail)
   have A2 := line_up0 HC.out.1 HA.out 4 (by decide) HU.out
   have K2 : Keeps (· = w.heap.size) W ((W.setCell ⟨w.heap.size, 4, none⟩ (.bool true)).setCell ⟨w.heap.size, 24 + 4, none⟩ (.bool true)) := ((Keeps.refl _ _).setOne _ _).setOne _ _
   change Code.wp _ _ _ _ ((W.setCell ⟨w.heap.size, 4, none⟩ (.bool true)).setCell ⟨w.heap.size, 24 + 4, none⟩ (.bool true))
  case' true =>
   rw [hbu] at ku
   have HU := Lib.hid hbu
   clear hbu
   go_upto_region 11 with (fail)
   have A2 := line_up1 HC.out.1 HA.out 4 (by decide) HU.out
   have K2 : Keeps (· = w.heap.size) W (W.setCell ⟨w.heap.size, 24 + 4, none⟩ (.bool true)) := (Keeps.refl _ _).setOne _ _
   change Code.wp _ _ _ _ (W.setCell ⟨w.heap.size, 24 + 4, none⟩ (.bool true))
  all_goals obtain ⟨X, hX⟩ : ∃ X, X = lineC c 4 true := ⟨_, rfl⟩
 all_goals
  rw [← hX] at A2
  have HE := Lib.hid hX
  clear hX
  have P2 := HP.out.beside HA.out K2 (Nat.ne_of_lt hbl)
  have B2 := Keeps.toBelow HB.out K2 HB.out.size (fun k hk => by omega)
  clear ka ku hf1 hf2 hql hbW
  generalize World.setCell _ _ _ = W2 at *
  have HP2 := Lib.hid P2
  have HB2 := Lib.hid B2
  have HA2 := Lib.hid A2
  clear A2 K2 P2 B2
  refine wp_region_held_drew (S := fun w' => w'.rangeAt w.heap.size 0 (X.rcells v) ∧ w'.there b 0 36) (by kernel_rfl) ⟨HA2.out.row, HP2.out.there 0 36 (by decide)⟩ (fun hHeld => ?_)
  refine wpAnyH_take (i := 0) (oi := _) (v := ?_) rfl (by kernel_rfl) (by kernel_rfl) (by kernel_rfl) (fun _ _ _ h => h) (Or.inl ⟨by rfl, ?_⟩) (by assumption) ?_
  rotate_left
  ·(intro w hSw; (try dsimp only at hSw); go_simp <;> rfl)
  refine wpAnyH_take (i := 1) (oi := _) (v := ?_) rfl (by kernel_rfl) (by kernel_rfl) (by kernel_rfl) (fun _ _ _ h => h) (Or.inl ⟨by rfl, ?_⟩) (by assumption) ?_
  rotate_left
  ·(intro w hSw; (try dsimp only at hSw); go_simp <;> rfl)
  refine wpAnyH_take (i := 2) (oi := _) (v := ?_) rfl (by kernel_rfl) (by kernel_rfl) (by kernel_rfl) (fun _ _ _ h => h) (Or.inl ⟨by rfl, ?_⟩) (by assumption) ?_
  rotate_left
  ·(intro w hSw; (try dsimp only at hSw); go_simp <;> rfl)
  simp only [Act.put, List.getElem_toArray, List.getElem_cons_zero, List.getElem_cons_succ, List.setIfInBounds_toArray, List.set_cons_zero, List.set_cons_succ]
  refine wpAnyH_take (i := 3) (oi := _) (v := _) rfl (by kernel_rfl) (by kernel_rfl) (by kernel_rfl) (fun _ _ _ h => h) (yieldsIf_load_mid (by rfl) _ _ rfl _ _ rfl (X.rcells v) _ (fun _ h => h.1) Tryz.underlying255 rfl info36) (by assumption) ?_
  simp only [Act.put, List.getElem_toArray, List.getElem_cons_zero, List.getElem_cons_succ, List.setIfInBounds_toArray, List.set_cons_zero, List.set_cons_succ]
  refine wpAnyH_take (i := 4) (oi := _) (v := ?_) rfl (by kernel_rfl) (by kernel_rfl) (by kernel_rfl) (fun _ _ _ h => h) (Or.inl ⟨by rfl, ?_⟩) (by assumption) ?_
  rotate_left
  ·(intro w hSw; (try dsimp only at hSw); go_simp <;> rfl)
  refine wpAnyH_take (i := 5) (oi := _) (v := ?_) rfl (by kernel_rfl) (by kernel_rfl) (by kernel_rfl) (fun _ _ _ h => h) (Or.inl ⟨by rfl, ?_⟩) (by assumption) ?_
  rotate_left
  ·(intro w hSw; (try dsimp only at hSw); go_simp <;> rfl)
  refine wpAnyH_take (i := 6) (oi := _) (v := ?_) rfl (by kernel_rfl) (by kernel_rfl) (by kernel_rfl) (fun _ _ _ h => h) (Or.inl ⟨by rfl, ?_⟩) (by assumption) ?_
  rotate_left
  ·(intro w hSw; (try dsimp only at hSw); go_simp <;> rfl)
  simp only [Act.put, List.getElem_toArray, List.getElem_cons_zero, List.getElem_cons_succ, List.setIfInBounds_toArray, List.set_cons_zero, List.set_cons_succ]
  refine wpAnyH_ready (rs := [7]) (by kernel_rfl) (by decide) (AllReadyH.cons rfl (fun K' hK => ?_) AllReadyH.nil)
  rw [if_pos (by rfl)]
  refine wp_store_mid _ _ _ rfl b 0 (X.rcells v).toArray rfl rfl hHeld.2 info36 (rc_one X HV.out) ?_
  refine hK.out _ _ ⟨World.rangeAt_setCells_apart hHeld.1 _ _ _ (Or.inl (Nat.ne_of_gt hbl)), World.there_setCells hHeld.2 _ _ _⟩ (fun h2 => ?_)
  refine wpAnyH_done (by kernel_rfl) ?_ _
  simp only [Act.put, List.getElem_toArray, List.getElem_cons_zero, List.getElem_cons_succ, List.setIfInBounds_toArray, List.set_cons_zero, List.set_cons_succ]
  go_wp2_with fail
  go_ret
  rw [← HE.out]
  exact ⟨rfl, HP2.out.fin0 (by rw [HE.out]; rfl), (Keeps.ofBelow HB2.out).drew.andThen (keeps_setCells _ _ _ _) (fun _ _ h => h)⟩
theorem rline_6 (H : RP w b v u c d) (hc : c.ok) (hd : d.ok) (up : Bool) :
    Calls Tryz.prog 151 #[.pointer (some ⟨b, 0, none⟩), .int .i64 6, .bool up] w fun e w' => e = .returned (.int .i64 0) ∧ RP w' b v u (lineC c 6 up) d ∧ Keeps (· = b) w w' := by
 have hz := fun w => zeroChip w
 have HR := Lib.hid H.r0
 have HO := Lib.hid (rc_one c (RowC.one H.cw))
 have HN := Lib.hid (heap_new w (.cells zero36.toArray 255))
 have HC := Lib.hid (And.intro hc hd)
 have HX := Lib.hid (chip_copied (c := c) (v := v) w)
 have HH := Lib.hid H
 have hbl := H.lt
 clear H hc hd
 go_enter Tryz.func151, Tryz.ntmps151
 go_upto_region 6 with (first | (refine wpList_load_mid rfl _ _ rfl b 0 rfl (c.rcells v) _ HR.out Tryz.underlying255 rfl info36 ?_) | (refine wpList_store_row rfl _ _ _ rfl w.heap.size (c.rcells v).toArray rfl rfl _ _ HN.out info36 rfl HO.out ?_))
 obtain ⟨A, B⟩ := HX.out
 change Code.wp _ _ _ _ ((w.alloc (.cells zero36.toArray 255)).setRow w.heap.size (c.rcells v).toArray)
 have HP := Lib.hid (HH.out.below B)
 clear HX HN HR hz
 generalize (w.alloc (.cells zero36.toArray 255)).setRow w.heap.size (c.rcells v).toArray = W at *
 have ka : W.cell? ⟨w.heap.size, 6, none⟩ = some (.bool (bt c.asks 6)) := A.bit 0 6 6 (by decide) (by decide) rfl
 have ku : W.cell? ⟨w.heap.size, 30, none⟩ = some (.bool (bt c.up 6)) := A.bit 3 6 30 (by decide) (by decide) rfl
 have hf1 := A.free 6
 have hf2 := A.free 30
 have hql := A.lt
 have hu58 := Tryz.underlying255
 have hbW : b < W.heap.size := HP.out.lt
 have HA := Lib.hid A
 have HB := Lib.hid B
 clear A B HO
 have HV := Lib.hid (RowC.one HH.out.cw)
 cases up
 case' false =>
  go_upto_region 11 with (fail)
  have A2 := line_down HC.out.1 HA.out 6 (by decide)
  have K2 : Keeps (· = w.heap.size) W ((W.setCell ⟨w.heap.size, 6, none⟩ (.bool false)).setCell ⟨w.heap.size, 24 + 6, none⟩ (.bool false)) := ((Keeps.refl _ _).setOne _ _).setOne _ _
  change Code.wp _ _ _ _ ((W.setCell ⟨w.heap.size, 6, none⟩ (.bool false)).setCell ⟨w.heap.size, 24 + 6, none⟩ (.bool false))
  obtain ⟨X, hX⟩ : ∃ X, X = lineC c 6 false := ⟨_, rfl⟩
 case' true =>
  cases hbu : bt c.up 6
  case' false =>
   rw [hbu] at ku
   have HU := Lib.hid hbu
   clear hbu
   go_upto_region 11 with (fail)
   have A2 := line_up0 HC.out.1 HA.out 6 (by decide) HU.out
   have K2 : Keeps (· = w.heap.size) W ((W.setCell ⟨w.heap.size, 6, none⟩ (.bool true)).setCell ⟨w.heap.size, 24 + 6, none⟩ (.bool true)) := ((Keeps.refl _ _).setOne _ _).setOne _ _
   change Code.wp _ _ _ _ ((W.setCell ⟨w.heap.size, 6, none⟩ (.bool true)).setCell ⟨w.heap.size, 24 + 6, none⟩ (.bool true))
  case' true =>
   rw [hbu] at ku
   have HU := Lib.hid hbu
   clear hbu
   go_upto_region 11 with (fail)
   have A2 := line_up1 HC.out.1 HA.out 6 (by decide) HU.out
   have K2 : Keeps (· = w.heap.size) W (W.setCell ⟨w.heap.size, 24 + 6, none⟩ (.bool true)) := (Keeps.refl _ _).setOne _ _
   change Code.wp _ _ _ _ (W.setCell ⟨w.heap.size, 24 + 6, none⟩ (.bool true))
  all_goals obtain ⟨X, hX⟩ : ∃ X, X = lineC c 6 true := ⟨_, rfl⟩
 all_goals
  rw [← hX] at A2
  have HE := Lib.hid hX
  clear hX
  have P2 := HP.out.beside HA.out K2 (Nat.ne_of_lt hbl)
  have B2 := Keeps.toBelow HB.out K2 HB.out.size (fun k hk => by omega)
  clear ka ku hf1 hf2 hql hbW
  generalize World.setCell _ _ _ = W2 at *
  have HP2 := Lib.hid P2
  have HB2 := Lib.hid B2
  have HA2 := Lib.hid A2
  clear A2 K2 P2 B2
  refine wp_region_held_drew (S := fun w' => w'.rangeAt w.heap.size 0 (X.rcells v) ∧ w'.there b 0 36) (by kernel_rfl) ⟨HA2.out.row, HP2.out.there 0 36 (by decide)⟩ (fun hHeld => ?_)
  refine wpAnyH_take (i := 0) (oi := _) (v := ?_) rfl (by kernel_rfl) (by kernel_rfl) (by kernel_rfl) (fun _ _ _ h => h) (Or.inl ⟨by rfl, ?_⟩) (by assumption) ?_
  rotate_left
  ·(intro w hSw; (try dsimp only at hSw); go_simp <;> rfl)
  refine wpAnyH_take (i := 1) (oi := _) (v := ?_) rfl (by kernel_rfl) (by kernel_rfl) (by kernel_rfl) (fun _ _ _ h => h) (Or.inl ⟨by rfl, ?_⟩) (by assumption) ?_
  rotate_left
  ·(intro w hSw; (try dsimp only at hSw); go_simp <;> rfl)
  refine wpAnyH_take (i := 2) (oi := _) (v := ?_) rfl (by kernel_rfl) (by kernel_rfl) (by kernel_rfl) (fun _ _ _ h => h) (Or.inl ⟨by rfl, ?_⟩) (by assumption) ?_
  rotate_left
  ·(intro w hSw; (try dsimp only at hSw); go_simp <;> rfl)
  simp only [Act.put, List.getElem_toArray, List.getElem_cons_zero, List.getElem_cons_succ, List.setIfInBounds_toArray, List.set_cons_zero, List.set_cons_succ]
  refine wpAnyH_take (i := 3) (oi := _) (v := _) rfl (by kernel_rfl) (by kernel_rfl) (by kernel_rfl) (fun _ _ _ h => h) (yieldsIf_load_mid (by rfl) _ _ rfl _ _ rfl (X.rcells v) _ (fun _ h => h.1) Tryz.underlying255 rfl info36) (by assumption) ?_
  simp only [Act.put, List.getElem_toArray, List.getElem_cons_zero, List.getElem_cons_succ, List.setIfInBounds_toArray, List.set_cons_zero, List.set_cons_succ]
  refine wpAnyH_take (i := 4) (oi := _) (v := ?_) rfl (by kernel_rfl) (by kernel_rfl) (by kernel_rfl) (fun _ _ _ h => h) (Or.inl ⟨by rfl, ?_⟩) (by assumption) ?_
  rotate_left
  ·(intro w hSw; (try dsimp only at hSw); go_simp <;> rfl)
  refine wpAnyH_take (i := 5) (oi := _) (v := ?_) rfl (by kernel_rfl) (by kernel_rfl) (by kernel_rfl) (fun _ _ _ h => h) (Or.inl ⟨by rfl, ?_⟩) (by assumption) ?_
  rotate_left
  ·(intro w hSw; (try dsimp only at hSw); go_simp <;> rfl)
  refine wpAnyH_take (i := 6) (oi := _) (v := ?_) rfl (by kernel_rfl) (by kernel_rfl) (by kernel_rfl) (fun _ _ _ h => h) (Or.inl ⟨by rfl, ?_⟩) (by assumption) ?_
  rotate_left
  ·(intro w hSw; (try dsimp only at hSw); go_simp <;> rfl)
  simp only [Act.put, List.getElem_toArray, List.getElem_cons_zero, List.getElem_cons_succ, List.setIfInBounds_toArray, List.set_cons_zero, List.set_cons_succ]
  refine wpAnyH_ready (rs := [7]) (by kernel_rfl) (by decide) (AllReadyH.cons rfl (fun K' hK => ?_) AllReadyH.nil)
  rw [if_pos (by rfl)]
  refine wp_store_mid _ _ _ rfl b 0 (X.rcells v).toArray rfl rfl hHeld.2 info36 (rc_one X HV.out) ?_
  refine hK.out _ _ ⟨World.rangeAt_setCells_apart hHeld.1 _ _ _ (Or.inl (Nat.ne_of_gt hbl)), World.there_setCells hHeld.2 _ _ _⟩ (fun h2 => ?_)
  refine wpAnyH_done (by kernel_rfl) ?_ _
  simp only [Act.put, List.getElem_toArray, List.getElem_cons_zero, List.getElem_cons_succ, List.setIfInBounds_toArray, List.set_cons_zero, List.set_cons_succ]
  go_wp2_with fail
  go_ret
  rw [← HE.out]
  exact ⟨rfl, HP2.out.fin0 (by rw [HE.out]; rfl), (Keeps.ofBelow HB2.out).drew.andThen (keeps_setCells _ _ _ _) (fun _ _ h => h)⟩
theorem rline_8 (H : RP w b v u c d) (hc : c.ok) (hd : d.ok) (up : Bool) :
    Calls Tryz.prog 151 #[.pointer (some ⟨b, 0, none⟩), .int .i64 8, .bool up] w fun e w' => e = .returned (.int .i64 0) ∧ RP w' b v u c (lineC d 0 up) ∧ Keeps (· = b) w w' := by
 have hz := fun w => zeroChip w
 have HR := Lib.hid H.r1
 have HO := Lib.hid (rc_one d (RowC.one H.dw))
 have HN := Lib.hid (heap_new w (.cells zero36.toArray 255))
 have HC := Lib.hid (And.intro hc hd)
 have HX := Lib.hid (chip_copied (c := d) (v := u) w)
 have HH := Lib.hid H
 have hbl := H.lt
 clear H hc hd
 go_enter Tryz.func151, Tryz.ntmps151
 go_upto_region 6 with (first | (refine wpList_load_mid rfl _ _ rfl b 36 rfl (d.rcells u) _ HR.out Tryz.underlying255 rfl info36 ?_) | (refine wpList_store_row rfl _ _ _ rfl w.heap.size (d.rcells u).toArray rfl rfl _ _ HN.out info36 rfl HO.out ?_))
 obtain ⟨A, B⟩ := HX.out
 change Code.wp _ _ _ _ ((w.alloc (.cells zero36.toArray 255)).setRow w.heap.size (d.rcells u).toArray)
 have HP := Lib.hid (HH.out.below B)
 clear HX HN HR hz
 generalize (w.alloc (.cells zero36.toArray 255)).setRow w.heap.size (d.rcells u).toArray = W at *
 have ka : W.cell? ⟨w.heap.size, 0, none⟩ = some (.bool (bt d.asks 0)) := A.bit 0 0 0 (by decide) (by decide) rfl
 have ku : W.cell? ⟨w.heap.size, 24, none⟩ = some (.bool (bt d.up 0)) := A.bit 3 0 24 (by decide) (by decide) rfl
 have hf1 := A.free 0
 have hf2 := A.free 24
 have hql := A.lt
 have hu58 := Tryz.underlying255
 have hbW : b < W.heap.size := HP.out.lt
 have HA := Lib.hid A
 have HB := Lib.hid B
 clear A B HO
 have HV := Lib.hid (RowC.one HH.out.dw)
 cases up
 case' false =>
  go_upto_region 11 with (fail)
  have A2 := line_down HC.out.2 HA.out 0 (by decide)
  have K2 : Keeps (· = w.heap.size) W ((W.setCell ⟨w.heap.size, 0, none⟩ (.bool false)).setCell ⟨w.heap.size, 24 + 0, none⟩ (.bool false)) := ((Keeps.refl _ _).setOne _ _).setOne _ _
  change Code.wp _ _ _ _ ((W.setCell ⟨w.heap.size, 0, none⟩ (.bool false)).setCell ⟨w.heap.size, 24 + 0, none⟩ (.bool false))
  obtain ⟨X, hX⟩ : ∃ X, X = lineC d 0 false := ⟨_, rfl⟩
 case' true =>
  cases hbu : bt d.up 0
  case' false =>
   rw [hbu] at ku
   have HU := Lib.hid hbu
   clear hbu
   go_upto_region 11 with (fail)
   have A2 := line_up0 HC.out.2 HA.out 0 (by decide) HU.out
   have K2 : Keeps (· = w.heap.size) W ((W.setCell ⟨w.heap.size, 0, none⟩ (.bool true)).setCell ⟨w.heap.size, 24 + 0, none⟩ (.bool true)) := ((Keeps.refl _ _).setOne _ _).setOne _ _
   change Code.wp _ _ _ _ ((W.setCell ⟨w.heap.size, 0, none⟩ (.bool true)).setCell ⟨w.heap.size, 24 + 0, none⟩ (.bool true))
  case' true =>
   rw [hbu] at ku
   have HU := Lib.hid hbu
   clear hbu
   go_upto_region 11 with (fail)
   have A2 := line_up1 HC.out.2 HA.out 0 (by decide) HU.out
   have K2 : Keeps (· = w.heap.size) W (W.setCell ⟨w.heap.size, 24 + 0, none⟩ (.bool true)) := (Keeps.refl _ _).setOne _ _
   change Code.wp _ _ _ _ (W.setCell ⟨w.heap.size, 24 + 0, none⟩ (.bool true))
  all_goals obtain ⟨X, hX⟩ : ∃ X, X = lineC d 0 true := ⟨_, rfl⟩
 all_goals
  rw [← hX] at A2
  have HE := Lib.hid hX
  clear hX
  have P2 := HP.out.beside HA.out K2 (Nat.ne_of_lt hbl)
  have B2 := Keeps.toBelow HB.out K2 HB.out.size (fun k hk => by omega)
  clear ka ku hf1 hf2 hql hbW
  generalize World.setCell _ _ _ = W2 at *
  have HP2 := Lib.hid P2
  have HB2 := Lib.hid B2
  have HA2 := Lib.hid A2
  clear A2 K2 P2 B2
  refine wp_region_held_drew (S := fun w' => w'.rangeAt w.heap.size 0 (X.rcells u) ∧ w'.there b 36 36) (by kernel_rfl) ⟨HA2.out.row, HP2.out.there 36 36 (by decide)⟩ (fun hHeld => ?_)
  refine wpAnyH_take (i := 0) (oi := _) (v := ?_) rfl (by kernel_rfl) (by kernel_rfl) (by kernel_rfl) (fun _ _ _ h => h) (Or.inl ⟨by rfl, ?_⟩) (by assumption) ?_
  rotate_left
  ·(intro w hSw; (try dsimp only at hSw); go_simp <;> rfl)
  refine wpAnyH_take (i := 1) (oi := _) (v := ?_) rfl (by kernel_rfl) (by kernel_rfl) (by kernel_rfl) (fun _ _ _ h => h) (Or.inl ⟨by rfl, ?_⟩) (by assumption) ?_
  rotate_left
  ·(intro w hSw; (try dsimp only at hSw); go_simp <;> rfl)
  refine wpAnyH_take (i := 2) (oi := _) (v := ?_) rfl (by kernel_rfl) (by kernel_rfl) (by kernel_rfl) (fun _ _ _ h => h) (Or.inl ⟨by rfl, ?_⟩) (by assumption) ?_
  rotate_left
  ·(intro w hSw; (try dsimp only at hSw); go_simp <;> rfl)
  simp only [Act.put, List.getElem_toArray, List.getElem_cons_zero, List.getElem_cons_succ, List.setIfInBounds_toArray, List.set_cons_zero, List.set_cons_succ]
  refine wpAnyH_take (i := 3) (oi := _) (v := _) rfl (by kernel_rfl) (by kernel_rfl) (by kernel_rfl) (fun _ _ _ h => h) (yieldsIf_load_mid (by rfl) _ _ rfl _ _ rfl (X.rcells u) _ (fun _ h => h.1) Tryz.underlying255 rfl info36) (by assumption) ?_
  simp only [Act.put, List.getElem_toArray, List.getElem_cons_zero, List.getElem_cons_succ, List.setIfInBounds_toArray, List.set_cons_zero, List.set_cons_succ]
  refine wpAnyH_take (i := 4) (oi := _) (v := ?_) rfl (by kernel_rfl) (by kernel_rfl) (by kernel_rfl) (fun _ _ _ h => h) (Or.inl ⟨by rfl, ?_⟩) (by assumption) ?_
  rotate_left
  ·(intro w hSw; (try dsimp only at hSw); go_simp <;> rfl)
  refine wpAnyH_take (i := 5) (oi := _) (v := ?_) rfl (by kernel_rfl) (by kernel_rfl) (by kernel_rfl) (fun _ _ _ h => h) (Or.inl ⟨by rfl, ?_⟩) (by assumption) ?_
  rotate_left
  ·(intro w hSw; (try dsimp only at hSw); go_simp <;> rfl)
  refine wpAnyH_take (i := 6) (oi := _) (v := ?_) rfl (by kernel_rfl) (by kernel_rfl) (by kernel_rfl) (fun _ _ _ h => h) (Or.inl ⟨by rfl, ?_⟩) (by assumption) ?_
  rotate_left
  ·(intro w hSw; (try dsimp only at hSw); go_simp <;> rfl)
  simp only [Act.put, List.getElem_toArray, List.getElem_cons_zero, List.getElem_cons_succ, List.setIfInBounds_toArray, List.set_cons_zero, List.set_cons_succ]
  refine wpAnyH_ready (rs := [7]) (by kernel_rfl) (by decide) (AllReadyH.cons rfl (fun K' hK => ?_) AllReadyH.nil)
  rw [if_pos (by rfl)]
  refine wp_store_mid _ _ _ rfl b 36 (X.rcells u).toArray rfl rfl hHeld.2 info36 (rc_one X HV.out) ?_
  refine hK.out _ _ ⟨World.rangeAt_setCells_apart hHeld.1 _ _ _ (Or.inl (Nat.ne_of_gt hbl)), World.there_setCells hHeld.2 _ _ _⟩ (fun h2 => ?_)
  refine wpAnyH_done (by kernel_rfl) ?_ _
  simp only [Act.put, List.getElem_toArray, List.getElem_cons_zero, List.getElem_cons_succ, List.setIfInBounds_toArray, List.set_cons_zero, List.set_cons_succ]
  go_wp2_with fail
  go_ret
  rw [← HE.out]
  exact ⟨rfl, HP2.out.fin1 (by rw [HE.out]; rfl), (Keeps.ofBelow HB2.out).drew.andThen (keeps_setCells _ _ _ _) (fun _ _ h => h)⟩
theorem rline_14 (H : RP w b v u c d) (hc : c.ok) (hd : d.ok) (up : Bool) :
    Calls Tryz.prog 151 #[.pointer (some ⟨b, 0, none⟩), .int .i64 14, .bool up] w fun e w' => e = .returned (.int .i64 0) ∧ RP w' b v u c (lineC d 6 up) ∧ Keeps (· = b) w w' := by
 have hz := fun w => zeroChip w
 have HR := Lib.hid H.r1
 have HO := Lib.hid (rc_one d (RowC.one H.dw))
 have HN := Lib.hid (heap_new w (.cells zero36.toArray 255))
 have HC := Lib.hid (And.intro hc hd)
 have HX := Lib.hid (chip_copied (c := d) (v := u) w)
 have HH := Lib.hid H
 have hbl := H.lt
 clear H hc hd
 go_enter Tryz.func151, Tryz.ntmps151
 go_upto_region 6 with (first | (refine wpList_load_mid rfl _ _ rfl b 36 rfl (d.rcells u) _ HR.out Tryz.underlying255 rfl info36 ?_) | (refine wpList_store_row rfl _ _ _ rfl w.heap.size (d.rcells u).toArray rfl rfl _ _ HN.out info36 rfl HO.out ?_))
 obtain ⟨A, B⟩ := HX.out
 change Code.wp _ _ _ _ ((w.alloc (.cells zero36.toArray 255)).setRow w.heap.size (d.rcells u).toArray)
 have HP := Lib.hid (HH.out.below B)
 clear HX HN HR hz
 generalize (w.alloc (.cells zero36.toArray 255)).setRow w.heap.size (d.rcells u).toArray = W at *
 have ka : W.cell? ⟨w.heap.size, 6, none⟩ = some (.bool (bt d.asks 6)) := A.bit 0 6 6 (by decide) (by decide) rfl
 have ku : W.cell? ⟨w.heap.size, 30, none⟩ = some (.bool (bt d.up 6)) := A.bit 3 6 30 (by decide) (by decide) rfl
 have hf1 := A.free 6
 have hf2 := A.free 30
 have hql := A.lt
 have hu58 := Tryz.underlying255
 have hbW : b < W.heap.size := HP.out.lt
 have HA := Lib.hid A
 have HB := Lib.hid B
 clear A B HO
 have HV := Lib.hid (RowC.one HH.out.dw)
 cases up
 case' false =>
  go_upto_region 11 with (fail)
  have A2 := line_down HC.out.2 HA.out 6 (by decide)
  have K2 : Keeps (· = w.heap.size) W ((W.setCell ⟨w.heap.size, 6, none⟩ (.bool false)).setCell ⟨w.heap.size, 24 + 6, none⟩ (.bool false)) := ((Keeps.refl _ _).setOne _ _).setOne _ _
  change Code.wp _ _ _ _ ((W.setCell ⟨w.heap.size, 6, none⟩ (.bool false)).setCell ⟨w.heap.size, 24 + 6, none⟩ (.bool false))
  obtain ⟨X, hX⟩ : ∃ X, X = lineC d 6 false := ⟨_, rfl⟩
 case' true =>
  cases hbu : bt d.up 6
  case' false =>
   rw [hbu] at ku
   have HU := Lib.hid hbu
   clear hbu
   go_upto_region 11 with (fail)
   have A2 := line_up0 HC.out.2 HA.out 6 (by decide) HU.out
   have K2 : Keeps (· = w.heap.size) W ((W.setCell ⟨w.heap.size, 6, none⟩ (.bool true)).setCell ⟨w.heap.size, 24 + 6, none⟩ (.bool true)) := ((Keeps.refl _ _).setOne _ _).setOne _ _
   change Code.wp _ _ _ _ ((W.setCell ⟨w.heap.size, 6, none⟩ (.bool true)).setCell ⟨w.heap.size, 24 + 6, none⟩ (.bool true))
  case' true =>
   rw [hbu] at ku
   have HU := Lib.hid hbu
   clear hbu
   go_upto_region 11 with (fail)
   have A2 := line_up1 HC.out.2 HA.out 6 (by decide) HU.out
   have K2 : Keeps (· = w.heap.size) W (W.setCell ⟨w.heap.size, 24 + 6, none⟩ (.bool true)) := (Keeps.refl _ _).setOne _ _
   change Code.wp _ _ _ _ (W.setCell ⟨w.heap.size, 24 + 6, none⟩ (.bool true))
  all_goals obtain ⟨X, hX⟩ : ∃ X, X = lineC d 6 true := ⟨_, rfl⟩
 all_goals
  rw [← hX] at A2
  have HE := Lib.hid hX
  clear hX
  have P2 := HP.out.beside HA.out K2 (Nat.ne_of_lt hbl)
  have B2 := Keeps.toBelow HB.out K2 HB.out.size (fun k hk => by omega)
  clear ka ku hf1 hf2 hql hbW
  generalize World.setCell _ _ _ = W2 at *
  have HP2 := Lib.hid P2
  have HB2 := Lib.hid B2
  have HA2 := Lib.hid A2
  clear A2 K2 P2 B2
  refine wp_region_held_drew (S := fun w' => w'.rangeAt w.heap.size 0 (X.rcells u) ∧ w'.there b 36 36) (by kernel_rfl) ⟨HA2.out.row, HP2.out.there 36 36 (by decide)⟩ (fun hHeld => ?_)
  refine wpAnyH_take (i := 0) (oi := _) (v := ?_) rfl (by kernel_rfl) (by kernel_rfl) (by kernel_rfl) (fun _ _ _ h => h) (Or.inl ⟨by rfl, ?_⟩) (by assumption) ?_
  rotate_left
  ·(intro w hSw; (try dsimp only at hSw); go_simp <;> rfl)
  refine wpAnyH_take (i := 1) (oi := _) (v := ?_) rfl (by kernel_rfl) (by kernel_rfl) (by kernel_rfl) (fun _ _ _ h => h) (Or.inl ⟨by rfl, ?_⟩) (by assumption) ?_
  rotate_left
  ·(intro w hSw; (try dsimp only at hSw); go_simp <;> rfl)
  refine wpAnyH_take (i := 2) (oi := _) (v := ?_) rfl (by kernel_rfl) (by kernel_rfl) (by kernel_rfl) (fun _ _ _ h => h) (Or.inl ⟨by rfl, ?_⟩) (by assumption) ?_
  rotate_left
  ·(intro w hSw; (try dsimp only at hSw); go_simp <;> rfl)
  simp only [Act.put, List.getElem_toArray, List.getElem_cons_zero, List.getElem_cons_succ, List.setIfInBounds_toArray, List.set_cons_zero, List.set_cons_succ]
  refine wpAnyH_take (i := 3) (oi := _) (v := _) rfl (by kernel_rfl) (by kernel_rfl) (by kernel_rfl) (fun _ _ _ h => h) (yieldsIf_load_mid (by rfl) _ _ rfl _ _ rfl (X.rcells u) _ (fun _ h => h.1) Tryz.underlying255 rfl info36) (by assumption) ?_
  simp only [Act.put, List.getElem_toArray, List.getElem_cons_zero, List.getElem_cons_succ, List.setIfInBounds_toArray, List.set_cons_zero, List.set_cons_succ]
  refine wpAnyH_take (i := 4) (oi := _) (v := ?_) rfl (by kernel_rfl) (by kernel_rfl) (by kernel_rfl) (fun _ _ _ h => h) (Or.inl ⟨by rfl, ?_⟩) (by assumption) ?_
  rotate_left
  ·(intro w hSw; (try dsimp only at hSw); go_simp <;> rfl)
  refine wpAnyH_take (i := 5) (oi := _) (v := ?_) rfl (by kernel_rfl) (by kernel_rfl) (by kernel_rfl) (fun _ _ _ h => h) (Or.inl ⟨by rfl, ?_⟩) (by assumption) ?_
  rotate_left
  ·(intro w hSw; (try dsimp only at hSw); go_simp <;> rfl)
  refine wpAnyH_take (i := 6) (oi := _) (v := ?_) rfl (by kernel_rfl) (by kernel_rfl) (by kernel_rfl) (fun _ _ _ h => h) (Or.inl ⟨by rfl, ?_⟩) (by assumption) ?_
  rotate_left
  ·(intro w hSw; (try dsimp only at hSw); go_simp <;> rfl)
  simp only [Act.put, List.getElem_toArray, List.getElem_cons_zero, List.getElem_cons_succ, List.setIfInBounds_toArray, List.set_cons_zero, List.set_cons_succ]
  refine wpAnyH_ready (rs := [7]) (by kernel_rfl) (by decide) (AllReadyH.cons rfl (fun K' hK => ?_) AllReadyH.nil)
  rw [if_pos (by rfl)]
  refine wp_store_mid _ _ _ rfl b 36 (X.rcells u).toArray rfl rfl hHeld.2 info36 (rc_one X HV.out) ?_
  refine hK.out _ _ ⟨World.rangeAt_setCells_apart hHeld.1 _ _ _ (Or.inl (Nat.ne_of_gt hbl)), World.there_setCells hHeld.2 _ _ _⟩ (fun h2 => ?_)
  refine wpAnyH_done (by kernel_rfl) ?_ _
  simp only [Act.put, List.getElem_toArray, List.getElem_cons_zero, List.getElem_cons_succ, List.setIfInBounds_toArray, List.set_cons_zero, List.set_cons_succ]
  go_wp2_with fail
  go_ret
  rw [← HE.out]
  exact ⟨rfl, HP2.out.fin1 (by rw [HE.out]; rfl), (Keeps.ofBelow HB2.out).drew.andThen (keeps_setCells _ _ _ _) (fun _ _ h => h)⟩
theorem rline_three (H : RP w b v u c d) (hc : c.ok) (hd : d.ok) (n : Int) (hn : n = 0 ∨ n = 4 ∨ n = 14) (up : Bool) :
    Calls Tryz.prog 151 #[.pointer (some ⟨b, 0, none⟩), .int .i64 n, .bool up] w fun e w' => e = .returned (.int .i64 (lerr n)) ∧ RP w' b v u (lnc c n up) (lnd d n up) ∧ Keeps (· = b) w w' := by
 rcases hn with rfl | rfl | rfl
 ·exact rline_0 H hc hd up
 ·exact rline_4 H hc hd up
 ·exact rline_14 H hc hd up
end
end Go.Proofs.YtmpcafdgkbpneaaGreat.Pic

