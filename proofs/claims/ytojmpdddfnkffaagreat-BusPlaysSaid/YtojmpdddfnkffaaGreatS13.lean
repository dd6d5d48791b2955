/- Steps of a proof: PicO, PicP, PicQ, PicR, together. -/
import Derived.Test.YtojmpdddfnkffaaGreatS9
import Derived.Deep.CutRange
/- pic: the document's pair: take, Ack. -/
set_option maxHeartbeats 8000000
set_option maxRecDepth 20000
namespace Go.Proofs.YtojmpdddfnkffaaGreat.Pic
open Go.RowKit
set_option linter.unusedVariables false
set_option linter.unusedSimpArgs false

set_option maxRecDepth 100000 in
theorem tz8_low0 : ∀ x : Fin 256, ∀ n : Fin 8, n.val < tz8 x.val → x.val.testBit n.val = false := by decide +kernel
theorem told_free {a m s : Nat} (hs : s < 256) (h : isTold a m s = true) : bt s (tz8 (left a m)) = false := by
 have h1 := isTold_lt hs h
 exact tz8_low0 ⟨s, hs⟩ ⟨_, h1⟩ (of_decide_eq_true h)
theorem tellsR_yes {a m s : Nat} (h : isTold a m s = true) : tellsR a m s = (tz8 (left a m) : Int) := by unfold tellsR; rw [h]; rfl
theorem tellsR_no {a m s : Nat} (h : isTold a m s = false) : tellsR a m s = -1 := by unfold tellsR; rw [h]; rfl
section
variable {w : World} {b g : Nat} {v u : Value} {c d : Chip}
theorem RP.set0 (H : RP w b v u c d) {c' : Chip} (k : Nat) (x : Value) (e : (c.rcells v).set k x = c'.rcells v) (hk : k < 36) (hw : c'.wants = c.wants) : RP (w.setCell ⟨b, k, none⟩ x) b v u c' d := by
 have K : Keeps (· = b) w (w.setCell ⟨b, k, none⟩ x) := (Keeps.refl _ _).setOne _ _
 refine ⟨?_, by rw [hw]; exact H.cw.of_heap fun i hi => K.block i (H.cw.lt hi) (H.apart (e := 0) (size := 0) H.cw hi), H.dw.of_heap fun i hi => K.block i (H.dw.lt hi) (H.apart (e := 0) (size := 0) H.dw hi)⟩
 rw [heap_set_map, H.obj, ← e]
 show some (Obj.cells ((c.rcells v ++ d.rcells u).toArray.setIfInBounds k x) _ _) = _
 rw [List.setIfInBounds_toArray, List.set_append_left _ _ (show k < (c.rcells v).length from hk)]
theorem RP.set1 (H : RP w b v u c d) {d' : Chip} (k : Nat) (x : Value) (e : (d.rcells u).set k x = d'.rcells u) (hw : d'.wants = d.wants) : RP (w.setCell ⟨b, 36 + k, none⟩ x) b v u c d' := by
 have K : Keeps (· = b) w (w.setCell ⟨b, 36 + k, none⟩ x) := (Keeps.refl _ _).setOne _ _
 refine ⟨?_, H.cw.of_heap fun i hi => K.block i (H.cw.lt hi) (H.apart (e := 0) (size := 0) H.cw hi), by rw [hw]; exact H.dw.of_heap fun i hi => K.block i (H.dw.lt hi) (H.apart (e := 0) (size := 0) H.dw hi)⟩
 rw [heap_set_map, H.obj, ← e]
 show some (Obj.cells ((c.rcells v ++ d.rcells u).toArray.setIfInBounds (36 + k) x) _ _) = _
 rw [List.setIfInBounds_toArray, List.set_append_right _ _ (show (c.rcells v).length ≤ 36 + k by show 36 ≤ _; omega), show 36 + k - (c.rcells v).length = k by show 36 + k - 36 = k; omega]
theorem take_asks (c : Chip) (v : Value) (j : Nat) (hj : j < 8) : (c.rcells v).set j (.bool false) = ({ c with asks := c.asks &&& (255 - 2 ^ j) } : Chip).rcells v := by
 refine rc_set _ _ v 0 j j (by decide) hj (by omega) false ?_ ⟨rfl, rfl, rfl⟩
 intro g i hg hi
 rcases (show g = 0 ∨ g = 1 ∨ g = 2 ∨ g = 3 by omega) with rfl | rfl | rfl | rfl
 ·show bt (c.asks &&& (255 - 2 ^ j)) i = _
  rw [bt_and, bt_npow j i hj hi]
  by_cases e : i = j
  ·rw [if_pos ⟨rfl, e⟩, decide_eq_true e.symm]; simp
  ·rw [if_neg (fun h => e h.2), decide_eq_false (fun h => e h.symm)]; simp; rfl
 ·rw [if_neg (by omega)]; rfl
 ·rw [if_neg (by omega)]; rfl
 ·rw [if_neg (by omega)]; rfl
theorem take_served (c : Chip) (v : Value) (j : Nat) (hj : j < 8) (h0 : bt c.served j = false) : (({ c with asks := c.asks &&& (255 - 2 ^ j) } : Chip).rcells v).set (8 + j) (.bool (!c.ends)) = (takeC c j).rcells v := by
 refine rc_set _ _ v 1 j (8 + j) (by decide) hj (by omega) (!c.ends) ?_ ⟨rfl, rfl, rfl⟩
 intro g i hg hi
 rcases (show g = 0 ∨ g = 1 ∨ g = 2 ∨ g = 3 by omega) with rfl | rfl | rfl | rfl
 ·rw [if_neg (by omega)]; rfl
 ·show bt (servedC c j) i = _
  by_cases e : i = j
  ·rw [if_pos (show 1 = 1 ∧ i = j from ⟨rfl, e⟩), e]
   unfold servedC
   cases he : c.ends
   ·rw [if_neg (by simp), bt_or, bt_pow j j hj hj]; simp
   ·rw [if_pos rfl, h0]; rfl
  ·rw [if_neg (fun h => e h.2)]
   show bt (servedC c j) i = bt c.served i
   unfold servedC
   cases he : c.ends
   ·rw [if_neg (by simp), bt_or, bt_pow j i hj hi, decide_eq_false (fun h => e h.symm)]; simp
   ·rw [if_pos rfl]
 ·rw [if_neg (by omega)]; rfl
 ·rw [if_neg (by omega)]; rfl
theorem rtake1_yes (H : RP w b v u c d) (hc : c.ok) (hd : d.ok) (ht : isTold d.asks d.masked d.served = true) :
    Calls Tryz.prog 122 #[.pointer (some ⟨b, 0, none⟩), .int .i64 1] w fun e w' => e = .returned (.int .i64 (vec1 d : Nat)) ∧ RP w' b v u c (tk1 d) ∧ Keeps (· = b) w w' := by
 have hj := isTold_lt hd.served ht
 have h0 := Lib.hid (told_free hd.served ht)
 rw [show vec1 d = d.base + tz8 (left d.asks d.masked) by unfold vec1; rw [ht]; rfl, show tk1 d = takeC d (tz8 (left d.asks d.masked)) by unfold tk1; rw [ht]; rfl]
 have hR := Lib.hid (rtells1 H hc hd)
 rw [tellsR_yes ht] at hR
 generalize tz8 (left d.asks d.masked) = j at *
 have hb := hd.base
 have HH := Lib.hid H
 clear H hc ht hd
 go_enter Tryz.func122, Tryz.ntmps122
 have p1 : (0 : Int) ≤ (j : Int) := by omega
 have p2 : (j : Int) < 8 := by omega
 have p3 : ¬ ((j : Int) < 0) := by omega
 go_wp2_with fail
 refine hR.out.mono ?_
 rintro e w1 ⟨rfl, B1⟩
 have H1 := HH.out.below B1
 have k1 : w1.cell? ⟨b, 36 + j, none⟩ = some (.bool (bt d.asks j)) := H1.cell 1 0 j _ (by decide) (by decide) hj (by omega)
 have k2 : w1.cell? ⟨b, 44 + j, none⟩ = some (.bool (bt d.served j)) := H1.cell 1 1 j _ (by decide) (by decide) hj (by omega)
 obtain ⟨-, -, -, -, k3, -, k4, -⟩ := H1.last4
 have hl := H1.lt
 have hf : ∀ k, w1.frozen? ⟨b, k, none⟩ = false := fun k => free_at H1.obj
 have hB := Lib.hid B1
 have hH := Lib.hid H1
 clear B1 H1 hR
 go_upto_region 9 with (fail)
 have HA := Lib.hid (hH.out.set1 j (.bool false) (take_asks d u j hj) rfl)
 change Code.wp _ _ _ _ (w1.setCell ⟨b, 36 + j, none⟩ (.bool false))
 have K2 : Keeps (· = b) w1 (w1.setCell ⟨b, 36 + j, none⟩ (.bool false)) := (Keeps.refl _ _).setOne _ _
 have HK := Lib.hid ((Keeps.ofBelow (S := (· = b)) hB.out).andThen K2 (fun _ _ h => h))
 clear K2 k1 k2 k3 k4 hf hl hH hB
 generalize w1.setCell ⟨b, 36 + j, none⟩ (.bool false) = W at *
 have k2 : W.cell? ⟨b, 44 + j, none⟩ = some (.bool (bt d.served j)) := HA.out.cell 1 1 j _ (by decide) (by decide) hj (by omega)
 obtain ⟨-, -, -, -, -, -, k4, -⟩ := HA.out.last4
 have k4' : W.cell? ⟨b, 70, none⟩ = some (.bool d.ends) := k4
 clear k4
 have hl := HA.out.lt
 have hf : ∀ k, W.frozen? ⟨b, k, none⟩ = false := fun k => free_at HA.out.obj
 have HT := Lib.hid (show RP (W.setCell ⟨b, 44 + j, none⟩ (.bool (!d.ends))) b v u c (takeC d j) from by
  rw [show 44 + j = 36 + (8 + j) by omega]
  exact HA.out.set1 (8 + j) _ (take_served d u j hj h0.out) rfl)
 have H7 : Hid ((W.setCell ⟨b, 44 + j, none⟩ (.bool (!d.ends))).drew.cell? ⟨b, 70, none⟩ = some (.bool d.ends)) := Lib.hid HT.out.last4.2.2.2.2.2.2.1
 have HK2 := Lib.hid ((HK.out.drew.setOne (44 + j) (.bool (!d.ends))))
 go_region_held3 (fun w' => w'.cell? ⟨b, 70, none⟩ = some (.bool d.ends)) (first | exact H7.out | go_keep) (fail)
 all_goals
  go_wp2_with fail
  go_ret
  exact ⟨rfl, HT.out.drew, HK2.out⟩
theorem rtake1_no (H : RP w b v u c d) (hc : c.ok) (hd : d.ok) (ht : isTold d.asks d.masked d.served = false) :
    Calls Tryz.prog 122 #[.pointer (some ⟨b, 0, none⟩), .int .i64 1] w fun e w' => e = .returned (.int .i64 (vec1 d : Nat)) ∧ RP w' b v u c (tk1 d) ∧ Keeps (· = b) w w' := by
 rw [show vec1 d = d.base + 7 by unfold vec1; rw [ht]; rfl, show tk1 d = d by unfold tk1; rw [ht]; rfl]
 have hR := Lib.hid (rtells1 H hc hd)
 rw [tellsR_no ht] at hR
 have hb := hd.base
 have HH := Lib.hid H
 clear H hc ht hd
 go_enter Tryz.func122, Tryz.ntmps122
 go_wp2_with fail
 refine hR.out.mono ?_
 rintro e w1 ⟨rfl, B1⟩
 have H1 := HH.out.below B1
 obtain ⟨-, -, -, -, k3, -, -, -⟩ := H1.last4
 have hH := Lib.hid H1
 have HB := Lib.hid B1
 clear H1 B1
 go_wp2_with fail
 go_ret
 exact ⟨rfl, hH.out, Keeps.ofBelow HB.out⟩
theorem rtake1 (H : RP w b v u c d) (hc : c.ok) (hd : d.ok) :
    Calls Tryz.prog 122 #[.pointer (some ⟨b, 0, none⟩), .int .i64 1] w fun e w' => e = .returned (.int .i64 (vec1 d : Nat)) ∧ RP w' b v u c (tk1 d) ∧ Keeps (· = b) w w' := by
 cases h : isTold d.asks d.masked d.served
 ·exact rtake1_no H hc hd h
 ·exact rtake1_yes H hc hd h
-- THE FIRST CHIP
theorem rtake0_no (H : RP w b v u c d) (hc : c.ok) (hd : d.ok) (ht : told0 c d = false) :
    Calls Tryz.prog 122 #[.pointer (some ⟨b, 0, none⟩), .int .i64 0] w fun e w' => e = .returned (.int .i64 (vec0 c d : Nat)) ∧ RP w' b v u (tkc c d) (tkd c d) ∧ Keeps (· = b) w w' := by
 rw [show vec0 c d = c.base + 7 by unfold vec0; rw [ht]; rfl, show tkc c d = c by unfold tkc; rw [ht]; rfl, show tkd c d = d by unfold tkd; rw [ht]; rfl]
 have hR := Lib.hid (rtells0 H hc hd)
 rw [tellsR_no ht] at hR
 have hb := hc.base
 have HH := Lib.hid H
 clear H hc ht hd
 go_enter Tryz.func122, Tryz.ntmps122
 go_wp2_with fail
 refine hR.out.mono ?_
 rintro e w1 ⟨rfl, B1⟩
 have H1 := HH.out.below B1
 obtain ⟨k3, -, -, -, -, -, -, -⟩ := H1.last4
 have hH := Lib.hid H1
 have HB := Lib.hid B1
 clear H1 B1
 go_wp2_with fail
 go_ret
 exact ⟨rfl, hH.out, Keeps.ofBelow HB.out⟩

theorem rtake0_yes (H : RP w b v u c d) (hc : c.ok) (hd : d.ok) (ht : told0 c d = true) (h2 : line0 c d ≠ 2) :
    Calls Tryz.prog 122 #[.pointer (some ⟨b, 0, none⟩), .int .i64 0] w fun e w' => e = .returned (.int .i64 (vec0 c d : Nat)) ∧ RP w' b v u (tkc c d) (tkd c d) ∧ Keeps (· = b) w w' := by
 have hj := line0_lt hc ht
 have h0 := Lib.hid (told_free hc.served ht)
 rw [show vec0 c d = c.base + line0 c d by unfold vec0; rw [ht, if_neg h2]; rfl, show tkc c d = takeC c (line0 c d) by unfold tkc; rw [ht]; rfl, show tkd c d = d by unfold tkd; rw [ht, if_neg h2]; rfl]
 have hR := Lib.hid (rtells0 H hc hd)
 rw [tellsR_yes ht] at hR
 unfold line0 at *
 generalize tz8 (left (ask0 c d) c.masked) = j at *
 have hb := hc.base
 have HH := Lib.hid H
 clear H hd ht hc
 go_enter Tryz.func122, Tryz.ntmps122
 have p1 : (0 : Int) ≤ (j : Int) := by omega
 have p2 : (j : Int) < 8 := by omega
 have p3 : ¬ ((j : Int) < 0) := by omega
 have p4 : ((j : Int) == 2) = false := by simpa using (by omega : ¬ (j : Int) = 2)
 go_wp2_with fail
 refine hR.out.mono ?_
 rintro e w1 ⟨rfl, B1⟩
 have H1 := HH.out.below B1
 have k1 : w1.cell? ⟨b, j, none⟩ = some (.bool (bt c.asks j)) := H1.cell 0 0 j _ (by decide) (by decide) hj (by omega)
 obtain ⟨k3, -, k4, -, -, -, -, -⟩ := H1.last4
 have hl := H1.lt
 have hf : ∀ k, w1.frozen? ⟨b, k, none⟩ = false := fun k => free_at H1.obj
 have hB := Lib.hid B1
 have hH := Lib.hid H1
 clear B1 H1 hR
 go_upto_region 9 with (fail)
 have HA := Lib.hid (hH.out.set0 j (.bool false) (take_asks c v j hj) (by omega) rfl)
 change Code.wp _ _ _ _ (w1.setCell ⟨b, j, none⟩ (.bool false))
 have K2 : Keeps (· = b) w1 (w1.setCell ⟨b, j, none⟩ (.bool false)) := (Keeps.refl _ _).setOne _ _
 have HK := Lib.hid ((Keeps.ofBelow (S := (· = b)) hB.out).andThen K2 (fun _ _ h => h))
 clear K2 k1 k3 k4 hf hl hH hB
 generalize w1.setCell ⟨b, j, none⟩ (.bool false) = W at *
 have k2 : W.cell? ⟨b, 8 + j, none⟩ = some (.bool (bt c.served j)) := HA.out.cell 0 1 j _ (by decide) (by decide) hj (by omega)
 obtain ⟨-, -, k4, -, -, -, -, -⟩ := HA.out.last4
 have k4' : W.cell? ⟨b, 34, none⟩ = some (.bool c.ends) := k4
 clear k4
 have hl := HA.out.lt
 have hf : ∀ k, W.frozen? ⟨b, k, none⟩ = false := fun k => free_at HA.out.obj
 have HT := Lib.hid (HA.out.set0 (8 + j) _ (take_served c v j hj h0.out) (by omega) rfl)
 have H7 : Hid ((W.setCell ⟨b, 8 + j, none⟩ (.bool (!c.ends))).drew.cell? ⟨b, 34, none⟩ = some (.bool c.ends)) := Lib.hid HT.out.last4.2.2.1
 have HK2 := Lib.hid ((HK.out.drew.setOne (8 + j) (.bool (!c.ends))))
 go_region_held3 (fun w' => w'.cell? ⟨b, 34, none⟩ = some (.bool c.ends)) (first | exact H7.out | go_keep) (fail)
 all_goals
  go_wp2_with fail
  go_ret
  exact ⟨rfl, HT.out.drew, HK2.out⟩
theorem rtake0_two (H : RP w b v u c d) (hc : c.ok) (hd : d.ok) (ht : told0 c d = true) (h2 : line0 c d = 2) :
    Calls Tryz.prog 122 #[.pointer (some ⟨b, 0, none⟩), .int .i64 0] w fun e w' => e = .returned (.int .i64 (vec0 c d : Nat)) ∧ RP w' b v u (tkc c d) (tkd c d) ∧ Keeps (· = b) w w' := by
 have h0 := Lib.hid (told_free hc.served ht)
 rw [show vec0 c d = vec1 d by unfold vec0; rw [ht, if_pos h2]; rfl, show tkc c d = takeC c 2 by unfold tkc; rw [ht, if_pos rfl, h2], show tkd c d = tk1 d by unfold tkd; rw [ht, if_pos h2]; rfl]
 have hR := Lib.hid (rtells0 H hc hd)
 rw [tellsR_yes ht] at hR
 unfold line0 at *
 rw [h2] at hR h0
 have hb := hc.base
 have HH := Lib.hid H
 have HC := Lib.hid (And.intro hc hd)
 have hT := fun w1 (B : Below w.heap.size w w1) => rtake1 (H.below B) hc hd
 have HR1 := Lib.hid hT
 clear H hd ht hc hT h2
 go_enter Tryz.func122, Tryz.ntmps122
 go_wp2_with fail
 refine hR.out.mono ?_
 rintro e w1 ⟨rfl, B1⟩
 have H1 := HH.out.below B1
 obtain ⟨k3, -, -, -, -, -, -, -⟩ := H1.last4
 have hB := Lib.hid B1
 clear B1 H1 hR
 go_wp2_with fail
 refine (HR1.out _ hB.out).mono ?_
 rintro e w2 ⟨rfl, H2, K2⟩
 have hK := Lib.hid ((Keeps.ofBelow (S := (· = b)) hB.out).trans K2)
 have hH := Lib.hid H2
 have k1 : w2.cell? ⟨b, 2, none⟩ = some (.bool (bt c.asks 2)) := H2.cell 0 0 2 _ (by decide) (by decide) (by decide) rfl
 have hl := H2.lt
 have hf : ∀ k, w2.frozen? ⟨b, k, none⟩ = false := fun k => free_at hH.out.obj
 clear H2 K2 k3
 go_upto_region 9 with (fail)
 have HA := Lib.hid (hH.out.set0 2 (.bool false) (take_asks c v 2 (by decide)) (by decide) rfl)
 change Code.wp _ _ _ _ (w2.setCell ⟨b, 2, none⟩ (.bool false))
 have HK := Lib.hid (hK.out.setOne 2 (.bool false))
 clear k1 hf hl hH hK
 generalize w2.setCell ⟨b, 2, none⟩ (.bool false) = W at *
 have k2 : W.cell? ⟨b, 10, none⟩ = some (.bool (bt c.served 2)) := HA.out.cell 0 1 2 _ (by decide) (by decide) (by decide) rfl
 obtain ⟨-, -, k4, -, -, -, -, -⟩ := HA.out.last4
 have k4' : W.cell? ⟨b, 34, none⟩ = some (.bool c.ends) := k4
 clear k4
 have hl := HA.out.lt
 have hf : ∀ k, W.frozen? ⟨b, k, none⟩ = false := fun k => free_at HA.out.obj
 have HT := Lib.hid (HA.out.set0 10 _ (take_served c v 2 (by decide) h0.out) (by decide) rfl)
 have H7 : Hid ((W.setCell ⟨b, 10, none⟩ (.bool (!c.ends))).drew.cell? ⟨b, 34, none⟩ = some (.bool c.ends)) := Lib.hid HT.out.last4.2.2.1
 have HK2 := Lib.hid ((HK.out.drew.setOne 10 (.bool (!c.ends))))
 go_region_held3 (fun w' => w'.cell? ⟨b, 34, none⟩ = some (.bool c.ends)) (first | exact H7.out | go_keep) (fail)
 all_goals
  go_wp2_with fail
  go_ret
  exact ⟨rfl, HT.out.drew, HK2.out⟩
theorem rack_any (H : RP w b v u c d) (hc : c.ok) (hd : d.ok) :
    Calls Tryz.prog 89 #[.pointer (some ⟨b, 0, none⟩)] w fun e w' => e = .returned (.int .i64 (vec0 c d : Nat)) ∧ RP w' b v u (tkc c d) (tkd c d) ∧ Keeps (· = b) w w' := by
 have h : Calls Tryz.prog 122 #[.pointer (some ⟨b, 0, none⟩), .int .i64 0] w fun e w' => e = .returned (.int .i64 (vec0 c d : Nat)) ∧ RP w' b v u (tkc c d) (tkd c d) ∧ Keeps (· = b) w w' := by
  cases ht : told0 c d
  ·exact rtake0_no H hc hd ht
  ·by_cases h2 : line0 c d = 2
   ·exact rtake0_two H hc hd ht h2
   ·exact rtake0_yes H hc hd ht h2
 have HT := Lib.hid h
 clear h H hc hd
 go_enter Tryz.func89, Tryz.ntmps89
 go_wp2_with fail
 refine HT.out.mono ?_
 rintro e w1 ⟨rfl, H1, K1⟩
 have HX := Lib.hid (And.intro H1 K1)
 clear H1 K1
 go_wp2_with fail
 go_ret
 exact ⟨rfl, HX.out.1, HX.out.2⟩
end
end Go.Proofs.YtojmpdddfnkffaaGreat.Pic

/- pic: the document's pair: a byte that is written to a chip's command port. -/
namespace Go.Proofs.YtojmpdddfnkffaaGreat.Pic
open Go.RowKit
set_option linter.unusedVariables false
set_option linter.unusedSimpArgs false

theorem infoInt : (Tryz.prog.info? 3).map (fun i => (i.zero, i.size, i.bytes)) = some (some (.int .i64 0), 1, 8) := by kernel_rfl
section
variable {w : World} {b g : Nat} {v u : Value} {c d : Chip} {S : Nat → Prop}
theorem zero8 (w : World) : (zeroValue 137).run Tryz.prog w = .ok (.agg (bits8 0).toArray) w := by kernel_rfl
def Gave (S : Nat → Prop) (w : World) (c : Chip) (e : Ending) (w' : World) : Prop := ∃ u, e = .returned (.agg (c.rcells u).toArray) ∧ RowC w' 3 1 u c.wants.length (numV c.wants) ∧ Below w.heap.size w w' ∧ ∀ k, u.ownBlock = some k → S k ∨ w.heap.size ≤ k
structure Own36 (S : Nat → Prop) (w0 w : World) (c : Chip) (v : Value) (L : List Nat) : Prop where
 A : ChipAt w w0.heap.size c v
 R : w.heap[w0.heap.size + 1]? = some (.cells zero36.toArray 139 (0, 0))
 B : Below w0.heap.size w0 w
 V : RowC w 3 1 v L.length (numV L)
 O : ∀ k, v.ownBlock = some k → S k ∨ w0.heap.size ≤ k
theorem Own36.beg (w : World) (c : Chip) (hv : RowC w 3 1 v c.wants.length (numV c.wants)) (hS : ∀ k, v.ownBlock = some k → S k) : Own36 S w ((w.alloc (.cells (c.rcells v).toArray 139)).alloc (.cells zero36.toArray 139)) c v c.wants := by
 have h1 := heap_new w (.cells (c.rcells v).toArray 139)
 have h2 := heap_new (w.alloc (.cells (c.rcells v).toArray 139)) (.cells zero36.toArray 139)
 refine ⟨⟨heap_alloc_lt h1⟩, ?_, below2 _ _ _, (hv.alloc _).alloc _, fun k hk => .inl (hS k hk)⟩
 rw [show w.heap.size + 1 = (w.alloc (.cells (c.rcells v).toArray 139)).heap.size by simp]; exact h2
theorem Own36.alloc {w0 : World} {L : List Nat} (h : Own36 S w0 w c v L) (o : Obj) : Own36 S w0 (w.alloc o) c v L := ⟨⟨heap_alloc_lt h.A.obj⟩, heap_alloc_lt h.R, h.B.alloc h.B.size _, h.V.alloc _, h.O⟩
theorem Own36.keep {w0 w1 : World} {L : List Nat} {c' : Chip} (h : Own36 S w0 w c v L) (K : Keeps (· = w0.heap.size) w w1) (A : ChipAt w1 w0.heap.size c' v) : Own36 S w0 w1 c' v L :=
 ⟨A, (K.block _ (heap_lt h.R) (by omega)).trans h.R, Keeps.toBelow h.B K h.B.size (fun k hk => by omega), h.V.of_heap fun k hk => K.block k (h.V.lt hk) (h.A.apart h.V hk), h.O⟩
theorem Own36.set {w0 : World} {L : List Nat} {c' : Chip} (h : Own36 S w0 w c v L) (k : Nat) (x : Value) (e : (c.rcells v).set k x = c'.rcells v) : Own36 S w0 (w.setCell ⟨w0.heap.size, k, none⟩ x) c' v L :=
 h.keep ((Keeps.refl _ _).setOne _ _) (h.A.set k x e)
def Chip.putPart (c : Chip) (f x : Nat) : Chip := if f = 0 then { c with asks := x } else if f = 1 then { c with served := x } else if f = 2 then { c with masked := x } else { c with up := x }
theorem ChipAt.putPart {g : Nat} (h : ChipAt w g c v) (f x : Nat) (hf : f < 4) : ChipAt (w.setCells g (8 * f) (bits8 x)) g (c.putPart f x) v := by
 refine ⟨?_⟩
 rw [setCells_heap g _ _ _ _ h.obj]
 rcases (show f = 0 ∨ f = 1 ∨ f = 2 ∨ f = 3 by omega) with rfl | rfl | rfl | rfl <;> kernel_rfl
theorem Own36.put {w0 : World} {L : List Nat} (h : Own36 S w0 w c v L) (f x : Nat) (hf : f < 4) : Own36 S w0 (w.setCells w0.heap.size (8 * f) (bits8 x)) (c.putPart f x) v L :=
 h.keep (keeps_setCells _ _ _ _) (h.A.putPart f x hf)
theorem Own36.there {w0 : World} {L : List Nat} (h : Own36 S w0 w c v L) (o n : Nat) (hn : o + n ≤ 36) : w.there w0.heap.size o n := fun j hj => by
 refine ⟨?_, h.A.free _⟩
 rw [cell_at h.A.obj, Array.getElem?_eq_getElem (show o + j < (c.rcells v).toArray.size by show _ < 36; omega)]; rfl
theorem Own36.gave {w0 : World} {L : List Nat} {c' : Chip} (h : Own36 S w0 w c v L) (e : c.rcells v = c'.rcells v) (hw : c'.wants = L) : Gave S w0 c' (.returned (.agg (c.rcells v).toArray)) (w.setRow (w0.heap.size + 1) (c.rcells v).toArray) := by
 have hh : (w.setRow (w0.heap.size + 1) (c.rcells v).toArray).heap[w0.heap.size + 1]? = _ := heap_row h.R
 refine ⟨v, by rw [e], ?_, below_setRow h.B (by omega) _, h.O⟩
 rw [hw]
 refine h.V.of_heap fun k hk => setRow_other _ _ _ _ ?_
 rintro rfl
 obtain ⟨cur, hc⟩ := h.V.block hk
 rw [h.R] at hc
 injection hc with hc; injection hc with _ hc _; exact absurd hc (by decide)
set_option maxRecDepth 100000 in
theorem bit_bt : ∀ x : Fin 256, bit x.val 16 = x.val.testBit 4 ∧ bit x.val 8 = x.val.testBit 3 ∧ bit x.val 2 = x.val.testBit 1 ∧ bit x.val 1 = x.val.testBit 0 ∧ x.val &&& 7 = x.val % 8 ∧ x.val &&& 248 = x.val - x.val % 8 := by decide +kernel
set_option maxRecDepth 100000 in
theorem low_clear : ∀ s : Fin 256, ∀ k : Fin 8, (s.val.testBit k.val = true ∧ ∀ j : Fin 8, j.val < k.val → s.val.testBit j.val = false) → s.val &&& ((s.val + 255) % 256) = s.val &&& (255 - 2 ^ k.val) := by decide +kernel
theorem serve_off (c : Chip) (v : Value) (j : Nat) (hj : j < 8) : (c.rcells v).set (8 + j) (.bool false) = ({ c with served := c.served &&& (255 - 2 ^ j) } : Chip).rcells v := by
 refine rc_set _ _ v 1 j (8 + j) (by decide) hj (by omega) false ?_ ⟨rfl, rfl, rfl⟩
 intro g i hg hi
 rcases (show g = 0 ∨ g = 1 ∨ g = 2 ∨ g = 3 by omega) with rfl | rfl | rfl | rfl
 ·rw [if_neg (by omega)]; rfl
 ·show bt (c.served &&& (255 - 2 ^ j)) i = _
  rw [bt_and, bt_npow j i hj hi]
  by_cases e : i = j
  ·rw [if_pos ⟨rfl, e⟩, decide_eq_true e.symm]; simp
  ·rw [if_neg (fun h => e h.2), decide_eq_false (fun h => e h.symm)]; simp; rfl
 ·rw [if_neg (by omega)]; rfl
 ·rw [if_neg (by omega)]; rfl
theorem bits8_one (x : Nat) : (bits8 x).toArray.all (·.oneCell') = true := by
 refine all_oneCell_toArray ?_
 intro y hy
 simp only [bits8, List.mem_cons, List.not_mem_nil, or_false] at hy
 rcases hy with rfl | rfl | rfl | rfl | rfl | rfl | rfl | rfl <;> rfl

-- LEMMAS
theorem Own36.ones {w0 : World} {L : List Nat} (h : Own36 S w0 w c v L) : (c.rcells v).toArray.all (·.oneCell') = true := rc_one c (RowC.one h.V)
theorem one_new' (w : World) (T : TypeId) (x : Value) : ∀ (j : Nat) (u : Value), [x][j]? = some u → (w.alloc (.cells #[x] T)).cell? ((⟨w.heap.size, 0, none⟩ : Addr).add j) = some u := by
 intro j u hj
 rw [Go.WideShapes.add_plain, Nat.zero_add]
 match j, hj with
 | 0, hj => injection hj with hj; rw [cell_at (heap_new _ _), ← hj]; rfl
theorem Own36.setV {w0 : World} {L : List Nat} {v' : Value} (h : Own36 S w0 w c v L) {w1 : World} {L' : List Nat} (A : w1.heap[w0.heap.size]? = some (.cells (c.rcells v).toArray 139 (0, 0))) (R : w1.heap[w0.heap.size + 1]? = some (.cells zero36.toArray 139 (0, 0)))
    (B : Below w0.heap.size w0 w1) (V : RowC w1 3 1 v' L'.length (numV L')) (O : ∀ k, v'.ownBlock = some k → w0.heap.size ≤ k) : Own36 S w0 (w1.setCell ⟨w0.heap.size, 35, none⟩ v') c v' L' := by
 have K : Keeps (· = w0.heap.size) w1 (w1.setCell ⟨w0.heap.size, 35, none⟩ v') := (Keeps.refl _ _).setOne _ _
 refine ⟨⟨?_⟩, (K.block _ (heap_lt R) (by omega)).trans R, Keeps.toBelow B K B.size (fun k hk => by omega), V.of_heap fun k hk => K.block k (V.lt hk) ((ChipAt.mk A).apart V hk), fun k hk => .inr (O k hk)⟩
 rw [heap_set_map, A]; rfl
theorem Own36.one {w0 : World} {L : List Nat} (h : Own36 S w0 w c v L) (n : Nat) : Own36 S w0 ((w.setCell ⟨w0.heap.size, 35, none⟩ (.slice (some ⟨w.heap.size, 0, none⟩) 1 1)).alloc (.cells #[.int .i64 (n : Nat)] 3)) c (.slice (some ⟨w.heap.size, 0, none⟩) 1 1) [n] := by
 have K : Keeps (· = w0.heap.size) w (w.setCell ⟨w0.heap.size, 35, none⟩ (.slice (some ⟨w.heap.size, 0, none⟩) 1 1)) := (Keeps.refl _ _).setOne _ _
 have hA := h.A.set (c' := c) 35 (.slice (some ⟨w.heap.size, 0, none⟩) 1 1)
 have hs : (w.setCell ⟨w0.heap.size, 35, none⟩ (.slice (some ⟨w.heap.size, 0, none⟩) 1 1)).heap.size = w.heap.size := by simp
 have B1 := Keeps.toBelow h.B K h.B.size (fun k hk => by omega)
 refine ⟨⟨heap_alloc_lt ?_⟩, heap_alloc_lt ((K.block _ (heap_lt h.R) (by omega)).trans h.R), B1.alloc B1.size _, ⟨rfl, .inr ⟨w.heap.size, 0, 1, #[.int .i64 (n : Nat)], rfl, ?_, Nat.le_refl _, by decide, Nat.le_refl _, fun j hj => ?_⟩⟩, fun k hk => by injection hk with hk; exact .inr (by rw [← hk]; exact h.B.size)⟩
 ·rw [heap_set_map, h.A.obj]; rfl
 ·have := heap_new (w.setCell ⟨w0.heap.size, 35, none⟩ (.slice (some ⟨w.heap.size, 0, none⟩) 1 1)) (.cells #[.int .i64 (n : Nat)] 3)
  rw [hs] at this; exact this
 ·obtain rfl : j = 0 := by have : j < 1 := hj; omega
  rfl
theorem Own36.grew {w0 : World} {L : List Nat} (h : Own36 S w0 w c v L) (hlo : ∀ k, v.ownBlock = some k → w0.heap.size ≤ k) (o : Obj) {w1 : World} (hg : (w.alloc o).grownBy w1 v.ownBlock) :
    w1.heap[w0.heap.size]? = some (.cells (c.rcells v).toArray 139 (0, 0)) ∧ w1.heap[w0.heap.size + 1]? = some (.cells zero36.toArray 139 (0, 0)) ∧ Below w0.heap.size w0 w1 := by
 have hs : w.heap.size < (w.alloc o).heap.size := by simp
 have hR : ∀ k, v.ownBlock = some k → k ≠ w0.heap.size + 1 := by
  rintro k hk rfl
  obtain ⟨cur, hc⟩ := h.V.block hk
  rw [h.R] at hc
  injection hc with hc; injection hc with _ hc _; exact absurd hc (by decide)
 have BA := h.B.alloc h.B.size o
 refine ⟨(hg.block _ (Nat.lt_trans h.A.lt hs) (fun e => h.A.apart h.V e.symm rfl)).trans (heap_alloc_lt h.A.obj), (hg.block _ (Nat.lt_trans (heap_lt h.R) hs) (fun e => hR _ e.symm rfl)).trans (heap_alloc_lt h.R), BA.grown hg BA.size hlo⟩
-- A COMMAND THAT SETS A CHIP UP
def Chip.fresh (c : Chip) : Chip := { c with asks := 0, served := 0, masked := 0, told := false, ends := false }
theorem rcommand_16 (hv : RowC w 3 1 v c.wants.length (numV c.wants)) (hS : ∀ k, v.ownBlock = some k → S k) (x : Nat) (hx : x < 256) (h4 : x.testBit 4 = true) :
    Calls Tryz.prog 139 #[.agg (c.rcells v).toArray, .int .u8 (x : Nat)] w (Gave S w (outC c true x)) := by
 obtain ⟨e4, -, e1, e0, -, -⟩ := bit_bt ⟨x, hx⟩
 have hout : outC c true x = Chip.mk 0 0 0 c.up c.base false false 1 (!x.testBit 1) (x.testBit 0) := by
  unfold outC
  rw [if_pos rfl, if_pos (e4.trans h4)]
  show Chip.mk _ _ _ _ _ _ _ _ (!bit x 2) (bit x 1) = _
  rw [show bit x 2 = _ from e1, show bit x 1 = _ from e0]
 have HOUT := Lib.hid hout
 obtain ⟨i0, hi, hz0, hz1, hz2⟩ := info_parts infoInt
 have hz := fun w => zeroChip w
 have hz8 := fun w => zero8 w
 have HB := Lib.hid (fun n (hn : n < 8) w => bit_any x n hx hn w)
 have h4' := Lib.hid h4
 have HO := Lib.hid (Own36.beg w c hv hS)
 clear hS
 clear h4 hx hv e4 e1 e0 hout
 go_enter Tryz.func139, Tryz.ntmps139
 go_wp2_with fail
 refine (HB.out 4 (by decide) _).mono ?_
 rintro e w1 ⟨rfl, rfl⟩
 rw [h4'.out]
 go_upto_region 3 with (fail)
 have O1 := HO.out.alloc (.cells (bits8 0).toArray 137)
 have N1 : (((w.alloc (.cells (c.rcells v).toArray 139)).alloc (.cells zero36.toArray 139)).alloc (.cells (bits8 0).toArray 137)).heap[w.heap.size + 1 + 1]? = some (.cells (bits8 0).toArray 137 (0, 0)) := by
  rw [show w.heap.size + 1 + 1 = ((w.alloc (.cells (c.rcells v).toArray 139)).alloc (.cells zero36.toArray 139)).heap.size by simp]; exact heap_new _ _
 change Code.wp _ _ _ _ (((w.alloc (.cells (c.rcells v).toArray 139)).alloc (.cells zero36.toArray 139)).alloc (.cells (bits8 0).toArray 137))
 generalize ((w.alloc (.cells (c.rcells v).toArray 139)).alloc (.cells zero36.toArray 139)).alloc (.cells (bits8 0).toArray 137) = W1 at *
 clear HO hz hz8
 have H1 := Lib.hid O1
 have M1 := Lib.hid N1
 clear O1 N1
 go_upto_region 4 with (first | (refine wpList_load_row rfl _ _ rfl (w.heap.size + 1 + 1) rfl _ _ _ _ M1.out Tryz.underlying137 rfl info8 ?_) | (refine wpList_store_mid rfl _ _ _ rfl w.heap.size 0 (bits8 0).toArray rfl rfl (H1.out.there 0 8 (by decide)) info8 (bits8_one 0) ?_))
 have O2 := H1.out.put 0 0 (by decide)
 have N2 := heap_keeps (keeps_setCells W1 w.heap.size (8 * 0) (bits8 0)) (by omega) M1.out
 change Code.wp _ _ _ _ (W1.setCells w.heap.size (8 * 0) (bits8 0))
 generalize W1.setCells w.heap.size (8 * 0) (bits8 0) = W2 at *
 clear H1 M1
 have H2 := Lib.hid O2
 have M2 := Lib.hid N2
 clear O2 N2
 go_upto_region 5 with (first | (refine wpList_load_row rfl _ _ rfl (w.heap.size + 1 + 1) rfl _ _ _ _ M2.out Tryz.underlying137 rfl info8 ?_) | (refine wpList_store_mid rfl _ _ _ rfl w.heap.size 8 (bits8 0).toArray rfl rfl (H2.out.there 8 8 (by decide)) info8 (bits8_one 0) ?_))
 have O3 := H2.out.put 1 0 (by decide)
 have N3 := heap_keeps (keeps_setCells W2 w.heap.size (8 * 1) (bits8 0)) (by omega) M2.out
 change Code.wp _ _ _ _ (W2.setCells w.heap.size (8 * 1) (bits8 0))
 generalize W2.setCells w.heap.size (8 * 1) (bits8 0) = W3 at *
 clear H2 M2
 have H3 := Lib.hid O3
 have M3 := Lib.hid N3
 clear O3 N3
 go_upto_region 6 with (first | (refine wpList_load_row rfl _ _ rfl (w.heap.size + 1 + 1) rfl _ _ _ _ M3.out Tryz.underlying137 rfl info8 ?_) | (refine wpList_store_mid rfl _ _ _ rfl w.heap.size 16 (bits8 0).toArray rfl rfl (H3.out.there 16 8 (by decide)) info8 (bits8_one 0) ?_))
 have O4 := H3.out.put 2 0 (by decide)
 change Code.wp _ _ _ _ (W3.setCells w.heap.size (8 * 2) (bits8 0))
 generalize W3.setCells w.heap.size (8 * 2) (bits8 0) = W4 at *
 clear H3 M3
 obtain ⟨k32, k33, k34, k35⟩ := O4.A.rest
 have hf := O4.A.free
 have hl := O4.A.lt
 have H4 := Lib.hid O4
 clear O4
 obtain ⟨va, vn, vc, hvv⟩ : ∃ a n c, v = .slice a n c := by obtain ⟨a, c, h⟩ := H4.out.V.len; exact ⟨_, _, _, h⟩
 rw [hvv] at k35
 clear hvv
 go_upto_region 9 with (fail)
 have O5 := ((H4.out.set (c' := { (c.putPart 0 0).putPart 1 0 |>.putPart 2 0 with told := false }) 33 (.bool false) rfl).set (c' := { (c.putPart 0 0).putPart 1 0 |>.putPart 2 0 with told := false, ends := false }) 34 (.bool false) rfl).one 1
 simp only [World.size_setCell] at O5
 change Code.wp _ _ _ _ ((((W4.setCell ⟨w.heap.size, 33, none⟩ (.bool false)).setCell ⟨w.heap.size, 34, none⟩ (.bool false)).setCell ⟨w.heap.size, 35, none⟩ (.slice (some ⟨W4.heap.size, 0, none⟩) 1 1)).alloc (.cells #[.int .i64 1] 3))
 have hlo : ∀ k, (Value.slice (some ⟨W4.heap.size, 0, none⟩) 1 1).ownBlock = some k → w.heap.size ≤ k := fun k hk => by injection hk with hk; rw [← hk]; exact H4.out.B.size
 clear k32 k33 k34 k35 hf hl
 generalize (((W4.setCell ⟨w.heap.size, 33, none⟩ (.bool false)).setCell ⟨w.heap.size, 34, none⟩ (.bool false)).setCell ⟨w.heap.size, 35, none⟩ (.slice (some ⟨W4.heap.size, 0, none⟩) 1 1)).alloc (.cells #[.int .i64 1] 3) = W5 at *
 generalize W4.heap.size = q at *
 clear H4
 have H5 := Lib.hid (And.intro O5 hlo)
 clear O5 hlo
 go_wp2_with fail
 refine (HB.out 1 (by decide) _).mono ?_
 rintro e w1 ⟨rfl, rfl⟩
 cases hb1 : x.testBit 1 <;> cases hb0 : x.testBit 0
 ·have HB1 := Lib.hid hb1
  have HB0 := Lib.hid hb0
  clear hb1 hb0
  obtain ⟨-, -, -, k35⟩ := H5.out.1.A.rest
  have hf := H5.out.1.A.free
  have hl := H5.out.1.A.lt
  have hc2 := Lib.hid (one_new' W5 3 (.int .i64 2))
  go_upto_region 11 with (at_builtin; (refine wpList_append_c rfl _ _ 103 rfl i0 (.int .i64 0) 1 8 Tryz.underlying103 hi hz0 hz1 hz2 rfl (by decide) rfl (H5.out.1.V.alloc _) ⟨W5.heap.size, 0, none⟩ 1 [.int .i64 2] rfl rfl hc2.out (fun u hu => by rw [List.mem_singleton.1 hu]; rfl) (by decide) (by decide) ?_); intro a2 c2 w2 hown1 hgrow1 hat; obtain ⟨g1, g2, g3⟩ := H5.out.1.grew H5.out.2 _ hgrow1; have HX := Lib.hid (And.intro (H5.out.1.setV (L' := [1, 2]) g1 g2 g3 hown1 (fun k hk => (hat k hk).elim (H5.out.2 k) (fun h => Nat.le_trans (Nat.le_trans H5.out.1.B.size (by simp)) h))) (fun k hk => (hat k hk).elim (H5.out.2 k) (fun h => Nat.le_trans (Nat.le_trans H5.out.1.B.size (by simp)) h))); have j35 := (ChipAt.mk g1).rest.2.2.2; have jf := (ChipAt.mk g1).free; have jl := heap_lt g1; clear hown1 hgrow1 hat g1 g2 g3 k35 hf hl)
  change Code.wp _ _ _ _ (w2.setCell ⟨w.heap.size, 35, none⟩ (.slice a2 2 c2))
  clear H5 j35 jf jl hc2
  generalize w2.setCell ⟨w.heap.size, 35, none⟩ (.slice a2 2 c2) = W6 at *
  have H6 := Lib.hid HX.out
  clear HX
  go_wp2_with fail
  refine (HB.out 0 (by decide) _).mono ?_
  rintro e w1 ⟨rfl, rfl⟩
  rw [HB0.out]
  have HR := Lib.hid H6.out.1.R
  have HA := Lib.hid H6.out.1.A.obj
  have HE := Lib.hid (show Gave S w (outC c true x) _ _ from by rw [HOUT.out, HB1.out, HB0.out]; exact H6.out.1.gave rfl rfl)
  have HO1 := Lib.hid H6.out.1.ones
  go_wp2_with (first | (refine wpList_load_row rfl _ _ rfl w.heap.size rfl _ _ _ _ HA.out Tryz.underlying139 rfl info36 ?_) | (refine wpList_store_row rfl _ _ _ rfl (w.heap.size + 1) _ rfl rfl _ _ HR.out info36 rfl HO1.out ?_))
  exact bodyPost_ret (v := _) (results_cell_row rfl _ _ (w.heap.size + 1) _ _ _ _ rfl (heap_row HR.out) Tryz.underlying139 rfl info36) rfl HE.out
 ·have HB1 := Lib.hid hb1
  have HB0 := Lib.hid hb0
  clear hb1 hb0
  obtain ⟨-, -, -, k35⟩ := H5.out.1.A.rest
  have hf := H5.out.1.A.free
  have hl := H5.out.1.A.lt
  have hc2 := Lib.hid (one_new' W5 3 (.int .i64 2))
  go_upto_region 11 with (at_builtin; (refine wpList_append_c rfl _ _ 103 rfl i0 (.int .i64 0) 1 8 Tryz.underlying103 hi hz0 hz1 hz2 rfl (by decide) rfl (H5.out.1.V.alloc _) ⟨W5.heap.size, 0, none⟩ 1 [.int .i64 2] rfl rfl hc2.out (fun u hu => by rw [List.mem_singleton.1 hu]; rfl) (by decide) (by decide) ?_); intro a2 c2 w2 hown1 hgrow1 hat; obtain ⟨g1, g2, g3⟩ := H5.out.1.grew H5.out.2 _ hgrow1; have HX := Lib.hid (And.intro (H5.out.1.setV (L' := [1, 2]) g1 g2 g3 hown1 (fun k hk => (hat k hk).elim (H5.out.2 k) (fun h => Nat.le_trans (Nat.le_trans H5.out.1.B.size (by simp)) h))) (fun k hk => (hat k hk).elim (H5.out.2 k) (fun h => Nat.le_trans (Nat.le_trans H5.out.1.B.size (by simp)) h))); have j35 := (ChipAt.mk g1).rest.2.2.2; have jf := (ChipAt.mk g1).free; have jl := heap_lt g1; clear hown1 hgrow1 hat g1 g2 g3 k35 hf hl)
  change Code.wp _ _ _ _ (w2.setCell ⟨w.heap.size, 35, none⟩ (.slice a2 2 c2))
  clear H5 j35 jf jl hc2
  generalize w2.setCell ⟨w.heap.size, 35, none⟩ (.slice a2 2 c2) = W6 at *
  have H6 := Lib.hid HX.out
  clear HX
  go_wp2_with fail
  refine (HB.out 0 (by decide) _).mono ?_
  rintro e w1 ⟨rfl, rfl⟩
  rw [HB0.out]
  obtain ⟨-, -, -, k35⟩ := H6.out.1.A.rest
  have hf := H6.out.1.A.free
  have hl := H6.out.1.A.lt
  have hc3 := Lib.hid (one_new' W6 3 (.int .i64 3))
  go_upto_region 13 with (at_builtin; (refine wpList_append_c rfl _ _ 103 rfl i0 (.int .i64 0) 1 8 Tryz.underlying103 hi hz0 hz1 hz2 rfl (by decide) rfl (H6.out.1.V.alloc _) ⟨W6.heap.size, 0, none⟩ 1 [.int .i64 3] rfl rfl hc3.out (fun u hu => by rw [List.mem_singleton.1 hu]; rfl) (by decide) (by decide) ?_); intro a3 c3 w3 hown1 hgrow1 hat; obtain ⟨g1, g2, g3⟩ := H6.out.1.grew H6.out.2 _ hgrow1; have HX := Lib.hid (And.intro (H6.out.1.setV (L' := [1, 2, 3]) g1 g2 g3 hown1 (fun k hk => (hat k hk).elim (H6.out.2 k) (fun h => Nat.le_trans (Nat.le_trans H6.out.1.B.size (by simp)) h))) (fun k hk => (hat k hk).elim (H6.out.2 k) (fun h => Nat.le_trans (Nat.le_trans H6.out.1.B.size (by simp)) h))); have j35 := (ChipAt.mk g1).rest.2.2.2; have jf := (ChipAt.mk g1).free; have jl := heap_lt g1; clear hown1 hgrow1 hat g1 g2 g3 k35 hf hl)
  change Code.wp _ _ _ _ (w3.setCell ⟨w.heap.size, 35, none⟩ (.slice a3 3 c3))
  clear H6 j35 jf jl hc3
  generalize w3.setCell ⟨w.heap.size, 35, none⟩ (.slice a3 3 c3) = W7 at *
  have H7 := Lib.hid HX.out
  clear HX
  have HR := Lib.hid H7.out.1.R
  have HA := Lib.hid H7.out.1.A.obj
  have HE := Lib.hid (show Gave S w (outC c true x) _ _ from by rw [HOUT.out, HB1.out, HB0.out]; exact H7.out.1.gave rfl rfl)
  have HO1 := Lib.hid H7.out.1.ones
  go_wp2_with (first | (refine wpList_load_row rfl _ _ rfl w.heap.size rfl _ _ _ _ HA.out Tryz.underlying139 rfl info36 ?_) | (refine wpList_store_row rfl _ _ _ rfl (w.heap.size + 1) _ rfl rfl _ _ HR.out info36 rfl HO1.out ?_))
  exact bodyPost_ret (v := _) (results_cell_row rfl _ _ (w.heap.size + 1) _ _ _ _ rfl (heap_row HR.out) Tryz.underlying139 rfl info36) rfl HE.out
 ·have HB1 := Lib.hid hb1
  have HB0 := Lib.hid hb0
  clear hb1 hb0
  go_wp2_with fail
  refine (HB.out 0 (by decide) _).mono ?_
  rintro e w1 ⟨rfl, rfl⟩
  rw [HB0.out]
  have HR := Lib.hid H5.out.1.R
  have HA := Lib.hid H5.out.1.A.obj
  have HE := Lib.hid (show Gave S w (outC c true x) _ _ from by rw [HOUT.out, HB1.out, HB0.out]; exact H5.out.1.gave rfl rfl)
  have HO1 := Lib.hid H5.out.1.ones
  go_wp2_with (first | (refine wpList_load_row rfl _ _ rfl w.heap.size rfl _ _ _ _ HA.out Tryz.underlying139 rfl info36 ?_) | (refine wpList_store_row rfl _ _ _ rfl (w.heap.size + 1) _ rfl rfl _ _ HR.out info36 rfl HO1.out ?_))
  exact bodyPost_ret (v := _) (results_cell_row rfl _ _ (w.heap.size + 1) _ _ _ _ rfl (heap_row HR.out) Tryz.underlying139 rfl info36) rfl HE.out
 ·have HB1 := Lib.hid hb1
  have HB0 := Lib.hid hb0
  clear hb1 hb0
  go_wp2_with fail
  refine (HB.out 0 (by decide) _).mono ?_
  rintro e w1 ⟨rfl, rfl⟩
  rw [HB0.out]
  obtain ⟨-, -, -, k35⟩ := H5.out.1.A.rest
  have hf := H5.out.1.A.free
  have hl := H5.out.1.A.lt
  have hc3 := Lib.hid (one_new' W5 3 (.int .i64 3))
  go_upto_region 13 with (at_builtin; (refine wpList_append_c rfl _ _ 103 rfl i0 (.int .i64 0) 1 8 Tryz.underlying103 hi hz0 hz1 hz2 rfl (by decide) rfl (H5.out.1.V.alloc _) ⟨W5.heap.size, 0, none⟩ 1 [.int .i64 3] rfl rfl hc3.out (fun u hu => by rw [List.mem_singleton.1 hu]; rfl) (by decide) (by decide) ?_); intro a3 c3 w3 hown1 hgrow1 hat; obtain ⟨g1, g2, g3⟩ := H5.out.1.grew H5.out.2 _ hgrow1; have HX := Lib.hid (And.intro (H5.out.1.setV (L' := [1, 3]) g1 g2 g3 hown1 (fun k hk => (hat k hk).elim (H5.out.2 k) (fun h => Nat.le_trans (Nat.le_trans H5.out.1.B.size (by simp)) h))) (fun k hk => (hat k hk).elim (H5.out.2 k) (fun h => Nat.le_trans (Nat.le_trans H5.out.1.B.size (by simp)) h))); have j35 := (ChipAt.mk g1).rest.2.2.2; have jf := (ChipAt.mk g1).free; have jl := heap_lt g1; clear hown1 hgrow1 hat g1 g2 g3 k35 hf hl)
  change Code.wp _ _ _ _ (w3.setCell ⟨w.heap.size, 35, none⟩ (.slice a3 2 c3))
  clear H5 j35 jf jl hc3
  generalize w3.setCell ⟨w.heap.size, 35, none⟩ (.slice a3 2 c3) = W7 at *
  have H7 := Lib.hid HX.out
  clear HX
  have HR := Lib.hid H7.out.1.R
  have HA := Lib.hid H7.out.1.A.obj
  have HE := Lib.hid (show Gave S w (outC c true x) _ _ from by rw [HOUT.out, HB1.out, HB0.out]; exact H7.out.1.gave rfl rfl)
  have HO1 := Lib.hid H7.out.1.ones
  go_wp2_with (first | (refine wpList_load_row rfl _ _ rfl w.heap.size rfl _ _ _ _ HA.out Tryz.underlying139 rfl info36 ?_) | (refine wpList_store_row rfl _ _ _ rfl (w.heap.size + 1) _ rfl rfl _ _ HR.out info36 rfl HO1.out ?_))
  exact bodyPost_ret (v := _) (results_cell_row rfl _ _ (w.heap.size + 1) _ _ _ _ rfl (heap_row HR.out) Tryz.underlying139 rfl info36) rfl HE.out
end
end Go.Proofs.YtojmpdddfnkffaaGreat.Pic

/- pic: the document's pair: the other commands, data, what is written. -/
namespace Go.Proofs.YtojmpdddfnkffaaGreat.Pic
open Go.RowKit
set_option linter.unusedVariables false
set_option linter.unusedSimpArgs false

theorem outC_8 (c : Chip) (x : Nat) (h4 : bit x 16 = false) (h3 : bit x 8 = true) : outC c true x = if bit x 2 then { c with told := bit x 1 } else c := by
 unfold outC; rw [if_pos rfl, if_neg (by rw [h4]; decide), if_pos h3]
theorem outC_0 (c : Chip) (x : Nat) (h4 : bit x 16 = false) (h3 : bit x 8 = false) : outC c true x = if x / 32 = 1 then { c with served := c.served &&& ((c.served + 255) % 256) } else if x / 32 = 3 then { c with served := c.served &&& (255 - 2 ^ (x &&& 7)) } else c := by
 unfold outC; rw [if_pos rfl, if_neg (by rw [h4]; decide), if_neg (by rw [h3]; decide)]
section
variable {w : World} {b g : Nat} {v u : Value} {c d : Chip} {S : Nat → Prop}
theorem rcommand_8n (hv : RowC w 3 1 v c.wants.length (numV c.wants)) (hS : ∀ k, v.ownBlock = some k → S k) (hc : c.ok) (x : Nat) (hx : x < 256) (h4 : x.testBit 4 = false) (h3 : x.testBit 3 = true) (h1 : x.testBit 1 = false) :
    Calls Tryz.prog 139 #[.agg (c.rcells v).toArray, .int .u8 (x : Nat)] w (Gave S w (outC c true x)) := by
 obtain ⟨e4, e3, e1, e0, e7, -⟩ := bit_bt ⟨x, hx⟩
 have HOUT := Lib.hid (show outC c true x = c from by rw [outC_8 c x (e4.trans h4) (e3.trans h3), show bit x 2 = _ from e1, h1]; rfl)
 have hz := fun w => zeroChip w
 have hz8 := fun w => zero8 w
 have HB := Lib.hid (fun n (hn : n < 8) w => bit_any x n hx hn w)
 have HO := Lib.hid ((Own36.beg w c hv hS).alloc (.cells (bits8 0).toArray 137))
 clear hS
 have HC := Lib.hid hc
 have H4 := Lib.hid h4
 have H3 := Lib.hid h3
 have H1b := Lib.hid h1
 clear hv hc hx h4 h3 h1 e4 e3 e1 e0 e7
 go_enter Tryz.func139, Tryz.ntmps139
 go_wp2_with fail
 refine (HB.out 4 (by decide) _).mono ?_
 rintro e w1 ⟨rfl, rfl⟩
 rw [H4.out]
 go_upto_region 14 with (fail)
 have O1 := HO.out
 change Code.wp _ _ _ _ (((w.alloc (.cells (c.rcells v).toArray 139)).alloc (.cells zero36.toArray 139)).alloc (.cells (bits8 0).toArray 137))
 clear HO hz hz8
 generalize ((w.alloc (.cells (c.rcells v).toArray 139)).alloc (.cells zero36.toArray 139)).alloc (.cells (bits8 0).toArray 137) = W1 at *
 have H1 := Lib.hid O1
 clear O1
 obtain ⟨k32, k33, k34, -⟩ := H1.out.A.rest
 have hf := H1.out.A.free
 have hl := H1.out.A.lt
 go_wp2_with fail
 refine (HB.out 3 (by decide) _).mono ?_
 rintro e w1 ⟨rfl, rfl⟩
 rw [H3.out]
 go_wp2_with fail
 refine (HB.out 1 (by decide) _).mono ?_
 rintro e w1 ⟨rfl, rfl⟩
 rw [H1b.out]
 have HE1 := H1
 have HGV : Own36 S w W1 c v c.wants → Gave S w (outC c true x) (.returned (.agg (c.rcells v).toArray)) (W1.setRow (w.heap.size + 1) (c.rcells v).toArray) := fun h => by rw [HOUT.out]; exact h.gave rfl rfl
 clear H1 k32 k33 k34 hf hl
 have HR := Lib.hid HE1.out.R
 have HA := Lib.hid HE1.out.A.obj
 have HG := Lib.hid (HGV HE1.out)
 have HO1 := Lib.hid HE1.out.ones
 clear HGV
 go_wp2_with (first | (refine wpList_load_row rfl _ _ rfl w.heap.size rfl _ _ _ _ HA.out Tryz.underlying139 rfl info36 ?_) | (refine wpList_store_row rfl _ _ _ rfl (w.heap.size + 1) _ rfl rfl _ _ HR.out info36 rfl HO1.out ?_))
 exact bodyPost_ret (v := _) (results_cell_row rfl _ _ (w.heap.size + 1) _ _ _ _ rfl (heap_row HR.out) Tryz.underlying139 rfl info36) rfl HG.out
theorem rcommand_8y (hv : RowC w 3 1 v c.wants.length (numV c.wants)) (hS : ∀ k, v.ownBlock = some k → S k) (hc : c.ok) (x : Nat) (hx : x < 256) (h4 : x.testBit 4 = false) (h3 : x.testBit 3 = true) (h1 : x.testBit 1 = true) :
    Calls Tryz.prog 139 #[.agg (c.rcells v).toArray, .int .u8 (x : Nat)] w (Gave S w (outC c true x)) := by
 obtain ⟨e4, e3, e1, e0, e7, -⟩ := bit_bt ⟨x, hx⟩
 have HOUT := Lib.hid (show outC c true x = { c with told := x.testBit 0 } from by rw [outC_8 c x (e4.trans h4) (e3.trans h3), show bit x 2 = _ from e1, h1, show bit x 1 = _ from e0]; rfl)
 have hz := fun w => zeroChip w
 have hz8 := fun w => zero8 w
 have HB := Lib.hid (fun n (hn : n < 8) w => bit_any x n hx hn w)
 have HO := Lib.hid ((Own36.beg w c hv hS).alloc (.cells (bits8 0).toArray 137))
 clear hS
 have HC := Lib.hid hc
 have H4 := Lib.hid h4
 have H3 := Lib.hid h3
 have H1b := Lib.hid h1
 clear hv hc hx h4 h3 h1 e4 e3 e1 e0 e7
 go_enter Tryz.func139, Tryz.ntmps139
 go_wp2_with fail
 refine (HB.out 4 (by decide) _).mono ?_
 rintro e w1 ⟨rfl, rfl⟩
 rw [H4.out]
 go_upto_region 14 with (fail)
 have O1 := HO.out
 change Code.wp _ _ _ _ (((w.alloc (.cells (c.rcells v).toArray 139)).alloc (.cells zero36.toArray 139)).alloc (.cells (bits8 0).toArray 137))
 clear HO hz hz8
 generalize ((w.alloc (.cells (c.rcells v).toArray 139)).alloc (.cells zero36.toArray 139)).alloc (.cells (bits8 0).toArray 137) = W1 at *
 have H1 := Lib.hid O1
 clear O1
 obtain ⟨k32, k33, k34, -⟩ := H1.out.A.rest
 have hf := H1.out.A.free
 have hl := H1.out.A.lt
 go_wp2_with fail
 refine (HB.out 3 (by decide) _).mono ?_
 rintro e w1 ⟨rfl, rfl⟩
 rw [H3.out]
 go_wp2_with fail
 refine (HB.out 1 (by decide) _).mono ?_
 rintro e w1 ⟨rfl, rfl⟩
 rw [H1b.out]
 go_wp2_with fail
 refine (HB.out 0 (by decide) _).mono ?_
 rintro e w1 ⟨rfl, rfl⟩
 generalize x.testBit 0 = t at *
 go_upto_region 17 with (fail)
 have HE1 := Lib.hid (H1.out.set (c' := { c with told := t }) 33 (.bool t) rfl)
 change Code.wp _ _ _ _ (W1.setCell ⟨w.heap.size, 33, none⟩ (.bool t))
 clear k32 k33 k34 hf hl H1
 generalize W1.setCell ⟨w.heap.size, 33, none⟩ (.bool t) = W2 at *
 have HGV : Own36 S w W2 { c with told := t } v c.wants → Gave S w (outC c true x) (.returned (.agg (({ c with told := t } : Chip).rcells v).toArray)) (W2.setRow (w.heap.size + 1) (({ c with told := t } : Chip).rcells v).toArray) := fun h => by rw [HOUT.out]; exact h.gave rfl rfl
 have HR := Lib.hid HE1.out.R
 have HA := Lib.hid HE1.out.A.obj
 have HG := Lib.hid (HGV HE1.out)
 have HO1 := Lib.hid HE1.out.ones
 clear HGV
 go_wp2_with (first | (refine wpList_load_row rfl _ _ rfl w.heap.size rfl _ _ _ _ HA.out Tryz.underlying139 rfl info36 ?_) | (refine wpList_store_row rfl _ _ _ rfl (w.heap.size + 1) _ rfl rfl _ _ HR.out info36 rfl HO1.out ?_))
 exact bodyPost_ret (v := _) (results_cell_row rfl _ _ (w.heap.size + 1) _ _ _ _ rfl (heap_row HR.out) Tryz.underlying139 rfl info36) rfl HG.out
theorem rcommand_3 (hv : RowC w 3 1 v c.wants.length (numV c.wants)) (hS : ∀ k, v.ownBlock = some k → S k) (hc : c.ok) (x : Nat) (hx : x < 256) (h4 : x.testBit 4 = false) (h3 : x.testBit 3 = false) (h5 : x / 32 = 3) :
    Calls Tryz.prog 139 #[.agg (c.rcells v).toArray, .int .u8 (x : Nat)] w (Gave S w (outC c true x)) := by
 obtain ⟨e4, e3, e1, e0, e7, -⟩ := bit_bt ⟨x, hx⟩
 have HOUT := Lib.hid (show outC c true x = { c with served := c.served &&& (255 - 2 ^ (x % 8)) } from by rw [outC_0 c x (e4.trans h4) (e3.trans h3), if_neg (by omega), if_pos h5, show x &&& 7 = _ from e7])
 have hz := fun w => zeroChip w
 have hz8 := fun w => zero8 w
 have HB := Lib.hid (fun n (hn : n < 8) w => bit_any x n hx hn w)
 have HO := Lib.hid ((Own36.beg w c hv hS).alloc (.cells (bits8 0).toArray 137))
 clear hS
 have HC := Lib.hid hc
 have H4 := Lib.hid h4
 have H3 := Lib.hid h3
 have p1 : (0 : Int) ≤ (x : Int) := by omega
 have p2 : (x : Int) ≤ 255 := by omega
 have p3 : ((x : Int) / 32 == 3) = true := by simpa using (by omega : (x : Int) / 32 = 3)
 have p4 : ((x : Int) / 32 == 1) = false := by simpa using (by omega : ¬ (x : Int) / 32 = 1)
 have hj : x % 8 < 8 := by omega
 have p5 : (x : Int) % 8 = ((x % 8 : Nat) : Int) := by omega
 have HP5 := Lib.hid p5
 have p6 : (0 : Int) ≤ (x : Int) % 8 := by omega
 have p7 : (x : Int) % 8 < 8 := by omega
 clear hv hc hx h4 h3 h5 e4 e3 e1 e0 e7 p5
 go_enter Tryz.func139, Tryz.ntmps139
 go_wp2_with fail
 refine (HB.out 4 (by decide) _).mono ?_
 rintro e w1 ⟨rfl, rfl⟩
 rw [H4.out]
 go_upto_region 14 with (fail)
 have O1 := HO.out
 change Code.wp _ _ _ _ (((w.alloc (.cells (c.rcells v).toArray 139)).alloc (.cells zero36.toArray 139)).alloc (.cells (bits8 0).toArray 137))
 clear HO hz hz8
 generalize ((w.alloc (.cells (c.rcells v).toArray 139)).alloc (.cells zero36.toArray 139)).alloc (.cells (bits8 0).toArray 137) = W1 at *
 have H1 := Lib.hid O1
 clear O1
 obtain ⟨k32, k33, k34, -⟩ := H1.out.A.rest
 have hf := H1.out.A.free
 have hl := H1.out.A.lt
 go_wp2_with fail
 refine (HB.out 3 (by decide) _).mono ?_
 rintro e w1 ⟨rfl, rfl⟩
 rw [H3.out]
 have k8 : W1.cell? ⟨w.heap.size, 8 + x % 8, none⟩ = some (.bool (bt c.served (x % 8))) := H1.out.A.bit 1 _ _ (by decide) hj rfl
 go_upto_region 27 with (fail)
 have HE1 := Lib.hid (H1.out.set (8 + x % 8) (.bool false) (serve_off c v (x % 8) hj))
 change Code.wp _ _ _ _ (W1.setCell ⟨w.heap.size, 8 + x % 8, none⟩ (.bool false))
 clear k32 k33 k34 hf hl H1 k8
 generalize W1.setCell ⟨w.heap.size, 8 + x % 8, none⟩ (.bool false) = W2 at *
 have HGV : Own36 S w W2 { c with served := c.served &&& (255 - 2 ^ (x % 8)) } v c.wants → Gave S w (outC c true x) (.returned (.agg (({ c with served := c.served &&& (255 - 2 ^ (x % 8)) } : Chip).rcells v).toArray)) (W2.setRow (w.heap.size + 1) (({ c with served := c.served &&& (255 - 2 ^ (x % 8)) } : Chip).rcells v).toArray) := fun h => by rw [HOUT.out]; exact h.gave rfl rfl
 have HR := Lib.hid HE1.out.R
 have HA := Lib.hid HE1.out.A.obj
 have HG := Lib.hid (HGV HE1.out)
 have HO1 := Lib.hid HE1.out.ones
 clear HGV
 go_wp2_with (first | (refine wpList_load_row rfl _ _ rfl w.heap.size rfl _ _ _ _ HA.out Tryz.underlying139 rfl info36 ?_) | (refine wpList_store_row rfl _ _ _ rfl (w.heap.size + 1) _ rfl rfl _ _ HR.out info36 rfl HO1.out ?_))
 exact bodyPost_ret (v := _) (results_cell_row rfl _ _ (w.heap.size + 1) _ _ _ _ rfl (heap_row HR.out) Tryz.underlying139 rfl info36) rfl HG.out
theorem rcommand_n (hv : RowC w 3 1 v c.wants.length (numV c.wants)) (hS : ∀ k, v.ownBlock = some k → S k) (hc : c.ok) (x : Nat) (hx : x < 256) (h4 : x.testBit 4 = false) (h3 : x.testBit 3 = false) (h5 : x / 32 ≠ 3) (h6 : x / 32 ≠ 1) :
    Calls Tryz.prog 139 #[.agg (c.rcells v).toArray, .int .u8 (x : Nat)] w (Gave S w (outC c true x)) := by
 obtain ⟨e4, e3, e1, e0, e7, -⟩ := bit_bt ⟨x, hx⟩
 have HOUT := Lib.hid (show outC c true x = c from by rw [outC_0 c x (e4.trans h4) (e3.trans h3), if_neg h6, if_neg h5])
 have hz := fun w => zeroChip w
 have hz8 := fun w => zero8 w
 have HB := Lib.hid (fun n (hn : n < 8) w => bit_any x n hx hn w)
 have HO := Lib.hid ((Own36.beg w c hv hS).alloc (.cells (bits8 0).toArray 137))
 clear hS
 have HC := Lib.hid hc
 have H4 := Lib.hid h4
 have H3 := Lib.hid h3
 have p1 : (0 : Int) ≤ (x : Int) := by omega
 have p2 : (x : Int) ≤ 255 := by omega
 have p3 : ((x : Int) / 32 == 3) = false := by simpa using (by omega : ¬ (x : Int) / 32 = 3)
 have p4 : ((x : Int) / 32 == 1) = false := by simpa using (by omega : ¬ (x : Int) / 32 = 1)
 clear hv hc hx h4 h3 h5 h6 e4 e3 e1 e0 e7
 go_enter Tryz.func139, Tryz.ntmps139
 go_wp2_with fail
 refine (HB.out 4 (by decide) _).mono ?_
 rintro e w1 ⟨rfl, rfl⟩
 rw [H4.out]
 go_upto_region 14 with (fail)
 have O1 := HO.out
 change Code.wp _ _ _ _ (((w.alloc (.cells (c.rcells v).toArray 139)).alloc (.cells zero36.toArray 139)).alloc (.cells (bits8 0).toArray 137))
 clear HO hz hz8
 generalize ((w.alloc (.cells (c.rcells v).toArray 139)).alloc (.cells zero36.toArray 139)).alloc (.cells (bits8 0).toArray 137) = W1 at *
 have H1 := Lib.hid O1
 clear O1
 obtain ⟨k32, k33, k34, -⟩ := H1.out.A.rest
 have hf := H1.out.A.free
 have hl := H1.out.A.lt
 go_wp2_with fail
 refine (HB.out 3 (by decide) _).mono ?_
 rintro e w1 ⟨rfl, rfl⟩
 rw [H3.out]
 go_upto_region 27 with (fail)
 have HE1 := H1
 have HGV : Own36 S w W1 c v c.wants → Gave S w (outC c true x) (.returned (.agg (c.rcells v).toArray)) (W1.setRow (w.heap.size + 1) (c.rcells v).toArray) := fun h => by rw [HOUT.out]; exact h.gave rfl rfl
 clear H1 k32 k33 k34 hf hl
 have HR := Lib.hid HE1.out.R
 have HA := Lib.hid HE1.out.A.obj
 have HG := Lib.hid (HGV HE1.out)
 have HO1 := Lib.hid HE1.out.ones
 clear HGV
 go_wp2_with (first | (refine wpList_load_row rfl _ _ rfl w.heap.size rfl _ _ _ _ HA.out Tryz.underlying139 rfl info36 ?_) | (refine wpList_store_row rfl _ _ _ rfl (w.heap.size + 1) _ rfl rfl _ _ HR.out info36 rfl HO1.out ?_))
 exact bodyPost_ret (v := _) (results_cell_row rfl _ _ (w.heap.size + 1) _ _ _ _ rfl (heap_row HR.out) Tryz.underlying139 rfl info36) rfl HG.out
def Low (s k : Nat) : Prop := ∀ j, j < k → bt s j = false
theorem low_all {s : Nat} (hs : s < 256) (h : Low s 8) : s = 0 := bits_eq hs (by decide) fun j hj => (h j hj).trans (by rw [Nat.zero_testBit])
theorem low_one {s k : Nat} (hs : s < 256) (hk : k < 8) (h : Low s k) (hb : bt s k = true) : s &&& ((s + 255) % 256) = s &&& (255 - 2 ^ k) := low_clear ⟨s, hs⟩ ⟨k, hk⟩ ⟨hb, fun j hj => h j.val hj⟩
theorem rcommand_1 (hv : RowC w 3 1 v c.wants.length (numV c.wants)) (hS : ∀ k, v.ownBlock = some k → S k) (hc : c.ok) (x : Nat) (hx : x < 256) (h4 : x.testBit 4 = false) (h3 : x.testBit 3 = false) (h5 : x / 32 = 1) :
    Calls Tryz.prog 139 #[.agg (c.rcells v).toArray, .int .u8 (x : Nat)] w (Gave S w (outC c true x)) := by
 obtain ⟨e4, e3, e1, e0, e7, -⟩ := bit_bt ⟨x, hx⟩
 have HOUT := Lib.hid (show outC c true x = { c with served := c.served &&& ((c.served + 255) % 256) } from by rw [outC_0 c x (e4.trans h4) (e3.trans h3), if_pos h5])
 have hz := fun w => zeroChip w
 have hz8 := fun w => zero8 w
 have HB := Lib.hid (fun n (hn : n < 8) w => bit_any x n hx hn w)
 have HO := Lib.hid ((Own36.beg w c hv hS).alloc (.cells (bits8 0).toArray 137))
 clear hS
 have HC := Lib.hid hc
 have H4 := Lib.hid h4
 have H3 := Lib.hid h3
 have p1 : (0 : Int) ≤ (x : Int) := by omega
 have p2 : (x : Int) ≤ 255 := by omega
 have p3 : ((x : Int) / 32 == 3) = false := by simpa using (by omega : ¬ (x : Int) / 32 = 3)
 have p4 : ((x : Int) / 32 == 1) = true := by simpa using (by omega : (x : Int) / 32 = 1)
 clear hv hc hx h4 h3 h5 e4 e3 e1 e0 e7
 go_enter Tryz.func139, Tryz.ntmps139
 go_wp2_with fail
 refine (HB.out 4 (by decide) _).mono ?_
 rintro e w1 ⟨rfl, rfl⟩
 rw [H4.out]
 go_upto_region 14 with (fail)
 have O1 := HO.out
 change Code.wp _ _ _ _ (((w.alloc (.cells (c.rcells v).toArray 139)).alloc (.cells zero36.toArray 139)).alloc (.cells (bits8 0).toArray 137))
 clear HO hz hz8
 generalize ((w.alloc (.cells (c.rcells v).toArray 139)).alloc (.cells zero36.toArray 139)).alloc (.cells (bits8 0).toArray 137) = W1 at *
 have H1 := Lib.hid O1
 clear O1
 obtain ⟨k32, k33, k34, -⟩ := H1.out.A.rest
 have hf := H1.out.A.free
 have hl := H1.out.A.lt
 go_wp2_with fail
 refine (HB.out 3 (by decide) _).mono ?_
 rintro e w1 ⟨rfl, rfl⟩
 rw [H3.out]
 have hs := HC.out.served
 have HS := Lib.hid hs
 clear hs
 go_wp2_with fail
 clear k32 k33 k34
 go_loopw [6] (fun i wc => ∃ k : Nat, k ≤ 8 ∧ i = .int .i64 k ∧ Low c.served k ∧ wc = W1) (fun i _ => 8 - (intOf i).toNat)
 case atStart => exact ⟨0, by omega, rfl, fun j hj => by omega, rfl⟩
 case round =>
  obtain ⟨k, hk, rfl, R, rfl⟩ := hrel
  have HR := Lib.hid R
  clear R
  by_cases h8 : k < 8
  ·have q1 : (0 : Int) ≤ (k : Int) := by omega
   have q2 : (k : Int) < 8 := by omega
   have k8 : wr.cell? ⟨w.heap.size, 8 + k, none⟩ = some (.bool (bt c.served k)) := H1.out.A.bit 1 _ _ (by decide) h8 rfl
   cases hb : bt c.served k
   ·rw [hb] at k8
    have HB1 := Lib.hid hb
    clear hb
    go_wp2_with fail
    go_roundw
    case rel => exact ⟨k + 1, by omega, by go_num, fun j hj => by
     rcases (show j < k ∨ j = k by omega) with h | rfl
     ·exact HR.out j h
     ·exact HB1.out, by first | rfl | trivial⟩
    case measure => (simp [intOf]) <;> omega
   ·rw [hb] at k8
    have HLO := Lib.hid (low_one HS.out h8 HR.out hb)
    clear hb
    go_upto_region 26 with (fail)
    have HE1 := Lib.hid (H1.out.set (8 + k) (.bool false) (serve_off c v k h8))
    change Code.wp _ _ _ _ (wr.setCell ⟨w.heap.size, 8 + k, none⟩ (.bool false))
    clear hf hl H1 k8
    generalize wr.setCell ⟨w.heap.size, 8 + k, none⟩ (.bool false) = W2 at *
    have HGV : Own36 S w W2 { c with served := c.served &&& (255 - 2 ^ k) } v c.wants → Gave S w (outC c true x) (.returned (.agg (({ c with served := c.served &&& (255 - 2 ^ k) } : Chip).rcells v).toArray)) (W2.setRow (w.heap.size + 1) (({ c with served := c.served &&& (255 - 2 ^ k) } : Chip).rcells v).toArray) := fun h => by rw [HOUT.out, HLO.out]; exact h.gave rfl rfl
    have HR := Lib.hid HE1.out.R
    have HA := Lib.hid HE1.out.A.obj
    have HG := Lib.hid (HGV HE1.out)
    have HO1 := Lib.hid HE1.out.ones
    clear HGV
    go_wp2_with (first | (refine wpList_load_row rfl _ _ rfl w.heap.size rfl _ _ _ _ HA.out Tryz.underlying139 rfl info36 ?_) | (refine wpList_store_row rfl _ _ _ rfl (w.heap.size + 1) _ rfl rfl _ _ HR.out info36 rfl HO1.out ?_))
    exact bodyPost_ret (v := _) (results_cell_row rfl _ _ (w.heap.size + 1) _ _ _ _ rfl (heap_row HR.out) Tryz.underlying139 rfl info36) rfl HG.out
  ·have q2 : (8 : Int) ≤ (k : Int) := by omega
   have e0 : c.served = 0 := low_all HS.out (by rw [← show k = 8 by omega]; exact HR.out)
   have HE0 := Lib.hid (show c.served &&& ((c.served + 255) % 256) = c.served by rw [e0]; rfl)
   clear e0
   go_upto_region 27 with (fail)
   have HE1 := H1
   have HGV : Own36 S w wr c v c.wants → Gave S w (outC c true x) (.returned (.agg (c.rcells v).toArray)) (wr.setRow (w.heap.size + 1) (c.rcells v).toArray) := fun h => by rw [HOUT.out, HE0.out]; exact h.gave rfl rfl
   clear H1 hf hl
   have HR := Lib.hid HE1.out.R
   have HA := Lib.hid HE1.out.A.obj
   have HG := Lib.hid (HGV HE1.out)
   have HO1 := Lib.hid HE1.out.ones
   clear HGV
   go_wp2_with (first | (refine wpList_load_row rfl _ _ rfl w.heap.size rfl _ _ _ _ HA.out Tryz.underlying139 rfl info36 ?_) | (refine wpList_store_row rfl _ _ _ rfl (w.heap.size + 1) _ rfl rfl _ _ HR.out info36 rfl HO1.out ?_))
   exact bodyPost_ret (v := _) (results_cell_row rfl _ _ (w.heap.size + 1) _ _ _ _ rfl (heap_row HR.out) Tryz.underlying139 rfl info36) rfl HG.out

theorem rcommand_any (hv : RowC w 3 1 v c.wants.length (numV c.wants)) (hS : ∀ k, v.ownBlock = some k → S k) (hc : c.ok) (x : Nat) (hx : x < 256) :
    Calls Tryz.prog 139 #[.agg (c.rcells v).toArray, .int .u8 (x : Nat)] w (Gave S w (outC c true x)) := by
 cases h4 : x.testBit 4
 ·cases h3 : x.testBit 3
  ·by_cases h5 : x / 32 = 3
   ·exact rcommand_3 hv hS hc x hx h4 h3 h5
   ·by_cases h6 : x / 32 = 1
    ·exact rcommand_1 hv hS hc x hx h4 h3 h6
    ·exact rcommand_n hv hS hc x hx h4 h3 h5 h6
  ·cases h1 : x.testBit 1
   ·exact rcommand_8n hv hS hc x hx h4 h3 h1
   ·exact rcommand_8y hv hS hc x hx h4 h3 h1
 ·exact rcommand_16 hv hS x hx h4
end
end Go.Proofs.YtojmpdddfnkffaaGreat.Pic

/- pic: the document's pair: a byte that is written to a chip's data port. -/
namespace Go.Proofs.YtojmpdddfnkffaaGreat.Pic
open Go.RowKit
set_option linter.unusedVariables false
set_option linter.unusedSimpArgs false

def mset (m k : Nat) (y : Bool) : Nat := if y then m ||| 2 ^ k else m &&& (255 - 2 ^ k)
theorem mset_lt {m k : Nat} (hm : m < 256) (hk : k < 8) (y : Bool) : mset m k y < 256 := by
 have h2 : 2 ^ k < 2 ^ 8 := Nat.pow_lt_pow_right (by decide) hk
 unfold mset
 split
 ·exact Nat.or_lt_two_pow (n := 8) hm h2
 ·exact Nat.lt_of_le_of_lt Nat.and_le_left hm
theorem bt_mset (m k i : Nat) (hk : k < 8) (hi : i < 8) (y : Bool) : bt (mset m k y) i = if i = k then y else bt m i := by
 unfold mset
 by_cases e : i = k
 ·rw [if_pos e, e]
  cases y
  ·rw [if_neg (by decide), bt_and, bt_npow k k hk hk]; simp
  ·rw [if_pos rfl, bt_or, bt_pow k k hk hk]; simp
 ·rw [if_neg e]
  cases y
  ·rw [if_neg (by decide), bt_and, bt_npow k i hk hi, decide_eq_false (fun h => e h.symm)]; simp
  ·rw [if_pos rfl, bt_or, bt_pow k i hk hi, decide_eq_false (fun h => e h.symm)]; simp
theorem mask_set (c : Chip) (v : Value) (j : Nat) (hj : j < 8) (y : Bool) : (c.rcells v).set (16 + j) (.bool y) = ({ c with masked := mset c.masked j y } : Chip).rcells v := by
 refine rc_set _ _ v 2 j (16 + j) (by decide) hj (by omega) y ?_ ⟨rfl, rfl, rfl⟩
 intro g i hg hi
 rcases (show g = 0 ∨ g = 1 ∨ g = 2 ∨ g = 3 by omega) with rfl | rfl | rfl | rfl
 ·rw [if_neg (by omega)]; rfl
 ·rw [if_neg (by omega)]; rfl
 ·show bt (mset c.masked j y) i = _
  rw [bt_mset _ _ _ hj hi]
  by_cases e : i = j
  ·rw [if_pos e, if_pos ⟨rfl, e⟩]
  ·rw [if_neg e, if_neg (fun h => e h.2)]; rfl
 ·rw [if_neg (by omega)]; rfl
theorem wants_cons (c : Chip) (h : c.stage = 1 ∨ c.stage = 2 ∨ c.stage = 3) : c.wants = c.stage :: (onC c).wants := by
 obtain ⟨a, s, m, u, bs, t, e, st, x, y⟩ := c
 rcases h with h | h | h <;> (dsimp only at h; subst h; cases x <;> cases y <;> rfl)
theorem wants_0 (c : Chip) (h : c.stage = 0) : c.wants = [] := by unfold Chip.wants; rw [h]; rfl
theorem size_int (w : World) : (sizeOf 3).run Tryz.prog w = .ok 1 w := by rfl
theorem run_tail_some {w : World} {v : Value} {n : Nat} {xs : List Value} (h : RowC w 3 1 v (n + 1) xs) :
    ∃ g o c', (Instr.slice 103 v (some (.int .i64 1)) none none).run Tryz.prog w = .ok (.slice (some ⟨g, o, none⟩) n c') w ∧ ∀ j, j < n → w.cell? ⟨g, o + j, none⟩ = xs[j + 1]? := by
 rcases h.2 with ⟨rfl, h0⟩ | ⟨g, o, cap, cur, rfl, hg, h2, h3, h4, h5⟩
 ·cases h0
 ·have hs := size_int w
  by_cases hc : cap = 1
  ·subst hc
   obtain rfl : n = 0 := by omega
   refine ⟨g, o, 0, ?_, fun j hj => by omega⟩
   simp [Instr.slice, run_underlying Tryz.underlying103, Result.andThen, Instr.sliceBounds, Instr.sliceBound, asIntOf, hs]
  ·have hle : (1 : Int) ≤ (n : Int) + 1 := by omega
   refine ⟨g, o + 1, cap - 1, ?_, fun j hj => ?_⟩
   ·have ha : (⟨g, o, none⟩ : Addr).add 1 = ⟨g, o + 1, none⟩ := Go.WideShapes.add_plain _ _ _
    simp [Instr.slice, run_underlying Tryz.underlying103, Result.andThen, Instr.sliceBounds, Instr.sliceBound, asIntOf, hs, hc, ha, hle]
   ·rw [cell_at hg, ← h5 (j + 1) (by omega)]; congr 1; omega
theorem numV_one (L : List Nat) : ∀ x ∈ numV L, x.oneCell' = true := by
 intro x hx
 obtain ⟨n, -, rfl⟩ := List.mem_map.1 hx; rfl
section
variable {w : World} {b g : Nat} {v u : Value} {c d : Chip} {S : Nat → Prop}
theorem Own36.grew' {w0 : World} {L : List Nat} (h : Own36 S w0 w c v L) (o : Obj) {w1 : World} (hg : (w.alloc o).grownBy w1 (some w.heap.size)) :
    w1.heap[w0.heap.size]? = some (.cells (c.rcells v).toArray 139 (0, 0)) ∧ w1.heap[w0.heap.size + 1]? = some (.cells zero36.toArray 139 (0, 0)) ∧ Below w0.heap.size w0 w1 := by
 have hs : w.heap.size < (w.alloc o).heap.size := by simp
 have BA := h.B.alloc h.B.size o
 have l1 := h.A.lt
 have l2 := heap_lt h.R
 refine ⟨(hg.block _ (Nat.lt_trans l1 hs) (fun e => by injection e with e; omega)).trans (heap_alloc_lt h.A.obj), (hg.block _ (Nat.lt_trans l2 hs) (fun e => by injection e with e; omega)).trans (heap_alloc_lt h.R), BA.grown hg BA.size ?_⟩
 intro k hk
 injection hk with hk; rw [← hk]; exact h.B.size
theorem rdata_0 (hv : RowC w 3 1 v c.wants.length (numV c.wants)) (hS : ∀ k, v.ownBlock = some k → S k) (hc : c.ok) (x : Nat) (hx : x < 256) (h0 : c.stage = 0) :
    Calls Tryz.prog 140 #[.agg (c.rcells v).toArray, .int .u8 (x : Nat)] w (Gave S w (outC c false x)) := by
 have HOUT := Lib.hid (show outC c false x = { c with masked := x } from by unfold outC; rw [if_neg (by decide), if_pos h0])
 have hw0 := wants_0 c h0
 have hz := fun w => zeroChip w
 have HB := Lib.hid (fun n (hn : n < 8) w => bit_any x n hx hn w)
 have HO := Lib.hid (Own36.beg w c hv hS)
 clear hS
 have HC := Lib.hid (And.intro hc hx)
 have HW0 := Lib.hid hw0
 obtain ⟨va, vc, hvv⟩ := hv.len
 rw [hw0] at hvv
 have HVV := Lib.hid (show v = .slice va 0 vc from hvv)
 clear hw0 hx h0 hc hv hvv
 go_enter Tryz.func140, Tryz.ntmps140
 go_upto_region 1 with (fail)
 have O1 := HO.out
 change Code.wp _ _ _ _ ((w.alloc (.cells (c.rcells v).toArray 139)).alloc (.cells zero36.toArray 139))
 clear HO hz
 generalize (w.alloc (.cells (c.rcells v).toArray 139)).alloc (.cells zero36.toArray 139) = W1 at *
 have H1 := Lib.hid O1
 clear O1
 obtain ⟨-, -, -, k35⟩ := H1.out.A.rest
 rw [HVV.out] at k35
 go_wp2_with fail
 clear k35
 go_loopw [5] (fun i wc => ∃ k m : Nat, k ≤ 8 ∧ i = .int .i64 k ∧ m < 256 ∧ (∀ j, j < k → bt m j = bt x j) ∧ Own36 S w wc { c with masked := m } v c.wants) (fun i _ => 8 - (intOf i).toNat)
 case atStart => exact ⟨0, c.masked, by omega, rfl, HC.out.1.masked, fun j hj => by omega, H1.out⟩
 case round =>
  clear H1
  obtain ⟨k, m, hk, rfl, hm, R, O⟩ := hrel
  have HR := Lib.hid (And.intro hm R)
  have H1 := Lib.hid O
  clear R O hm
  by_cases h8 : k < 8
  ·have q1 : (0 : Int) ≤ (k : Int) := by omega
   have q2 : (k : Int) < 8 := by omega
   have k8 : wr.cell? ⟨w.heap.size, 16 + k, none⟩ = some (.bool (bt m k)) := H1.out.A.bit 2 _ _ (by decide) h8 rfl
   have hf := H1.out.A.free
   have hl := H1.out.A.lt
   go_wp2_with fail
   refine (HB.out k h8 _).mono ?_
   rintro e w1 ⟨rfl, rfl⟩
   have HS := Lib.hid (show Own36 S w (wr.setCell ⟨w.heap.size, 16 + k, none⟩ (.bool (x.testBit k))) { c with masked := mset m k (x.testBit k) } v c.wants from H1.out.set (16 + k) _ (mask_set { c with masked := m } v k h8 _))
   have HMB := Lib.hid (show ∀ j, j < k + 1 → bt (mset m k (x.testBit k)) j = bt x j from fun j hj => by
    rw [bt_mset _ _ _ h8 (by omega)]
    by_cases e : j = k
    ·rw [if_pos e, e]; rfl
    ·rw [if_neg e]; exact HR.out.2 j (by omega))
   have HML := Lib.hid (mset_lt HR.out.1 h8 (x.testBit k))
   generalize x.testBit k = t at *
   go_wp2_with fail
   go_roundw
   case rel => exact ⟨k + 1, mset m k t, by omega, by go_num, HML.out, HMB.out, HS.out⟩
   case measure => (simp [intOf]) <;> omega
  ·have q2 : (8 : Int) ≤ (k : Int) := by omega
   have em : m = x := bits_eq HR.out.1 HC.out.2 fun j hj => HR.out.2 j (by omega)
   rw [em] at H1
   clear em
   have HR1 := Lib.hid H1.out.R
   have HA := Lib.hid H1.out.A.obj
   have HG := Lib.hid (show Gave S w (outC c false x) _ _ from by rw [HOUT.out]; exact H1.out.gave rfl rfl)
   have HO1 := Lib.hid H1.out.ones
   go_wp2_with (first | (refine wpList_load_row rfl _ _ rfl w.heap.size rfl _ _ _ _ HA.out Tryz.underlying139 rfl info36 ?_) | (refine wpList_store_row rfl _ _ _ rfl (w.heap.size + 1) _ rfl rfl _ _ HR1.out info36 rfl HO1.out ?_))
   exact bodyPost_ret (v := _) (results_cell_row rfl _ _ (w.heap.size + 1) _ _ _ _ rfl (heap_row HR1.out) Tryz.underlying139 rfl info36) rfl HG.out
theorem outC_data (c : Chip) (x : Nat) (h : c.stage = 1 ∨ c.stage = 2 ∨ c.stage = 3) : outC c false x = onC (if c.stage = 1 then { c with base := x &&& 248 } else if c.stage = 3 then { c with ends := bit x 2 } else c) := by
 unfold outC
 rw [if_neg (by decide), if_neg (by omega)]
 by_cases h1 : c.stage = 1
 ·rw [if_pos h1, if_pos h1]
 ·rw [if_neg h1, if_neg h1]
  by_cases h3 : c.stage = 3
  ·rw [if_pos h3, if_pos h3]
  ·rw [if_neg h3, if_neg h3]
-- STAGES
def GaveL (S : Nat → Prop) (w : World) (c : Chip) (L : List Nat) (e : Ending) (w' : World) : Prop := ∃ u, e = .returned (.agg (c.rcells u).toArray) ∧ RowC w' 3 1 u L.length (numV L) ∧ Below w.heap.size w w' ∧ ∀ k, u.ownBlock = some k → S k ∨ w.heap.size ≤ k
theorem Own36.gaveL {w0 : World} {L : List Nat} (h : Own36 S w0 w c v L) : GaveL S w0 c L (.returned (.agg (c.rcells v).toArray)) (w.setRow (w0.heap.size + 1) (c.rcells v).toArray) := by
 refine ⟨v, rfl, ?_, below_setRow h.B (by omega) _, h.O⟩
 refine h.V.of_heap fun k hk => setRow_other _ _ _ _ ?_
 rintro rfl
 obtain ⟨cur, hc⟩ := h.V.block hk
 rw [h.R] at hc
 injection hc with hc; injection hc with _ hc _; exact absurd hc (by decide)
theorem Own36.begL (w : World) (c : Chip) {L : List Nat} (hv : RowC w 3 1 v L.length (numV L)) (hS : ∀ k, v.ownBlock = some k → S k) : Own36 S w ((w.alloc (.cells (c.rcells v).toArray 139)).alloc (.cells zero36.toArray 139)) c v L := by
 have h1 := heap_new w (.cells (c.rcells v).toArray 139)
 have h2 := heap_new (w.alloc (.cells (c.rcells v).toArray 139)) (.cells zero36.toArray 139)
 refine ⟨⟨heap_alloc_lt h1⟩, ?_, below2 _ _ _, (hv.alloc _).alloc _, fun k hk => .inl (hS k hk)⟩
 rw [show w.heap.size + 1 = (w.alloc (.cells (c.rcells v).toArray 139)).heap.size by simp]; exact h2
theorem rdata_2 (rest : List Nat) (hr : rest.length ≤ 2) (hv : RowC w 3 1 v (2 :: rest).length (numV (2 :: rest))) (hS : ∀ k, v.ownBlock = some k → S k) (x : Nat) (hx : x < 256) :
    Calls Tryz.prog 140 #[.agg (c.rcells v).toArray, .int .u8 (x : Nat)] w (GaveL S w c rest) := by
 have hz := fun w => zeroChip w
 have HB := Lib.hid (fun n (hn : n < 8) w => bit_any x n hx hn w)
 have HO := Lib.hid (Own36.begL w c hv hS)
 clear hS
 obtain ⟨i0, hi, hz0, hz1, hz2⟩ := info_parts infoInt
 obtain ⟨n, hN⟩ : ∃ n, n = rest.length := ⟨_, rfl⟩
 have HN := Lib.hid hN
 have hn2 : n ≤ 2 := by omega
 clear hx hv hN hr
 go_enter Tryz.func140, Tryz.ntmps140
 go_upto_region 1 with (fail)
 have O1 := HO.out
 change Code.wp _ _ _ _ ((w.alloc (.cells (c.rcells v).toArray 139)).alloc (.cells zero36.toArray 139))
 clear HO hz
 generalize (w.alloc (.cells (c.rcells v).toArray 139)).alloc (.cells zero36.toArray 139) = W1 at *
 have H1 := Lib.hid O1
 clear O1
 obtain ⟨k32, -, k34, k35⟩ := H1.out.A.rest
 have hf := H1.out.A.free
 have hl := H1.out.A.lt
 obtain ⟨gv, ov, capv, hgv, hcell, hgl⟩ := H1.out.V.cell (j := 0) (u := .int .i64 2) rfl
 have HGV := Lib.hid (show v = .slice (some ⟨gv, ov, none⟩) (n + 1) capv from by rw [hgv, HN.out]; rfl)
 rw [HGV.out] at k35
 rw [Nat.add_zero] at hcell
 clear hgv
 go_upto_region 12 with (fail)
 have H2 := H1
 clear H1 k32 k34 k35 hf hl hcell
 generalize hWW : W1 = W2 at *
 clear hWW
 have hV2 := H2.out.V.alloc (.cells #[] 3)
 rw [HGV.out, show (2 :: rest).length = n + 1 by rw [HN.out]; rfl] at hV2
 obtain ⟨tg, tf, tc, hsl, hnews⟩ := run_tail_some (n := n) (h := hV2)
 have HNEWS := Lib.hid (show ∀ j u, (numV rest)[j]? = some u → (W2.alloc (.cells #[] 3)).cell? ((⟨tg, tf, none⟩ : Addr).add j) = some u from fun j u hj => by
  have hjl : j < n := by rw [HN.out]; have := (List.getElem?_eq_some_iff.1 hj).1; simpa [numV] using this
  rw [Go.WideShapes.add_plain, hnews j hjl]; exact hj)
 have HOWN := Lib.hid (show (W2.alloc (.cells #[] 3)).ownsRow W2.heap.size 3 1 (.slice (some ⟨W2.heap.size, 0, none⟩) 0 0) 0 [] from World.ownsRow_made W2 #[] 0 (Nat.le_refl _) (by decide) (by simp))
 have HLN := Lib.hid (show (numV rest).length = n * 1 from by rw [HN.out]; simp [numV])
 clear hnews hV2
 obtain ⟨-, -, -, k35⟩ := H2.out.A.rest
 rw [HGV.out] at k35
 have hf := H2.out.A.free
 have hl := H2.out.A.lt
 go_upto_region 13 with (at_builtin; (refine wpList_append_own _ rfl _ _ 103 rfl W2.heap.size 3 i0 (.int .i64 0) 1 8 Tryz.underlying103 hi hz0 hz1 hz2 rfl (by decide) _ 0 [] rfl HOWN.out ⟨tg, tf, none⟩ n tc (numV rest) rfl HLN.out HNEWS.out (numV_one rest) (by unfold maxLen; omega) (by omega) (by simp) ?_); intro v3 w3 hown1 hgrow1 _; obtain ⟨g1, g2, g3⟩ := H2.out.grew' _ hgrow1; have HRW := Lib.hid (RowC.own hown1); have HOW := Lib.hid (fun k hk => (World.ownsRow.lt hown1 k hk).1); obtain ⟨a3, c3, hv3⟩ := HRW.out.len; have HV3 := Lib.hid hv3; have HX := Lib.hid (And.intro g1 (And.intro g2 g3)); have j35 := (ChipAt.mk g1).rest.2.2.2; have jf := (ChipAt.mk g1).free; have jl := heap_lt g1; clear hown1 hgrow1 g1 g2 g3 k35 hf hl hsl; obtain rfl := hv3)
 have O7 := H2.out.setV (v' := .slice a3 n c3) (L' := rest) HX.out.1 HX.out.2.1 HX.out.2.2 (by have h := HRW.out; rw [Nat.zero_add, List.nil_append, HN.out] at h; rw [← HN.out] at h ⊢; exact h) (fun k hk => Nat.le_trans H2.out.B.size (HOW.out k (by rw [Nat.zero_add]; exact hk)))
 change Code.wp _ _ _ _ (w3.setCell ⟨w.heap.size, 35, none⟩ (.slice a3 n c3))
 clear HX HRW j35 jf jl HNEWS HOWN HLN
 generalize w3.setCell ⟨w.heap.size, 35, none⟩ (.slice a3 n c3) = W7 at *
 have HR := Lib.hid O7.R
 have HA := Lib.hid O7.A.obj
 have HE := Lib.hid O7.gaveL
 have HO1 := Lib.hid O7.ones
 clear O7 H2
 go_wp2_with (first | (refine wpList_load_row rfl _ _ rfl w.heap.size rfl _ _ _ _ HA.out Tryz.underlying139 rfl info36 ?_) | (refine wpList_store_row rfl _ _ _ rfl (w.heap.size + 1) _ rfl rfl _ _ HR.out info36 rfl HO1.out ?_))
 exact bodyPost_ret (v := _) (results_cell_row rfl _ _ (w.heap.size + 1) _ _ _ _ rfl (heap_row HR.out) Tryz.underlying139 rfl info36) rfl HE.out
theorem rdata_1 (rest : List Nat) (hr : rest.length ≤ 2) (hv : RowC w 3 1 v (1 :: rest).length (numV (1 :: rest))) (hS : ∀ k, v.ownBlock = some k → S k) (x : Nat) (hx : x < 256) :
    Calls Tryz.prog 140 #[.agg (c.rcells v).toArray, .int .u8 (x : Nat)] w (GaveL S w ({ c with base := x &&& 248 } : Chip) rest) := by
 have hz := fun w => zeroChip w
 have HB := Lib.hid (fun n (hn : n < 8) w => bit_any x n hx hn w)
 have HO := Lib.hid (Own36.begL w c hv hS)
 clear hS
 obtain ⟨i0, hi, hz0, hz1, hz2⟩ := info_parts infoInt
 obtain ⟨n, hN⟩ : ∃ n, n = rest.length := ⟨_, rfl⟩
 have HN := Lib.hid hN
 have hn2 : n ≤ 2 := by omega
 obtain ⟨-, -, -, -, -, e8⟩ := bit_bt ⟨x, hx⟩
 have HE8 := Lib.hid (show (x : Int) - (x : Int) % 8 = ((x &&& 248 : Nat) : Int) from by rw [show x &&& 248 = x - x % 8 from e8]; omega)
 have p1 : (0 : Int) ≤ (x : Int) := by omega
 have p2 : (x : Int) ≤ 255 := by omega
 clear e8
 clear hx hv hN hr
 go_enter Tryz.func140, Tryz.ntmps140
 go_upto_region 1 with (fail)
 have O1 := HO.out
 change Code.wp _ _ _ _ ((w.alloc (.cells (c.rcells v).toArray 139)).alloc (.cells zero36.toArray 139))
 clear HO hz
 generalize (w.alloc (.cells (c.rcells v).toArray 139)).alloc (.cells zero36.toArray 139) = W1 at *
 have H1 := Lib.hid O1
 clear O1
 obtain ⟨k32, -, k34, k35⟩ := H1.out.A.rest
 have hf := H1.out.A.free
 have hl := H1.out.A.lt
 obtain ⟨gv, ov, capv, hgv, hcell, hgl⟩ := H1.out.V.cell (j := 0) (u := .int .i64 1) rfl
 have HGV := Lib.hid (show v = .slice (some ⟨gv, ov, none⟩) (n + 1) capv from by rw [hgv, HN.out]; rfl)
 rw [HGV.out] at k35
 rw [Nat.add_zero] at hcell
 clear hgv
 go_upto_region 12 with (fail)
 rw [HE8.out]
 have H2 := Lib.hid (H1.out.set (c' := { c with base := x &&& 248 }) 32 (.int .i64 ((x &&& 248 : Nat) : Int)) rfl)
 change Code.wp _ _ _ _ (W1.setCell ⟨w.heap.size, 32, none⟩ (.int .i64 ((x &&& 248 : Nat) : Int)))
 clear H1 k32 k34 k35 hf hl hcell
 generalize W1.setCell ⟨w.heap.size, 32, none⟩ (.int .i64 ((x &&& 248 : Nat) : Int)) = W2 at *
 have hV2 := H2.out.V.alloc (.cells #[] 3)
 rw [HGV.out, show (1 :: rest).length = n + 1 by rw [HN.out]; rfl] at hV2
 obtain ⟨tg, tf, tc, hsl, hnews⟩ := run_tail_some (n := n) (h := hV2)
 have HNEWS := Lib.hid (show ∀ j u, (numV rest)[j]? = some u → (W2.alloc (.cells #[] 3)).cell? ((⟨tg, tf, none⟩ : Addr).add j) = some u from fun j u hj => by
  have hjl : j < n := by rw [HN.out]; have := (List.getElem?_eq_some_iff.1 hj).1; simpa [numV] using this
  rw [Go.WideShapes.add_plain, hnews j hjl]; exact hj)
 have HOWN := Lib.hid (show (W2.alloc (.cells #[] 3)).ownsRow W2.heap.size 3 1 (.slice (some ⟨W2.heap.size, 0, none⟩) 0 0) 0 [] from World.ownsRow_made W2 #[] 0 (Nat.le_refl _) (by decide) (by simp))
 have HLN := Lib.hid (show (numV rest).length = n * 1 from by rw [HN.out]; simp [numV])
 clear hnews hV2
 obtain ⟨-, -, -, k35⟩ := H2.out.A.rest
 rw [HGV.out] at k35
 have hf := H2.out.A.free
 have hl := H2.out.A.lt
 go_upto_region 13 with (at_builtin; (refine wpList_append_own _ rfl _ _ 103 rfl W2.heap.size 3 i0 (.int .i64 0) 1 8 Tryz.underlying103 hi hz0 hz1 hz2 rfl (by decide) _ 0 [] rfl HOWN.out ⟨tg, tf, none⟩ n tc (numV rest) rfl HLN.out HNEWS.out (numV_one rest) (by unfold maxLen; omega) (by omega) (by simp) ?_); intro v3 w3 hown1 hgrow1 _; obtain ⟨g1, g2, g3⟩ := H2.out.grew' _ hgrow1; have HRW := Lib.hid (RowC.own hown1); have HOW := Lib.hid (fun k hk => (World.ownsRow.lt hown1 k hk).1); obtain ⟨a3, c3, hv3⟩ := HRW.out.len; have HV3 := Lib.hid hv3; have HX := Lib.hid (And.intro g1 (And.intro g2 g3)); have j35 := (ChipAt.mk g1).rest.2.2.2; have jf := (ChipAt.mk g1).free; have jl := heap_lt g1; clear hown1 hgrow1 g1 g2 g3 k35 hf hl hsl; obtain rfl := hv3)
 have O7 := H2.out.setV (v' := .slice a3 n c3) (L' := rest) HX.out.1 HX.out.2.1 HX.out.2.2 (by have h := HRW.out; rw [Nat.zero_add, List.nil_append, HN.out] at h; rw [← HN.out] at h ⊢; exact h) (fun k hk => Nat.le_trans H2.out.B.size (HOW.out k (by rw [Nat.zero_add]; exact hk)))
 change Code.wp _ _ _ _ (w3.setCell ⟨w.heap.size, 35, none⟩ (.slice a3 n c3))
 clear HX HRW j35 jf jl HNEWS HOWN HLN
 generalize w3.setCell ⟨w.heap.size, 35, none⟩ (.slice a3 n c3) = W7 at *
 have HR := Lib.hid O7.R
 have HA := Lib.hid O7.A.obj
 have HE := Lib.hid O7.gaveL
 have HO1 := Lib.hid O7.ones
 clear O7 H2
 go_wp2_with (first | (refine wpList_load_row rfl _ _ rfl w.heap.size rfl _ _ _ _ HA.out Tryz.underlying139 rfl info36 ?_) | (refine wpList_store_row rfl _ _ _ rfl (w.heap.size + 1) _ rfl rfl _ _ HR.out info36 rfl HO1.out ?_))
 exact bodyPost_ret (v := _) (results_cell_row rfl _ _ (w.heap.size + 1) _ _ _ _ rfl (heap_row HR.out) Tryz.underlying139 rfl info36) rfl HE.out
theorem rdata_3 (rest : List Nat) (hr : rest.length ≤ 2) (hv : RowC w 3 1 v (3 :: rest).length (numV (3 :: rest))) (hS : ∀ k, v.ownBlock = some k → S k) (x : Nat) (hx : x < 256) :
    Calls Tryz.prog 140 #[.agg (c.rcells v).toArray, .int .u8 (x : Nat)] w (GaveL S w ({ c with ends := x.testBit 1 } : Chip) rest) := by
 have hz := fun w => zeroChip w
 have HB := Lib.hid (fun n (hn : n < 8) w => bit_any x n hx hn w)
 have HO := Lib.hid (Own36.begL w c hv hS)
 clear hS
 obtain ⟨i0, hi, hz0, hz1, hz2⟩ := info_parts infoInt
 obtain ⟨n, hN⟩ : ∃ n, n = rest.length := ⟨_, rfl⟩
 have HN := Lib.hid hN
 have hn2 : n ≤ 2 := by omega
 clear hx hv hN hr
 go_enter Tryz.func140, Tryz.ntmps140
 go_upto_region 1 with (fail)
 have O1 := HO.out
 change Code.wp _ _ _ _ ((w.alloc (.cells (c.rcells v).toArray 139)).alloc (.cells zero36.toArray 139))
 clear HO hz
 generalize (w.alloc (.cells (c.rcells v).toArray 139)).alloc (.cells zero36.toArray 139) = W1 at *
 have H1 := Lib.hid O1
 clear O1
 obtain ⟨k32, -, k34, k35⟩ := H1.out.A.rest
 have hf := H1.out.A.free
 have hl := H1.out.A.lt
 obtain ⟨gv, ov, capv, hgv, hcell, hgl⟩ := H1.out.V.cell (j := 0) (u := .int .i64 3) rfl
 have HGV := Lib.hid (show v = .slice (some ⟨gv, ov, none⟩) (n + 1) capv from by rw [hgv, HN.out]; rfl)
 rw [HGV.out] at k35
 rw [Nat.add_zero] at hcell
 clear hgv
 go_wp2_with fail
 refine (HB.out 1 (by decide) _).mono ?_
 rintro e w1 ⟨rfl, rfl⟩
 generalize x.testBit 1 = t at *
 go_upto_region 12 with (fail)
 have H2 := Lib.hid (H1.out.set (c' := { c with ends := t }) 34 (.bool t) rfl)
 change Code.wp _ _ _ _ (W1.setCell ⟨w.heap.size, 34, none⟩ (.bool t))
 clear H1 k32 k34 k35 hf hl hcell
 generalize W1.setCell ⟨w.heap.size, 34, none⟩ (.bool t) = W2 at *
 have hV2 := H2.out.V.alloc (.cells #[] 3)
 rw [HGV.out, show (3 :: rest).length = n + 1 by rw [HN.out]; rfl] at hV2
 obtain ⟨tg, tf, tc, hsl, hnews⟩ := run_tail_some (n := n) (h := hV2)
 have HNEWS := Lib.hid (show ∀ j u, (numV rest)[j]? = some u → (W2.alloc (.cells #[] 3)).cell? ((⟨tg, tf, none⟩ : Addr).add j) = some u from fun j u hj => by
  have hjl : j < n := by rw [HN.out]; have := (List.getElem?_eq_some_iff.1 hj).1; simpa [numV] using this
  rw [Go.WideShapes.add_plain, hnews j hjl]; exact hj)
 have HOWN := Lib.hid (show (W2.alloc (.cells #[] 3)).ownsRow W2.heap.size 3 1 (.slice (some ⟨W2.heap.size, 0, none⟩) 0 0) 0 [] from World.ownsRow_made W2 #[] 0 (Nat.le_refl _) (by decide) (by simp))
 have HLN := Lib.hid (show (numV rest).length = n * 1 from by rw [HN.out]; simp [numV])
 clear hnews hV2
 obtain ⟨-, -, -, k35⟩ := H2.out.A.rest
 rw [HGV.out] at k35
 have hf := H2.out.A.free
 have hl := H2.out.A.lt
 go_upto_region 13 with (at_builtin; (refine wpList_append_own _ rfl _ _ 103 rfl W2.heap.size 3 i0 (.int .i64 0) 1 8 Tryz.underlying103 hi hz0 hz1 hz2 rfl (by decide) _ 0 [] rfl HOWN.out ⟨tg, tf, none⟩ n tc (numV rest) rfl HLN.out HNEWS.out (numV_one rest) (by unfold maxLen; omega) (by omega) (by simp) ?_); intro v3 w3 hown1 hgrow1 _; obtain ⟨g1, g2, g3⟩ := H2.out.grew' _ hgrow1; have HRW := Lib.hid (RowC.own hown1); have HOW := Lib.hid (fun k hk => (World.ownsRow.lt hown1 k hk).1); obtain ⟨a3, c3, hv3⟩ := HRW.out.len; have HV3 := Lib.hid hv3; have HX := Lib.hid (And.intro g1 (And.intro g2 g3)); have j35 := (ChipAt.mk g1).rest.2.2.2; have jf := (ChipAt.mk g1).free; have jl := heap_lt g1; clear hown1 hgrow1 g1 g2 g3 k35 hf hl hsl; obtain rfl := hv3)
 have O7 := H2.out.setV (v' := .slice a3 n c3) (L' := rest) HX.out.1 HX.out.2.1 HX.out.2.2 (by have h := HRW.out; rw [Nat.zero_add, List.nil_append, HN.out] at h; rw [← HN.out] at h ⊢; exact h) (fun k hk => Nat.le_trans H2.out.B.size (HOW.out k (by rw [Nat.zero_add]; exact hk)))
 change Code.wp _ _ _ _ (w3.setCell ⟨w.heap.size, 35, none⟩ (.slice a3 n c3))
 clear HX HRW j35 jf jl HNEWS HOWN HLN
 generalize w3.setCell ⟨w.heap.size, 35, none⟩ (.slice a3 n c3) = W7 at *
 have HR := Lib.hid O7.R
 have HA := Lib.hid O7.A.obj
 have HE := Lib.hid O7.gaveL
 have HO1 := Lib.hid O7.ones
 clear O7 H2
 go_wp2_with (first | (refine wpList_load_row rfl _ _ rfl w.heap.size rfl _ _ _ _ HA.out Tryz.underlying139 rfl info36 ?_) | (refine wpList_store_row rfl _ _ _ rfl (w.heap.size + 1) _ rfl rfl _ _ HR.out info36 rfl HO1.out ?_))
 exact bodyPost_ret (v := _) (results_cell_row rfl _ _ (w.heap.size + 1) _ _ _ _ rfl (heap_row HR.out) Tryz.underlying139 rfl info36) rfl HE.out
theorem rdata_any (hv : RowC w 3 1 v c.wants.length (numV c.wants)) (hS : ∀ k, v.ownBlock = some k → S k) (hc : c.ok) (x : Nat) (hx : x < 256) :
    Calls Tryz.prog 140 #[.agg (c.rcells v).toArray, .int .u8 (x : Nat)] w (Gave S w (outC c false x)) := by
 by_cases h0 : c.stage = 0
 ·exact rdata_0 hv hS hc x hx h0
 ·have hs : c.stage = 1 ∨ c.stage = 2 ∨ c.stage = 3 := by have := hc.stage; omega
  have hwc := wants_cons c hs
  have hr : (onC c).wants.length ≤ 2 := by
   have : c.wants.length ≤ 3 := by unfold Chip.wants; (repeat' split) <;> simp
   rw [hwc] at this; simp at this; omega
  obtain ⟨-, -, e1, -, -, -⟩ := bit_bt ⟨x, hx⟩
  rw [outC_data c x hs]
  rcases hs with h | h | h
  ·rw [hwc, h] at hv
   rw [if_pos h]
   exact rdata_1 (onC c).wants hr hv hS x hx
  ·rw [hwc, h] at hv
   rw [if_neg (by omega), if_neg (by omega)]
   exact rdata_2 (onC c).wants hr hv hS x hx
  ·rw [hwc, h] at hv
   rw [if_neg (by omega), if_pos h, show bit x 2 = x.testBit 1 from e1]
   exact rdata_3 (onC c).wants hr hv hS x hx
end
end Go.Proofs.YtojmpdddfnkffaaGreat.Pic

