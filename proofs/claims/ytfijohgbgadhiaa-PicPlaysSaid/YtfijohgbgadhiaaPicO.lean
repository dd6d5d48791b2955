/- pic: the document's pair: take, Ack. -/
import Derived.Test.YtfijohgbgadhiaaPicN
namespace Go.Proofs.Ytfijohgbgadhiaa
open Go.RowKit
set_option linter.unusedVariables false
set_option linter.unusedSimpArgs false

set_option maxRecDepth 100000 in
theorem tz8_low0 : ∀ x : Fin 256, ∀ n : Fin 8, n.val < tz8 x.val → x.val.testBit n.val = false := by decide +kernel
theorem told_free {a m s : Nat} (hs : s < 256) (h : isTold a m s = true) : bt s (tz8 (left a m)) = false := by
  have h1 := isTold_lt hs h
  exact tz8_low0 ⟨s, hs⟩ ⟨_, h1⟩ (of_decide_eq_true h)
theorem tellsR_yes {a m s : Nat} (h : isTold a m s = true) : tellsR a m s = (tz8 (left a m) : Int) := by unfold tellsR; rw [h]; rfl
theorem tellsR_no {a m s : Nat} (h : isTold a m s = false) : tellsR a m s = -1 := by unfold tellsR; rw [h]; rfl
section
variable {w : World} {b g : Nat} {v u : Value} {c d : Chip}
theorem RP.set0 (H : RP w b v u c d) {c' : Chip} (k : Nat) (x : Value) (e : (c.rcells v).set k x = c'.rcells v) (hk : k < 36) (hw : c'.wants = c.wants) : RP (w.setCell ⟨b, k, none⟩ x) b v u c' d := by
  have K : Keeps (· = b) w (w.setCell ⟨b, k, none⟩ x) := (Keeps.refl _ _).setOne _ _
  refine ⟨?_, by rw [hw]; exact H.cw.of_heap fun i hi => K.block i (H.cw.lt hi) (H.apart (e := 0) (size := 0) H.cw hi), H.dw.of_heap fun i hi => K.block i (H.dw.lt hi) (H.apart (e := 0) (size := 0) H.dw hi)⟩
  rw [heap_set_map, H.obj, ← e]
  show some (Obj.cells ((c.rcells v ++ d.rcells u).toArray.setIfInBounds k x) _ _) = _
  rw [List.setIfInBounds_toArray, List.set_append_left _ _ (show k < (c.rcells v).length from hk)]
theorem RP.set1 (H : RP w b v u c d) {d' : Chip} (k : Nat) (x : Value) (e : (d.rcells u).set k x = d'.rcells u) (hw : d'.wants = d.wants) : RP (w.setCell ⟨b, 36 + k, none⟩ x) b v u c d' := by
  have K : Keeps (· = b) w (w.setCell ⟨b, 36 + k, none⟩ x) := (Keeps.refl _ _).setOne _ _
  refine ⟨?_, H.cw.of_heap fun i hi => K.block i (H.cw.lt hi) (H.apart (e := 0) (size := 0) H.cw hi), by rw [hw]; exact H.dw.of_heap fun i hi => K.block i (H.dw.lt hi) (H.apart (e := 0) (size := 0) H.dw hi)⟩
  rw [heap_set_map, H.obj, ← e]
  show some (Obj.cells ((c.rcells v ++ d.rcells u).toArray.setIfInBounds (36 + k) x) _ _) = _
  rw [List.setIfInBounds_toArray, List.set_append_right _ _ (show (c.rcells v).length ≤ 36 + k by show 36 ≤ _; omega), show 36 + k - (c.rcells v).length = k by show 36 + k - 36 = k; omega]
theorem take_asks (c : Chip) (v : Value) (j : Nat) (hj : j < 8) : (c.rcells v).set j (.bool false) = ({ c with asks := c.asks &&& (255 - 2 ^ j) } : Chip).rcells v := by
  refine rc_set _ _ v 0 j j (by decide) hj (by omega) false ?_ ⟨rfl, rfl, rfl⟩
  intro g i hg hi
  rcases (show g = 0 ∨ g = 1 ∨ g = 2 ∨ g = 3 by omega) with rfl | rfl | rfl | rfl
  · show bt (c.asks &&& (255 - 2 ^ j)) i = _
    rw [bt_and, bt_npow j i hj hi]
    by_cases e : i = j
    · rw [if_pos ⟨rfl, e⟩, decide_eq_true e.symm]; simp
    · rw [if_neg (fun h => e h.2), decide_eq_false (fun h => e h.symm)]; simp; rfl
  · rw [if_neg (by omega)]; rfl
  · rw [if_neg (by omega)]; rfl
  · rw [if_neg (by omega)]; rfl
theorem take_served (c : Chip) (v : Value) (j : Nat) (hj : j < 8) (h0 : bt c.served j = false) : (({ c with asks := c.asks &&& (255 - 2 ^ j) } : Chip).rcells v).set (8 + j) (.bool (!c.ends)) = (takeC c j).rcells v := by
  refine rc_set _ _ v 1 j (8 + j) (by decide) hj (by omega) (!c.ends) ?_ ⟨rfl, rfl, rfl⟩
  intro g i hg hi
  rcases (show g = 0 ∨ g = 1 ∨ g = 2 ∨ g = 3 by omega) with rfl | rfl | rfl | rfl
  · rw [if_neg (by omega)]; rfl
  · show bt (servedC c j) i = _
    by_cases e : i = j
    · rw [if_pos (show 1 = 1 ∧ i = j from ⟨rfl, e⟩), e]
      unfold servedC
      cases he : c.ends
      · rw [if_neg (by simp), bt_or, bt_pow j j hj hj]; simp
      · rw [if_pos rfl, h0]; rfl
    · rw [if_neg (fun h => e h.2)]
      show bt (servedC c j) i = bt c.served i
      unfold servedC
      cases he : c.ends
      · rw [if_neg (by simp), bt_or, bt_pow j i hj hi, decide_eq_false (fun h => e h.symm)]; simp
      · rw [if_pos rfl]
  · rw [if_neg (by omega)]; rfl
  · rw [if_neg (by omega)]; rfl
set_option maxHeartbeats 4000000 in
theorem rtake1_yes (H : RP w b v u c d) (hc : c.ok) (hd : d.ok) (ht : isTold d.asks d.masked d.served = true) :
    Calls Try.prog 33 #[.pointer (some ⟨b, 0, none⟩), .int .i64 1] w fun e w' => e = .returned (.int .i64 (vec1 d : Nat)) ∧ RP w' b v u c (tk1 d) ∧ Keeps (· = b) w w' := by
  have hj := isTold_lt hd.served ht
  have h0 := Lib.hid (told_free hd.served ht)
  rw [show vec1 d = d.base + tz8 (left d.asks d.masked) by unfold vec1; rw [ht]; rfl, show tk1 d = takeC d (tz8 (left d.asks d.masked)) by unfold tk1; rw [ht]; rfl]
  have hR := Lib.hid (rtells1 H hc hd)
  rw [tellsR_yes ht] at hR
  generalize tz8 (left d.asks d.masked) = j at *
  have hb := hd.base
  have HH := Lib.hid H
  clear H hc ht hd
  go_enter Try.func33, Try.ntmps33
  have p1 : (0 : Int) ≤ (j : Int) := by omega
  have p2 : (j : Int) < 8 := by omega
  have p3 : ¬ ((j : Int) < 0) := by omega
  go_wp2_with fail
  refine hR.out.mono ?_
  rintro e w1 ⟨rfl, B1⟩
  have H1 := HH.out.below B1
  have k1 : w1.cell? ⟨b, 36 + j, none⟩ = some (.bool (bt d.asks j)) := H1.cell 1 0 j _ (by decide) (by decide) hj (by omega)
  have k2 : w1.cell? ⟨b, 44 + j, none⟩ = some (.bool (bt d.served j)) := H1.cell 1 1 j _ (by decide) (by decide) hj (by omega)
  obtain ⟨-, -, -, -, k3, -, k4, -⟩ := H1.last4
  have hl := H1.lt
  have hf : ∀ k, w1.frozen? ⟨b, k, none⟩ = false := fun k => free_at H1.obj
  have hB := Lib.hid B1
  have hH := Lib.hid H1
  clear B1 H1 hR
  go_upto_region 9 with (fail)
  have HA := Lib.hid (hH.out.set1 j (.bool false) (take_asks d u j hj) rfl)
  change Code.wp _ _ _ _ (w1.setCell ⟨b, 36 + j, none⟩ (.bool false))
  have K2 : Keeps (· = b) w1 (w1.setCell ⟨b, 36 + j, none⟩ (.bool false)) := (Keeps.refl _ _).setOne _ _
  have HK := Lib.hid ((Keeps.ofBelow (S := (· = b)) hB.out).andThen K2 (fun _ _ h => h))
  clear K2 k1 k2 k3 k4 hf hl hH hB
  generalize w1.setCell ⟨b, 36 + j, none⟩ (.bool false) = W at *
  have k2 : W.cell? ⟨b, 44 + j, none⟩ = some (.bool (bt d.served j)) := HA.out.cell 1 1 j _ (by decide) (by decide) hj (by omega)
  obtain ⟨-, -, -, -, -, -, k4, -⟩ := HA.out.last4
  have k4' : W.cell? ⟨b, 70, none⟩ = some (.bool d.ends) := k4
  clear k4
  have hl := HA.out.lt
  have hf : ∀ k, W.frozen? ⟨b, k, none⟩ = false := fun k => free_at HA.out.obj
  have HT := Lib.hid (show RP (W.setCell ⟨b, 44 + j, none⟩ (.bool (!d.ends))) b v u c (takeC d j) from by
    rw [show 44 + j = 36 + (8 + j) by omega]
    exact HA.out.set1 (8 + j) _ (take_served d u j hj h0.out) rfl)
  have H7 : Hid ((W.setCell ⟨b, 44 + j, none⟩ (.bool (!d.ends))).drew.cell? ⟨b, 70, none⟩ = some (.bool d.ends)) := Lib.hid HT.out.last4.2.2.2.2.2.2.1
  have HK2 := Lib.hid ((HK.out.drew.setOne (44 + j) (.bool (!d.ends))))
  go_region_held3 (fun w' => w'.cell? ⟨b, 70, none⟩ = some (.bool d.ends)) (first | exact H7.out | go_keep) (fail)
  all_goals
    go_wp2_with fail
    go_ret
    exact ⟨rfl, HT.out.drew, HK2.out⟩
set_option maxHeartbeats 1000000 in
theorem rtake1_no (H : RP w b v u c d) (hc : c.ok) (hd : d.ok) (ht : isTold d.asks d.masked d.served = false) :
    Calls Try.prog 33 #[.pointer (some ⟨b, 0, none⟩), .int .i64 1] w fun e w' => e = .returned (.int .i64 (vec1 d : Nat)) ∧ RP w' b v u c (tk1 d) ∧ Keeps (· = b) w w' := by
  rw [show vec1 d = d.base + 7 by unfold vec1; rw [ht]; rfl, show tk1 d = d by unfold tk1; rw [ht]; rfl]
  have hR := Lib.hid (rtells1 H hc hd)
  rw [tellsR_no ht] at hR
  have hb := hd.base
  have HH := Lib.hid H
  clear H hc ht hd
  go_enter Try.func33, Try.ntmps33
  go_wp2_with fail
  refine hR.out.mono ?_
  rintro e w1 ⟨rfl, B1⟩
  have H1 := HH.out.below B1
  obtain ⟨-, -, -, -, k3, -, -, -⟩ := H1.last4
  have hH := Lib.hid H1
  have HB := Lib.hid B1
  clear H1 B1
  go_wp2_with fail
  go_ret
  exact ⟨rfl, hH.out, Keeps.ofBelow HB.out⟩
theorem rtake1 (H : RP w b v u c d) (hc : c.ok) (hd : d.ok) :
    Calls Try.prog 33 #[.pointer (some ⟨b, 0, none⟩), .int .i64 1] w fun e w' => e = .returned (.int .i64 (vec1 d : Nat)) ∧ RP w' b v u c (tk1 d) ∧ Keeps (· = b) w w' := by
  cases h : isTold d.asks d.masked d.served
  · exact rtake1_no H hc hd h
  · exact rtake1_yes H hc hd h
-- THE FIRST CHIP
set_option maxHeartbeats 1000000 in
theorem rtake0_no (H : RP w b v u c d) (hc : c.ok) (hd : d.ok) (ht : told0 c d = false) :
    Calls Try.prog 33 #[.pointer (some ⟨b, 0, none⟩), .int .i64 0] w fun e w' => e = .returned (.int .i64 (vec0 c d : Nat)) ∧ RP w' b v u (tkc c d) (tkd c d) ∧ Keeps (· = b) w w' := by
  rw [show vec0 c d = c.base + 7 by unfold vec0; rw [ht]; rfl, show tkc c d = c by unfold tkc; rw [ht]; rfl, show tkd c d = d by unfold tkd; rw [ht]; rfl]
  have hR := Lib.hid (rtells0 H hc hd)
  rw [tellsR_no ht] at hR
  have hb := hc.base
  have HH := Lib.hid H
  clear H hc ht hd
  go_enter Try.func33, Try.ntmps33
  go_wp2_with fail
  refine hR.out.mono ?_
  rintro e w1 ⟨rfl, B1⟩
  have H1 := HH.out.below B1
  obtain ⟨k3, -, -, -, -, -, -, -⟩ := H1.last4
  have hH := Lib.hid H1
  have HB := Lib.hid B1
  clear H1 B1
  go_wp2_with fail
  go_ret
  exact ⟨rfl, hH.out, Keeps.ofBelow HB.out⟩

set_option maxHeartbeats 4000000 in
theorem rtake0_yes (H : RP w b v u c d) (hc : c.ok) (hd : d.ok) (ht : told0 c d = true) (h2 : line0 c d ≠ 2) :
    Calls Try.prog 33 #[.pointer (some ⟨b, 0, none⟩), .int .i64 0] w fun e w' => e = .returned (.int .i64 (vec0 c d : Nat)) ∧ RP w' b v u (tkc c d) (tkd c d) ∧ Keeps (· = b) w w' := by
  have hj := line0_lt hc ht
  have h0 := Lib.hid (told_free hc.served ht)
  rw [show vec0 c d = c.base + line0 c d by unfold vec0; rw [ht, if_neg h2]; rfl, show tkc c d = takeC c (line0 c d) by unfold tkc; rw [ht]; rfl, show tkd c d = d by unfold tkd; rw [ht, if_neg h2]; rfl]
  have hR := Lib.hid (rtells0 H hc hd)
  rw [tellsR_yes ht] at hR
  unfold line0 at *
  generalize tz8 (left (ask0 c d) c.masked) = j at *
  have hb := hc.base
  have HH := Lib.hid H
  clear H hd ht hc
  go_enter Try.func33, Try.ntmps33
  have p1 : (0 : Int) ≤ (j : Int) := by omega
  have p2 : (j : Int) < 8 := by omega
  have p3 : ¬ ((j : Int) < 0) := by omega
  have p4 : ((j : Int) == 2) = false := by simpa using (by omega : ¬ (j : Int) = 2)
  go_wp2_with fail
  refine hR.out.mono ?_
  rintro e w1 ⟨rfl, B1⟩
  have H1 := HH.out.below B1
  have k1 : w1.cell? ⟨b, j, none⟩ = some (.bool (bt c.asks j)) := H1.cell 0 0 j _ (by decide) (by decide) hj (by omega)
  obtain ⟨k3, -, k4, -, -, -, -, -⟩ := H1.last4
  have hl := H1.lt
  have hf : ∀ k, w1.frozen? ⟨b, k, none⟩ = false := fun k => free_at H1.obj
  have hB := Lib.hid B1
  have hH := Lib.hid H1
  clear B1 H1 hR
  go_upto_region 9 with (fail)
  have HA := Lib.hid (hH.out.set0 j (.bool false) (take_asks c v j hj) (by omega) rfl)
  change Code.wp _ _ _ _ (w1.setCell ⟨b, j, none⟩ (.bool false))
  have K2 : Keeps (· = b) w1 (w1.setCell ⟨b, j, none⟩ (.bool false)) := (Keeps.refl _ _).setOne _ _
  have HK := Lib.hid ((Keeps.ofBelow (S := (· = b)) hB.out).andThen K2 (fun _ _ h => h))
  clear K2 k1 k3 k4 hf hl hH hB
  generalize w1.setCell ⟨b, j, none⟩ (.bool false) = W at *
  have k2 : W.cell? ⟨b, 8 + j, none⟩ = some (.bool (bt c.served j)) := HA.out.cell 0 1 j _ (by decide) (by decide) hj (by omega)
  obtain ⟨-, -, k4, -, -, -, -, -⟩ := HA.out.last4
  have k4' : W.cell? ⟨b, 34, none⟩ = some (.bool c.ends) := k4
  clear k4
  have hl := HA.out.lt
  have hf : ∀ k, W.frozen? ⟨b, k, none⟩ = false := fun k => free_at HA.out.obj
  have HT := Lib.hid (HA.out.set0 (8 + j) _ (take_served c v j hj h0.out) (by omega) rfl)
  have H7 : Hid ((W.setCell ⟨b, 8 + j, none⟩ (.bool (!c.ends))).drew.cell? ⟨b, 34, none⟩ = some (.bool c.ends)) := Lib.hid HT.out.last4.2.2.1
  have HK2 := Lib.hid ((HK.out.drew.setOne (8 + j) (.bool (!c.ends))))
  go_region_held3 (fun w' => w'.cell? ⟨b, 34, none⟩ = some (.bool c.ends)) (first | exact H7.out | go_keep) (fail)
  all_goals
    go_wp2_with fail
    go_ret
    exact ⟨rfl, HT.out.drew, HK2.out⟩
set_option maxHeartbeats 4000000 in
theorem rtake0_two (H : RP w b v u c d) (hc : c.ok) (hd : d.ok) (ht : told0 c d = true) (h2 : line0 c d = 2) :
    Calls Try.prog 33 #[.pointer (some ⟨b, 0, none⟩), .int .i64 0] w fun e w' => e = .returned (.int .i64 (vec0 c d : Nat)) ∧ RP w' b v u (tkc c d) (tkd c d) ∧ Keeps (· = b) w w' := by
  have h0 := Lib.hid (told_free hc.served ht)
  rw [show vec0 c d = vec1 d by unfold vec0; rw [ht, if_pos h2]; rfl, show tkc c d = takeC c 2 by unfold tkc; rw [ht, if_pos rfl, h2], show tkd c d = tk1 d by unfold tkd; rw [ht, if_pos h2]; rfl]
  have hR := Lib.hid (rtells0 H hc hd)
  rw [tellsR_yes ht] at hR
  unfold line0 at *
  rw [h2] at hR h0
  have hb := hc.base
  have HH := Lib.hid H
  have HC := Lib.hid (And.intro hc hd)
  have hT := fun w1 (B : Below w.heap.size w w1) => rtake1 (H.below B) hc hd
  have HR1 := Lib.hid hT
  clear H hd ht hc hT h2
  go_enter Try.func33, Try.ntmps33
  go_wp2_with fail
  refine hR.out.mono ?_
  rintro e w1 ⟨rfl, B1⟩
  have H1 := HH.out.below B1
  obtain ⟨k3, -, -, -, -, -, -, -⟩ := H1.last4
  have hB := Lib.hid B1
  clear B1 H1 hR
  go_wp2_with fail
  refine (HR1.out _ hB.out).mono ?_
  rintro e w2 ⟨rfl, H2, K2⟩
  have hK := Lib.hid ((Keeps.ofBelow (S := (· = b)) hB.out).trans K2)
  have hH := Lib.hid H2
  have k1 : w2.cell? ⟨b, 2, none⟩ = some (.bool (bt c.asks 2)) := H2.cell 0 0 2 _ (by decide) (by decide) (by decide) rfl
  have hl := H2.lt
  have hf : ∀ k, w2.frozen? ⟨b, k, none⟩ = false := fun k => free_at hH.out.obj
  clear H2 K2 k3
  go_upto_region 9 with (fail)
  have HA := Lib.hid (hH.out.set0 2 (.bool false) (take_asks c v 2 (by decide)) (by decide) rfl)
  change Code.wp _ _ _ _ (w2.setCell ⟨b, 2, none⟩ (.bool false))
  have HK := Lib.hid (hK.out.setOne 2 (.bool false))
  clear k1 hf hl hH hK
  generalize w2.setCell ⟨b, 2, none⟩ (.bool false) = W at *
  have k2 : W.cell? ⟨b, 10, none⟩ = some (.bool (bt c.served 2)) := HA.out.cell 0 1 2 _ (by decide) (by decide) (by decide) rfl
  obtain ⟨-, -, k4, -, -, -, -, -⟩ := HA.out.last4
  have k4' : W.cell? ⟨b, 34, none⟩ = some (.bool c.ends) := k4
  clear k4
  have hl := HA.out.lt
  have hf : ∀ k, W.frozen? ⟨b, k, none⟩ = false := fun k => free_at HA.out.obj
  have HT := Lib.hid (HA.out.set0 10 _ (take_served c v 2 (by decide) h0.out) (by decide) rfl)
  have H7 : Hid ((W.setCell ⟨b, 10, none⟩ (.bool (!c.ends))).drew.cell? ⟨b, 34, none⟩ = some (.bool c.ends)) := Lib.hid HT.out.last4.2.2.1
  have HK2 := Lib.hid ((HK.out.drew.setOne 10 (.bool (!c.ends))))
  go_region_held3 (fun w' => w'.cell? ⟨b, 34, none⟩ = some (.bool c.ends)) (first | exact H7.out | go_keep) (fail)
  all_goals
    go_wp2_with fail
    go_ret
    exact ⟨rfl, HT.out.drew, HK2.out⟩
theorem rack_any (H : RP w b v u c d) (hc : c.ok) (hd : d.ok) :
    Calls Try.prog 20 #[.pointer (some ⟨b, 0, none⟩)] w fun e w' => e = .returned (.int .i64 (vec0 c d : Nat)) ∧ RP w' b v u (tkc c d) (tkd c d) ∧ Keeps (· = b) w w' := by
  have h : Calls Try.prog 33 #[.pointer (some ⟨b, 0, none⟩), .int .i64 0] w fun e w' => e = .returned (.int .i64 (vec0 c d : Nat)) ∧ RP w' b v u (tkc c d) (tkd c d) ∧ Keeps (· = b) w w' := by
    cases ht : told0 c d
    · exact rtake0_no H hc hd ht
    · by_cases h2 : line0 c d = 2
      · exact rtake0_two H hc hd ht h2
      · exact rtake0_yes H hc hd ht h2
  have HT := Lib.hid h
  clear h H hc hd
  go_enter Try.func20, Try.ntmps20
  go_wp2_with fail
  refine HT.out.mono ?_
  rintro e w1 ⟨rfl, H1, K1⟩
  have HX := Lib.hid (And.intro H1 K1)
  clear H1 K1
  go_wp2_with fail
  go_ret
  exact ⟨rfl, HX.out.1, HX.out.2⟩
end
end Go.Proofs.Ytfijohgbgadhiaa
