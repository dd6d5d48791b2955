/- pic: the document's pair: Out. -/
import Derived.Test.YtfijohgbgadhiaaPicR
namespace Go.Proofs.Ytfijohgbgadhiaa
open Go.RowKit
set_option linter.unusedVariables false
set_option linter.unusedSimpArgs false

section
variable {w : World} {b g : Nat} {v u : Value} {c d : Chip}
theorem setRow_keeps (w : World) (g : Nat) (cs : Array Value) : Keeps (· = g) w (w.setRow g cs) := ⟨rfl, rfl, rfl, by simp, fun k _ hk => setRow_other _ _ _ _ hk⟩
/-- What a call wrote to a pair of the document's. -/
def Laid (w : World) (b : Nat) (c d : Chip) (w' : World) : Prop := ∃ v u, RP w' b v u c d ∧ Keeps (· = b) w w'
set_option maxHeartbeats 8000000 in
theorem rout_0 (H : RP w b v u c d) (hc : c.ok) (hd : d.ok) (x : Nat) (hx : x < 256) :
    Calls Try.prog 16 #[.pointer (some ⟨b, 0, none⟩), .int .i64 0, .int .u8 (x : Nat)] w fun e w' => e = .returned (.int .i64 0) ∧ Laid w b (outC c true x) d w' := by
  have hz := fun w => zeroChip w
  have HR := Lib.hid H.r0
  have HO := Lib.hid (rc_one c H.cw.one)
  have HN := Lib.hid (heap_new w (.cells zero36.toArray 58))
  have HC := Lib.hid (And.intro (And.intro hc hd) hx)
  have HX := Lib.hid (chip_copied (c := c) (v := v) w)
  have HH := Lib.hid H
  have hbl := H.lt
  clear H hc hd hx
  go_enter Try.func16, Try.ntmps16
  go_upto_region 4 with (first | (refine wpList_load_mid rfl _ _ rfl b 0 rfl (c.rcells v) _ HR.out Try.underlying58 rfl info36 ?_) | (refine wpList_store_row rfl _ _ _ rfl w.heap.size (c.rcells v).toArray rfl rfl _ _ HN.out info36 rfl HO.out ?_))
  obtain ⟨A, B⟩ := HX.out
  change Code.wp _ _ _ _ ((w.alloc (.cells zero36.toArray 58)).setRow w.heap.size (c.rcells v).toArray)
  have HP := Lib.hid (HH.out.below B)
  clear HX HN HR hz HO
  generalize (w.alloc (.cells zero36.toArray 58)).setRow w.heap.size (c.rcells v).toArray = W at *
  have HA := Lib.hid A
  have HB := Lib.hid B
  clear A B
  go_wp2_with (refine wpList_load_row rfl _ _ rfl w.heap.size rfl _ _ _ _ HA.out.obj Try.underlying58 rfl info36 ?_)
  refine (rcommand_any HP.out.cw HC.out.1.1 x HC.out.2).mono ?_
  rintro e w1 ⟨uu, rfl, RU, B1⟩
  have HA1 := Lib.hid (HA.out.below B1 HA.out.lt)
  have HP1 := Lib.hid (HP.out.below B1)
  have HB1 := Lib.hid (HB.out.trans (B1.mono HB.out.size))
  have HO1 := Lib.hid (rc_one (outC c true x) RU.one)
  have HRU := Lib.hid RU
  clear RU B1 HA HP HB
  go_upto_region 7 with (refine wpList_store_row rfl _ _ _ rfl w.heap.size ((outC c true x).rcells uu).toArray rfl rfl _ _ HA1.out.obj info36 rfl HO1.out ?_)
  change Code.wp _ _ _ _ (w1.setRow w.heap.size ((outC c true x).rcells uu).toArray)
  have HA2 := Lib.hid (ChipAt.mk (heap_row (cs := ((outC c true x).rcells uu).toArray) HA1.out.obj))
  have K2 := setRow_keeps w1 w.heap.size ((outC c true x).rcells uu).toArray
  have HP2 := Lib.hid (HP1.out.beside HA1.out K2 (Nat.ne_of_lt hbl))
  have HB2 := Lib.hid (Keeps.toBelow HB1.out K2 HB1.out.size (fun k hk => by omega))
  have HV := Lib.hid (HRU.out.of_heap fun k hk => K2.block k (HRU.out.lt hk) (HA1.out.apart HRU.out hk))
  clear K2 HA1 HP1 HB1 HRU
  generalize w1.setRow w.heap.size ((outC c true x).rcells uu).toArray = W2 at *
  refine wp_region_held_drew (S := fun w' => w'.rangeAt w.heap.size 0 ((outC c true x).rcells uu) ∧ w'.there b 0 36) (by kernel_rfl) ⟨HA2.out.row, HP2.out.there 0 36 (by decide)⟩ (fun hHeld => ?_)
  refine wpAnyH_take (i := 0) (oi := _) (v := ?_) rfl (by kernel_rfl) (by kernel_rfl) (by kernel_rfl) (fun _ _ _ h => h) (Or.inl ⟨by rfl, ?_⟩) (by assumption) ?_
  rotate_left
  · (intro w hSw; (try dsimp only at hSw); go_simp <;> rfl)
  simp only [Act.put, List.getElem_toArray, List.getElem_cons_zero, List.getElem_cons_succ, List.setIfInBounds_toArray, List.set_cons_zero, List.set_cons_succ]
  refine wpAnyH_take (i := 1) (oi := _) (v := ?_) rfl (by kernel_rfl) (by kernel_rfl) (by kernel_rfl) (fun _ _ _ h => h) (Or.inl ⟨by rfl, ?_⟩) (by assumption) ?_
  rotate_left
  · (intro w hSw; (try dsimp only at hSw); go_simp <;> rfl)
  simp only [Act.put, List.getElem_toArray, List.getElem_cons_zero, List.getElem_cons_succ, List.setIfInBounds_toArray, List.set_cons_zero, List.set_cons_succ]
  refine wpAnyH_take (i := 2) (oi := _) (v := ?_) rfl (by kernel_rfl) (by kernel_rfl) (by kernel_rfl) (fun _ _ _ h => h) (Or.inl ⟨by rfl, ?_⟩) (by assumption) ?_
  rotate_left
  · (intro w hSw; (try dsimp only at hSw); go_simp <;> rfl)
  simp only [Act.put, List.getElem_toArray, List.getElem_cons_zero, List.getElem_cons_succ, List.setIfInBounds_toArray, List.set_cons_zero, List.set_cons_succ]
  refine wpAnyH_take (i := 3) (oi := _) (v := _) rfl (by kernel_rfl) (by kernel_rfl) (by kernel_rfl) (fun _ _ _ h => h) (yieldsIf_load_mid (by rfl) _ _ rfl _ _ rfl ((outC c true x).rcells uu) _ (fun _ h => h.1) Try.underlying58 rfl info36) (by assumption) ?_
  simp only [Act.put, List.getElem_toArray, List.getElem_cons_zero, List.getElem_cons_succ, List.setIfInBounds_toArray, List.set_cons_zero, List.set_cons_succ]
  refine wpAnyH_take (i := 4) (oi := _) (v := ?_) rfl (by kernel_rfl) (by kernel_rfl) (by kernel_rfl) (fun _ _ _ h => h) (Or.inl ⟨by rfl, ?_⟩) (by assumption) ?_
  rotate_left
  · (intro w hSw; (try dsimp only at hSw); go_simp <;> rfl)
  simp only [Act.put, List.getElem_toArray, List.getElem_cons_zero, List.getElem_cons_succ, List.setIfInBounds_toArray, List.set_cons_zero, List.set_cons_succ]
  refine wpAnyH_take (i := 5) (oi := _) (v := ?_) rfl (by kernel_rfl) (by kernel_rfl) (by kernel_rfl) (fun _ _ _ h => h) (Or.inl ⟨by rfl, ?_⟩) (by assumption) ?_
  rotate_left
  · (intro w hSw; (try dsimp only at hSw); go_simp <;> rfl)
  simp only [Act.put, List.getElem_toArray, List.getElem_cons_zero, List.getElem_cons_succ, List.setIfInBounds_toArray, List.set_cons_zero, List.set_cons_succ]
  refine wpAnyH_take (i := 6) (oi := _) (v := ?_) rfl (by kernel_rfl) (by kernel_rfl) (by kernel_rfl) (fun _ _ _ h => h) (Or.inl ⟨by rfl, ?_⟩) (by assumption) ?_
  rotate_left
  · (intro w hSw; (try dsimp only at hSw); go_simp <;> rfl)
  simp only [Act.put, List.getElem_toArray, List.getElem_cons_zero, List.getElem_cons_succ, List.setIfInBounds_toArray, List.set_cons_zero, List.set_cons_succ]
  refine wpAnyH_ready (rs := [7]) (by kernel_rfl) (by decide) (AllReadyH.cons rfl (fun K' hK => ?_) AllReadyH.nil)
  rw [if_pos (by rfl)]
  refine wp_store_mid _ _ _ rfl b 0 ((outC c true x).rcells uu).toArray rfl rfl hHeld.2 info36 HO1.out ?_
  refine hK.out _ _ ⟨World.rangeAt_setCells_apart hHeld.1 _ _ _ (Or.inl (Nat.ne_of_gt hbl)), World.there_setCells hHeld.2 _ _ _⟩ (fun h2 => ?_)
  refine wpAnyH_done (by kernel_rfl) ?_ _
  simp only [Act.put, List.getElem_toArray, List.getElem_cons_zero, List.getElem_cons_succ, List.setIfInBounds_toArray, List.set_cons_zero, List.set_cons_succ]
  go_wp2_with fail
  go_ret
  exact ⟨rfl, _, _, HP2.out.drew.lay0 (HV.out.of_heap fun _ _ => rfl), (Keeps.ofBelow HB2.out).drew.andThen (keeps_setCells _ _ _ _) (fun _ _ h => h)⟩
set_option maxHeartbeats 8000000 in
theorem rout_1 (H : RP w b v u c d) (hc : c.ok) (hd : d.ok) (x : Nat) (hx : x < 256) :
    Calls Try.prog 16 #[.pointer (some ⟨b, 0, none⟩), .int .i64 1, .int .u8 (x : Nat)] w fun e w' => e = .returned (.int .i64 0) ∧ Laid w b (outC c false x) d w' := by
  have hz := fun w => zeroChip w
  have HR := Lib.hid H.r0
  have HO := Lib.hid (rc_one c H.cw.one)
  have HN := Lib.hid (heap_new w (.cells zero36.toArray 58))
  have HC := Lib.hid (And.intro (And.intro hc hd) hx)
  have HX := Lib.hid (chip_copied (c := c) (v := v) w)
  have HH := Lib.hid H
  have hbl := H.lt
  clear H hc hd hx
  go_enter Try.func16, Try.ntmps16
  go_upto_region 4 with (first | (refine wpList_load_mid rfl _ _ rfl b 0 rfl (c.rcells v) _ HR.out Try.underlying58 rfl info36 ?_) | (refine wpList_store_row rfl _ _ _ rfl w.heap.size (c.rcells v).toArray rfl rfl _ _ HN.out info36 rfl HO.out ?_))
  obtain ⟨A, B⟩ := HX.out
  change Code.wp _ _ _ _ ((w.alloc (.cells zero36.toArray 58)).setRow w.heap.size (c.rcells v).toArray)
  have HP := Lib.hid (HH.out.below B)
  clear HX HN HR hz HO
  generalize (w.alloc (.cells zero36.toArray 58)).setRow w.heap.size (c.rcells v).toArray = W at *
  have HA := Lib.hid A
  have HB := Lib.hid B
  clear A B
  go_wp2_with (refine wpList_load_row rfl _ _ rfl w.heap.size rfl _ _ _ _ HA.out.obj Try.underlying58 rfl info36 ?_)
  refine (rdata_any HP.out.cw HC.out.1.1 x HC.out.2).mono ?_
  rintro e w1 ⟨uu, rfl, RU, B1⟩
  have HA1 := Lib.hid (HA.out.below B1 HA.out.lt)
  have HP1 := Lib.hid (HP.out.below B1)
  have HB1 := Lib.hid (HB.out.trans (B1.mono HB.out.size))
  have HO1 := Lib.hid (rc_one (outC c false x) RU.one)
  have HRU := Lib.hid RU
  clear RU B1 HA HP HB
  go_upto_region 7 with (refine wpList_store_row rfl _ _ _ rfl w.heap.size ((outC c false x).rcells uu).toArray rfl rfl _ _ HA1.out.obj info36 rfl HO1.out ?_)
  change Code.wp _ _ _ _ (w1.setRow w.heap.size ((outC c false x).rcells uu).toArray)
  have HA2 := Lib.hid (ChipAt.mk (heap_row (cs := ((outC c false x).rcells uu).toArray) HA1.out.obj))
  have K2 := setRow_keeps w1 w.heap.size ((outC c false x).rcells uu).toArray
  have HP2 := Lib.hid (HP1.out.beside HA1.out K2 (Nat.ne_of_lt hbl))
  have HB2 := Lib.hid (Keeps.toBelow HB1.out K2 HB1.out.size (fun k hk => by omega))
  have HV := Lib.hid (HRU.out.of_heap fun k hk => K2.block k (HRU.out.lt hk) (HA1.out.apart HRU.out hk))
  clear K2 HA1 HP1 HB1 HRU
  generalize w1.setRow w.heap.size ((outC c false x).rcells uu).toArray = W2 at *
  refine wp_region_held_drew (S := fun w' => w'.rangeAt w.heap.size 0 ((outC c false x).rcells uu) ∧ w'.there b 0 36) (by kernel_rfl) ⟨HA2.out.row, HP2.out.there 0 36 (by decide)⟩ (fun hHeld => ?_)
  refine wpAnyH_take (i := 0) (oi := _) (v := ?_) rfl (by kernel_rfl) (by kernel_rfl) (by kernel_rfl) (fun _ _ _ h => h) (Or.inl ⟨by rfl, ?_⟩) (by assumption) ?_
  rotate_left
  · (intro w hSw; (try dsimp only at hSw); go_simp <;> rfl)
  simp only [Act.put, List.getElem_toArray, List.getElem_cons_zero, List.getElem_cons_succ, List.setIfInBounds_toArray, List.set_cons_zero, List.set_cons_succ]
  refine wpAnyH_take (i := 1) (oi := _) (v := ?_) rfl (by kernel_rfl) (by kernel_rfl) (by kernel_rfl) (fun _ _ _ h => h) (Or.inl ⟨by rfl, ?_⟩) (by assumption) ?_
  rotate_left
  · (intro w hSw; (try dsimp only at hSw); go_simp <;> rfl)
  simp only [Act.put, List.getElem_toArray, List.getElem_cons_zero, List.getElem_cons_succ, List.setIfInBounds_toArray, List.set_cons_zero, List.set_cons_succ]
  refine wpAnyH_take (i := 2) (oi := _) (v := ?_) rfl (by kernel_rfl) (by kernel_rfl) (by kernel_rfl) (fun _ _ _ h => h) (Or.inl ⟨by rfl, ?_⟩) (by assumption) ?_
  rotate_left
  · (intro w hSw; (try dsimp only at hSw); go_simp <;> rfl)
  simp only [Act.put, List.getElem_toArray, List.getElem_cons_zero, List.getElem_cons_succ, List.setIfInBounds_toArray, List.set_cons_zero, List.set_cons_succ]
  refine wpAnyH_take (i := 3) (oi := _) (v := _) rfl (by kernel_rfl) (by kernel_rfl) (by kernel_rfl) (fun _ _ _ h => h) (yieldsIf_load_mid (by rfl) _ _ rfl _ _ rfl ((outC c false x).rcells uu) _ (fun _ h => h.1) Try.underlying58 rfl info36) (by assumption) ?_
  simp only [Act.put, List.getElem_toArray, List.getElem_cons_zero, List.getElem_cons_succ, List.setIfInBounds_toArray, List.set_cons_zero, List.set_cons_succ]
  refine wpAnyH_take (i := 4) (oi := _) (v := ?_) rfl (by kernel_rfl) (by kernel_rfl) (by kernel_rfl) (fun _ _ _ h => h) (Or.inl ⟨by rfl, ?_⟩) (by assumption) ?_
  rotate_left
  · (intro w hSw; (try dsimp only at hSw); go_simp <;> rfl)
  simp only [Act.put, List.getElem_toArray, List.getElem_cons_zero, List.getElem_cons_succ, List.setIfInBounds_toArray, List.set_cons_zero, List.set_cons_succ]
  refine wpAnyH_take (i := 5) (oi := _) (v := ?_) rfl (by kernel_rfl) (by kernel_rfl) (by kernel_rfl) (fun _ _ _ h => h) (Or.inl ⟨by rfl, ?_⟩) (by assumption) ?_
  rotate_left
  · (intro w hSw; (try dsimp only at hSw); go_simp <;> rfl)
  simp only [Act.put, List.getElem_toArray, List.getElem_cons_zero, List.getElem_cons_succ, List.setIfInBounds_toArray, List.set_cons_zero, List.set_cons_succ]
  refine wpAnyH_take (i := 6) (oi := _) (v := ?_) rfl (by kernel_rfl) (by kernel_rfl) (by kernel_rfl) (fun _ _ _ h => h) (Or.inl ⟨by rfl, ?_⟩) (by assumption) ?_
  rotate_left
  · (intro w hSw; (try dsimp only at hSw); go_simp <;> rfl)
  simp only [Act.put, List.getElem_toArray, List.getElem_cons_zero, List.getElem_cons_succ, List.setIfInBounds_toArray, List.set_cons_zero, List.set_cons_succ]
  refine wpAnyH_ready (rs := [7]) (by kernel_rfl) (by decide) (AllReadyH.cons rfl (fun K' hK => ?_) AllReadyH.nil)
  rw [if_pos (by rfl)]
  refine wp_store_mid _ _ _ rfl b 0 ((outC c false x).rcells uu).toArray rfl rfl hHeld.2 info36 HO1.out ?_
  refine hK.out _ _ ⟨World.rangeAt_setCells_apart hHeld.1 _ _ _ (Or.inl (Nat.ne_of_gt hbl)), World.there_setCells hHeld.2 _ _ _⟩ (fun h2 => ?_)
  refine wpAnyH_done (by kernel_rfl) ?_ _
  simp only [Act.put, List.getElem_toArray, List.getElem_cons_zero, List.getElem_cons_succ, List.setIfInBounds_toArray, List.set_cons_zero, List.set_cons_succ]
  go_wp2_with fail
  go_ret
  exact ⟨rfl, _, _, HP2.out.drew.lay0 (HV.out.of_heap fun _ _ => rfl), (Keeps.ofBelow HB2.out).drew.andThen (keeps_setCells _ _ _ _) (fun _ _ h => h)⟩
set_option maxHeartbeats 8000000 in
theorem rout_2 (H : RP w b v u c d) (hc : c.ok) (hd : d.ok) (x : Nat) (hx : x < 256) :
    Calls Try.prog 16 #[.pointer (some ⟨b, 0, none⟩), .int .i64 2, .int .u8 (x : Nat)] w fun e w' => e = .returned (.int .i64 0) ∧ Laid w b c (outC d true x) w' := by
  have hz := fun w => zeroChip w
  have HR := Lib.hid H.r1
  have HO := Lib.hid (rc_one d H.dw.one)
  have HN := Lib.hid (heap_new w (.cells zero36.toArray 58))
  have HC := Lib.hid (And.intro (And.intro hc hd) hx)
  have HX := Lib.hid (chip_copied (c := d) (v := u) w)
  have HH := Lib.hid H
  have hbl := H.lt
  clear H hc hd hx
  go_enter Try.func16, Try.ntmps16
  go_upto_region 4 with (first | (refine wpList_load_mid rfl _ _ rfl b 36 rfl (d.rcells u) _ HR.out Try.underlying58 rfl info36 ?_) | (refine wpList_store_row rfl _ _ _ rfl w.heap.size (d.rcells u).toArray rfl rfl _ _ HN.out info36 rfl HO.out ?_))
  obtain ⟨A, B⟩ := HX.out
  change Code.wp _ _ _ _ ((w.alloc (.cells zero36.toArray 58)).setRow w.heap.size (d.rcells u).toArray)
  have HP := Lib.hid (HH.out.below B)
  clear HX HN HR hz HO
  generalize (w.alloc (.cells zero36.toArray 58)).setRow w.heap.size (d.rcells u).toArray = W at *
  have HA := Lib.hid A
  have HB := Lib.hid B
  clear A B
  go_wp2_with (refine wpList_load_row rfl _ _ rfl w.heap.size rfl _ _ _ _ HA.out.obj Try.underlying58 rfl info36 ?_)
  refine (rcommand_any HP.out.dw HC.out.1.2 x HC.out.2).mono ?_
  rintro e w1 ⟨uu, rfl, RU, B1⟩
  have HA1 := Lib.hid (HA.out.below B1 HA.out.lt)
  have HP1 := Lib.hid (HP.out.below B1)
  have HB1 := Lib.hid (HB.out.trans (B1.mono HB.out.size))
  have HO1 := Lib.hid (rc_one (outC d true x) RU.one)
  have HRU := Lib.hid RU
  clear RU B1 HA HP HB
  go_upto_region 7 with (refine wpList_store_row rfl _ _ _ rfl w.heap.size ((outC d true x).rcells uu).toArray rfl rfl _ _ HA1.out.obj info36 rfl HO1.out ?_)
  change Code.wp _ _ _ _ (w1.setRow w.heap.size ((outC d true x).rcells uu).toArray)
  have HA2 := Lib.hid (ChipAt.mk (heap_row (cs := ((outC d true x).rcells uu).toArray) HA1.out.obj))
  have K2 := setRow_keeps w1 w.heap.size ((outC d true x).rcells uu).toArray
  have HP2 := Lib.hid (HP1.out.beside HA1.out K2 (Nat.ne_of_lt hbl))
  have HB2 := Lib.hid (Keeps.toBelow HB1.out K2 HB1.out.size (fun k hk => by omega))
  have HV := Lib.hid (HRU.out.of_heap fun k hk => K2.block k (HRU.out.lt hk) (HA1.out.apart HRU.out hk))
  clear K2 HA1 HP1 HB1 HRU
  generalize w1.setRow w.heap.size ((outC d true x).rcells uu).toArray = W2 at *
  refine wp_region_held_drew (S := fun w' => w'.rangeAt w.heap.size 0 ((outC d true x).rcells uu) ∧ w'.there b 36 36) (by kernel_rfl) ⟨HA2.out.row, HP2.out.there 36 36 (by decide)⟩ (fun hHeld => ?_)
  refine wpAnyH_take (i := 0) (oi := _) (v := ?_) rfl (by kernel_rfl) (by kernel_rfl) (by kernel_rfl) (fun _ _ _ h => h) (Or.inl ⟨by rfl, ?_⟩) (by assumption) ?_
  rotate_left
  · (intro w hSw; (try dsimp only at hSw); go_simp <;> rfl)
  simp only [Act.put, List.getElem_toArray, List.getElem_cons_zero, List.getElem_cons_succ, List.setIfInBounds_toArray, List.set_cons_zero, List.set_cons_succ]
  refine wpAnyH_take (i := 1) (oi := _) (v := ?_) rfl (by kernel_rfl) (by kernel_rfl) (by kernel_rfl) (fun _ _ _ h => h) (Or.inl ⟨by rfl, ?_⟩) (by assumption) ?_
  rotate_left
  · (intro w hSw; (try dsimp only at hSw); go_simp <;> rfl)
  simp only [Act.put, List.getElem_toArray, List.getElem_cons_zero, List.getElem_cons_succ, List.setIfInBounds_toArray, List.set_cons_zero, List.set_cons_succ]
  refine wpAnyH_take (i := 2) (oi := _) (v := ?_) rfl (by kernel_rfl) (by kernel_rfl) (by kernel_rfl) (fun _ _ _ h => h) (Or.inl ⟨by rfl, ?_⟩) (by assumption) ?_
  rotate_left
  · (intro w hSw; (try dsimp only at hSw); go_simp <;> rfl)
  simp only [Act.put, List.getElem_toArray, List.getElem_cons_zero, List.getElem_cons_succ, List.setIfInBounds_toArray, List.set_cons_zero, List.set_cons_succ]
  refine wpAnyH_take (i := 3) (oi := _) (v := _) rfl (by kernel_rfl) (by kernel_rfl) (by kernel_rfl) (fun _ _ _ h => h) (yieldsIf_load_mid (by rfl) _ _ rfl _ _ rfl ((outC d true x).rcells uu) _ (fun _ h => h.1) Try.underlying58 rfl info36) (by assumption) ?_
  simp only [Act.put, List.getElem_toArray, List.getElem_cons_zero, List.getElem_cons_succ, List.setIfInBounds_toArray, List.set_cons_zero, List.set_cons_succ]
  refine wpAnyH_take (i := 4) (oi := _) (v := ?_) rfl (by kernel_rfl) (by kernel_rfl) (by kernel_rfl) (fun _ _ _ h => h) (Or.inl ⟨by rfl, ?_⟩) (by assumption) ?_
  rotate_left
  · (intro w hSw; (try dsimp only at hSw); go_simp <;> rfl)
  simp only [Act.put, List.getElem_toArray, List.getElem_cons_zero, List.getElem_cons_succ, List.setIfInBounds_toArray, List.set_cons_zero, List.set_cons_succ]
  refine wpAnyH_take (i := 5) (oi := _) (v := ?_) rfl (by kernel_rfl) (by kernel_rfl) (by kernel_rfl) (fun _ _ _ h => h) (Or.inl ⟨by rfl, ?_⟩) (by assumption) ?_
  rotate_left
  · (intro w hSw; (try dsimp only at hSw); go_simp <;> rfl)
  simp only [Act.put, List.getElem_toArray, List.getElem_cons_zero, List.getElem_cons_succ, List.setIfInBounds_toArray, List.set_cons_zero, List.set_cons_succ]
  refine wpAnyH_take (i := 6) (oi := _) (v := ?_) rfl (by kernel_rfl) (by kernel_rfl) (by kernel_rfl) (fun _ _ _ h => h) (Or.inl ⟨by rfl, ?_⟩) (by assumption) ?_
  rotate_left
  · (intro w hSw; (try dsimp only at hSw); go_simp <;> rfl)
  simp only [Act.put, List.getElem_toArray, List.getElem_cons_zero, List.getElem_cons_succ, List.setIfInBounds_toArray, List.set_cons_zero, List.set_cons_succ]
  refine wpAnyH_ready (rs := [7]) (by kernel_rfl) (by decide) (AllReadyH.cons rfl (fun K' hK => ?_) AllReadyH.nil)
  rw [if_pos (by rfl)]
  refine wp_store_mid _ _ _ rfl b 36 ((outC d true x).rcells uu).toArray rfl rfl hHeld.2 info36 HO1.out ?_
  refine hK.out _ _ ⟨World.rangeAt_setCells_apart hHeld.1 _ _ _ (Or.inl (Nat.ne_of_gt hbl)), World.there_setCells hHeld.2 _ _ _⟩ (fun h2 => ?_)
  refine wpAnyH_done (by kernel_rfl) ?_ _
  simp only [Act.put, List.getElem_toArray, List.getElem_cons_zero, List.getElem_cons_succ, List.setIfInBounds_toArray, List.set_cons_zero, List.set_cons_succ]
  go_wp2_with fail
  go_ret
  exact ⟨rfl, _, _, HP2.out.drew.lay1 (HV.out.of_heap fun _ _ => rfl), (Keeps.ofBelow HB2.out).drew.andThen (keeps_setCells _ _ _ _) (fun _ _ h => h)⟩
set_option maxHeartbeats 8000000 in
theorem rout_3 (H : RP w b v u c d) (hc : c.ok) (hd : d.ok) (x : Nat) (hx : x < 256) :
    Calls Try.prog 16 #[.pointer (some ⟨b, 0, none⟩), .int .i64 3, .int .u8 (x : Nat)] w fun e w' => e = .returned (.int .i64 0) ∧ Laid w b c (outC d false x) w' := by
  have hz := fun w => zeroChip w
  have HR := Lib.hid H.r1
  have HO := Lib.hid (rc_one d H.dw.one)
  have HN := Lib.hid (heap_new w (.cells zero36.toArray 58))
  have HC := Lib.hid (And.intro (And.intro hc hd) hx)
  have HX := Lib.hid (chip_copied (c := d) (v := u) w)
  have HH := Lib.hid H
  have hbl := H.lt
  clear H hc hd hx
  go_enter Try.func16, Try.ntmps16
  go_upto_region 4 with (first | (refine wpList_load_mid rfl _ _ rfl b 36 rfl (d.rcells u) _ HR.out Try.underlying58 rfl info36 ?_) | (refine wpList_store_row rfl _ _ _ rfl w.heap.size (d.rcells u).toArray rfl rfl _ _ HN.out info36 rfl HO.out ?_))
  obtain ⟨A, B⟩ := HX.out
  change Code.wp _ _ _ _ ((w.alloc (.cells zero36.toArray 58)).setRow w.heap.size (d.rcells u).toArray)
  have HP := Lib.hid (HH.out.below B)
  clear HX HN HR hz HO
  generalize (w.alloc (.cells zero36.toArray 58)).setRow w.heap.size (d.rcells u).toArray = W at *
  have HA := Lib.hid A
  have HB := Lib.hid B
  clear A B
  go_wp2_with (refine wpList_load_row rfl _ _ rfl w.heap.size rfl _ _ _ _ HA.out.obj Try.underlying58 rfl info36 ?_)
  refine (rdata_any HP.out.dw HC.out.1.2 x HC.out.2).mono ?_
  rintro e w1 ⟨uu, rfl, RU, B1⟩
  have HA1 := Lib.hid (HA.out.below B1 HA.out.lt)
  have HP1 := Lib.hid (HP.out.below B1)
  have HB1 := Lib.hid (HB.out.trans (B1.mono HB.out.size))
  have HO1 := Lib.hid (rc_one (outC d false x) RU.one)
  have HRU := Lib.hid RU
  clear RU B1 HA HP HB
  go_upto_region 7 with (refine wpList_store_row rfl _ _ _ rfl w.heap.size ((outC d false x).rcells uu).toArray rfl rfl _ _ HA1.out.obj info36 rfl HO1.out ?_)
  change Code.wp _ _ _ _ (w1.setRow w.heap.size ((outC d false x).rcells uu).toArray)
  have HA2 := Lib.hid (ChipAt.mk (heap_row (cs := ((outC d false x).rcells uu).toArray) HA1.out.obj))
  have K2 := setRow_keeps w1 w.heap.size ((outC d false x).rcells uu).toArray
  have HP2 := Lib.hid (HP1.out.beside HA1.out K2 (Nat.ne_of_lt hbl))
  have HB2 := Lib.hid (Keeps.toBelow HB1.out K2 HB1.out.size (fun k hk => by omega))
  have HV := Lib.hid (HRU.out.of_heap fun k hk => K2.block k (HRU.out.lt hk) (HA1.out.apart HRU.out hk))
  clear K2 HA1 HP1 HB1 HRU
  generalize w1.setRow w.heap.size ((outC d false x).rcells uu).toArray = W2 at *
  refine wp_region_held_drew (S := fun w' => w'.rangeAt w.heap.size 0 ((outC d false x).rcells uu) ∧ w'.there b 36 36) (by kernel_rfl) ⟨HA2.out.row, HP2.out.there 36 36 (by decide)⟩ (fun hHeld => ?_)
  refine wpAnyH_take (i := 0) (oi := _) (v := ?_) rfl (by kernel_rfl) (by kernel_rfl) (by kernel_rfl) (fun _ _ _ h => h) (Or.inl ⟨by rfl, ?_⟩) (by assumption) ?_
  rotate_left
  · (intro w hSw; (try dsimp only at hSw); go_simp <;> rfl)
  simp only [Act.put, List.getElem_toArray, List.getElem_cons_zero, List.getElem_cons_succ, List.setIfInBounds_toArray, List.set_cons_zero, List.set_cons_succ]
  refine wpAnyH_take (i := 1) (oi := _) (v := ?_) rfl (by kernel_rfl) (by kernel_rfl) (by kernel_rfl) (fun _ _ _ h => h) (Or.inl ⟨by rfl, ?_⟩) (by assumption) ?_
  rotate_left
  · (intro w hSw; (try dsimp only at hSw); go_simp <;> rfl)
  simp only [Act.put, List.getElem_toArray, List.getElem_cons_zero, List.getElem_cons_succ, List.setIfInBounds_toArray, List.set_cons_zero, List.set_cons_succ]
  refine wpAnyH_take (i := 2) (oi := _) (v := ?_) rfl (by kernel_rfl) (by kernel_rfl) (by kernel_rfl) (fun _ _ _ h => h) (Or.inl ⟨by rfl, ?_⟩) (by assumption) ?_
  rotate_left
  · (intro w hSw; (try dsimp only at hSw); go_simp <;> rfl)
  simp only [Act.put, List.getElem_toArray, List.getElem_cons_zero, List.getElem_cons_succ, List.setIfInBounds_toArray, List.set_cons_zero, List.set_cons_succ]
  refine wpAnyH_take (i := 3) (oi := _) (v := _) rfl (by kernel_rfl) (by kernel_rfl) (by kernel_rfl) (fun _ _ _ h => h) (yieldsIf_load_mid (by rfl) _ _ rfl _ _ rfl ((outC d false x).rcells uu) _ (fun _ h => h.1) Try.underlying58 rfl info36) (by assumption) ?_
  simp only [Act.put, List.getElem_toArray, List.getElem_cons_zero, List.getElem_cons_succ, List.setIfInBounds_toArray, List.set_cons_zero, List.set_cons_succ]
  refine wpAnyH_take (i := 4) (oi := _) (v := ?_) rfl (by kernel_rfl) (by kernel_rfl) (by kernel_rfl) (fun _ _ _ h => h) (Or.inl ⟨by rfl, ?_⟩) (by assumption) ?_
  rotate_left
  · (intro w hSw; (try dsimp only at hSw); go_simp <;> rfl)
  simp only [Act.put, List.getElem_toArray, List.getElem_cons_zero, List.getElem_cons_succ, List.setIfInBounds_toArray, List.set_cons_zero, List.set_cons_succ]
  refine wpAnyH_take (i := 5) (oi := _) (v := ?_) rfl (by kernel_rfl) (by kernel_rfl) (by kernel_rfl) (fun _ _ _ h => h) (Or.inl ⟨by rfl, ?_⟩) (by assumption) ?_
  rotate_left
  · (intro w hSw; (try dsimp only at hSw); go_simp <;> rfl)
  simp only [Act.put, List.getElem_toArray, List.getElem_cons_zero, List.getElem_cons_succ, List.setIfInBounds_toArray, List.set_cons_zero, List.set_cons_succ]
  refine wpAnyH_take (i := 6) (oi := _) (v := ?_) rfl (by kernel_rfl) (by kernel_rfl) (by kernel_rfl) (fun _ _ _ h => h) (Or.inl ⟨by rfl, ?_⟩) (by assumption) ?_
  rotate_left
  · (intro w hSw; (try dsimp only at hSw); go_simp <;> rfl)
  simp only [Act.put, List.getElem_toArray, List.getElem_cons_zero, List.getElem_cons_succ, List.setIfInBounds_toArray, List.set_cons_zero, List.set_cons_succ]
  refine wpAnyH_ready (rs := [7]) (by kernel_rfl) (by decide) (AllReadyH.cons rfl (fun K' hK => ?_) AllReadyH.nil)
  rw [if_pos (by rfl)]
  refine wp_store_mid _ _ _ rfl b 36 ((outC d false x).rcells uu).toArray rfl rfl hHeld.2 info36 HO1.out ?_
  refine hK.out _ _ ⟨World.rangeAt_setCells_apart hHeld.1 _ _ _ (Or.inl (Nat.ne_of_gt hbl)), World.there_setCells hHeld.2 _ _ _⟩ (fun h2 => ?_)
  refine wpAnyH_done (by kernel_rfl) ?_ _
  simp only [Act.put, List.getElem_toArray, List.getElem_cons_zero, List.getElem_cons_succ, List.setIfInBounds_toArray, List.set_cons_zero, List.set_cons_succ]
  go_wp2_with fail
  go_ret
  exact ⟨rfl, _, _, HP2.out.drew.lay1 (HV.out.of_heap fun _ _ => rfl), (Keeps.ofBelow HB2.out).drew.andThen (keeps_setCells _ _ _ _) (fun _ _ h => h)⟩
set_option maxHeartbeats 1000000 in
theorem rout_bad (H : RP w b v u c d) (n : Int) (x : Nat) (hn : n < 0 ∨ 3 < n) :
    Calls Try.prog 16 #[.pointer (some ⟨b, 0, none⟩), .int .i64 n, .int .u8 (x : Nat)] w fun e w' => e = .returned (.int .i64 1) ∧ Laid w b c d w' := by
  have HH := Lib.hid H
  clear H
  rcases hn with h | h
  all_goals
    go_enter Try.func16, Try.ntmps16
    go_wp2_with fail
    go_ret
    exact ⟨rfl, _, _, HH.out, Keeps.refl _ _⟩
theorem rout_any (H : RP w b v u c d) (hc : c.ok) (hd : d.ok) (n : Int) (x : Nat) (hx : x < 256) :
    Calls Try.prog 16 #[.pointer (some ⟨b, 0, none⟩), .int .i64 n, .int .u8 (x : Nat)] w fun e w' => e = .returned (.int .i64 (perr n)) ∧ Laid w b (otc c n x) (otd d n x) w' := by
  by_cases hn : 0 ≤ n ∧ n ≤ 3
  · obtain rfl | rfl | rfl | rfl : n = 0 ∨ n = 1 ∨ n = 2 ∨ n = 3 := by omega
    · exact rout_0 H hc hd x hx
    · exact rout_1 H hc hd x hx
    · exact rout_2 H hc hd x hx
    · exact rout_3 H hc hd x hx
  · have h0 : portGood n = false := by
      unfold portGood
      rw [← Bool.decide_and]
      exact decide_eq_false hn
    rw [perr_bad h0, show otc c n x = c by unfold otc; rw [if_neg (by omega), if_neg (by omega)], show otd d n x = d by unfold otd; rw [if_neg (by omega), if_neg (by omega)]]
    exact rout_bad H n x (by omega)
end
end Go.Proofs.Ytfijohgbgadhiaa
