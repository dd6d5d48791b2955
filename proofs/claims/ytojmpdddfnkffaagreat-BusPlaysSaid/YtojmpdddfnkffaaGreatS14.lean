/- Steps of a proof: PicS, UartS, UartT, UartU, BusY, together. -/
import Derived.Test.YtojmpdddfnkffaaGreatS13
import Derived.Test.YtojmpdddfnkffaaGreatS10
import Derived.Test.YtojmpdddfnkffaaGreatS12
import Derived.Test.YtojmpdddfnkffaaGreatS11
/- pic: the document's pair: Out. -/
set_option maxHeartbeats 8000000
set_option maxRecDepth 20000
namespace Go.Proofs.YtojmpdddfnkffaaGreat.Pic
open Go.RowKit
set_option linter.unusedVariables false
set_option linter.unusedSimpArgs false

section
variable {w : World} {b g : Nat} {v u : Value} {c d : Chip}
theorem setRow_keeps (w : World) (g : Nat) (cs : Array Value) : Keeps (· = g) w (w.setRow g cs) := ⟨rfl, rfl, rfl, by simp, fun k _ hk => setRow_other _ _ _ _ hk⟩
def Laid (S : Nat → Prop) (w : World) (b : Nat) (c d : Chip) (w' : World) : Prop := ∃ v u, RP w' b v u c d ∧ Keeps (· = b) w w' ∧ ∀ k, v.ownBlock = some k ∨ u.ownBlock = some k → S k ∨ w.heap.size ≤ k
theorem rout_0 (H : RP w b v u c d) (hc : c.ok) (hd : d.ok) (x : Nat) (hx : x < 256) :
    Calls Tryz.prog 115 #[.pointer (some ⟨b, 0, none⟩), .int .i64 0, .int .u8 (x : Nat)] w fun e w' => e = .returned (.int .i64 0) ∧ Laid (fun k => v.ownBlock = some k ∨ u.ownBlock = some k) w b (outC c true x) d w' := by
 have hz := fun w => zeroChip w
 have HR := Lib.hid H.r0
 have HO := Lib.hid (rc_one c (RowC.one H.cw))
 have HN := Lib.hid (heap_new w (.cells zero36.toArray 139))
 have HC := Lib.hid (And.intro (And.intro hc hd) hx)
 have HX := Lib.hid (chip_copied (c := c) (v := v) w)
 have HH := Lib.hid H
 have hbl := H.lt
 clear H hc hd hx
 go_enter Tryz.func115, Tryz.ntmps115
 go_upto_region 4 with (first | (refine wpList_load_mid rfl _ _ rfl b 0 rfl (c.rcells v) _ HR.out Tryz.underlying139 rfl info36 ?_) | (refine wpList_store_row rfl _ _ _ rfl w.heap.size (c.rcells v).toArray rfl rfl _ _ HN.out info36 rfl HO.out ?_))
 obtain ⟨A, B⟩ := HX.out
 have HSZ := Lib.hid B.size
 change Code.wp _ _ _ _ ((w.alloc (.cells zero36.toArray 139)).setRow w.heap.size (c.rcells v).toArray)
 have HP := Lib.hid (HH.out.below B)
 clear HX HN HR hz HO
 generalize (w.alloc (.cells zero36.toArray 139)).setRow w.heap.size (c.rcells v).toArray = W at *
 have HA := Lib.hid A
 have HB := Lib.hid B
 clear A B
 go_wp2_with (refine wpList_load_row rfl _ _ rfl w.heap.size rfl _ _ _ _ HA.out.obj Tryz.underlying139 rfl info36 ?_)
 refine (rcommand_any (S := fun k => v.ownBlock = some k ∨ u.ownBlock = some k) HP.out.cw (fun k h => .inl h) HC.out.1.1 x HC.out.2).mono ?_
 rintro e w1 ⟨uu, rfl, RU, B1, OU⟩
 have HOU := Lib.hid (fun k h => (OU k h).imp id (Nat.le_trans HSZ.out))
 clear OU
 have HA1 := Lib.hid (HA.out.below B1 HA.out.lt)
 have HP1 := Lib.hid (HP.out.below B1)
 have HB1 := Lib.hid (HB.out.trans (B1.mono HB.out.size))
 have HO1 := Lib.hid (rc_one (outC c true x) (RowC.one RU))
 have HRU := Lib.hid RU
 clear RU B1 HA HP HB
 go_upto_region 7 with (refine wpList_store_row rfl _ _ _ rfl w.heap.size ((outC c true x).rcells uu).toArray rfl rfl _ _ HA1.out.obj info36 rfl HO1.out ?_)
 change Code.wp _ _ _ _ (w1.setRow w.heap.size ((outC c true x).rcells uu).toArray)
 have HA2 := Lib.hid (ChipAt.mk (heap_row (cs := ((outC c true x).rcells uu).toArray) HA1.out.obj))
 have K2 := setRow_keeps w1 w.heap.size ((outC c true x).rcells uu).toArray
 have HP2 := Lib.hid (HP1.out.beside HA1.out K2 (Nat.ne_of_lt hbl))
 have HB2 := Lib.hid (Keeps.toBelow HB1.out K2 HB1.out.size (fun k hk => by omega))
 have HV := Lib.hid (HRU.out.of_heap fun k hk => K2.block k (HRU.out.lt hk) (HA1.out.apart HRU.out hk))
 clear K2 HA1 HP1 HB1 HRU
 generalize w1.setRow w.heap.size ((outC c true x).rcells uu).toArray = W2 at *
 refine wp_region_held_drew (S := fun w' => w'.rangeAt w.heap.size 0 ((outC c true x).rcells uu) ∧ w'.there b 0 36) (by kernel_rfl) ⟨HA2.out.row, HP2.out.there 0 36 (by decide)⟩ (fun hHeld => ?_)
 refine wpAnyH_take (i := 0) (oi := _) (v := ?_) rfl (by kernel_rfl) (by kernel_rfl) (by kernel_rfl) (fun _ _ _ h => h) (Or.inl ⟨by rfl, ?_⟩) (by assumption) ?_
 rotate_left
 ·(intro w hSw; (try dsimp only at hSw); go_simp <;> rfl)
 simp only [Act.put, List.getElem_toArray, List.getElem_cons_zero, List.getElem_cons_succ, List.setIfInBounds_toArray, List.set_cons_zero, List.set_cons_succ]
 refine wpAnyH_take (i := 1) (oi := _) (v := ?_) rfl (by kernel_rfl) (by kernel_rfl) (by kernel_rfl) (fun _ _ _ h => h) (Or.inl ⟨by rfl, ?_⟩) (by assumption) ?_
 rotate_left
 ·(intro w hSw; (try dsimp only at hSw); go_simp <;> rfl)
 simp only [Act.put, List.getElem_toArray, List.getElem_cons_zero, List.getElem_cons_succ, List.setIfInBounds_toArray, List.set_cons_zero, List.set_cons_succ]
 refine wpAnyH_take (i := 2) (oi := _) (v := ?_) rfl (by kernel_rfl) (by kernel_rfl) (by kernel_rfl) (fun _ _ _ h => h) (Or.inl ⟨by rfl, ?_⟩) (by assumption) ?_
 rotate_left
 ·(intro w hSw; (try dsimp only at hSw); go_simp <;> rfl)
 simp only [Act.put, List.getElem_toArray, List.getElem_cons_zero, List.getElem_cons_succ, List.setIfInBounds_toArray, List.set_cons_zero, List.set_cons_succ]
 refine wpAnyH_take (i := 3) (oi := _) (v := _) rfl (by kernel_rfl) (by kernel_rfl) (by kernel_rfl) (fun _ _ _ h => h) (yieldsIf_load_mid (by rfl) _ _ rfl _ _ rfl ((outC c true x).rcells uu) _ (fun _ h => h.1) Tryz.underlying139 rfl info36) (by assumption) ?_
 simp only [Act.put, List.getElem_toArray, List.getElem_cons_zero, List.getElem_cons_succ, List.setIfInBounds_toArray, List.set_cons_zero, List.set_cons_succ]
 refine wpAnyH_take (i := 4) (oi := _) (v := ?_) rfl (by kernel_rfl) (by kernel_rfl) (by kernel_rfl) (fun _ _ _ h => h) (Or.inl ⟨by rfl, ?_⟩) (by assumption) ?_
 rotate_left
 ·(intro w hSw; (try dsimp only at hSw); go_simp <;> rfl)
 simp only [Act.put, List.getElem_toArray, List.getElem_cons_zero, List.getElem_cons_succ, List.setIfInBounds_toArray, List.set_cons_zero, List.set_cons_succ]
 refine wpAnyH_take (i := 5) (oi := _) (v := ?_) rfl (by kernel_rfl) (by kernel_rfl) (by kernel_rfl) (fun _ _ _ h => h) (Or.inl ⟨by rfl, ?_⟩) (by assumption) ?_
 rotate_left
 ·(intro w hSw; (try dsimp only at hSw); go_simp <;> rfl)
 simp only [Act.put, List.getElem_toArray, List.getElem_cons_zero, List.getElem_cons_succ, List.setIfInBounds_toArray, List.set_cons_zero, List.set_cons_succ]
 refine wpAnyH_take (i := 6) (oi := _) (v := ?_) rfl (by kernel_rfl) (by kernel_rfl) (by kernel_rfl) (fun _ _ _ h => h) (Or.inl ⟨by rfl, ?_⟩) (by assumption) ?_
 rotate_left
 ·(intro w hSw; (try dsimp only at hSw); go_simp <;> rfl)
 simp only [Act.put, List.getElem_toArray, List.getElem_cons_zero, List.getElem_cons_succ, List.setIfInBounds_toArray, List.set_cons_zero, List.set_cons_succ]
 refine wpAnyH_ready (rs := [7]) (by kernel_rfl) (by decide) (AllReadyH.cons rfl (fun K' hK => ?_) AllReadyH.nil)
 rw [if_pos (by rfl)]
 refine wp_store_mid _ _ _ rfl b 0 ((outC c true x).rcells uu).toArray rfl rfl hHeld.2 info36 HO1.out ?_
 refine hK.out _ _ ⟨World.rangeAt_setCells_apart hHeld.1 _ _ _ (Or.inl (Nat.ne_of_gt hbl)), World.there_setCells hHeld.2 _ _ _⟩ (fun h2 => ?_)
 refine wpAnyH_done (by kernel_rfl) ?_ _
 simp only [Act.put, List.getElem_toArray, List.getElem_cons_zero, List.getElem_cons_succ, List.setIfInBounds_toArray, List.set_cons_zero, List.set_cons_succ]
 go_wp2_with fail
 go_ret
 exact ⟨rfl, _, _, HP2.out.drew.lay0 (HV.out.of_heap fun _ _ => rfl), (Keeps.ofBelow HB2.out).drew.andThen (keeps_setCells _ _ _ _) (fun _ _ h => h), fun k hk => hk.elim (HOU.out k) fun h => .inl (.inr h)⟩
theorem rout_1 (H : RP w b v u c d) (hc : c.ok) (hd : d.ok) (x : Nat) (hx : x < 256) :
    Calls Tryz.prog 115 #[.pointer (some ⟨b, 0, none⟩), .int .i64 1, .int .u8 (x : Nat)] w fun e w' => e = .returned (.int .i64 0) ∧ Laid (fun k => v.ownBlock = some k ∨ u.ownBlock = some k) w b (outC c false x) d w' := by
 have hz := fun w => zeroChip w
 have HR := Lib.hid H.r0
 have HO := Lib.hid (rc_one c (RowC.one H.cw))
 have HN := Lib.hid (heap_new w (.cells zero36.toArray 139))
 have HC := Lib.hid (And.intro (And.intro hc hd) hx)
 have HX := Lib.hid (chip_copied (c := c) (v := v) w)
 have HH := Lib.hid H
 have hbl := H.lt
 clear H hc hd hx
 go_enter Tryz.func115, Tryz.ntmps115
 go_upto_region 4 with (first | (refine wpList_load_mid rfl _ _ rfl b 0 rfl (c.rcells v) _ HR.out Tryz.underlying139 rfl info36 ?_) | (refine wpList_store_row rfl _ _ _ rfl w.heap.size (c.rcells v).toArray rfl rfl _ _ HN.out info36 rfl HO.out ?_))
 obtain ⟨A, B⟩ := HX.out
 have HSZ := Lib.hid B.size
 change Code.wp _ _ _ _ ((w.alloc (.cells zero36.toArray 139)).setRow w.heap.size (c.rcells v).toArray)
 have HP := Lib.hid (HH.out.below B)
 clear HX HN HR hz HO
 generalize (w.alloc (.cells zero36.toArray 139)).setRow w.heap.size (c.rcells v).toArray = W at *
 have HA := Lib.hid A
 have HB := Lib.hid B
 clear A B
 go_wp2_with (refine wpList_load_row rfl _ _ rfl w.heap.size rfl _ _ _ _ HA.out.obj Tryz.underlying139 rfl info36 ?_)
 refine (rdata_any (S := fun k => v.ownBlock = some k ∨ u.ownBlock = some k) HP.out.cw (fun k h => .inl h) HC.out.1.1 x HC.out.2).mono ?_
 rintro e w1 ⟨uu, rfl, RU, B1, OU⟩
 have HOU := Lib.hid (fun k h => (OU k h).imp id (Nat.le_trans HSZ.out))
 clear OU
 have HA1 := Lib.hid (HA.out.below B1 HA.out.lt)
 have HP1 := Lib.hid (HP.out.below B1)
 have HB1 := Lib.hid (HB.out.trans (B1.mono HB.out.size))
 have HO1 := Lib.hid (rc_one (outC c false x) (RowC.one RU))
 have HRU := Lib.hid RU
 clear RU B1 HA HP HB
 go_upto_region 7 with (refine wpList_store_row rfl _ _ _ rfl w.heap.size ((outC c false x).rcells uu).toArray rfl rfl _ _ HA1.out.obj info36 rfl HO1.out ?_)
 change Code.wp _ _ _ _ (w1.setRow w.heap.size ((outC c false x).rcells uu).toArray)
 have HA2 := Lib.hid (ChipAt.mk (heap_row (cs := ((outC c false x).rcells uu).toArray) HA1.out.obj))
 have K2 := setRow_keeps w1 w.heap.size ((outC c false x).rcells uu).toArray
 have HP2 := Lib.hid (HP1.out.beside HA1.out K2 (Nat.ne_of_lt hbl))
 have HB2 := Lib.hid (Keeps.toBelow HB1.out K2 HB1.out.size (fun k hk => by omega))
 have HV := Lib.hid (HRU.out.of_heap fun k hk => K2.block k (HRU.out.lt hk) (HA1.out.apart HRU.out hk))
 clear K2 HA1 HP1 HB1 HRU
 generalize w1.setRow w.heap.size ((outC c false x).rcells uu).toArray = W2 at *
 refine wp_region_held_drew (S := fun w' => w'.rangeAt w.heap.size 0 ((outC c false x).rcells uu) ∧ w'.there b 0 36) (by kernel_rfl) ⟨HA2.out.row, HP2.out.there 0 36 (by decide)⟩ (fun hHeld => ?_)
 refine wpAnyH_take (i := 0) (oi := _) (v := ?_) rfl (by kernel_rfl) (by kernel_rfl) (by kernel_rfl) (fun _ _ _ h => h) (Or.inl ⟨by rfl, ?_⟩) (by assumption) ?_
 rotate_left
 ·(intro w hSw; (try dsimp only at hSw); go_simp <;> rfl)
 simp only [Act.put, List.getElem_toArray, List.getElem_cons_zero, List.getElem_cons_succ, List.setIfInBounds_toArray, List.set_cons_zero, List.set_cons_succ]
 refine wpAnyH_take (i := 1) (oi := _) (v := ?_) rfl (by kernel_rfl) (by kernel_rfl) (by kernel_rfl) (fun _ _ _ h => h) (Or.inl ⟨by rfl, ?_⟩) (by assumption) ?_
 rotate_left
 ·(intro w hSw; (try dsimp only at hSw); go_simp <;> rfl)
 simp only [Act.put, List.getElem_toArray, List.getElem_cons_zero, List.getElem_cons_succ, List.setIfInBounds_toArray, List.set_cons_zero, List.set_cons_succ]
 refine wpAnyH_take (i := 2) (oi := _) (v := ?_) rfl (by kernel_rfl) (by kernel_rfl) (by kernel_rfl) (fun _ _ _ h => h) (Or.inl ⟨by rfl, ?_⟩) (by assumption) ?_
 rotate_left
 ·(intro w hSw; (try dsimp only at hSw); go_simp <;> rfl)
 simp only [Act.put, List.getElem_toArray, List.getElem_cons_zero, List.getElem_cons_succ, List.setIfInBounds_toArray, List.set_cons_zero, List.set_cons_succ]
 refine wpAnyH_take (i := 3) (oi := _) (v := _) rfl (by kernel_rfl) (by kernel_rfl) (by kernel_rfl) (fun _ _ _ h => h) (yieldsIf_load_mid (by rfl) _ _ rfl _ _ rfl ((outC c false x).rcells uu) _ (fun _ h => h.1) Tryz.underlying139 rfl info36) (by assumption) ?_
 simp only [Act.put, List.getElem_toArray, List.getElem_cons_zero, List.getElem_cons_succ, List.setIfInBounds_toArray, List.set_cons_zero, List.set_cons_succ]
 refine wpAnyH_take (i := 4) (oi := _) (v := ?_) rfl (by kernel_rfl) (by kernel_rfl) (by kernel_rfl) (fun _ _ _ h => h) (Or.inl ⟨by rfl, ?_⟩) (by assumption) ?_
 rotate_left
 ·(intro w hSw; (try dsimp only at hSw); go_simp <;> rfl)
 simp only [Act.put, List.getElem_toArray, List.getElem_cons_zero, List.getElem_cons_succ, List.setIfInBounds_toArray, List.set_cons_zero, List.set_cons_succ]
 refine wpAnyH_take (i := 5) (oi := _) (v := ?_) rfl (by kernel_rfl) (by kernel_rfl) (by kernel_rfl) (fun _ _ _ h => h) (Or.inl ⟨by rfl, ?_⟩) (by assumption) ?_
 rotate_left
 ·(intro w hSw; (try dsimp only at hSw); go_simp <;> rfl)
 simp only [Act.put, List.getElem_toArray, List.getElem_cons_zero, List.getElem_cons_succ, List.setIfInBounds_toArray, List.set_cons_zero, List.set_cons_succ]
 refine wpAnyH_take (i := 6) (oi := _) (v := ?_) rfl (by kernel_rfl) (by kernel_rfl) (by kernel_rfl) (fun _ _ _ h => h) (Or.inl ⟨by rfl, ?_⟩) (by assumption) ?_
 rotate_left
 ·(intro w hSw; (try dsimp only at hSw); go_simp <;> rfl)
 simp only [Act.put, List.getElem_toArray, List.getElem_cons_zero, List.getElem_cons_succ, List.setIfInBounds_toArray, List.set_cons_zero, List.set_cons_succ]
 refine wpAnyH_ready (rs := [7]) (by kernel_rfl) (by decide) (AllReadyH.cons rfl (fun K' hK => ?_) AllReadyH.nil)
 rw [if_pos (by rfl)]
 refine wp_store_mid _ _ _ rfl b 0 ((outC c false x).rcells uu).toArray rfl rfl hHeld.2 info36 HO1.out ?_
 refine hK.out _ _ ⟨World.rangeAt_setCells_apart hHeld.1 _ _ _ (Or.inl (Nat.ne_of_gt hbl)), World.there_setCells hHeld.2 _ _ _⟩ (fun h2 => ?_)
 refine wpAnyH_done (by kernel_rfl) ?_ _
 simp only [Act.put, List.getElem_toArray, List.getElem_cons_zero, List.getElem_cons_succ, List.setIfInBounds_toArray, List.set_cons_zero, List.set_cons_succ]
 go_wp2_with fail
 go_ret
 exact ⟨rfl, _, _, HP2.out.drew.lay0 (HV.out.of_heap fun _ _ => rfl), (Keeps.ofBelow HB2.out).drew.andThen (keeps_setCells _ _ _ _) (fun _ _ h => h), fun k hk => hk.elim (HOU.out k) fun h => .inl (.inr h)⟩
theorem rout_2 (H : RP w b v u c d) (hc : c.ok) (hd : d.ok) (x : Nat) (hx : x < 256) :
    Calls Tryz.prog 115 #[.pointer (some ⟨b, 0, none⟩), .int .i64 2, .int .u8 (x : Nat)] w fun e w' => e = .returned (.int .i64 0) ∧ Laid (fun k => v.ownBlock = some k ∨ u.ownBlock = some k) w b c (outC d true x) w' := by
 have hz := fun w => zeroChip w
 have HR := Lib.hid H.r1
 have HO := Lib.hid (rc_one d (RowC.one H.dw))
 have HN := Lib.hid (heap_new w (.cells zero36.toArray 139))
 have HC := Lib.hid (And.intro (And.intro hc hd) hx)
 have HX := Lib.hid (chip_copied (c := d) (v := u) w)
 have HH := Lib.hid H
 have hbl := H.lt
 clear H hc hd hx
 go_enter Tryz.func115, Tryz.ntmps115
 go_upto_region 4 with (first | (refine wpList_load_mid rfl _ _ rfl b 36 rfl (d.rcells u) _ HR.out Tryz.underlying139 rfl info36 ?_) | (refine wpList_store_row rfl _ _ _ rfl w.heap.size (d.rcells u).toArray rfl rfl _ _ HN.out info36 rfl HO.out ?_))
 obtain ⟨A, B⟩ := HX.out
 have HSZ := Lib.hid B.size
 change Code.wp _ _ _ _ ((w.alloc (.cells zero36.toArray 139)).setRow w.heap.size (d.rcells u).toArray)
 have HP := Lib.hid (HH.out.below B)
 clear HX HN HR hz HO
 generalize (w.alloc (.cells zero36.toArray 139)).setRow w.heap.size (d.rcells u).toArray = W at *
 have HA := Lib.hid A
 have HB := Lib.hid B
 clear A B
 go_wp2_with (refine wpList_load_row rfl _ _ rfl w.heap.size rfl _ _ _ _ HA.out.obj Tryz.underlying139 rfl info36 ?_)
 refine (rcommand_any (S := fun k => v.ownBlock = some k ∨ u.ownBlock = some k) HP.out.dw (fun k h => .inr h) HC.out.1.2 x HC.out.2).mono ?_
 rintro e w1 ⟨uu, rfl, RU, B1, OU⟩
 have HOU := Lib.hid (fun k h => (OU k h).imp id (Nat.le_trans HSZ.out))
 clear OU
 have HA1 := Lib.hid (HA.out.below B1 HA.out.lt)
 have HP1 := Lib.hid (HP.out.below B1)
 have HB1 := Lib.hid (HB.out.trans (B1.mono HB.out.size))
 have HO1 := Lib.hid (rc_one (outC d true x) (RowC.one RU))
 have HRU := Lib.hid RU
 clear RU B1 HA HP HB
 go_upto_region 7 with (refine wpList_store_row rfl _ _ _ rfl w.heap.size ((outC d true x).rcells uu).toArray rfl rfl _ _ HA1.out.obj info36 rfl HO1.out ?_)
 change Code.wp _ _ _ _ (w1.setRow w.heap.size ((outC d true x).rcells uu).toArray)
 have HA2 := Lib.hid (ChipAt.mk (heap_row (cs := ((outC d true x).rcells uu).toArray) HA1.out.obj))
 have K2 := setRow_keeps w1 w.heap.size ((outC d true x).rcells uu).toArray
 have HP2 := Lib.hid (HP1.out.beside HA1.out K2 (Nat.ne_of_lt hbl))
 have HB2 := Lib.hid (Keeps.toBelow HB1.out K2 HB1.out.size (fun k hk => by omega))
 have HV := Lib.hid (HRU.out.of_heap fun k hk => K2.block k (HRU.out.lt hk) (HA1.out.apart HRU.out hk))
 clear K2 HA1 HP1 HB1 HRU
 generalize w1.setRow w.heap.size ((outC d true x).rcells uu).toArray = W2 at *
 refine wp_region_held_drew (S := fun w' => w'.rangeAt w.heap.size 0 ((outC d true x).rcells uu) ∧ w'.there b 36 36) (by kernel_rfl) ⟨HA2.out.row, HP2.out.there 36 36 (by decide)⟩ (fun hHeld => ?_)
 refine wpAnyH_take (i := 0) (oi := _) (v := ?_) rfl (by kernel_rfl) (by kernel_rfl) (by kernel_rfl) (fun _ _ _ h => h) (Or.inl ⟨by rfl, ?_⟩) (by assumption) ?_
 rotate_left
 ·(intro w hSw; (try dsimp only at hSw); go_simp <;> rfl)
 simp only [Act.put, List.getElem_toArray, List.getElem_cons_zero, List.getElem_cons_succ, List.setIfInBounds_toArray, List.set_cons_zero, List.set_cons_succ]
 refine wpAnyH_take (i := 1) (oi := _) (v := ?_) rfl (by kernel_rfl) (by kernel_rfl) (by kernel_rfl) (fun _ _ _ h => h) (Or.inl ⟨by rfl, ?_⟩) (by assumption) ?_
 rotate_left
 ·(intro w hSw; (try dsimp only at hSw); go_simp <;> rfl)
 simp only [Act.put, List.getElem_toArray, List.getElem_cons_zero, List.getElem_cons_succ, List.setIfInBounds_toArray, List.set_cons_zero, List.set_cons_succ]
 refine wpAnyH_take (i := 2) (oi := _) (v := ?_) rfl (by kernel_rfl) (by kernel_rfl) (by kernel_rfl) (fun _ _ _ h => h) (Or.inl ⟨by rfl, ?_⟩) (by assumption) ?_
 rotate_left
 ·(intro w hSw; (try dsimp only at hSw); go_simp <;> rfl)
 simp only [Act.put, List.getElem_toArray, List.getElem_cons_zero, List.getElem_cons_succ, List.setIfInBounds_toArray, List.set_cons_zero, List.set_cons_succ]
 refine wpAnyH_take (i := 3) (oi := _) (v := _) rfl (by kernel_rfl) (by kernel_rfl) (by kernel_rfl) (fun _ _ _ h => h) (yieldsIf_load_mid (by rfl) _ _ rfl _ _ rfl ((outC d true x).rcells uu) _ (fun _ h => h.1) Tryz.underlying139 rfl info36) (by assumption) ?_
 simp only [Act.put, List.getElem_toArray, List.getElem_cons_zero, List.getElem_cons_succ, List.setIfInBounds_toArray, List.set_cons_zero, List.set_cons_succ]
 refine wpAnyH_take (i := 4) (oi := _) (v := ?_) rfl (by kernel_rfl) (by kernel_rfl) (by kernel_rfl) (fun _ _ _ h => h) (Or.inl ⟨by rfl, ?_⟩) (by assumption) ?_
 rotate_left
 ·(intro w hSw; (try dsimp only at hSw); go_simp <;> rfl)
 simp only [Act.put, List.getElem_toArray, List.getElem_cons_zero, List.getElem_cons_succ, List.setIfInBounds_toArray, List.set_cons_zero, List.set_cons_succ]
 refine wpAnyH_take (i := 5) (oi := _) (v := ?_) rfl (by kernel_rfl) (by kernel_rfl) (by kernel_rfl) (fun _ _ _ h => h) (Or.inl ⟨by rfl, ?_⟩) (by assumption) ?_
 rotate_left
 ·(intro w hSw; (try dsimp only at hSw); go_simp <;> rfl)
 simp only [Act.put, List.getElem_toArray, List.getElem_cons_zero, List.getElem_cons_succ, List.setIfInBounds_toArray, List.set_cons_zero, List.set_cons_succ]
 refine wpAnyH_take (i := 6) (oi := _) (v := ?_) rfl (by kernel_rfl) (by kernel_rfl) (by kernel_rfl) (fun _ _ _ h => h) (Or.inl ⟨by rfl, ?_⟩) (by assumption) ?_
 rotate_left
 ·(intro w hSw; (try dsimp only at hSw); go_simp <;> rfl)
 simp only [Act.put, List.getElem_toArray, List.getElem_cons_zero, List.getElem_cons_succ, List.setIfInBounds_toArray, List.set_cons_zero, List.set_cons_succ]
 refine wpAnyH_ready (rs := [7]) (by kernel_rfl) (by decide) (AllReadyH.cons rfl (fun K' hK => ?_) AllReadyH.nil)
 rw [if_pos (by rfl)]
 refine wp_store_mid _ _ _ rfl b 36 ((outC d true x).rcells uu).toArray rfl rfl hHeld.2 info36 HO1.out ?_
 refine hK.out _ _ ⟨World.rangeAt_setCells_apart hHeld.1 _ _ _ (Or.inl (Nat.ne_of_gt hbl)), World.there_setCells hHeld.2 _ _ _⟩ (fun h2 => ?_)
 refine wpAnyH_done (by kernel_rfl) ?_ _
 simp only [Act.put, List.getElem_toArray, List.getElem_cons_zero, List.getElem_cons_succ, List.setIfInBounds_toArray, List.set_cons_zero, List.set_cons_succ]
 go_wp2_with fail
 go_ret
 exact ⟨rfl, _, _, HP2.out.drew.lay1 (HV.out.of_heap fun _ _ => rfl), (Keeps.ofBelow HB2.out).drew.andThen (keeps_setCells _ _ _ _) (fun _ _ h => h), fun k hk => hk.elim (fun h => .inl (.inl h)) (HOU.out k)⟩
theorem rout_3 (H : RP w b v u c d) (hc : c.ok) (hd : d.ok) (x : Nat) (hx : x < 256) :
    Calls Tryz.prog 115 #[.pointer (some ⟨b, 0, none⟩), .int .i64 3, .int .u8 (x : Nat)] w fun e w' => e = .returned (.int .i64 0) ∧ Laid (fun k => v.ownBlock = some k ∨ u.ownBlock = some k) w b c (outC d false x) w' := by
 have hz := fun w => zeroChip w
 have HR := Lib.hid H.r1
 have HO := Lib.hid (rc_one d (RowC.one H.dw))
 have HN := Lib.hid (heap_new w (.cells zero36.toArray 139))
 have HC := Lib.hid (And.intro (And.intro hc hd) hx)
 have HX := Lib.hid (chip_copied (c := d) (v := u) w)
 have HH := Lib.hid H
 have hbl := H.lt
 clear H hc hd hx
 go_enter Tryz.func115, Tryz.ntmps115
 go_upto_region 4 with (first | (refine wpList_load_mid rfl _ _ rfl b 36 rfl (d.rcells u) _ HR.out Tryz.underlying139 rfl info36 ?_) | (refine wpList_store_row rfl _ _ _ rfl w.heap.size (d.rcells u).toArray rfl rfl _ _ HN.out info36 rfl HO.out ?_))
 obtain ⟨A, B⟩ := HX.out
 have HSZ := Lib.hid B.size
 change Code.wp _ _ _ _ ((w.alloc (.cells zero36.toArray 139)).setRow w.heap.size (d.rcells u).toArray)
 have HP := Lib.hid (HH.out.below B)
 clear HX HN HR hz HO
 generalize (w.alloc (.cells zero36.toArray 139)).setRow w.heap.size (d.rcells u).toArray = W at *
 have HA := Lib.hid A
 have HB := Lib.hid B
 clear A B
 go_wp2_with (refine wpList_load_row rfl _ _ rfl w.heap.size rfl _ _ _ _ HA.out.obj Tryz.underlying139 rfl info36 ?_)
 refine (rdata_any (S := fun k => v.ownBlock = some k ∨ u.ownBlock = some k) HP.out.dw (fun k h => .inr h) HC.out.1.2 x HC.out.2).mono ?_
 rintro e w1 ⟨uu, rfl, RU, B1, OU⟩
 have HOU := Lib.hid (fun k h => (OU k h).imp id (Nat.le_trans HSZ.out))
 clear OU
 have HA1 := Lib.hid (HA.out.below B1 HA.out.lt)
 have HP1 := Lib.hid (HP.out.below B1)
 have HB1 := Lib.hid (HB.out.trans (B1.mono HB.out.size))
 have HO1 := Lib.hid (rc_one (outC d false x) (RowC.one RU))
 have HRU := Lib.hid RU
 clear RU B1 HA HP HB
 go_upto_region 7 with (refine wpList_store_row rfl _ _ _ rfl w.heap.size ((outC d false x).rcells uu).toArray rfl rfl _ _ HA1.out.obj info36 rfl HO1.out ?_)
 change Code.wp _ _ _ _ (w1.setRow w.heap.size ((outC d false x).rcells uu).toArray)
 have HA2 := Lib.hid (ChipAt.mk (heap_row (cs := ((outC d false x).rcells uu).toArray) HA1.out.obj))
 have K2 := setRow_keeps w1 w.heap.size ((outC d false x).rcells uu).toArray
 have HP2 := Lib.hid (HP1.out.beside HA1.out K2 (Nat.ne_of_lt hbl))
 have HB2 := Lib.hid (Keeps.toBelow HB1.out K2 HB1.out.size (fun k hk => by omega))
 have HV := Lib.hid (HRU.out.of_heap fun k hk => K2.block k (HRU.out.lt hk) (HA1.out.apart HRU.out hk))
 clear K2 HA1 HP1 HB1 HRU
 generalize w1.setRow w.heap.size ((outC d false x).rcells uu).toArray = W2 at *
 refine wp_region_held_drew (S := fun w' => w'.rangeAt w.heap.size 0 ((outC d false x).rcells uu) ∧ w'.there b 36 36) (by kernel_rfl) ⟨HA2.out.row, HP2.out.there 36 36 (by decide)⟩ (fun hHeld => ?_)
 refine wpAnyH_take (i := 0) (oi := _) (v := ?_) rfl (by kernel_rfl) (by kernel_rfl) (by kernel_rfl) (fun _ _ _ h => h) (Or.inl ⟨by rfl, ?_⟩) (by assumption) ?_
 rotate_left
 ·(intro w hSw; (try dsimp only at hSw); go_simp <;> rfl)
 simp only [Act.put, List.getElem_toArray, List.getElem_cons_zero, List.getElem_cons_succ, List.setIfInBounds_toArray, List.set_cons_zero, List.set_cons_succ]
 refine wpAnyH_take (i := 1) (oi := _) (v := ?_) rfl (by kernel_rfl) (by kernel_rfl) (by kernel_rfl) (fun _ _ _ h => h) (Or.inl ⟨by rfl, ?_⟩) (by assumption) ?_
 rotate_left
 ·(intro w hSw; (try dsimp only at hSw); go_simp <;> rfl)
 simp only [Act.put, List.getElem_toArray, List.getElem_cons_zero, List.getElem_cons_succ, List.setIfInBounds_toArray, List.set_cons_zero, List.set_cons_succ]
 refine wpAnyH_take (i := 2) (oi := _) (v := ?_) rfl (by kernel_rfl) (by kernel_rfl) (by kernel_rfl) (fun _ _ _ h => h) (Or.inl ⟨by rfl, ?_⟩) (by assumption) ?_
 rotate_left
 ·(intro w hSw; (try dsimp only at hSw); go_simp <;> rfl)
 simp only [Act.put, List.getElem_toArray, List.getElem_cons_zero, List.getElem_cons_succ, List.setIfInBounds_toArray, List.set_cons_zero, List.set_cons_succ]
 refine wpAnyH_take (i := 3) (oi := _) (v := _) rfl (by kernel_rfl) (by kernel_rfl) (by kernel_rfl) (fun _ _ _ h => h) (yieldsIf_load_mid (by rfl) _ _ rfl _ _ rfl ((outC d false x).rcells uu) _ (fun _ h => h.1) Tryz.underlying139 rfl info36) (by assumption) ?_
 simp only [Act.put, List.getElem_toArray, List.getElem_cons_zero, List.getElem_cons_succ, List.setIfInBounds_toArray, List.set_cons_zero, List.set_cons_succ]
 refine wpAnyH_take (i := 4) (oi := _) (v := ?_) rfl (by kernel_rfl) (by kernel_rfl) (by kernel_rfl) (fun _ _ _ h => h) (Or.inl ⟨by rfl, ?_⟩) (by assumption) ?_
 rotate_left
 ·(intro w hSw; (try dsimp only at hSw); go_simp <;> rfl)
 simp only [Act.put, List.getElem_toArray, List.getElem_cons_zero, List.getElem_cons_succ, List.setIfInBounds_toArray, List.set_cons_zero, List.set_cons_succ]
 refine wpAnyH_take (i := 5) (oi := _) (v := ?_) rfl (by kernel_rfl) (by kernel_rfl) (by kernel_rfl) (fun _ _ _ h => h) (Or.inl ⟨by rfl, ?_⟩) (by assumption) ?_
 rotate_left
 ·(intro w hSw; (try dsimp only at hSw); go_simp <;> rfl)
 simp only [Act.put, List.getElem_toArray, List.getElem_cons_zero, List.getElem_cons_succ, List.setIfInBounds_toArray, List.set_cons_zero, List.set_cons_succ]
 refine wpAnyH_take (i := 6) (oi := _) (v := ?_) rfl (by kernel_rfl) (by kernel_rfl) (by kernel_rfl) (fun _ _ _ h => h) (Or.inl ⟨by rfl, ?_⟩) (by assumption) ?_
 rotate_left
 ·(intro w hSw; (try dsimp only at hSw); go_simp <;> rfl)
 simp only [Act.put, List.getElem_toArray, List.getElem_cons_zero, List.getElem_cons_succ, List.setIfInBounds_toArray, List.set_cons_zero, List.set_cons_succ]
 refine wpAnyH_ready (rs := [7]) (by kernel_rfl) (by decide) (AllReadyH.cons rfl (fun K' hK => ?_) AllReadyH.nil)
 rw [if_pos (by rfl)]
 refine wp_store_mid _ _ _ rfl b 36 ((outC d false x).rcells uu).toArray rfl rfl hHeld.2 info36 HO1.out ?_
 refine hK.out _ _ ⟨World.rangeAt_setCells_apart hHeld.1 _ _ _ (Or.inl (Nat.ne_of_gt hbl)), World.there_setCells hHeld.2 _ _ _⟩ (fun h2 => ?_)
 refine wpAnyH_done (by kernel_rfl) ?_ _
 simp only [Act.put, List.getElem_toArray, List.getElem_cons_zero, List.getElem_cons_succ, List.setIfInBounds_toArray, List.set_cons_zero, List.set_cons_succ]
 go_wp2_with fail
 go_ret
 exact ⟨rfl, _, _, HP2.out.drew.lay1 (HV.out.of_heap fun _ _ => rfl), (Keeps.ofBelow HB2.out).drew.andThen (keeps_setCells _ _ _ _) (fun _ _ h => h), fun k hk => hk.elim (fun h => .inl (.inl h)) (HOU.out k)⟩
theorem rout_bad (H : RP w b v u c d) (n : Int) (x : Nat) (hn : n < 0 ∨ 3 < n) :
    Calls Tryz.prog 115 #[.pointer (some ⟨b, 0, none⟩), .int .i64 n, .int .u8 (x : Nat)] w fun e w' => e = .returned (.int .i64 1) ∧ Laid (fun k => v.ownBlock = some k ∨ u.ownBlock = some k) w b c d w' := by
 have HH := Lib.hid H
 clear H
 rcases hn with h | h
 all_goals
  go_enter Tryz.func115, Tryz.ntmps115
  go_wp2_with fail
  go_ret
  exact ⟨rfl, _, _, HH.out, Keeps.refl _ _, fun k h => .inl h⟩
theorem rout_any (H : RP w b v u c d) (hc : c.ok) (hd : d.ok) (n : Int) (x : Nat) (hx : x < 256) :
    Calls Tryz.prog 115 #[.pointer (some ⟨b, 0, none⟩), .int .i64 n, .int .u8 (x : Nat)] w fun e w' => e = .returned (.int .i64 (perr n)) ∧ Laid (fun k => v.ownBlock = some k ∨ u.ownBlock = some k) w b (otc c n x) (otd d n x) w' := by
 by_cases hn : 0 ≤ n ∧ n ≤ 3
 ·obtain rfl | rfl | rfl | rfl : n = 0 ∨ n = 1 ∨ n = 2 ∨ n = 3 := by omega
  ·exact rout_0 H hc hd x hx
  ·exact rout_1 H hc hd x hx
  ·exact rout_2 H hc hd x hx
  ·exact rout_3 H hc hd x hx
 ·have h0 : portGood n = false := by
    unfold portGood
    rw [← Bool.decide_and]
    exact decide_eq_false hn
  rw [perr_bad h0, show otc c n x = c by unfold otc; rw [if_neg (by omega), if_neg (by omega)], show otd d n x = d by unfold otd; rw [if_neg (by omega), if_neg (by omega)]]
  exact rout_bad H n x (by omega)
end
end Go.Proofs.YtojmpdddfnkffaaGreat.Pic

/- uart: the document's port: written, read, pushed. -/
namespace Go.Proofs.YtojmpdddfnkffaaGreat.Uart
open Go.RowKit Go.Conc
set_option linter.unusedVariables false

section
variable {w w' : World} {b : Nat} {cv ov : Value} {U : Ut}
-- SLICES THAT GROW
section
variable {w1 : World} {o : Obj} {v' : Value}
theorem rblock (H : RfIn w b cv ov U) {x : Option Nat} (hg : (w.alloc o).grownBy w1 x) {k : Nat} (hk : k < w.heap.size) (hn : x ≠ some k) : w1.heap[k]? = w.heap[k]? := by
 rw [hg.block k (by simp; omega) (fun e => hn e.symm), Below.heap_alloc _ _ _ hk]
theorem rgrow_facts (H : RfIn w b cv ov U) {x : Option Nat} (hx : x ≠ some b) (hg : (w.alloc o).grownBy w1 x) :
    w1.cell? ⟨b, 10, none⟩ = some ov ∧ w1.cell? ⟨b, 9, none⟩ = some (.bool U.empty) ∧ w1.cell? ⟨b, 0, none⟩ = some cv ∧ (∀ k, w1.frozen? ⟨b, k, none⟩ = false) ∧ b < w1.heap.size := by
 have h : w1.heap[b]? = some (.cells (U.rcells cv ov).toArray 149) := (rblock H hg (H.lt (.inl rfl)) hx).trans H.obj
 exact ⟨by rw [cell_at h]; rfl, by rw [cell_at h]; rfl, by rw [cell_at h]; rfl, fun k => free_at h, heap_lt h⟩
theorem rsend_end (H : RfIn w b cv ov U) (v : Nat) (hv : v < 256) (hown : w1.ownsRow 0 5 1 v' (U.sent.length + 1) (bytesV U.sent ++ [.int .u8 (v : Nat)])) (hg : (w.alloc o).grownBy w1 ov.ownBlock)
    (hat : v'.ownBlock = ov.ownBlock ∨ v'.ownBlock = some (w.alloc o).heap.size) : RWent w b cv ov (U.send v) ((w1.setCell ⟨b, 10, none⟩ v').setCell ⟨b, 9, none⟩ (.bool true)) := by
 have h : w1.heap[b]? = some (.cells (U.rcells cv ov).toArray 149) := (rblock H hg (H.lt (.inl rfl)) H.bo).trans H.obj
 have hne : ∀ j, j ≠ b → ((w1.setCell ⟨b, 10, none⟩ v').setCell ⟨b, 9, none⟩ (.bool true)).heap[j]? = w1.heap[j]? := fun j h => by rw [heap_set_other _ h, heap_set_other _ h]
 have hbl := H.lt (.inl rfl)
 have hv2 : ∀ k, v'.ownBlock = some k → ov.ownBlock = some k ∨ w.heap.size ≤ k := fun k hk => by
  rcases hat with e | e
  ·exact .inl (by rw [← e]; exact hk)
  ·right; rw [e] at hk; injection hk with hk; simp at hk; omega
 have hvb : v'.ownBlock ≠ some b := fun e => by
  rcases hv2 b e with h1 | h1
  ·exact H.bo h1
  ·omega
 have K : Keeps (RHeld b cv ov) w w1 := ((Keeps.refl _ w).alloc o).trans ⟨hg.os, hg.tape, hg.output, hg.size, fun k hk hn => hg.block k hk fun e => hn (.inr (.inr e.symm))⟩
 refine ⟨cv, v', ⟨?_, ?_, ?_, ?_, ?_⟩, (K.setCell (.inl (.inl rfl)) _).setCell (.inl (.inl rfl)) _, fun k hk => ?_⟩
 ·rw [heap_set_map, heap_set_map, h]; rfl
 ·exact H.came.of_heap fun k hk => (hne k fun e => H.bc (by rw [← e]; exact hk)).trans (rblock H hg (H.came.lt hk) (H.d k hk))
 ·have hr : w1.ownsRow 0 5 1 v' (U.send v).sent.length (bytesV (U.send v).sent) := by
    show w1.ownsRow 0 5 1 v' (U.sent ++ [v]).length (bytesV (U.sent ++ [v]))
    rw [List.length_append, bytesV_snoc]; exact hown
  exact row_of_heap hr fun k hk => hne k fun e => hvb (by rw [← e]; exact hk)
 ·intro k hk e
  rcases hv2 k e with h1 | h1
  ·exact H.d k hk h1
  ·have := H.came.lt hk; omega
 ·have o := H.ok
  exact ⟨o.c1, o.c2, o.d0, o.d1, o.lcr, o.mcr, o.scr, o.wanted, fun x hx => by
   rcases List.mem_append.1 hx with h | h
   ·exact o.s2 x h
   ·simp only [List.mem_singleton] at h; omega⟩
 ·rcases hk with hk | hk | hk
  ·exact .inl (.inl hk)
  ·exact .inl (.inr (.inl hk))
  ·rcases hv2 k hk with h1 | h1
   ·exact .inl (.inr (.inr h1))
   ·exact .inr h1
theorem rpush_end (H : RfIn w b cv ov U) (v : Nat) (hv : v < 256) (hl : U.came.length < 16) (hown : RowC w1 5 1 v' (U.came.length + 1) (bytesV U.came ++ [.int .u8 (v : Nat)])) (hg : (w.alloc o).grownBy w1 cv.ownBlock)
    (hat : ∀ k, v'.ownBlock = some k → cv.ownBlock = some k ∨ (w.alloc o).heap.size ≤ k) : RWent w b cv ov (U.take v) (w1.setCell ⟨b, 0, none⟩ v') := by
 have h : w1.heap[b]? = some (.cells (U.rcells cv ov).toArray 149) := (rblock H hg (H.lt (.inl rfl)) H.bc).trans H.obj
 have hne : ∀ j, j ≠ b → (w1.setCell ⟨b, 0, none⟩ v').heap[j]? = w1.heap[j]? := fun j h => heap_set_other _ h
 have hbl := H.lt (.inl rfl)
 have hv2 : ∀ k, v'.ownBlock = some k → cv.ownBlock = some k ∨ w.heap.size ≤ k := fun k hk => (hat k hk).imp id fun h => by simp at h; omega
 have hvb : v'.ownBlock ≠ some b := fun e => by
  rcases hv2 b e with h1 | h1
  ·exact H.bc h1
  ·omega
 have K : Keeps (RHeld b cv ov) w w1 := ((Keeps.refl _ w).alloc o).trans ⟨hg.os, hg.tape, hg.output, hg.size, fun k hk hn => hg.block k hk fun e => hn (.inr (.inl e.symm))⟩
 refine ⟨v', ov, ⟨?_, ?_, ?_, ?_, ?_⟩, K.setCell (.inl (.inl rfl)) _, fun k hk => ?_⟩
 ·rw [heap_set_map, h]; rfl
 ·have hr : RowC w1 5 1 v' (U.take v).came.length (bytesV (U.take v).came) := by
    show RowC w1 5 1 v' (U.came ++ [v]).length (bytesV (U.came ++ [v]))
    rw [List.length_append, bytesV_snoc]; exact hown
  exact hr.of_heap fun k hk => hne k fun e => hvb (by rw [← e]; exact hk)
 ·exact row_of_heap H.out fun k hk => (hne k fun e => H.bo (by rw [← e]; exact hk)).trans (rblock H hg (World.ownsRow.lt H.out k hk).2 (fun e => H.d k e hk))
 ·intro k hk e
  rcases hv2 k hk with h1 | h1
  ·exact H.d k h1 e
  ·have := (World.ownsRow.lt H.out k e).2; omega
 ·have o := H.ok
  refine ⟨?_, fun x hx => ?_, o.d0, o.d1, o.lcr, o.mcr, o.scr, o.wanted, o.s2⟩
  ·show (U.came ++ [v]).length ≤ 16; simp; omega
  ·rcases List.mem_append.1 hx with h | h
   ·exact o.c2 x h
   ·simp only [List.mem_singleton] at h; omega
 ·rcases hk with hk | hk | hk
  ·exact .inl (.inl hk)
  ·rcases hv2 k hk with h1 | h1
   ·exact .inl (.inr (.inl h1))
   ·exact .inr h1
  ·exact .inl (.inr (.inr hk))
end
theorem one_new' (w : World) (T : TypeId) (x : Value) : ∀ (j : Nat) (u : Value), [x][j]? = some u → (w.alloc (.cells #[x] T)).cell? ((⟨w.heap.size, 0, none⟩ : Addr).add j) = some u := one_new w T x
theorem push_same (U : Ut) (v : Nat) : U.push v = if U.came.length < (if U.on then 16 else 1) then U.take v else U.lose := by
 unfold Ut.push
 cases h : U.on
 ·by_cases h2 : U.came = []
  ·rw [if_neg (fun x => x.2 h2), if_pos (by rw [h2]; decide), if_pos (by rw [h2]; decide)]
  ·have : 0 < U.came.length := List.length_pos_iff.2 h2
   rw [if_pos ⟨rfl, h2⟩, if_neg (by simp; omega)]
 ·rw [if_neg (fun x => by cases x.1)]; rfl
theorem rpush_any (H : RfIn w b cv ov U) (v : Nat) (hv : v < 256) :
    Calls Tryz.prog 88 #[.pointer (some ⟨b, 0, none⟩), .int .u8 (v : Nat)] w fun e w' => e = .returned (.tuple #[]) ∧ RWent w b cv ov (U.push v) w' := by
 obtain ⟨k0, k1, -, -, -, -, -, -, k8, -, -, kf, kl⟩ := H.facts
 obtain ⟨a, c, rfl⟩ := H.came.len
 obtain ⟨i0, hi, hz0, hz1, hz2⟩ := info_parts info8
 have hc1 := Lib.hid (one_new w 5 (.int .u8 (v : Nat)))
 have HH := Lib.hid H
 have HB := Lib.hid (show ∀ m, (Value.slice a m c).ownBlock ≠ some b from fun m => by have := H.bc; cases a <;> exact this)
 have HCA := Lib.hid H.came
 have HP := Lib.hid (push_same U v)
 have HL := Lib.hid (H.setLost true)
 have hn : ∃ n, n = U.came.length := ⟨_, rfl⟩
 obtain ⟨n, hn⟩ := hn
 have HN := Lib.hid hn
 rw [← hn] at k0 HP HCA
 clear hn
 cases hon : U.on
 ·rw [hon] at k8 HP
  by_cases hlt : n < 1
  ·have g1 : (n : Int) < 1 := by omega
   have HLT := Lib.hid hlt
   have HPP := Lib.hid (HP.out.trans (if_pos hlt))
   clear HP hon hlt
   go_enter Tryz.func88, Tryz.ntmps88
   go_wp2_with (at_builtin; (refine wpList_append_c rfl _ _ 22 rfl i0 (.int .u8 0) 1 1 Tryz.underlying22 hi hz0 hz1 hz2 rfl (by decide) rfl (HCA.out.alloc _) ⟨w.heap.size, 0, none⟩ 1 [.int .u8 (v : Nat)] rfl rfl hc1.out (fun u hu => by rw [List.mem_singleton.1 hu]; rfl) (by unfold maxLen; have := HLT.out; omega) (by have := HLT.out; omega) ?_); intro a' c' w1' hown1 hgrow1 hat; have HX := Lib.hid (show RowC w1' 5 1 (.slice a' (n + 1) c') (n + 1) (bytesV U.came ++ [.int .u8 (v : Nat)]) ∧ (w.alloc (.cells #[.int .u8 (v : Nat)] 5)).grownBy w1' (Value.slice a n c).ownBlock from ⟨hown1, hgrow1⟩); have HAT := Lib.hid hat; obtain ⟨-, -, f0, ff, fl⟩ := rgrow_facts HH.out (HB.out n) hgrow1; rw [← HN.out] at f0; clear hown1 hgrow1 hat)
   go_end0
   have hl2 : U.came.length < 16 := by have := HLT.out; have := HN.out; omega
   have hx := HX.out
   have ha := HAT.out
   rw [HN.out] at hx ha ⊢
   exact ⟨rfl, by rw [HPP.out]; exact rpush_end HH.out v hv hl2 hx.1 hx.2 ha⟩
  ·have g1 : (1 : Int) ≤ n := by omega
   have HPP := Lib.hid (HP.out.trans (if_neg hlt))
   clear HP hon hlt
   go_enter Tryz.func88, Tryz.ntmps88
   go_wp2_with fail
   go_returns
   exact ⟨rfl, by rw [HPP.out]; exact RWent.of HL.out (rkeeps w b _ ov _ _)⟩
 ·rw [hon] at k8 HP
  by_cases hlt : n < 16
  ·have g1 : (n : Int) < 16 := by omega
   have HLT := Lib.hid hlt
   have HPP := Lib.hid (HP.out.trans (if_pos hlt))
   clear HP hon hlt
   go_enter Tryz.func88, Tryz.ntmps88
   go_wp2_with (at_builtin; (refine wpList_append_c rfl _ _ 22 rfl i0 (.int .u8 0) 1 1 Tryz.underlying22 hi hz0 hz1 hz2 rfl (by decide) rfl (HCA.out.alloc _) ⟨w.heap.size, 0, none⟩ 1 [.int .u8 (v : Nat)] rfl rfl hc1.out (fun u hu => by rw [List.mem_singleton.1 hu]; rfl) (by unfold maxLen; have := HLT.out; omega) (by have := HLT.out; omega) ?_); intro a' c' w1' hown1 hgrow1 hat; have HX := Lib.hid (show RowC w1' 5 1 (.slice a' (n + 1) c') (n + 1) (bytesV U.came ++ [.int .u8 (v : Nat)]) ∧ (w.alloc (.cells #[.int .u8 (v : Nat)] 5)).grownBy w1' (Value.slice a n c).ownBlock from ⟨hown1, hgrow1⟩); have HAT := Lib.hid hat; obtain ⟨-, -, f0, ff, fl⟩ := rgrow_facts HH.out (HB.out n) hgrow1; rw [← HN.out] at f0; clear hown1 hgrow1 hat)
   go_end0
   have hl2 : U.came.length < 16 := by have := HLT.out; have := HN.out; omega
   have hx := HX.out
   have ha := HAT.out
   rw [HN.out] at hx ha ⊢
   exact ⟨rfl, by rw [HPP.out]; exact rpush_end HH.out v hv hl2 hx.1 hx.2 ha⟩
  ·have g1 : (16 : Int) ≤ n := by omega
   have HPP := Lib.hid (HP.out.trans (if_neg hlt))
   clear HP hon hlt
   go_enter Tryz.func88, Tryz.ntmps88
   go_wp2_with fail
   go_returns
   exact ⟨rfl, by rw [HPP.out]; exact RWent.of HL.out (rkeeps w b _ ov _ _)⟩
end
end Go.Proofs.YtojmpdddfnkffaaGreat.Uart

/- uart: the document's port: Write. -/
namespace Go.Proofs.YtojmpdddfnkffaaGreat.Uart
open Go.RowKit Go.Conc
set_option linter.unusedVariables false

theorem latch_yes {U : Ut} (h : U.ok) (hl : U.latch = true) : (127 : Int) < U.lcr := by
 have h1 : U.lcr / 128 % 2 = 1 := by unfold Ut.latch at hl; simpa using hl
 have := h.lcr
 omega
theorem latch_no {U : Ut} (h : U.ok) (hl : U.latch = false) : (U.lcr : Int) ≤ 127 := by
 have h1 : ¬ U.lcr / 128 % 2 = 1 := by unfold Ut.latch at hl; simpa using hl
 have := h.lcr
 omega
theorem lcr_or (U : Ut) : (127 : Int) < U.lcr ∨ (U.lcr : Int) ≤ 127 := by omega
section
variable {w w' : World} {b : Nat} {cv ov : Value} {U : Ut}
theorem rwrite_d (H : RfIn w b cv ov U) (k v : Nat) (hk : k < 2) (hv : v < 256) (hl : U.latch = true) :
    Calls Tryz.prog 117 #[.pointer (some ⟨b, 0, none⟩), .int .i64 (k : Nat), .int .u8 (v : Nat)] w fun e w' => e = .returned (.int .i64 0) ∧ RWent w b cv ov (U.setD k v) w' := by
 obtain ⟨-, -, k2, k3, k4, -, -, -, -, -, -, kf, kl⟩ := H.facts
 have hg := latch_yes H.ok hl
 have HH := Lib.hid (H.setD k v hk hv)
 clear H hl
 rcases (show k = 0 ∨ k = 1 by omega) with rfl | rfl
 all_goals
  go_enter Tryz.func117, Tryz.ntmps117
  go_wp2_with fail
  go_ret
  exact ⟨rfl, RWent.of HH.out (rkeeps w b cv ov _ _)⟩
theorem rwrite_0 (H : RfIn w b cv ov U) (v : Nat) (hv : v < 256) (hl : U.latch = false) (hL : U.sent.length + 1 ≤ 140737488355328) :
    Calls Tryz.prog 117 #[.pointer (some ⟨b, 0, none⟩), .int .i64 0, .int .u8 (v : Nat)] w fun e w' => e = .returned (.int .i64 0) ∧ RWent w b cv ov (U.send v) w' := by
 obtain ⟨-, -, -, -, k4, -, -, -, -, k9, k10, kf, kl⟩ := H.facts
 have hg := latch_no H.ok hl
 obtain ⟨i0, hi, hz0, hz1, hz2⟩ := info_parts info8
 have hown := H.out
 obtain ⟨a, c, rfl⟩ := row_len hown
 have HH := Lib.hid H
 have HB := Lib.hid H.bo
 have HOWN := Lib.hid hown
 have HL := Lib.hid hL
 have hc1 := Lib.hid (one_new w 5 (.int .u8 (v : Nat)))
 clear H hown hl hL
 go_enter Tryz.func117, Tryz.ntmps117
 go_wp2_with (at_builtin; (refine wpList_append_own_at _ rfl _ _ 22 rfl 0 5 i0 (.int .u8 0) 1 1 Tryz.underlying22 hi hz0 hz1 hz2 rfl (by decide) _ _ _ rfl (HOWN.out.alloc _) ⟨w.heap.size, 0, none⟩ 1 1 [.int .u8 (v : Nat)] rfl rfl hc1.out (fun u hu => by rw [List.mem_singleton.1 hu]; rfl) (by unfold maxLen; have := HL.out; omega) (by have := HL.out; omega) (Nat.zero_le _) ?_); intro v' w1' hown1 hgrow1 _ hat; obtain ⟨a', c', rfl⟩ := row_len hown1; have hcl := Lib.hid (rsend_end HH.out v hv hown1 hgrow1 hat); obtain ⟨f10, f9, f0, ff, fl⟩ := rgrow_facts HH.out HB.out hgrow1; clear hown1 hgrow1 hat)
 go_ret
 exact ⟨rfl, hcl.out⟩
theorem rwrite_1 (H : RfIn w b cv ov U) (v : Nat) (hv : v < 256) (hl : U.latch = false) :
    Calls Tryz.prog 117 #[.pointer (some ⟨b, 0, none⟩), .int .i64 1, .int .u8 (v : Nat)] w fun e w' => e = .returned (.int .i64 0) ∧ RWent w b cv ov (U.want v) w' := by
 obtain ⟨-, -, -, -, k4, -, -, k7, -, k9, -, kf, kl⟩ := H.facts
 have hg := latch_no H.ok hl
 have h1 : (U.wanted : Int) / 2 % 2 = 0 ∨ (U.wanted : Int) / 2 % 2 = 1 := by omega
 have h2 : (v : Int) / 2 % 2 = 0 ∨ (v : Int) / 2 % 2 = 1 := by omega
 have hwt := H.ok.wanted
 have hlcr := H.ok.lcr
 by_cases hc : (v : Int) / 2 % 2 = 1 ∧ (U.wanted : Int) / 2 % 2 = 0
 ·have HE := Lib.hid (show (U.setEmpty true).setWanted (v % 16) = U.want v by
    have e1 : (v / 2 % 2 == 1) = true := by simp; omega
    have e2 : (U.wanted / 2 % 2 == 0) = true := by simp; omega
    unfold Ut.want Ut.setWanted Ut.setEmpty
    rw [e1, e2]; simp)
  have HH := Lib.hid ((H.setEmpty true).setWanted (v % 16) (by omega))
  rw [HE.out] at HH
  obtain ⟨g1, g2⟩ := hc
  clear H hl HE h1 h2
  go_enter Tryz.func117, Tryz.ntmps117
  go_wp2_with fail
  go_ret
  exact ⟨rfl, RWent.of HH.out ((rkeeps w b cv ov _ _).setCell (.inl (.inl rfl)) _)⟩
 ·have HE := Lib.hid (show U.setWanted (v % 16) = U.want v by
    have e1 : (v / 2 % 2 == 1 && U.wanted / 2 % 2 == 0) = false := by
     rw [Bool.and_eq_false_iff]
     rcases h1 with h1 | h1 <;> rcases h2 with h2 | h2 <;> (simp only [beq_eq_false_iff_ne, ne_eq]; omega)
    unfold Ut.want Ut.setWanted
    rw [e1]; simp)
  have HH := Lib.hid (H.setWanted (v % 16) (by omega))
  rw [HE.out] at HH
  clear H hl HE
  rcases h1 with g2 | g2 <;> rcases h2 with g1 | g1
  all_goals (try (exfalso; omega))
  all_goals
   clear hc
   go_enter Tryz.func117, Tryz.ntmps117
   go_wp2_with fail
   go_ret
   exact ⟨rfl, RWent.of HH.out (rkeeps w b cv ov _ _)⟩
theorem rwrite_2 (H : RfIn w b cv ov U) (v : Nat) (hv : v < 256) :
    Calls Tryz.prog 117 #[.pointer (some ⟨b, 0, none⟩), .int .i64 2, .int .u8 (v : Nat)] w fun e w' => e = .returned (.int .i64 0) ∧ RWent w b cv ov (U.ctl v) w' := by
 obtain ⟨k0, -, -, -, k4, -, -, -, k8, -, -, kf, kl⟩ := H.facts
 obtain ⟨a, c, rfl⟩ := H.came.len
 have hU : U.ctl v = (if ((v % 2 == 1) != U.on || v / 2 % 2 == 1) = true then U.flow [] else U).setOn (v % 2 == 1) := by
  unfold Ut.ctl Ut.setOn Ut.flow; split <;> rfl
 have hlcr := H.ok.lcr
 have HHd := Lib.hid (fun x => H.drain.setOn x)
 have HHo := Lib.hid (fun x => H.setOn x)
 generalize U.ctl v = U' at *
 generalize ho : U.on = c0 at *
 have h1 : (v : Int) % 2 = 0 ∨ (v : Int) % 2 = 1 := by omega
 have h2 : (v : Int) / 2 % 2 = 0 ∨ (v : Int) / 2 % 2 = 1 := by omega
 have hg := lcr_or U
 generalize U.lcr = lc at *
 clear H ho
 have d1 : (v % 2 == 1) = decide ((v : Int) % 2 = 1) := by rw [Bool.eq_iff_iff]; simp; omega
 have d2 : (v / 2 % 2 == 1) = decide ((v : Int) / 2 % 2 = 1) := by rw [Bool.eq_iff_iff]; simp; omega
 rw [d1, d2] at hU
 clear d1 d2
 rcases hg with hg | hg <;> rcases h1 with h1 | h1 <;> rcases h2 with h2 | h2 <;> cases c0
 all_goals
  rw [h1, h2] at hU
  have HU := Lib.hid hU
  clear hU
  go_enter Tryz.func117, Tryz.ntmps117
  go_wp2_with fail
  go_ret
  refine ⟨rfl, ?_⟩
  rw [HU.out]
  first
   | exact ⟨_, _, HHd.out _, (rkeeps w b _ ov _ _).setCell (.inl (.inl rfl)) _, fun k hk => .inl (by rcases hk with hk | hk | hk; exact .inl hk; cases hk; exact .inr (.inr hk))⟩
   | exact RWent.of (HHo.out _) (rkeeps w b _ ov _ _)
theorem rwrite_3 (H : RfIn w b cv ov U) (v : Nat) (hv : v < 256) :
    Calls Tryz.prog 117 #[.pointer (some ⟨b, 0, none⟩), .int .i64 3, .int .u8 (v : Nat)] w fun e w' => e = .returned (.int .i64 0) ∧ RWent w b cv ov (U.setLcr v) w' := by
 obtain ⟨-, -, -, -, k4, -, -, -, -, -, -, kf, kl⟩ := H.facts
 have HH := Lib.hid (H.setLcr v hv)
 have hlcr := H.ok.lcr
 have hg := lcr_or U
 generalize U.lcr = lc at *
 clear H
 rcases hg with hg | hg
 all_goals
  go_enter Tryz.func117, Tryz.ntmps117
  go_wp2_with fail
  go_ret
  exact ⟨rfl, RWent.of HH.out (rkeeps w b cv ov _ _)⟩
theorem rwrite_4 (H : RfIn w b cv ov U) (v : Nat) (hv : v < 256) :
    Calls Tryz.prog 117 #[.pointer (some ⟨b, 0, none⟩), .int .i64 4, .int .u8 (v : Nat)] w fun e w' => e = .returned (.int .i64 0) ∧ RWent w b cv ov (U.setMcr (v % 32)) w' := by
 obtain ⟨-, -, -, -, k4, k5, -, -, -, -, -, kf, kl⟩ := H.facts
 have HH := Lib.hid (H.setMcr (v % 32) (by omega))
 have hlcr := H.ok.lcr
 have hg := lcr_or U
 generalize U.lcr = lc at *
 clear H
 rcases hg with hg | hg
 all_goals
  go_enter Tryz.func117, Tryz.ntmps117
  go_wp2_with fail
  go_ret
  exact ⟨rfl, RWent.of HH.out (rkeeps w b cv ov _ _)⟩
theorem rwrite_7 (H : RfIn w b cv ov U) (v : Nat) (hv : v < 256) :
    Calls Tryz.prog 117 #[.pointer (some ⟨b, 0, none⟩), .int .i64 7, .int .u8 (v : Nat)] w fun e w' => e = .returned (.int .i64 0) ∧ RWent w b cv ov (U.setScr v) w' := by
 obtain ⟨-, -, -, -, k4, -, k6, -, -, -, -, kf, kl⟩ := H.facts
 have HH := Lib.hid (H.setScr v hv)
 have hlcr := H.ok.lcr
 have hg := lcr_or U
 generalize U.lcr = lc at *
 clear H
 rcases hg with hg | hg
 all_goals
  go_enter Tryz.func117, Tryz.ntmps117
  go_wp2_with fail
  go_ret
  exact ⟨rfl, RWent.of HH.out (rkeeps w b cv ov _ _)⟩
theorem rwrite_else (H : RfIn w b cv ov U) (reg : Int) (n0 : ¬ reg = 0) (n1 : ¬ reg = 1) (n2 : ¬ reg = 2) (n3 : ¬ reg = 3) (n4 : ¬ reg = 4) (n7 : ¬ reg = 7) (v : Nat) :
    Calls Tryz.prog 117 #[.pointer (some ⟨b, 0, none⟩), .int .i64 reg, .int .u8 (v : Nat)] w fun e w' => e = .returned (.int .i64 (callErr reg)) ∧ w = w' := by
 obtain ⟨-, -, -, -, k4, -, -, -, -, -, -, kf, kl⟩ := H.facts
 have hlcr := H.ok.lcr
 have hg := lcr_or U
 generalize U.lcr = lc at *
 clear H
 unfold callErr
 by_cases n5 : reg = 5
 ·subst n5
  rcases hg with hg | hg
  all_goals
   go_enter Tryz.func117, Tryz.ntmps117
   go_wp2_with fail
   go_ret
   exact ⟨rfl, rfl⟩
 by_cases n6 : reg = 6
 ·subst n6
  rcases hg with hg | hg
  all_goals
   go_enter Tryz.func117, Tryz.ntmps117
   go_wp2_with fail
   go_ret
   exact ⟨rfl, rfl⟩
 rw [if_pos (by omega)]
 rcases hg with hg | hg
 all_goals
  go_enter Tryz.func117, Tryz.ntmps117
  go_wp2_with fail
  go_ret
  exact ⟨rfl, rfl⟩
theorem rwrite_any (H : RfIn w b cv ov U) (reg : Int) (v : Nat) (hv : v < 256) (hL : U.sent.length + 1 ≤ 140737488355328) :
    Calls Tryz.prog 117 #[.pointer (some ⟨b, 0, none⟩), .int .i64 reg, .int .u8 (v : Nat)] w fun e w' => e = .returned (.int .i64 (callErr reg)) ∧ RWent w b cv ov (U.out reg v) w' := by
 have els : ∀ {U' : Ut}, U' = U → ¬ reg = 0 → ¬ reg = 1 → ¬ reg = 2 → ¬ reg = 3 → ¬ reg = 4 → ¬ reg = 7 →
     Calls Tryz.prog 117 #[.pointer (some ⟨b, 0, none⟩), .int .i64 reg, .int .u8 (v : Nat)] w fun e w' => e = .returned (.int .i64 (callErr reg)) ∧ RWent w b cv ov U' w' := fun hU n0 n1 n2 n3 n4 n7 => by
  subst hU
  refine (rwrite_else H reg n0 n1 n2 n3 n4 n7 v).mono ?_
  rintro e w1 ⟨rfl, rfl⟩
  exact ⟨rfl, RWent.of H (Keeps.refl _ _)⟩
 unfold Ut.out
 by_cases h : reg < 0 ∨ 7 < reg
 ·rw [if_pos h]
  exact els rfl (by omega) (by omega) (by omega) (by omega) (by omega) (by omega)
 ·rw [if_neg h]
  by_cases h2 : reg < 2 ∧ U.latch = true
  ·rw [if_pos h2]
   have := rwrite_d H reg.toNat v (by omega) hv h2.2
   rw [show ((reg.toNat : Nat) : Int) = reg by omega] at this
   unfold callErr
   rwa [if_neg h]
  ·rw [if_neg h2]
   by_cases h0 : reg = 0
   ·subst h0
    rw [if_pos rfl]
    exact rwrite_0 H v hv (by cases hl : U.latch; rfl; exact absurd ⟨by decide, hl⟩ h2) hL
   rw [if_neg h0]
   by_cases h1 : reg = 1
   ·subst h1
    rw [if_pos rfl]
    exact rwrite_1 H v hv (by cases hl : U.latch; rfl; exact absurd ⟨by decide, hl⟩ h2)
   rw [if_neg h1]
   by_cases e2 : reg = 2
   ·subst e2; rw [if_pos rfl]; exact rwrite_2 H v hv
   rw [if_neg e2]
   by_cases e3 : reg = 3
   ·subst e3; rw [if_pos rfl]; exact rwrite_3 H v hv
   rw [if_neg e3]
   by_cases e4 : reg = 4
   ·subst e4; rw [if_pos rfl]; exact rwrite_4 H v hv
   rw [if_neg e4]
   by_cases e7 : reg = 7
   ·subst e7; rw [if_pos rfl]; exact rwrite_7 H v hv
   rw [if_neg e7]
   exact els rfl h0 h1 e2 e3 e4 e7
end
end Go.Proofs.YtojmpdddfnkffaaGreat.Uart

/- uart: the document's port: Read. -/
namespace Go.Proofs.YtojmpdddfnkffaaGreat.Uart
open Go.RowKit Go.Conc
set_option linter.unusedVariables false

section
variable {w w' : World} {b : Nat} {cv ov : Value} {U : Ut}
theorem RfIn.swap (H : RfIn w b cv ov U) {l : List Nat} {v' : Value} (hr : RowC w 5 1 v' l.length (bytesV l)) (hat : ∀ k, v'.ownBlock = some k → cv.ownBlock = some k) (h1 : l.length ≤ 16) (h2 : ∀ x ∈ l, x < 256) :
    RWent w b cv ov (U.flow l) (w.setCell ⟨b, 0, none⟩ v') := by
 have hne : ∀ j, j ≠ b → (w.setCell ⟨b, 0, none⟩ v').heap[j]? = w.heap[j]? := fun j h => heap_set_other _ h
 have o := H.ok
 refine ⟨v', ov, ⟨?_, ?_, ?_, ?_, ?_⟩, rkeeps w b cv ov _ _, fun k hk => .inl ?_⟩
 ·rw [heap_set_map, H.obj]; rfl
 ·exact hr.of_heap fun k hk => hne k fun e => H.bc (by rw [← e]; exact hat k hk)
 ·exact row_of_heap H.out fun k hk => hne k fun e => H.bo (by rw [← e]; exact hk)
 ·intro k hk; exact H.d k (hat k hk)
 ·exact ⟨h1, h2, o.d0, o.d1, o.lcr, o.mcr, o.scr, o.wanted, o.s2⟩
 ·rcases hk with hk | hk | hk
  ·exact .inl hk
  ·exact .inr (.inl (hat k hk))
  ·exact .inr (.inr hk)
theorem rread_d (H : RfIn w b cv ov U) (k : Nat) (hk : k < 2) (hl : U.latch = true) :
    Calls Tryz.prog 121 #[.pointer (some ⟨b, 0, none⟩), .int .i64 (k : Nat)] w fun e w' => e = .returned (.tuple #[.int .u8 ((if k = 0 then U.d0 else U.d1 : Nat) : Int), .int .i64 0]) ∧ w = w' := by
 obtain ⟨-, -, k2, k3, k4, -, -, -, -, -, -, kf, kl⟩ := H.facts
 have hg := latch_yes H.ok hl
 clear H hl
 rcases (show k = 0 ∨ k = 1 by omega) with rfl | rfl
 ·rw [if_pos rfl]
  go_enter Tryz.func121, Tryz.ntmps121
  go_wp2_with fail
  go_ret2
  exact ⟨rfl, rfl⟩
 ·rw [if_neg (by decide)]
  go_enter Tryz.func121, Tryz.ntmps121
  go_wp2_with fail
  go_ret2
  exact ⟨rfl, rfl⟩
theorem rread_0 (H : RfIn w b cv ov U) (hl : U.latch = false) :
    Calls Tryz.prog 121 #[.pointer (some ⟨b, 0, none⟩), .int .i64 0] w fun e w' => e = .returned (.tuple #[.int .u8 (U.came.headD 0 : Nat), .int .i64 0]) ∧ RWent w b cv ov U.tail w' := by
 obtain ⟨k0, -, -, -, k4, -, -, -, -, -, -, kf, kl⟩ := H.facts
 have hg := latch_no H.ok hl
 have hlcr := H.ok.lcr
 cases hc : U.came with
 | nil =>
  have hk := H.came.len
  rw [hc] at hk
  obtain ⟨a, c, rfl⟩ := hk
  have HU := Lib.hid (show U.tail = U by unfold Ut.tail Ut.flow; rw [hc]; cases U; simp_all)
  have HH := Lib.hid H
  clear hc hl H
  go_enter Tryz.func121, Tryz.ntmps121
  go_wp2_with fail
  go_ret2
  exact ⟨rfl, RWent.of (by rw [HU.out]; exact HH.out) (Keeps.refl _ _)⟩
 | cons x l =>
  have HU := Lib.hid (show U.tail = U.flow l by unfold Ut.tail; rw [hc]; rfl)
  have hr := H.came
  rw [hc] at hr
  obtain ⟨g, o, cap, rfl, hcell, hgl⟩ := hr.cell (j := 0) (u := .int .u8 (x : Nat)) (by simp [bytesV])
  have hsz : (sizeOf 5).run Tryz.prog w = .ok 1 w := by rfl
  obtain ⟨v', hsl, hr', hat⟩ := run_tail_c (P := Tryz.prog) (n := l.length) 22 1 Tryz.underlying22 hsz hr
  obtain ⟨a', c', rfl⟩ := hr'.len
  have h16 : l.length ≤ 16 := by have := H.ok.c1; rw [hc] at this; simp at this; omega
  have h256 : ∀ y ∈ l, y < 256 := fun y hy => H.ok.c2 y (by rw [hc]; exact List.mem_cons_of_mem _ hy)
  have HE := Lib.hid (H.swap (l := l) (v' := .slice a' l.length c') (by simpa [bytesV] using hr') hat h16 h256)
  rw [← HU.out] at HE
  have hn : ∃ n, n = l.length := ⟨_, rfl⟩
  obtain ⟨n, hn⟩ := hn
  have k0' : w.cell? ⟨b, 0, none⟩ = some (.slice (some ⟨g, o, none⟩) (n + 1) cap) := by rw [k0, hn]; rfl
  have hsl' : (Instr.slice 22 (.slice (some ⟨g, o, none⟩) (n + 1) cap) (some (.int .i64 1)) none none).run Tryz.prog w = .ok (.slice a' n c') w := by rw [hn]; exact hsl
  have hcell' : w.cell? ⟨g, o, none⟩ = some (.int .u8 (x : Nat)) := hcell
  rw [← hn] at HE
  clear hr hr' hat k0 hsl hcell hn HU hc hl H hsz h16 h256
  go_enter Tryz.func121, Tryz.ntmps121
  go_wp2_with fail
  go_ret2
  exact ⟨rfl, HE.out⟩
theorem rread_1 (H : RfIn w b cv ov U) (hl : U.latch = false) :
    Calls Tryz.prog 121 #[.pointer (some ⟨b, 0, none⟩), .int .i64 1] w fun e w' => e = .returned (.tuple #[.int .u8 (U.wanted : Nat), .int .i64 0]) ∧ w = w' := by
 obtain ⟨-, -, -, -, k4, -, -, k7, -, -, -, kf, kl⟩ := H.facts
 have hg := latch_no H.ok hl
 clear H hl
 go_enter Tryz.func121, Tryz.ntmps121
 go_wp2_with fail
 go_ret2
 exact ⟨rfl, rfl⟩
theorem rread_2 (H : RfIn w b cv ov U) :
    Calls Tryz.prog 121 #[.pointer (some ⟨b, 0, none⟩), .int .i64 2] w fun e w' => e = .returned (.tuple #[.int .u8 ((U.why + (if U.on then 192 else 0) : Nat) : Int), .int .i64 0]) ∧ RWent w b cv ov U.ask w' := by
 obtain ⟨-, -, -, -, k4, -, -, -, k8, k9, -, kf, kl⟩ := H.facts
 have hg := lcr_or U
 have hw : U.why = 4 ∨ U.why = 2 ∨ U.why = 1 := by unfold Ut.why; cases U.rx <;> cases U.tx <;> simp
 have HA := Lib.hid (show U.ask = if U.why = 2 then U.setEmpty false else U from rfl)
 have HW := rwhy_any H
 have HH := Lib.hid H
 have hlcr := H.ok.lcr
 clear H
 generalize U.ask = U' at *
 generalize U.why = y at *
 generalize U.on = on at *
 generalize U.lcr = lc at *
 rcases hw with rfl | rfl | rfl
 all_goals
  cases on <;> rcases hg with hg | hg
  all_goals
   go_enter Tryz.func121, Tryz.ntmps121
   go_wp2_with fail
   refine HW.mono ?_
   rintro e w1 ⟨rfl, rfl⟩
   go_wp2_with fail
   go_ret2
   first
    | exact ⟨rfl, RWent.of (by rw [HA.out, if_neg (by decide)]; exact HH.out) (Keeps.refl _ _)⟩
    | exact ⟨rfl, RWent.of (by rw [HA.out, if_pos trivial]; exact HH.out.setEmpty false) (rkeeps w b cv ov _ _)⟩
theorem rread_3 (H : RfIn w b cv ov U) :
    Calls Tryz.prog 121 #[.pointer (some ⟨b, 0, none⟩), .int .i64 3] w fun e w' => e = .returned (.tuple #[.int .u8 (U.lcr : Nat), .int .i64 0]) ∧ w = w' := by
 obtain ⟨-, -, -, -, k4, -, -, -, -, -, -, kf, kl⟩ := H.facts
 have hg := lcr_or U
 clear H
 rcases hg with hg | hg
 all_goals
  go_enter Tryz.func121, Tryz.ntmps121
  go_wp2_with fail
  go_ret2
  exact ⟨rfl, rfl⟩
theorem rread_4 (H : RfIn w b cv ov U) :
    Calls Tryz.prog 121 #[.pointer (some ⟨b, 0, none⟩), .int .i64 4] w fun e w' => e = .returned (.tuple #[.int .u8 (U.mcr : Nat), .int .i64 0]) ∧ w = w' := by
 obtain ⟨-, -, -, -, k4, k5, -, -, -, -, -, kf, kl⟩ := H.facts
 have hg := lcr_or U
 clear H
 rcases hg with hg | hg
 all_goals
  go_enter Tryz.func121, Tryz.ntmps121
  go_wp2_with fail
  go_ret2
  exact ⟨rfl, rfl⟩
theorem rread_7 (H : RfIn w b cv ov U) :
    Calls Tryz.prog 121 #[.pointer (some ⟨b, 0, none⟩), .int .i64 7] w fun e w' => e = .returned (.tuple #[.int .u8 (U.scr : Nat), .int .i64 0]) ∧ w = w' := by
 obtain ⟨-, -, -, -, k4, -, k6, -, -, -, -, kf, kl⟩ := H.facts
 have hg := lcr_or U
 clear H
 rcases hg with hg | hg
 all_goals
  go_enter Tryz.func121, Tryz.ntmps121
  go_wp2_with fail
  go_ret2
  exact ⟨rfl, rfl⟩
theorem rread_6 (H : RfIn w b cv ov U) :
    Calls Tryz.prog 121 #[.pointer (some ⟨b, 0, none⟩), .int .i64 6] w fun e w' => e = .returned (.tuple #[.int .u8 176, .int .i64 0]) ∧ w = w' := by
 obtain ⟨-, -, -, -, k4, -, -, -, -, -, -, kf, kl⟩ := H.facts
 have hg := lcr_or U
 clear H
 rcases hg with hg | hg
 all_goals
  go_enter Tryz.func121, Tryz.ntmps121
  go_wp2_with fail
  go_ret2
  exact ⟨rfl, rfl⟩
theorem rread_bad (H : RfIn w b cv ov U) (reg : Int) (h : reg < 0 ∨ 7 < reg) :
    Calls Tryz.prog 121 #[.pointer (some ⟨b, 0, none⟩), .int .i64 reg] w fun e w' => e = .returned (.tuple #[.int .u8 0, .int .i64 1]) ∧ w = w' := by
 obtain ⟨-, -, -, -, k4, -, -, -, -, -, -, kf, kl⟩ := H.facts
 have hg := lcr_or U
 have n0 : ¬ reg = 0 := by omega
 have n1 : ¬ reg = 1 := by omega
 have n2 : ¬ reg = 2 := by omega
 have n3 : ¬ reg = 3 := by omega
 have n4 : ¬ reg = 4 := by omega
 have n5 : ¬ reg = 5 := by omega
 have n6 : ¬ reg = 6 := by omega
 have n7 : ¬ reg = 7 := by omega
 have b0 : (reg == 0) = false := by simpa using n0
 have b1 : (reg == 1) = false := by simpa using n1
 clear H h
 rcases hg with hg | hg
 all_goals
  go_enter Tryz.func121, Tryz.ntmps121
  go_wp2_with fail
  go_ret2
  exact ⟨rfl, rfl⟩
theorem rread_5 (H : RfIn w b cv ov U) :
    Calls Tryz.prog 121 #[.pointer (some ⟨b, 0, none⟩), .int .i64 5] w fun e w' => e = .returned (.tuple #[.int .u8 (U.stat : Nat), .int .i64 0]) ∧ RWent w b cv ov (U.setLost false) w' := by
 obtain ⟨k0, k1, -, -, k4, -, -, -, -, -, -, kf, kl⟩ := H.facts
 obtain ⟨a, c, rfl⟩ := H.came.len
 have hg := lcr_or U
 have hlcr := H.ok.lcr
 have hw : U.stat = 96 + (if U.came.isEmpty then 0 else 1) + (if U.lost then 2 else 0) := rfl
 have HH := Lib.hid (H.setLost false)
 have hn : ∃ n, n = U.came.length := ⟨_, rfl⟩
 obtain ⟨n, hn⟩ := hn
 rw [← hn] at k0
 have he : U.came.isEmpty = decide (n = 0) := by rw [hn]; cases U.came <;> simp
 rw [he] at hw
 generalize U.stat = y at *
 generalize U.lcr = lc at *
 clear he hn H
 have h3 : n = 0 ∨ 0 < n := by omega
 cases hl : U.lost <;> rcases h3 with h3 | h3 <;> rcases hg with hg | hg
 all_goals
  rw [hl] at hw k1
  first | subst h3 | rw [decide_eq_false (show ¬ n = 0 by omega)] at hw
  try (have h3i : (0 : Int) < (n : Int) := by omega)
  simp at hw
  have HW := Lib.hid hw
  clear hw hl
  go_enter Tryz.func121, Tryz.ntmps121
  go_wp2_with fail
  go_ret2
  exact ⟨by rw [HW.out]; rfl, RWent.of HH.out (rkeeps w b _ ov _ _)⟩
theorem rread_any (H : RfIn w b cv ov U) (reg : Int) :
    Calls Tryz.prog 121 #[.pointer (some ⟨b, 0, none⟩), .int .i64 reg] w fun e w' => e = .returned (.tuple #[.int .u8 (U.inV reg : Nat), .int .i64 (callErr reg)]) ∧ RWent w b cv ov (U.inS reg) w' := by
 have same : ∀ {v c : Int}, (Calls Tryz.prog 121 #[.pointer (some ⟨b, 0, none⟩), .int .i64 reg] w fun e w' => e = .returned (.tuple #[.int .u8 v, .int .i64 c]) ∧ w = w') →
     Calls Tryz.prog 121 #[.pointer (some ⟨b, 0, none⟩), .int .i64 reg] w fun e w' => e = .returned (.tuple #[.int .u8 v, .int .i64 c]) ∧ RWent w b cv ov U w' := fun h => by
  refine h.mono ?_
  rintro e w1 ⟨rfl, rfl⟩
  exact ⟨rfl, RWent.of H (Keeps.refl _ _)⟩
 unfold callErr Ut.inV Ut.inS
 by_cases h : reg < 0 ∨ 7 < reg
 ·rw [if_pos h, if_pos h, if_pos h]
  exact same (rread_bad H reg h)
 ·rw [if_neg h, if_neg h, if_neg h]
  by_cases h2 : reg < 2 ∧ U.latch = true
  ·rw [if_pos h2, if_pos h2]
   have := rread_d H reg.toNat (by omega) h2.2
   rw [show ((reg.toNat : Nat) : Int) = reg by omega] at this
   by_cases h0 : reg = 0
   ·rw [if_pos h0]; rw [if_pos (by omega)] at this; exact same this
   ·rw [if_neg h0]; rw [if_neg (by omega)] at this; exact same this
  ·rw [if_neg h2, if_neg h2]
   by_cases h0 : reg = 0
   ·subst h0
    rw [if_pos rfl, if_pos rfl]
    exact rread_0 H (by cases hl : U.latch; rfl; exact absurd ⟨by decide, hl⟩ h2)
   rw [if_neg h0, if_neg h0]
   by_cases h1 : reg = 1
   ·subst h1
    rw [if_pos rfl, if_neg (by decide), if_neg (by decide)]
    exact same (rread_1 H (by cases hl : U.latch; rfl; exact absurd ⟨by decide, hl⟩ h2))
   rw [if_neg h1]
   by_cases e2 : reg = 2
   ·subst e2; rw [if_pos rfl, if_pos rfl]; exact rread_2 H
   rw [if_neg e2, if_neg e2]
   by_cases e3 : reg = 3
   ·subst e3; rw [if_pos rfl, if_neg (by decide)]; exact same (rread_3 H)
   rw [if_neg e3]
   by_cases e4 : reg = 4
   ·subst e4; rw [if_pos rfl, if_neg (by decide)]; exact same (rread_4 H)
   rw [if_neg e4]
   by_cases e5 : reg = 5
   ·subst e5; rw [if_pos rfl, if_pos rfl]; exact rread_5 H
   rw [if_neg e5, if_neg e5]
   by_cases e6 : reg = 6
   ·subst e6; rw [if_pos rfl]; exact same (rread_6 H)
   rw [if_neg e6]
   have e7 : reg = 7 := by omega
   subst e7
   exact same (rread_7 H)
end
end Go.Proofs.YtojmpdddfnkffaaGreat.Uart

/- bus: the document's devices: their calls; a byte to a port, a byte of one. -/
namespace Go.Proofs.YtojmpdddfnkffaaGreat
open Go.RowKit Go.MapKept
set_option linter.unusedVariables false

section
variable {b : Nat} {c d : Pic.Chip} {U : Uart.Ut} {D : Ide.Dk} {R : RS} {t : Int}
theorem rpic_out (n : Int) (v : Nat) (hv : v < 256) : Acts 115 #[.pointer (some ⟨b, 0, none⟩), .int .i64 n, .int .u8 (v : Nat)] (oRPic b c d) (.int .i64 (Pic.perr n)) (oRPic b (Pic.otc c n v) (Pic.otd d n v)) := by
 rintro w A ⟨x, u, H, ok, e⟩
 refine (Pic.rout_any H ok.1 ok.2 n v hv).mono ?_
 rintro y w1 ⟨rfl, x1, u1, H1, K, O⟩
 refine ⟨rfl, fun k => k = b ∨ x1.ownBlock = some k ∨ u1.ownBlock = some k, ⟨x1, u1, H1, ⟨Pic.otc_ok ok.1 n v hv, Pic.otd_ok ok.2 n v hv⟩, fun k => Iff.rfl⟩, K.mono fun k _ h => (e k).2 (.inl h), fun k hk => ?_⟩
 rcases hk with hk | hk
 ·exact .inl ((e k).2 (.inl hk))
 ·exact (O k hk).imp (fun h => (e k).2 (.inr h)) id
theorem rpic_in (n : Int) : Acts 119 #[.pointer (some ⟨b, 0, none⟩), .int .i64 n] (oRPic b c d) (.tuple #[.int .u8 (Pic.inv c d n : Nat), .int .i64 (Pic.perr n)]) (oRPic b c d) := by
 rintro w A ⟨x, u, H, ok, e⟩
 refine (Pic.rin_any H ok.1 ok.2 n).mono ?_
 rintro y w1 ⟨rfl, hb⟩
 exact ⟨rfl, A, ⟨x, u, H.below hb, ok, e⟩, (Keeps.ofBelow hb).mono fun k _ h => h, fun k hk => .inl hk⟩
theorem rpic_ack : Acts 89 #[.pointer (some ⟨b, 0, none⟩)] (oRPic b c d) (.int .i64 (Pic.vec0 c d : Nat)) (oRPic b (Pic.tkc c d) (Pic.tkd c d)) := by
 rintro w A ⟨x, u, H, ok, e⟩
 refine (Pic.rack_any H ok.1 ok.2).mono ?_
 rintro y w1 ⟨rfl, H1, K⟩
 exact ⟨rfl, A, ⟨x, u, H1, ⟨Pic.tkc_ok ok.1, Pic.tkd_ok ok.2⟩, e⟩, K.mono fun k _ h => (e k).2 (.inl h), fun k hk => .inl hk⟩
theorem rpic_pending : Acts 12 #[.pointer (some ⟨b, 0, none⟩)] (oRPic b c d) (.bool (Pic.told0 c d)) (oRPic b c d) := by
 rintro w A ⟨x, u, H, ok, e⟩
 refine (Pic.rpending_any H ok.1 ok.2).mono ?_
 rintro y w1 ⟨rfl, hb⟩
 exact ⟨rfl, A, ⟨x, u, H.below hb, ok, e⟩, (Keeps.ofBelow hb).mono fun k _ h => h, fun k hk => .inl hk⟩
theorem rtm_acts {f : FuncId} {args : Array Value} {v : Value} {T T' : Tm3} (h : ∀ w, RT w b T.a T.b T.c → Calls Tryz.prog f args w fun e w' => e = .returned v ∧ RT w' b T'.a T'.b T'.c ∧ Keeps (· = b) w w') : Acts f args (oRTm b T) v (oRTm b T') := by
 rintro w A ⟨H, e⟩
 refine (h w H).mono ?_
 rintro x w1 ⟨rfl, H1, K⟩
 exact ⟨rfl, A, ⟨H1, e⟩, moves_one e K⟩
theorem rtm_out (T : Tm3) (h : T.ok t) (ht : t < 18446744073709551616) (n : Nat) (hn : n < 4) (x : Nat) (hx : x < 256) :
    Acts 116 #[.pointer (some ⟨b, 0, none⟩), .int .i64 (n : Nat), .int .u8 (x : Nat), .int .u64 t] (oRTm b T) (.int .i64 0) (oRTm b (T.out n x t)) := by
 refine rtm_acts fun w H => ?_
 unfold Tm3.out
 rcases (show n = 0 ∨ n = 1 ∨ n = 2 ∨ n = 3 by omega) with rfl | rfl | rfl | rfl
 ·exact rput_ct0 H h.a x (by omega) (by omega)
 ·exact rput_ct1 H h.b x (by omega) (by omega)
 ·exact rput_ct2 H h.c x (by omega) (by omega)
 ·rw [if_neg (by omega), if_neg (by omega), if_neg (by omega)]
  by_cases h0 : (x : Int) / 64 = 0
  ·rw [if_pos h0]; exact rputc_ct0 H h.a ht x (by omega) (by omega) h0
  ·rw [if_neg h0]
   by_cases h1 : (x : Int) / 64 = 1
   ·rw [if_pos h1]; exact rputc_ct1 H h.b ht x (by omega) (by omega) h1
   ·rw [if_neg h1]
    by_cases h2 : (x : Int) / 64 = 2
    ·rw [if_pos h2]; exact rputc_ct2 H h.c ht x (by omega) (by omega) h2
    ·rw [if_neg h2]; exact rputc_3 H x (by omega) (by omega) (by omega)
theorem rtm_in (T : Tm3) (h : T.ok t) (ht : t < 18446744073709551616) (n : Nat) (hn : n < 4) :
    Acts 120 #[.pointer (some ⟨b, 0, none⟩), .int .i64 (n : Nat), .int .u64 t] (oRTm b T) (.tuple #[.int .u8 (T.inV n t), .int .i64 0]) (oRTm b (T.inS n)) := by
 refine rtm_acts fun w H => ?_
 unfold Tm3.inV Tm3.inS
 rcases (show n = 0 ∨ n = 1 ∨ n = 2 ∨ n = 3 by omega) with rfl | rfl | rfl | rfl
 ·exact rget_ct0 H h.a ht
 ·exact rget_ct1 H h.b ht
 ·exact rget_ct2 H h.c ht
 ·exact rget_3 H
theorem rline_all {T : Tm3} {n : Nat} (h : T.ok (n : Nat)) (ht : n < 18446744073709551615) : RLine T n := fun b => by
 rintro w A ⟨H, e⟩
 refine (rline_ct (c0 := T.a) (c1 := T.b) (c2 := T.c) H h.a (by omega)).mono ?_
 rintro x w1 ⟨rfl, hb⟩
 exact ⟨rfl, A, ⟨heap_below hb H, e⟩, moves_one e (Keeps.ofBelow hb)⟩
theorem ruart_went {f : FuncId} {args : Array Value} {v : Value} {U' : Uart.Ut} (h : ∀ w q sv, Uart.RfIn w b q sv U → Calls Tryz.prog f args w fun e w' => e = .returned v ∧ Uart.RWent w b q sv U' w') : Acts f args (oRUart b U) v (oRUart b U') := by
 rintro w A ⟨q, sv, H, e⟩
 refine (h w q sv H).mono ?_
 rintro x w1 ⟨rfl, q', sv', H1, K, N⟩
 exact ⟨rfl, Uart.RHeld b q' sv', ⟨q', sv', H1, fun k => Iff.rfl⟩, K.mono fun k _ h => (e k).2 h, fun k hk => (N k hk).imp (fun h => (e k).2 h) id⟩
theorem ruart_out (n : Int) (v : Nat) (hv : v < 256) (hL : U.sent.length + 1 ≤ 140737488355328) : Acts 117 #[.pointer (some ⟨b, 0, none⟩), .int .i64 n, .int .u8 (v : Nat)] (oRUart b U) (.int .i64 (Uart.callErr n)) (oRUart b (U.out n v)) :=
 ruart_went fun w q sv H => Uart.rwrite_any H n v hv hL
theorem ruart_in (n : Int) : Acts 121 #[.pointer (some ⟨b, 0, none⟩), .int .i64 n] (oRUart b U) (.tuple #[.int .u8 (U.inV n : Nat), .int .i64 (Uart.callErr n)]) (oRUart b (U.inS n)) :=
 ruart_went fun w q sv H => Uart.rread_any H n
theorem ruart_push (x : Nat) (hx : x < 256) : Acts 88 #[.pointer (some ⟨b, 0, none⟩), .int .u8 (x : Nat)] (oRUart b U) (.tuple #[]) (oRUart b (U.push x)) :=
 ruart_went fun w q sv H => Uart.rpush_any H x hx
theorem ride_went {f : FuncId} {args : Array Value} {v : Value} {D' : Ide.Dk} (hr : D.room → D'.room) (h : ∀ w ds lv, D.room → Ide.IdeIn 108 w b ds lv D → Calls Tryz.prog f args w fun e w' => e = .returned v ∧ Ide.RWent w b ds lv D' w') : Acts f args (oRIde b D) v (oRIde b D') := by
 rintro w A ⟨ds, lv, H, ro, e⟩
 refine (h w ds lv ro H).mono ?_
 rintro x w1 ⟨rfl, lv', H1, K, N⟩
 refine ⟨rfl, Ide.Held b ds lv', ⟨ds, lv', H1, hr ro, fun k => Iff.rfl⟩, K.mono fun k _ h => (e k).2 h, fun k hk => ?_⟩
 rcases hk with hk | hk | hk
 ·exact .inl ((e k).2 (.inl hk))
 ·exact .inl ((e k).2 (.inr (.inl hk)))
 ·exact (N k hk).imp (fun h => (e k).2 (.inr (.inr h))) id
theorem ride_out (reg size : Int) (v : Nat) (hv : v < 4294967296) (hL : D.log.length + 4 < 17592186044416) : Acts 83 #[.pointer (some ⟨b, 0, none⟩), .int .i64 reg, .int .i64 size, .int .u32 v] (oRIde b D) (.int .i64 (Ide.callErr reg size)) (oRIde b (D.out reg size v)) :=
 ride_went (fun h => Ide.Dk.room_out h reg size v) fun w ds lv ro H => Ide.rout_any H ro reg size v hv hL
theorem ride_in (reg size : Int) : Acts 85 #[.pointer (some ⟨b, 0, none⟩), .int .i64 reg, .int .i64 size] (oRIde b D) (.tuple #[.int .u32 (D.inV reg size : Nat), .int .i64 (Ide.callErr reg size)]) (oRIde b (D.inS reg size)) :=
 ride_went (fun h => Ide.Dk.room_inS h reg size) fun w ds lv ro H => Ide.rin_any H ro reg size
end
def chipV (p : Nat) : Int := if p = 0x20 then 0 else if p = 0x21 then 1 else if p = 0xA0 then 2 else if p = 0xA1 then 3 else -1
def diskV (p : Nat) : Int := if 0x1F0 ≤ p ∧ p < 0x1F8 then ((p - 0x1F0 : Nat) : Int) else if p = 0x3F6 then 8 else -1
theorem chip_any (p : Nat) (hp : p < 65536) (w : World) : Calls Tryz.prog 113 #[.int .u16 (p : Nat)] w fun e w' => e = .returned (.int .i64 (chipV p)) ∧ w = w' := by
 unfold chipV
 by_cases h0 : p = 0x20
 ·subst h0
  go_enter Tryz.func113, Tryz.ntmps113
  go_wp2_with fail
  go_ret
  exact ⟨rfl, rfl⟩
 by_cases h1 : p = 0x21
 ·subst h1
  go_enter Tryz.func113, Tryz.ntmps113
  go_wp2_with fail
  go_ret
  exact ⟨rfl, rfl⟩
 by_cases h2 : p = 0xA0
 ·subst h2
  go_enter Tryz.func113, Tryz.ntmps113
  go_wp2_with fail
  go_ret
  exact ⟨rfl, rfl⟩
 by_cases h3 : p = 0xA1
 ·subst h3
  go_enter Tryz.func113, Tryz.ntmps113
  go_wp2_with fail
  go_ret
  exact ⟨rfl, rfl⟩
 rw [if_neg h0, if_neg h1, if_neg h2, if_neg h3]
 have e0 : ((p : Int) == 32) = false := by simp; omega
 have e1 : ((p : Int) == 33) = false := by simp; omega
 have e2 : ((p : Int) == 160) = false := by simp; omega
 have e3 : ((p : Int) == 161) = false := by simp; omega
 clear h0 h1 h2 h3
 go_enter Tryz.func113, Tryz.ntmps113
 go_wp2_with fail
 go_ret
 exact ⟨rfl, rfl⟩
theorem disk_any (p : Nat) (hp : p < 65536) (w : World) : Calls Tryz.prog 114 #[.int .u16 (p : Nat)] w fun e w' => e = .returned (.int .i64 (diskV p)) ∧ w = w' := by
 unfold diskV
 by_cases h0 : 0x1F0 ≤ p ∧ p < 0x1F8
 ·rw [if_pos h0]
  obtain ⟨h1, h2⟩ := h0
  have e1 : (496 : Int) ≤ (p : Int) := by omega
  have e2 : (p : Int) < 504 := by omega
  have e3 : ((p - 0x1F0 : Nat) : Int) = (p : Int) - 496 := by omega
  rw [e3]
  clear h1 h2 e3
  go_enter Tryz.func114, Tryz.ntmps114
  go_wp2_with fail
  go_ret
  exact ⟨rfl, rfl⟩
 rw [if_neg h0]
 by_cases h1 : p = 0x3F6
 ·subst h1
  go_enter Tryz.func114, Tryz.ntmps114
  go_wp2_with fail
  go_ret
  exact ⟨rfl, rfl⟩
 rw [if_neg h1]
 have e3 : ((p : Int) == 1014) = false := by simp; omega
 by_cases h2 : p < 0x1F0
 ·have e1 : ¬ ((496 : Int) ≤ (p : Int)) := by omega
  clear h0 h1 h2
  go_enter Tryz.func114, Tryz.ntmps114
  go_wp2_with fail
  go_ret
  exact ⟨rfl, rfl⟩
 ·have e1 : (496 : Int) ≤ (p : Int) := by omega
  have e2 : ¬ ((p : Int) < 504) := by omega
  clear h0 h1 h2
  go_enter Tryz.func114, Tryz.ntmps114
  go_wp2_with fail
  go_ret
  exact ⟨rfl, rfl⟩
end Go.Proofs.YtojmpdddfnkffaaGreat

