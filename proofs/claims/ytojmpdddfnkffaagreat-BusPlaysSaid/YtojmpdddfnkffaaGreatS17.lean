/- Steps of a proof: BusAm. -/
import Derived.Test.YtojmpdddfnkffaaGreatS16
set_option maxHeartbeats 40000000
set_option maxRecDepth 20000
/- bus's law: two buses alike. -/
namespace Go.Proofs.YtojmpdddfnkffaaGreat
open Go.RowKit Go.MapKept
set_option linter.unusedVariables false
set_option linter.unusedSimpArgs false

section
variable {w0 w : World} {A0 : Nat → Prop} {b m : Nat} {B : Bs} {R1 : RS} {os : List Ob}
def Bs.over (B : Bs) (R1 : RS) : Bs := { B with R := R1 }
theorem written_over (T : Hp w0 A0 w os) (i : Nat) (hi : os[i]? = some (oBus b m (B.over R1))) :
    Calls Tryz.prog 57 #[.pointer (some ⟨b, 0, none⟩)] w fun e w' => ∃ v, e = .returned v ∧ Hp w0 A0 w' (os.set i (oBus b m (B.kquit.over R1)) ++ [oRow 3 v B.k.log.length (numsV B.k.log)]) := written_call (B := B.over R1) T i hi
theorem sent_over (T : Hp w0 A0 w os) (i : Nat) (hi : os[i]? = some (oBus b m (B.over R1))) :
    Calls Tryz.prog 19 #[.pointer (some ⟨b, 0, none⟩)] w fun e w' => ∃ v, e = .returned v ∧ Hp w0 A0 w' (os.set i (oBus b m (B.quit.over R1)) ++ [oRow 5 v B.u.sent.length (Uart.bytesV B.u.sent)]) := sent_call (B := B.over R1) T i hi
theorem disk_over (T : Hp w0 A0 w os) (i : Nat) (hi : os[i]? = some (oBus b m (B.over R1))) :
    Calls Tryz.prog 60 #[.pointer (some ⟨b, 0, none⟩)] w fun e w' => ∃ v, e = .returned v ∧ Hp w0 A0 w' (os ++ [oRow 5 v (B.k.n * 512) (Ide.bytesL (B.k.n * 512) B.k.d)]) := disk_call (B := B.over R1) T i hi
theorem now_over : Acts 13 #[.pointer (some ⟨b, 0, none⟩)] (oBus b m (B.over R1)) (.int .u64 (B.t : Nat)) (oBus b m (B.over R1)) := bus_now (B := B.over R1)
theorem pending_over : Acts 11 #[.pointer (some ⟨b, 0, none⟩)] (oBus b m (B.over R1)) (.bool (Pic.told0 B.c B.d)) (oBus b m (B.over R1)) := bus_pending (B := B.over R1)
end
section
variable {w0 w : World} {A0 : Nat → Prop} {b m c r : Nat} {B : Bs} {R1 : RS}
theorem Hp.openR {os : List Ob} (T : Hp w0 A0 w (oRBus c r B :: os)) : ∃ pp pt pu pi ds, Hp w0 A0 w ([Ob.box c (.cells (rbusCells r pp pt pu pi B.t) 51), oRPic pp B.c B.d, oRTm pt B.T, oRUart pu B.u, oRIdeD pi ds B.k, oRef r B.R] ++ os) := by
 obtain ⟨⟨pp, pt, pu, pi⟩, T1⟩ := T.pick
 have T2 := T1.open_
 obtain ⟨ds, T3⟩ := T2.known (f := fun ds => oRIdeD pi ds B.k) 4 rfl fun A h => by
  obtain ⟨ds, lv, h⟩ := h
  exact ⟨ds, lv, h⟩
 exact ⟨pp, pt, pu, pi, ds, T3⟩
def Ends0 (c pp pu pi : Nat) (t : Int) (ds : Value) (w : World) : Prop :=
 w.cell? ⟨c, 1, none⟩ = some (.pointer (some ⟨pp, 0, none⟩)) ∧ w.cell? ⟨c, 3, none⟩ = some (.pointer (some ⟨pu, 0, none⟩)) ∧ w.cell? ⟨c, 4, none⟩ = some (.pointer (some ⟨pi, 0, none⟩)) ∧ w.cell? ⟨c, 5, none⟩ = some (.int .u64 t) ∧ w.cell? ⟨pi, 0, none⟩ = some ds
theorem alike_any (hl : B.k.log.length < 17592186044416) (T : Hp w0 A0 w [oBus b m (B.over R1), oRBus c r B]) :
    Calls Tryz.prog 16 #[.pointer (some ⟨b, 0, none⟩), .pointer (some ⟨c, 0, none⟩)] w fun e w' => e = .returned (.bool true) ∧ ∃ os, Hp w0 A0 w' os := by
 have HL := Lib.hid hl
 obtain ⟨pp, pt, pu, pi, ds, T0⟩ := (T.front 1 rfl).openR
 clear hl T
 have T1 := Lib.hid (show Hp w0 A0 w [Ob.box c (.cells (rbusCells r pp pt pu pi B.t) 51), oRPic pp B.c B.d, oRTm pt B.T, oRUart pu B.u, oRIdeD pi ds B.k, oRef r B.R, oBus b m (B.over R1)] from T0)
 clear T0
 go_enter Tryz.func16, Tryz.ntmps16
 go_upto_region 1 with (fail)
 have T2 := Lib.hid T1.out.drew
 obtain ⟨c1, c3, c4, c5, i0⟩ := T2.out.ends 0 4 rfl rfl
 go_region_held3 (fun w' => w'.cell? ⟨c, 1, none⟩ = some (.pointer (some ⟨pp, 0, none⟩)) ∧ w'.cell? ⟨c, 3, none⟩ = some (.pointer (some ⟨pu, 0, none⟩)) ∧ w'.cell? ⟨c, 4, none⟩ = some (.pointer (some ⟨pi, 0, none⟩)) ∧ w'.cell? ⟨c, 5, none⟩ = some (.int .u64 (B.t : Nat)) ∧ w'.cell? ⟨pi, 0, none⟩ = some ds) (first | exact T5.ends 0 4 rfl rfl | exact T4.ends 0 4 rfl rfl | exact T3.ends 0 4 rfl rfl | exact T2.out.ends 0 4 rfl rfl)
  (first
   | (go_at_call 57; refine (written_over T2.out 6 rfl).mono ?_; rintro e w3 ⟨v3, rfl, T3⟩)
   | (go_at_call 58; refine (T3.hand 4 rfl (fun A a => rwrote a)).mono ?_; rintro e w4 ⟨v4, rfl, T4⟩)
   | (go_at_call 56; refine (Ide.same_any (T4.nums 7 rfl) (T4.nums 8 rfl) HL.out).mono ?_; rintro e w5 ⟨rfl, n5, rfl⟩; have T5 := T4.drewN n5))
 clear c1 c3 c4 c5 i0
 go_upto_region 2 with (fail)
 have U0 := Lib.hid (T4.drewN n5).drew
 clear T2 T3 T4 T5
 obtain ⟨X, hX⟩ : ∃ X, X = Uart.strL B.u.sent := ⟨_, rfl⟩
 obtain ⟨Y, hY⟩ : ∃ Y, Y = Ide.strOf (B.k.n * 512) B.k.d := ⟨_, rfl⟩
 obtain ⟨tm, htm⟩ : ∃ tm : Int, tm = ((B.t : Nat) : Int) := ⟨_, rfl⟩
 obtain ⟨pd, hpd⟩ : ∃ pd, pd = Pic.told0 B.c B.d := ⟨_, rfl⟩
 have HX := Lib.hid hX
 have HY := Lib.hid hY
 have HTM := Lib.hid htm
 have HPD := Lib.hid hpd
 clear hX hY htm hpd
 refine wp_region_held_drew (S := fun w' => w'.cell? ⟨c, 1, none⟩ = some (.pointer (some ⟨pp, 0, none⟩)) ∧ w'.cell? ⟨c, 3, none⟩ = some (.pointer (some ⟨pu, 0, none⟩)) ∧ w'.cell? ⟨c, 4, none⟩ = some (.pointer (some ⟨pi, 0, none⟩)) ∧ w'.cell? ⟨c, 5, none⟩ = some (.int .u64 tm) ∧ w'.cell? ⟨pi, 0, none⟩ = some ds) (by kernel_rfl) (by rw [HTM.out]; exact U0.out.ends 0 4 rfl rfl) (fun hHeld => ?_)
 refine wpAnyH_take (i := 0) (oi := _) (v := ?_) rfl (by kernel_rfl) (by kernel_rfl) (by kernel_rfl) (fun _ _ _ h => h) (Or.inl ⟨by rfl, ?_⟩) (by assumption) ?_
 rotate_left
 ·(intro w hSw; (try dsimp only at hSw); go_simp <;> rfl)
 simp only [Act.put, List.getElem_toArray, List.getElem_cons_zero, List.getElem_cons_succ, List.setIfInBounds_toArray, List.set_cons_zero, List.set_cons_succ]
 refine wpAnyH_take (i := 1) (oi := _) (v := ?_) rfl (by kernel_rfl) (by kernel_rfl) (by kernel_rfl) (fun _ _ _ h => h) (Or.inl ⟨by rfl, ?_⟩) (by assumption) ?_
 rotate_left
 ·(intro w hSw; (try dsimp only at hSw); go_simp <;> rfl)
 simp only [Act.put, List.getElem_toArray, List.getElem_cons_zero, List.getElem_cons_succ, List.setIfInBounds_toArray, List.set_cons_zero, List.set_cons_succ]
 refine wpAnyH_take (i := 2) (oi := _) (v := ?_) rfl (by kernel_rfl) (by kernel_rfl) (by kernel_rfl) (fun _ _ _ h => h) (Or.inl ⟨by rfl, ?_⟩) (by assumption) ?_
 rotate_left
 ·(intro w hSw; (try dsimp only at hSw); go_simp <;> rfl)
 simp only [Act.put, List.getElem_toArray, List.getElem_cons_zero, List.getElem_cons_succ, List.setIfInBounds_toArray, List.set_cons_zero, List.set_cons_succ]
 refine wpAnyH_take (i := 5) (oi := _) (v := ?_) rfl (by kernel_rfl) (by kernel_rfl) (by kernel_rfl) (fun _ _ _ h => h) (Or.inl ⟨by rfl, ?_⟩) (by assumption) ?_
 rotate_left
 ·(intro w hSw; (try dsimp only at hSw); go_simp <;> rfl)
 simp only [Act.put, List.getElem_toArray, List.getElem_cons_zero, List.getElem_cons_succ, List.setIfInBounds_toArray, List.set_cons_zero, List.set_cons_succ]
 refine wpAnyH_take (i := 6) (oi := _) (v := ?_) rfl (by kernel_rfl) (by kernel_rfl) (by kernel_rfl) (fun _ _ _ h => h) (Or.inl ⟨by rfl, ?_⟩) (by assumption) ?_
 rotate_left
 ·(intro w hSw; (try dsimp only at hSw); go_simp <;> rfl)
 simp only [Act.put, List.getElem_toArray, List.getElem_cons_zero, List.getElem_cons_succ, List.setIfInBounds_toArray, List.set_cons_zero, List.set_cons_succ]
 refine wpAnyH_take (i := 7) (oi := _) (v := ?_) rfl (by kernel_rfl) (by kernel_rfl) (by kernel_rfl) (fun _ _ _ h => h) (Or.inl ⟨by rfl, ?_⟩) (by assumption) ?_
 rotate_left
 ·(intro w hSw; (try dsimp only at hSw); go_simp <;> rfl)
 simp only [Act.put, List.getElem_toArray, List.getElem_cons_zero, List.getElem_cons_succ, List.setIfInBounds_toArray, List.set_cons_zero, List.set_cons_succ]
 refine wpAnyH_take (i := 8) (oi := _) (v := ?_) rfl (by kernel_rfl) (by kernel_rfl) (by kernel_rfl) (fun _ _ _ h => h) (Or.inl ⟨by rfl, ?_⟩) (by assumption) ?_
 rotate_left
 ·(intro w hSw; (try dsimp only at hSw); go_simp <;> rfl)
 simp only [Act.put, List.getElem_toArray, List.getElem_cons_zero, List.getElem_cons_succ, List.setIfInBounds_toArray, List.set_cons_zero, List.set_cons_succ]
 refine wpAnyH_ready (rs := [3]) (by kernel_rfl) (by decide) (AllReadyH.cons rfl (fun K hK => ?_) AllReadyH.nil)
 go_simp
 refine (sent_over U0.out 6 rfl).mono ?_
 rintro e u1 ⟨s1, rfl, U1⟩
 go_wp2_with fail
 have HEu1 : Ends0 c pp pu pi tm ds u1 := (by rw [HTM.out]; exact U1.ends 0 4 rfl rfl)
 clear hHeld
 refine hK.out _ _ HEu1 (fun hHeld => ?_)
 clear HEu1
 clear hK K
 try simp only [Act.put, List.getElem_toArray, List.getElem_cons_zero, List.getElem_cons_succ, List.setIfInBounds_toArray, List.set_cons_zero, List.set_cons_succ]
 have cvs1u1 : (convert 22 9 s1).run Tryz.prog u1 = .ok (.string X) u1 := (by rw [HX.out]; exact U1.conv 9 rfl)
 refine wpAnyH_ready (rs := [4, 9]) (by kernel_rfl) (by decide) (AllReadyH.cons rfl (fun K hK => ?_) (AllReadyH.cons rfl (fun K hK => ?_) AllReadyH.nil))
 focus
  go_simp
  refine hK.out _ _ hHeld (fun _ => ?_)
  clear hK K
  try simp only [Act.put, List.getElem_toArray, List.getElem_cons_zero, List.getElem_cons_succ, List.setIfInBounds_toArray, List.set_cons_zero, List.set_cons_succ]
  refine wpAnyH_ready (rs := [9]) (by kernel_rfl) (by decide) (AllReadyH.cons rfl (fun K hK => ?_) AllReadyH.nil)
  go_simp
  refine (U1.hand 3 rfl (fun A a => rusent a)).mono ?_
  rintro e u2 ⟨s2, rfl, U2⟩
  go_wp2_with fail
  have HEu2 : Ends0 c pp pu pi tm ds u2 := (by rw [HTM.out]; exact U2.ends 0 4 rfl rfl)
  clear hHeld
  refine hK.out _ _ HEu2 (fun hHeld => ?_)
  clear HEu2
  clear hK K
  try simp only [Act.put, List.getElem_toArray, List.getElem_cons_zero, List.getElem_cons_succ, List.setIfInBounds_toArray, List.set_cons_zero, List.set_cons_succ]
  have cws1u2 : (convert 22 9 s1).run Tryz.prog u2 = .ok (.string X) u2 := (by rw [HX.out]; exact U2.conv 9 rfl)
  have cvs2u2 : (convert 22 9 s2).run Tryz.prog u2 = .ok (.string X) u2 := (by rw [HX.out]; exact U2.conv 10 rfl)
  have cidsu2 : (convert 22 9 ds).run Tryz.prog u2 = .ok (.string Y) u2 := (by rw [HY.out]; exact U2.endc (D := B.k.quit) 4 rfl)
  refine wpAnyH_ready (rs := [10]) (by kernel_rfl) (by decide) (AllReadyH.cons rfl (fun K hK => ?_) AllReadyH.nil)
  go_simp
  refine hK.out _ _ hHeld (fun _ => ?_)
  clear hK K
  try simp only [Act.put, List.getElem_toArray, List.getElem_cons_zero, List.getElem_cons_succ, List.setIfInBounds_toArray, List.set_cons_zero, List.set_cons_succ]
 rotate_left
 focus
  go_simp
  refine (U1.hand 3 rfl (fun A a => rusent a)).mono ?_
  rintro e u2 ⟨s2, rfl, U2⟩
  go_wp2_with fail
  have HEu2 : Ends0 c pp pu pi tm ds u2 := (by rw [HTM.out]; exact U2.ends 0 4 rfl rfl)
  clear hHeld
  refine hK.out _ _ HEu2 (fun hHeld => ?_)
  clear HEu2
  clear hK K
  try simp only [Act.put, List.getElem_toArray, List.getElem_cons_zero, List.getElem_cons_succ, List.setIfInBounds_toArray, List.set_cons_zero, List.set_cons_succ]
  have cws1u2 : (convert 22 9 s1).run Tryz.prog u2 = .ok (.string X) u2 := (by rw [HX.out]; exact U2.conv 9 rfl)
  have cvs2u2 : (convert 22 9 s2).run Tryz.prog u2 = .ok (.string X) u2 := (by rw [HX.out]; exact U2.conv 10 rfl)
  have cidsu2 : (convert 22 9 ds).run Tryz.prog u2 = .ok (.string Y) u2 := (by rw [HY.out]; exact U2.endc (D := B.k.quit) 4 rfl)
  refine wpAnyH_ready (rs := [4, 10]) (by kernel_rfl) (by decide) (AllReadyH.cons rfl (fun K hK => ?_) (AllReadyH.cons rfl (fun K hK => ?_) AllReadyH.nil))
  focus
   go_simp
   refine hK.out _ _ hHeld (fun _ => ?_)
   clear hK K
   try simp only [Act.put, List.getElem_toArray, List.getElem_cons_zero, List.getElem_cons_succ, List.setIfInBounds_toArray, List.set_cons_zero, List.set_cons_succ]
   refine wpAnyH_ready (rs := [10]) (by kernel_rfl) (by decide) (AllReadyH.cons rfl (fun K hK => ?_) AllReadyH.nil)
   go_simp
   refine hK.out _ _ hHeld (fun _ => ?_)
   clear hK K
   try simp only [Act.put, List.getElem_toArray, List.getElem_cons_zero, List.getElem_cons_succ, List.setIfInBounds_toArray, List.set_cons_zero, List.set_cons_succ]
  rotate_left
  focus
   go_simp
   refine hK.out _ _ hHeld (fun _ => ?_)
   clear hK K
   try simp only [Act.put, List.getElem_toArray, List.getElem_cons_zero, List.getElem_cons_succ, List.setIfInBounds_toArray, List.set_cons_zero, List.set_cons_succ]
   refine wpAnyH_ready (rs := [4]) (by kernel_rfl) (by decide) (AllReadyH.cons rfl (fun K hK => ?_) AllReadyH.nil)
   go_simp
   refine hK.out _ _ hHeld (fun _ => ?_)
   clear hK K
   try simp only [Act.put, List.getElem_toArray, List.getElem_cons_zero, List.getElem_cons_succ, List.setIfInBounds_toArray, List.set_cons_zero, List.set_cons_succ]
 all_goals
  refine wpAnyH_take (i := 11) (oi := _) (v := ?_) rfl (by kernel_rfl) (by kernel_rfl) (by kernel_rfl) (fun _ _ _ h => h) (Or.inl ⟨by rfl, ?_⟩) (by assumption) ?_
  rotate_left
  ·(intro w hSw; (try dsimp only at hSw); go_simp <;> rfl)
  simp only [Act.put, List.getElem_toArray, List.getElem_cons_zero, List.getElem_cons_succ, List.setIfInBounds_toArray, List.set_cons_zero, List.set_cons_succ]
  refine wpAnyH_take (i := 12) (oi := _) (v := ?_) rfl (by kernel_rfl) (by kernel_rfl) (by kernel_rfl) (fun _ _ _ h => h) (Or.inl ⟨by rfl, ?_⟩) (by assumption) ?_
  rotate_left
  ·(intro w hSw; (try dsimp only at hSw); go_simp <;> rfl)
  simp only [Act.put, List.getElem_toArray, List.getElem_cons_zero, List.getElem_cons_succ, List.setIfInBounds_toArray, List.set_cons_zero, List.set_cons_succ]
  refine wpAnyH_take (i := 13) (oi := _) (v := ?_) rfl (by kernel_rfl) (by kernel_rfl) (by kernel_rfl) (fun _ _ _ h => h) (Or.inl ⟨by rfl, ?_⟩) (by assumption) ?_
  rotate_left
  ·(intro w hSw; (try dsimp only at hSw); go_simp <;> rfl)
  simp only [Act.put, List.getElem_toArray, List.getElem_cons_zero, List.getElem_cons_succ, List.setIfInBounds_toArray, List.set_cons_zero, List.set_cons_succ]
  refine wpAnyH_take (i := 14) (oi := _) (v := ?_) rfl (by kernel_rfl) (by kernel_rfl) (by kernel_rfl) (fun _ _ _ h => h) (Or.inl ⟨by rfl, ?_⟩) (by assumption) ?_
  rotate_left
  ·(intro w hSw; (try dsimp only at hSw); go_simp <;> rfl)
  simp only [Act.put, List.getElem_toArray, List.getElem_cons_zero, List.getElem_cons_succ, List.setIfInBounds_toArray, List.set_cons_zero, List.set_cons_succ]
  refine wpAnyH_take (i := 17) (oi := _) (v := ?_) rfl (by kernel_rfl) (by kernel_rfl) (by kernel_rfl) (fun _ _ _ h => h) (Or.inl ⟨by rfl, ?_⟩) (by assumption) ?_
  rotate_left
  ·(intro w hSw; (try dsimp only at hSw); go_simp <;> rfl)
  simp only [Act.put, List.getElem_toArray, List.getElem_cons_zero, List.getElem_cons_succ, List.setIfInBounds_toArray, List.set_cons_zero, List.set_cons_succ]
  refine wpAnyH_take (i := 18) (oi := _) (v := ?_) rfl (by kernel_rfl) (by kernel_rfl) (by kernel_rfl) (fun _ _ _ h => h) (Or.inl ⟨by rfl, ?_⟩) (by assumption) ?_
  rotate_left
  ·(intro w hSw; (try dsimp only at hSw); go_simp <;> rfl)
  simp only [Act.put, List.getElem_toArray, List.getElem_cons_zero, List.getElem_cons_succ, List.setIfInBounds_toArray, List.set_cons_zero, List.set_cons_succ]
  refine wpAnyH_take (i := 19) (oi := _) (v := ?_) rfl (by kernel_rfl) (by kernel_rfl) (by kernel_rfl) (fun _ _ _ h => h) (Or.inl ⟨by rfl, ?_⟩) (by assumption) ?_
  rotate_left
  ·(intro w hSw; (try dsimp only at hSw); go_simp <;> rfl)
  simp only [Act.put, List.getElem_toArray, List.getElem_cons_zero, List.getElem_cons_succ, List.setIfInBounds_toArray, List.set_cons_zero, List.set_cons_succ]
  refine wpAnyH_take (i := 20) (oi := _) (v := ?_) rfl (by kernel_rfl) (by kernel_rfl) (by kernel_rfl) (fun _ _ _ h => h) (Or.inl ⟨by rfl, ?_⟩) (by assumption) ?_
  rotate_left
  ·(intro w hSw; (try dsimp only at hSw); go_simp <;> rfl)
  simp only [Act.put, List.getElem_toArray, List.getElem_cons_zero, List.getElem_cons_succ, List.setIfInBounds_toArray, List.set_cons_zero, List.set_cons_succ]
  refine wpAnyH_take (i := 21) (oi := _) (v := ?_) rfl (by kernel_rfl) (by kernel_rfl) (by kernel_rfl) (fun _ _ _ h => h) (Or.inl ⟨by rfl, ?_⟩) (by assumption) ?_
  rotate_left
  ·(intro w hSw; (try dsimp only at hSw); go_simp <;> rfl)
  simp only [Act.put, List.getElem_toArray, List.getElem_cons_zero, List.getElem_cons_succ, List.setIfInBounds_toArray, List.set_cons_zero, List.set_cons_succ]
  refine wpAnyH_take (i := 22) (oi := _) (v := ?_) rfl (by kernel_rfl) (by kernel_rfl) (by kernel_rfl) (fun _ _ _ h => h) (Or.inl ⟨by rfl, ?_⟩) (by assumption) ?_
  rotate_left
  ·(intro w hSw; (try dsimp only at hSw); go_simp <;> rfl)
  simp only [Act.put, List.getElem_toArray, List.getElem_cons_zero, List.getElem_cons_succ, List.setIfInBounds_toArray, List.set_cons_zero, List.set_cons_succ]
  refine wpAnyH_take (i := 23) (oi := _) (v := ?_) rfl (by kernel_rfl) (by kernel_rfl) (by kernel_rfl) (fun _ _ _ h => h) (Or.inl ⟨by rfl, ?_⟩) (by assumption) ?_
  rotate_left
  ·(intro w hSw; (try dsimp only at hSw); go_simp <;> rfl)
  simp only [Act.put, List.getElem_toArray, List.getElem_cons_zero, List.getElem_cons_succ, List.setIfInBounds_toArray, List.set_cons_zero, List.set_cons_succ]
  refine wpAnyH_ready (rs := [15, 24]) (by kernel_rfl) (by decide) (AllReadyH.cons rfl (fun K hK => ?_) (AllReadyH.cons rfl (fun K hK => ?_) AllReadyH.nil))
  focus
   go_simp
   refine (disk_over U2 6 rfl).mono ?_
   rintro e u3 ⟨s3, rfl, U3⟩
   go_wp2_with fail
   have HEu3 : Ends0 c pp pu pi tm ds u3 := (by rw [HTM.out]; exact U3.ends 0 4 rfl rfl)
   clear hHeld
   refine hK.out _ _ HEu3 (fun hHeld => ?_)
   clear HEu3
   clear hK K
   try simp only [Act.put, List.getElem_toArray, List.getElem_cons_zero, List.getElem_cons_succ, List.setIfInBounds_toArray, List.set_cons_zero, List.set_cons_succ]
   have cvs3u3 : (convert 22 9 s3).run Tryz.prog u3 = .ok (.string Y) u3 := (by rw [HY.out]; exact U3.convd 11 rfl)
   have cidsu3 : (convert 22 9 ds).run Tryz.prog u3 = .ok (.string Y) u3 := (by rw [HY.out]; exact U3.endc (D := B.k.quit) 4 rfl)
   refine wpAnyH_ready (rs := [16, 24]) (by kernel_rfl) (by decide) (AllReadyH.cons rfl (fun K hK => ?_) (AllReadyH.cons rfl (fun K hK => ?_) AllReadyH.nil))
   focus
    go_simp
    refine hK.out _ _ hHeld (fun _ => ?_)
    clear hK K
    try simp only [Act.put, List.getElem_toArray, List.getElem_cons_zero, List.getElem_cons_succ, List.setIfInBounds_toArray, List.set_cons_zero, List.set_cons_succ]
    refine wpAnyH_ready (rs := [24]) (by kernel_rfl) (by decide) (AllReadyH.cons rfl (fun K hK => ?_) AllReadyH.nil)
    go_simp
    refine hK.out _ _ hHeld (fun _ => ?_)
    clear hK K
    try simp only [Act.put, List.getElem_toArray, List.getElem_cons_zero, List.getElem_cons_succ, List.setIfInBounds_toArray, List.set_cons_zero, List.set_cons_succ]
   rotate_left
   focus
    go_simp
    refine hK.out _ _ hHeld (fun _ => ?_)
    clear hK K
    try simp only [Act.put, List.getElem_toArray, List.getElem_cons_zero, List.getElem_cons_succ, List.setIfInBounds_toArray, List.set_cons_zero, List.set_cons_succ]
    refine wpAnyH_ready (rs := [16]) (by kernel_rfl) (by decide) (AllReadyH.cons rfl (fun K hK => ?_) AllReadyH.nil)
    go_simp
    refine hK.out _ _ hHeld (fun _ => ?_)
    clear hK K
    try simp only [Act.put, List.getElem_toArray, List.getElem_cons_zero, List.getElem_cons_succ, List.setIfInBounds_toArray, List.set_cons_zero, List.set_cons_succ]
  rotate_left 2
  focus
   go_simp
   refine hK.out _ _ hHeld (fun _ => ?_)
   clear hK K
   try simp only [Act.put, List.getElem_toArray, List.getElem_cons_zero, List.getElem_cons_succ, List.setIfInBounds_toArray, List.set_cons_zero, List.set_cons_succ]
   refine wpAnyH_ready (rs := [15]) (by kernel_rfl) (by decide) (AllReadyH.cons rfl (fun K hK => ?_) AllReadyH.nil)
   go_simp
   refine (disk_over U2 6 rfl).mono ?_
   rintro e u3 ⟨s3, rfl, U3⟩
   go_wp2_with fail
   have HEu3 : Ends0 c pp pu pi tm ds u3 := (by rw [HTM.out]; exact U3.ends 0 4 rfl rfl)
   clear hHeld
   refine hK.out _ _ HEu3 (fun hHeld => ?_)
   clear HEu3
   clear hK K
   try simp only [Act.put, List.getElem_toArray, List.getElem_cons_zero, List.getElem_cons_succ, List.setIfInBounds_toArray, List.set_cons_zero, List.set_cons_succ]
   have cvs3u3 : (convert 22 9 s3).run Tryz.prog u3 = .ok (.string Y) u3 := (by rw [HY.out]; exact U3.convd 11 rfl)
   have cidsu3 : (convert 22 9 ds).run Tryz.prog u3 = .ok (.string Y) u3 := (by rw [HY.out]; exact U3.endc (D := B.k.quit) 4 rfl)
   refine wpAnyH_ready (rs := [16]) (by kernel_rfl) (by decide) (AllReadyH.cons rfl (fun K hK => ?_) AllReadyH.nil)
   go_simp
   refine hK.out _ _ hHeld (fun _ => ?_)
   clear hK K
   try simp only [Act.put, List.getElem_toArray, List.getElem_cons_zero, List.getElem_cons_succ, List.setIfInBounds_toArray, List.set_cons_zero, List.set_cons_succ]
 all_goals
  refine wpAnyH_take (i := 25) (oi := _) (v := ?_) rfl (by kernel_rfl) (by kernel_rfl) (by kernel_rfl) (fun _ _ _ h => h) (Or.inl ⟨by rfl, ?_⟩) (by assumption) ?_
  rotate_left
  ·(intro w hSw; (try dsimp only at hSw); go_simp <;> rfl)
  simp only [Act.put, List.getElem_toArray, List.getElem_cons_zero, List.getElem_cons_succ, List.setIfInBounds_toArray, List.set_cons_zero, List.set_cons_succ]
  refine wpAnyH_take (i := 26) (oi := _) (v := ?_) rfl (by kernel_rfl) (by kernel_rfl) (by kernel_rfl) (fun _ _ _ h => h) (Or.inl ⟨by rfl, ?_⟩) (by assumption) ?_
  rotate_left
  ·(intro w hSw; (try dsimp only at hSw); go_simp <;> rfl)
  simp only [Act.put, List.getElem_toArray, List.getElem_cons_zero, List.getElem_cons_succ, List.setIfInBounds_toArray, List.set_cons_zero, List.set_cons_succ]
  refine wpAnyH_take (i := 27) (oi := _) (v := ?_) rfl (by kernel_rfl) (by kernel_rfl) (by kernel_rfl) (fun _ _ _ h => h) (Or.inl ⟨by rfl, ?_⟩) (by assumption) ?_
  rotate_left
  ·(intro w hSw; (try dsimp only at hSw); go_simp <;> rfl)
  simp only [Act.put, List.getElem_toArray, List.getElem_cons_zero, List.getElem_cons_succ, List.setIfInBounds_toArray, List.set_cons_zero, List.set_cons_succ]
  refine wpAnyH_take (i := 28) (oi := _) (v := ?_) rfl (by kernel_rfl) (by kernel_rfl) (by kernel_rfl) (fun _ _ _ h => h) (Or.inl ⟨by rfl, ?_⟩) (by assumption) ?_
  rotate_left
  ·(intro w hSw; (try dsimp only at hSw); go_simp <;> rfl)
  simp only [Act.put, List.getElem_toArray, List.getElem_cons_zero, List.getElem_cons_succ, List.setIfInBounds_toArray, List.set_cons_zero, List.set_cons_succ]
  refine wpAnyH_take (i := 30) (oi := _) (v := ?_) rfl (by kernel_rfl) (by kernel_rfl) (by kernel_rfl) (fun _ _ _ h => h) (Or.inl ⟨by rfl, ?_⟩) (by assumption) ?_
  rotate_left
  ·(intro w hSw; (try dsimp only at hSw); go_simp <;> rfl)
  simp only [Act.put, List.getElem_toArray, List.getElem_cons_zero, List.getElem_cons_succ, List.setIfInBounds_toArray, List.set_cons_zero, List.set_cons_succ]
  refine wpAnyH_take (i := 31) (oi := _) (v := ?_) rfl (by kernel_rfl) (by kernel_rfl) (by kernel_rfl) (fun _ _ _ h => h) (Or.inl ⟨by rfl, ?_⟩) (by assumption) ?_
  rotate_left
  ·(intro w hSw; (try dsimp only at hSw); go_simp <;> rfl)
  simp only [Act.put, List.getElem_toArray, List.getElem_cons_zero, List.getElem_cons_succ, List.setIfInBounds_toArray, List.set_cons_zero, List.set_cons_succ]
  refine wpAnyH_take (i := 32) (oi := _) (v := ?_) rfl (by kernel_rfl) (by kernel_rfl) (by kernel_rfl) (fun _ _ _ h => h) (Or.inl ⟨by rfl, ?_⟩) (by assumption) ?_
  rotate_left
  ·(intro w hSw; (try dsimp only at hSw); go_simp <;> rfl)
  simp only [Act.put, List.getElem_toArray, List.getElem_cons_zero, List.getElem_cons_succ, List.setIfInBounds_toArray, List.set_cons_zero, List.set_cons_succ]
  refine wpAnyH_take (i := 33) (oi := _) (v := ?_) rfl (by kernel_rfl) (by kernel_rfl) (by kernel_rfl) (fun _ _ _ h => h) (Or.inl ⟨by rfl, ?_⟩) (by assumption) ?_
  rotate_left
  ·(intro w hSw; (try dsimp only at hSw); go_simp <;> rfl)
  simp only [Act.put, List.getElem_toArray, List.getElem_cons_zero, List.getElem_cons_succ, List.setIfInBounds_toArray, List.set_cons_zero, List.set_cons_succ]
  refine wpAnyH_ready (rs := [29]) (by kernel_rfl) (by decide) (AllReadyH.cons rfl (fun K hK => ?_) AllReadyH.nil)
  go_simp
  refine (U3.act 6 rfl now_over).mono ?_
  rintro e u4 ⟨he, U4⟩
  have he2 : e = .returned (.int .u64 tm) := (by rw [HTM.out]; exact he)
  subst he2
  clear he
  go_wp2_with fail
  have HEu4 : Ends0 c pp pu pi tm ds u4 := (by rw [HTM.out]; exact U4.ends 0 4 rfl rfl)
  clear hHeld
  refine hK.out _ _ HEu4 (fun hHeld => ?_)
  clear HEu4
  clear hK K
  try simp only [Act.put, List.getElem_toArray, List.getElem_cons_zero, List.getElem_cons_succ, List.setIfInBounds_toArray, List.set_cons_zero, List.set_cons_succ]
  refine wpAnyH_take (i := 34) (oi := _) (v := ?_) rfl (by kernel_rfl) (by kernel_rfl) (by kernel_rfl) (fun _ _ _ h => h) (Or.inl ⟨by rfl, ?_⟩) (by assumption) ?_
  rotate_left
  ·(intro w hSw; (try dsimp only at hSw); go_simp <;> rfl)
  simp only [Act.put, List.getElem_toArray, List.getElem_cons_zero, List.getElem_cons_succ, List.setIfInBounds_toArray, List.set_cons_zero, List.set_cons_succ]
  refine wpAnyH_take (i := 35) (oi := _) (v := ?_) rfl (by kernel_rfl) (by kernel_rfl) (by kernel_rfl) (fun _ _ _ h => h) (Or.inl ⟨by rfl, ?_⟩) (by assumption) ?_
  rotate_left
  ·(intro w hSw; (try dsimp only at hSw); go_simp <;> rfl)
  simp only [Act.put, List.getElem_toArray, List.getElem_cons_zero, List.getElem_cons_succ, List.setIfInBounds_toArray, List.set_cons_zero, List.set_cons_succ]
  refine wpAnyH_take (i := 36) (oi := _) (v := ?_) rfl (by kernel_rfl) (by kernel_rfl) (by kernel_rfl) (fun _ _ _ h => h) (Or.inl ⟨by rfl, ?_⟩) (by assumption) ?_
  rotate_left
  ·(intro w hSw; (try dsimp only at hSw); go_simp <;> rfl)
  simp only [Act.put, List.getElem_toArray, List.getElem_cons_zero, List.getElem_cons_succ, List.setIfInBounds_toArray, List.set_cons_zero, List.set_cons_succ]
  refine wpAnyH_take (i := 37) (oi := _) (v := ?_) rfl (by kernel_rfl) (by kernel_rfl) (by kernel_rfl) (fun _ _ _ h => h) (Or.inl ⟨by rfl, ?_⟩) (by assumption) ?_
  rotate_left
  ·(intro w hSw; (try dsimp only at hSw); go_simp <;> rfl)
  simp only [Act.put, List.getElem_toArray, List.getElem_cons_zero, List.getElem_cons_succ, List.setIfInBounds_toArray, List.set_cons_zero, List.set_cons_succ]
  refine wpAnyH_take (i := 39) (oi := _) (v := ?_) rfl (by kernel_rfl) (by kernel_rfl) (by kernel_rfl) (fun _ _ _ h => h) (Or.inl ⟨by rfl, ?_⟩) (by assumption) ?_
  rotate_left
  ·(intro w hSw; (try dsimp only at hSw); go_simp <;> rfl)
  simp only [Act.put, List.getElem_toArray, List.getElem_cons_zero, List.getElem_cons_succ, List.setIfInBounds_toArray, List.set_cons_zero, List.set_cons_succ]
  refine wpAnyH_take (i := 40) (oi := _) (v := ?_) rfl (by kernel_rfl) (by kernel_rfl) (by kernel_rfl) (fun _ _ _ h => h) (Or.inl ⟨by rfl, ?_⟩) (by assumption) ?_
  rotate_left
  ·(intro w hSw; (try dsimp only at hSw); go_simp <;> rfl)
  simp only [Act.put, List.getElem_toArray, List.getElem_cons_zero, List.getElem_cons_succ, List.setIfInBounds_toArray, List.set_cons_zero, List.set_cons_succ]
  refine wpAnyH_take (i := 41) (oi := _) (v := ?_) rfl (by kernel_rfl) (by kernel_rfl) (by kernel_rfl) (fun _ _ _ h => h) (Or.inl ⟨by rfl, ?_⟩) (by assumption) ?_
  rotate_left
  ·(intro w hSw; (try dsimp only at hSw); go_simp <;> rfl)
  simp only [Act.put, List.getElem_toArray, List.getElem_cons_zero, List.getElem_cons_succ, List.setIfInBounds_toArray, List.set_cons_zero, List.set_cons_succ]
  refine wpAnyH_take (i := 42) (oi := _) (v := ?_) rfl (by kernel_rfl) (by kernel_rfl) (by kernel_rfl) (fun _ _ _ h => h) (Or.inl ⟨by rfl, ?_⟩) (by assumption) ?_
  rotate_left
  ·(intro w hSw; (try dsimp only at hSw); go_simp <;> rfl)
  simp only [Act.put, List.getElem_toArray, List.getElem_cons_zero, List.getElem_cons_succ, List.setIfInBounds_toArray, List.set_cons_zero, List.set_cons_succ]
  refine wpAnyH_ready (rs := [38]) (by kernel_rfl) (by decide) (AllReadyH.cons rfl (fun K hK => ?_) AllReadyH.nil)
  go_simp
  refine (U4.act 6 rfl pending_over).mono ?_
  rintro e u5 ⟨he, U5⟩
  have he2 : e = .returned (.bool pd) := (by rw [HPD.out]; exact he)
  subst he2
  clear he
  go_wp2_with fail
  have HEu5 : Ends0 c pp pu pi tm ds u5 := (by rw [HTM.out]; exact U5.ends 0 4 rfl rfl)
  clear hHeld
  refine hK.out _ _ HEu5 (fun hHeld => ?_)
  clear HEu5
  clear hK K
  try simp only [Act.put, List.getElem_toArray, List.getElem_cons_zero, List.getElem_cons_succ, List.setIfInBounds_toArray, List.set_cons_zero, List.set_cons_succ]
  refine wpAnyH_ready (rs := [43]) (by kernel_rfl) (by decide) (AllReadyH.cons rfl (fun K hK => ?_) AllReadyH.nil)
  go_simp
  refine (U5.act 1 rfl rpic_pending).mono ?_
  rintro e u6 ⟨he, U6⟩
  have he2 : e = .returned (.bool pd) := (by rw [HPD.out]; exact he)
  subst he2
  clear he
  go_wp2_with fail
  have HEu6 : Ends0 c pp pu pi tm ds u6 := (by rw [HTM.out]; exact U6.ends 0 4 rfl rfl)
  clear hHeld
  refine hK.out _ _ HEu6 (fun hHeld => ?_)
  clear HEu6
  clear hK K
  try simp only [Act.put, List.getElem_toArray, List.getElem_cons_zero, List.getElem_cons_succ, List.setIfInBounds_toArray, List.set_cons_zero, List.set_cons_succ]
  refine wpAnyH_take (i := 44) (oi := _) (v := ?_) rfl (by kernel_rfl) (by kernel_rfl) (by kernel_rfl) (fun _ _ _ h => h) (Or.inl ⟨by rfl, ?_⟩) (by assumption) ?_
  rotate_left
  ·(intro w hSw; (try dsimp only at hSw); go_simp <;> rfl)
  simp only [Act.put, List.getElem_toArray, List.getElem_cons_zero, List.getElem_cons_succ, List.setIfInBounds_toArray, List.set_cons_zero, List.set_cons_succ]
  refine wpAnyH_take (i := 45) (oi := _) (v := ?_) rfl (by kernel_rfl) (by kernel_rfl) (by kernel_rfl) (fun _ _ _ h => h) (Or.inl ⟨by rfl, ?_⟩) (by assumption) ?_
  rotate_left
  ·(intro w hSw; (try dsimp only at hSw); go_simp <;> rfl)
  simp only [Act.put, List.getElem_toArray, List.getElem_cons_zero, List.getElem_cons_succ, List.setIfInBounds_toArray, List.set_cons_zero, List.set_cons_succ]
  refine wpAnyH_take (i := 46) (oi := _) (v := ?_) rfl (by kernel_rfl) (by kernel_rfl) (by kernel_rfl) (fun _ _ _ h => h) (Or.inl ⟨by rfl, ?_⟩) (by assumption) ?_
  rotate_left
  ·(intro w hSw; (try dsimp only at hSw); go_simp <;> rfl)
  simp only [Act.put, List.getElem_toArray, List.getElem_cons_zero, List.getElem_cons_succ, List.setIfInBounds_toArray, List.set_cons_zero, List.set_cons_succ]
  refine wpAnyH_done (by kernel_rfl) ?_ _
  try simp only [Act.put, List.getElem_toArray, List.getElem_cons_zero, List.getElem_cons_succ, List.setIfInBounds_toArray, List.set_cons_zero, List.set_cons_succ]
  go_wp2_with fail
  go_ret
  exact ⟨rfl, _, U6⟩
end
end Go.Proofs.YtojmpdddfnkffaaGreat
