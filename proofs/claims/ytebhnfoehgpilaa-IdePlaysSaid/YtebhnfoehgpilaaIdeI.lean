/- ide: a byte is given; a disk in its blocks; Out, In. -/
import Derived.Test.YtebhnfoehgpilaaIdeH
namespace Go.Proofs.Ytebhnfoehgpilaa
open Go.RowKit
set_option linter.unusedVariables false

section
variable {w : World} {b : Nat} {ds lv : Value} {D : Dk}
theorem Dk.step1_ok {S : Dk} (h : S.ok) (hd : S.done < 512) : (S.setDone (S.done + 1)).ok := { h with done := (by show S.done + 1 ≤ 512; omega) }
set_option maxHeartbeats 1000000 in
theorem get_idle (H : IdeIn 56 w b ds lv D) (h1 : D.mode ≠ 1) (h3 : D.mode ≠ 3) :
    Calls Try.prog 30 #[.pointer (some ⟨b, 0, none⟩)] w fun e w' => e = .returned (.int .u8 255) ∧ w = w' := by
  obtain ⟨-, -, -, -, -, -, -, -, -, k9, k10, -, -, -, kf, klt⟩ := H.facts
  have g1 : (((D.mode : Nat) : Int) != 1) = true := by simp; omega
  have g3 : (((D.mode : Nat) : Int) != 3) = true := by simp; omega
  clear h1 h3
  go_enter Try.func30, Try.ntmps30
  go_wp2_with fail
  go_returns
  exact ⟨rfl, rfl⟩
theorem got_in (H : IdeIn 56 w b ds lv D) (hd : D.done < 512) (n : Nat) (x : Int) (hx : x = (D.done : Int) + 1) : IdeIn 56 ((w.drewN n).setCell ⟨b, 521, none⟩ (.int .i64 x)) b ds lv (D.setDone (D.done + 1)) ∧ Keeps (· = b) w ((w.drewN n).setCell ⟨b, 521, none⟩ (.int .i64 x)) :=
  turned H (Blk.done (Blk.drewN (Blk.of H) n) (D.done + 1) x (by omega)) (((Keeps.refl _ w).drewN n).setOne _ _) (Dk.step1_ok H.ok hd) rfl rfl rfl
/-- The last byte of what is told, or of a sector, or one before it. -/
def gotTo (D : Dk) : Dk := if D.done + 1 < 512 then D.setDone (D.done + 1) else if D.mode = 3 then (D.setDone (D.done + 1)).setMode 0 else (D.setDone (D.done + 1)).next
theorem Dk.idle_ok {S : Dk} (h : S.ok) : (S.setMode 0).ok := { h with mode := (by show (0 : Nat) < 4; decide) }
set_option maxHeartbeats 2000000 in
theorem get_live (H : IdeIn 56 w b ds lv D) (hm : D.mode = 1 ∨ D.mode = 3) (hd : D.done < 512) :
    Calls Try.prog 30 #[.pointer (some ⟨b, 0, none⟩)] w fun e w' => e = .returned (.int .u8 (D.buf D.done : Nat)) ∧ IdeIn 56 w' b ds lv (gotTo D) ∧ Keeps (· = b) w w' := by
  obtain ⟨-, -, -, -, -, -, -, -, -, k9, k10, -, -, -, kf, klt⟩ := H.facts
  have kb := H.buf D.done hd
  have q0 : (0 : Int) ≤ (D.done : Int) := by omega
  have q1 : (D.done : Int) < 512 := by omega
  have HD := Lib.hid hd
  clear hd
  obtain ⟨u, hu⟩ : ∃ u, u = D.buf D.done := ⟨_, rfl⟩
  rw [← hu] at kb
  have HU := Lib.hid hu
  obtain ⟨dn, hdn⟩ : ∃ dn, dn = D.done := ⟨_, rfl⟩
  rw [← hdn] at k9 kb q0 q1
  have HDN := Lib.hid hdn
  have HH := Lib.hid H
  clear hdn hu H
  have HM := Lib.hid hm
  rcases hm with hm | hm
  all_goals
    rw [hm] at k10
    have HM1 := Lib.hid hm
    clear hm
    by_cases hlt : dn + 1 < 512
    · have g : (dn : Int) + 1 < 512 := by omega
      have HL := Lib.hid hlt
      clear hlt
      go_enter Try.func30, Try.ntmps30
      go_wp2_with fail
      go_quiet (fail)
      go_wp2_with fail
      go_ret
      have e : gotTo D = D.setDone (dn + 1) := by unfold gotTo; rw [if_pos (by rw [← HDN.out]; exact HL.out), HDN.out]
      rw [e]
      have E := got_in HH.out HD.out nq ((dn : Int) + 1) (by rw [HDN.out])
      rw [← HDN.out] at E
      refine ⟨?_, E⟩
      rw [← HU.out]; rfl
    · have hd2 : dn = 511 := by omega
      have HD2 := Lib.hid hd2
      clear hd2 hlt
      go_enter Try.func30, Try.ntmps30
      go_wp2_with fail
      go_quiet (fail)
      go_upto_region 6 with (fail)
      have E := got_in HH.out HD.out nq ((dn : Int) + 1) (by rw [HDN.out])
      clear k9 k10 kf klt kb
      generalize (w.drewN nq).setCell ⟨b, 521, none⟩ (.int .i64 ((dn : Int) + 1)) = w1 at *
      obtain ⟨H1, K1⟩ := E
      obtain ⟨-, -, -, -, -, -, -, -, -, k9, k10, -, -, -, kf, klt⟩ := H1.facts
      have e9 : (D.setDone (D.done + 1)).done = 512 := by show D.done + 1 = 512; rw [← HDN.out, HD2.out]
      have e10 : (D.setDone (D.done + 1)).mode = D.mode := rfl
      rw [e9] at k9
      rw [e10, HM1.out] at k10
      have k9' : w1.cell? ⟨b, 521, none⟩ = some (.int .i64 512) := k9
      have HH1 := Lib.hid H1
      have HK1 := Lib.hid K1
      clear e9 e10 k9 H1 K1
      have HNL := Lib.hid (show ¬ D.done + 1 < 512 by rw [← HDN.out, HD2.out]; decide)
      go_wp2_with fail
      first
        | (refine (next_in HH1.out).mono ?_
           rintro e w2 ⟨rfl, H2, K2⟩
           go_wp2_with fail
           go_ret
           have e : gotTo D = (D.setDone (D.done + 1)).next := by unfold gotTo; rw [if_neg HNL.out, if_neg (by rw [HM1.out]; decide)]
           rw [e]
           refine ⟨?_, H2, HK1.out.trans K2⟩
           rw [← HU.out]; rfl)
        | (go_ret
           have e : gotTo D = (D.setDone (D.done + 1)).setMode 0 := by unfold gotTo; rw [if_neg HNL.out, if_pos HM1.out]
           rw [e]
           have E := turned HH1.out (Blk.mode (Blk.of HH1.out) 0 0 rfl) ((Keeps.refl _ w1).setOne _ _) (Dk.idle_ok HH1.out.ok) rfl rfl rfl
           refine ⟨?_, E.1, HK1.out.trans E.2⟩
           rw [← HU.out]; rfl)
theorem Dk.getB_eq (S : Dk) (hm : S.mode = 1 ∨ S.mode = 3) : S.getB = gotTo S := by
  unfold Dk.getB gotTo
  rw [if_pos hm]
  rfl
theorem get_in (H : IdeIn 56 w b ds lv D) (hr : D.room) :
    Calls Try.prog 30 #[.pointer (some ⟨b, 0, none⟩)] w fun e w' => e = .returned (.int .u8 (D.gets : Nat)) ∧ IdeIn 56 w' b ds lv D.getB ∧ Keeps (· = b) w w' := by
  by_cases hm : D.mode = 1 ∨ D.mode = 3
  · have e : D.gets = D.buf D.done := by unfold Dk.gets; rw [if_pos hm]
    rw [e, Dk.getB_eq D hm]
    exact get_live H hm (hr (by omega))
  · have e : D.gets = 255 := by unfold Dk.gets; rw [if_neg hm]
    have e2 : D.getB = D := by unfold Dk.getB; rw [if_neg hm]
    rw [e, e2]
    refine (get_idle H (by omega) (by omega)).mono ?_
    rintro e w' ⟨rfl, rfl⟩
    exact ⟨rfl, H, Keeps.refl _ _⟩
theorem put_in (H : IdeIn 56 w b ds lv D) (hr : D.room) (v : Nat) (hv : v < 256) (hL : D.log.length < 17592186044416) :
    Calls Try.prog 28 #[.pointer (some ⟨b, 0, none⟩), .int .u8 v] w fun e w' => e = .returned (.tuple #[]) ∧ ∃ lv', IdeIn 56 w' b ds lv' (D.putB v) ∧ Keeps (Held b ds lv) w w' ∧ ∀ k, lv'.ownBlock = some k → lv.ownBlock = some k ∨ w.heap.size ≤ k := by
  by_cases hm : D.mode = 2
  · exact put_live H v hv hm (hr (by omega)) hL
  · have e : D.putB v = D := by unfold Dk.putB; rw [if_neg hm]
    rw [e]
    refine (put_idle H v hm).mono ?_
    rintro e w' ⟨rfl, rfl⟩
    exact ⟨rfl, lv, H, Keeps.refl _ _, fun k h => .inl h⟩
end
end Go.Proofs.Ytebhnfoehgpilaa
