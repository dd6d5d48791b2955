/- ide: the document's disk: command. -/
import Derived.Test.YtebhnfoehgpilaaIdeV
import Derived.Laws.Tables
import Derived.Laws.Rows
import Derived.Deep.MidRow
namespace Go.Proofs.Ytebhnfoehgpilaa
open Go.RowKit
set_option linter.unusedVariables false
set_option linter.unusedSimpArgs false

section
variable {w : World} {b : Nat} {ds lv : Value} {D : Dk}
theorem Dk.clean_r6 (S : Dk) : S.clean.r 6 = S.r 6 := rfl
/-- Behind the first four stores of a command. -/
theorem rclean_in (H : IdeIn 51 w b ds lv D) :
    IdeIn 51 ((((w.setCell ⟨b, 523, none⟩ (.bool false)).setCell ⟨b, 2, none⟩ (.int .u8 0)).setCell ⟨b, 524, none⟩ (.bool false)).setCell ⟨b, 522, none⟩ (.int .i64 0)) b ds lv D.clean ∧ Keeps (· = b) w ((((w.setCell ⟨b, 523, none⟩ (.bool false)).setCell ⟨b, 2, none⟩ (.int .u8 0)).setCell ⟨b, 524, none⟩ (.bool false)).setCell ⟨b, 522, none⟩ (.int .i64 0)) :=
  turned H (Blk.mode (Blk.failed (Blk.reg (Blk.mark (Blk.of H) false) 1 0 0 rfl (by decide)) false) 0 0 rfl) ((((Keeps.refl _ w).setOne _ _).setOne _ _).setOne _ _ |>.setOne _ _) (Dk.clean_ok H.ok) rfl rfl rfl
/-- A command's end. -/
def RCmd (w : World) (b : Nat) (ds lv : Value) (D : Dk) (e : Ending) (w' : World) : Prop := e = .returned (.tuple #[]) ∧ IdeIn 51 w' b ds lv D ∧ Keeps (· = b) w w'
set_option maxHeartbeats 1000000 in
theorem rcmd_other (H : IdeIn 51 w b ds lv D) (c : Nat) (ho : D.other = true) :
    Calls Try.prog 33 #[.pointer (some ⟨b, 0, none⟩), .int .u8 (c : Nat)] w (RCmd w b ds lv D) := by
  obtain ⟨-, -, -, -, -, -, -, k7, -, -, -, -, -, -, kf, klt⟩ := H.facts
  have h6 := H.ok.r 6
  have g : ((D.r 6 : Int) / 16 % 2 == 1) = true := by
    have : (D.r 6 / 16 % 2 == 1) = true := ho
    simp at this ⊢; omega
  have HH := Lib.hid H
  clear H ho
  go_enter Try.func33, Try.ntmps33
  go_wp2_with fail
  go_returns
  exact ⟨rfl, HH.out, Keeps.refl _ _⟩
set_option maxHeartbeats 4000000 in
theorem rcmd_32f (H : IdeIn 51 w b ds lv D) (hm : D.r 6 / 64 % 2 = 0) (ho : D.other = false) :
    Calls Try.prog 33 #[.pointer (some ⟨b, 0, none⟩), .int .u8 32] w (RCmd w b ds lv (D.clean.fail 4)) := by
  obtain ⟨-, -, k2, -, -, -, -, k7, -, -, k10, k11, k12, -, kf, klt⟩ := H.facts
  have h6 := H.ok.r 6
  have g : ((D.r 6 : Int) / 16 % 2 == 1) = false := by
    have : (D.r 6 / 16 % 2 == 1) = false := ho
    simp at this ⊢; omega
  have gm : ((D.r 6 : Int) / 64 % 2 == 1) = false := by
    simp; omega
  have HX := Lib.hid (rclean_in H)
  have HN := Lib.hid H.ok.n
  have HOK := Lib.hid (Dk.tell_ok H.ok)
  clear H ho
  go_enter Try.func33, Try.ntmps33
  go_upto_region 5 with (fail)
  have E := HX.out
  change Code.wp _ _ _ _ ((((w.setCell ⟨b, 523, none⟩ (.bool false)).setCell ⟨b, 2, none⟩ (.int .u8 0)).setCell ⟨b, 524, none⟩ (.bool false)).setCell ⟨b, 522, none⟩ (.int .i64 0))
  clear HX k2 k7 k10 k11 k12 kf klt
  have HE := Lib.hid E
  clear E
  generalize (((w.setCell ⟨b, 523, none⟩ (.bool false)).setCell ⟨b, 2, none⟩ (.int .u8 0)).setCell ⟨b, 524, none⟩ (.bool false)).setCell ⟨b, 522, none⟩ (.int .i64 0) = W at *
  obtain ⟨k0, -, -, -, -, -, -, k7, -, k9, k10, k11, -, -, kf, klt⟩ := HE.out.1.facts
  rw [Dk.clean_r6] at k7
  go_wp2_with fail
  refine (rfail_in HE.out.1 4 (by decide)).mono ?_
  rintro e w2 ⟨rfl, H2, K2⟩
  have HR := Lib.hid (And.intro H2 (HE.out.2.trans K2))
  clear H2 K2 k0 k7 k9 k10 k11 kf klt
  go_wp2_with fail
  go_returns
  exact ⟨rfl, HR.out.1, HR.out.2⟩
set_option maxHeartbeats 4000000 in
theorem rcmd_32b (H : IdeIn 51 w b ds lv D) (hm : ¬ D.r 6 / 64 % 2 = 0) (ho : D.other = false) :
    Calls Try.prog 33 #[.pointer (some ⟨b, 0, none⟩), .int .u8 32] w (RCmd w b ds lv (D.clean.begin 1)) := by
  obtain ⟨-, -, k2, -, -, -, -, k7, -, -, k10, k11, k12, -, kf, klt⟩ := H.facts
  have h6 := H.ok.r 6
  have g : ((D.r 6 : Int) / 16 % 2 == 1) = false := by
    have : (D.r 6 / 16 % 2 == 1) = false := ho
    simp at this ⊢; omega
  have gm : ((D.r 6 : Int) / 64 % 2 == 1) = true := by
    simp; omega
  have HX := Lib.hid (rclean_in H)
  have HN := Lib.hid H.ok.n
  have HOK := Lib.hid (Dk.tell_ok H.ok)
  clear H ho
  go_enter Try.func33, Try.ntmps33
  go_upto_region 5 with (fail)
  have E := HX.out
  change Code.wp _ _ _ _ ((((w.setCell ⟨b, 523, none⟩ (.bool false)).setCell ⟨b, 2, none⟩ (.int .u8 0)).setCell ⟨b, 524, none⟩ (.bool false)).setCell ⟨b, 522, none⟩ (.int .i64 0))
  clear HX k2 k7 k10 k11 k12 kf klt
  have HE := Lib.hid E
  clear E
  generalize (((w.setCell ⟨b, 523, none⟩ (.bool false)).setCell ⟨b, 2, none⟩ (.int .u8 0)).setCell ⟨b, 524, none⟩ (.bool false)).setCell ⟨b, 522, none⟩ (.int .i64 0) = W at *
  obtain ⟨k0, -, -, -, -, -, -, k7, -, k9, k10, k11, -, -, kf, klt⟩ := HE.out.1.facts
  rw [Dk.clean_r6] at k7
  go_wp2_with fail
  refine (rbegin_in HE.out.1 1 (by decide) _ rfl).mono ?_
  rintro e w2 ⟨rfl, H2, K2⟩
  have HR := Lib.hid (And.intro H2 (HE.out.2.trans K2))
  clear H2 K2 k0 k7 k9 k10 k11 kf klt
  go_wp2_with fail
  go_returns
  exact ⟨rfl, HR.out.1, HR.out.2⟩
set_option maxHeartbeats 4000000 in
theorem rcmd_33f (H : IdeIn 51 w b ds lv D) (hm : D.r 6 / 64 % 2 = 0) (ho : D.other = false) :
    Calls Try.prog 33 #[.pointer (some ⟨b, 0, none⟩), .int .u8 33] w (RCmd w b ds lv (D.clean.fail 4)) := by
  obtain ⟨-, -, k2, -, -, -, -, k7, -, -, k10, k11, k12, -, kf, klt⟩ := H.facts
  have h6 := H.ok.r 6
  have g : ((D.r 6 : Int) / 16 % 2 == 1) = false := by
    have : (D.r 6 / 16 % 2 == 1) = false := ho
    simp at this ⊢; omega
  have gm : ((D.r 6 : Int) / 64 % 2 == 1) = false := by
    simp; omega
  have HX := Lib.hid (rclean_in H)
  have HN := Lib.hid H.ok.n
  have HOK := Lib.hid (Dk.tell_ok H.ok)
  clear H ho
  go_enter Try.func33, Try.ntmps33
  go_upto_region 5 with (fail)
  have E := HX.out
  change Code.wp _ _ _ _ ((((w.setCell ⟨b, 523, none⟩ (.bool false)).setCell ⟨b, 2, none⟩ (.int .u8 0)).setCell ⟨b, 524, none⟩ (.bool false)).setCell ⟨b, 522, none⟩ (.int .i64 0))
  clear HX k2 k7 k10 k11 k12 kf klt
  have HE := Lib.hid E
  clear E
  generalize (((w.setCell ⟨b, 523, none⟩ (.bool false)).setCell ⟨b, 2, none⟩ (.int .u8 0)).setCell ⟨b, 524, none⟩ (.bool false)).setCell ⟨b, 522, none⟩ (.int .i64 0) = W at *
  obtain ⟨k0, -, -, -, -, -, -, k7, -, k9, k10, k11, -, -, kf, klt⟩ := HE.out.1.facts
  rw [Dk.clean_r6] at k7
  go_wp2_with fail
  refine (rfail_in HE.out.1 4 (by decide)).mono ?_
  rintro e w2 ⟨rfl, H2, K2⟩
  have HR := Lib.hid (And.intro H2 (HE.out.2.trans K2))
  clear H2 K2 k0 k7 k9 k10 k11 kf klt
  go_wp2_with fail
  go_returns
  exact ⟨rfl, HR.out.1, HR.out.2⟩
set_option maxHeartbeats 4000000 in
theorem rcmd_33b (H : IdeIn 51 w b ds lv D) (hm : ¬ D.r 6 / 64 % 2 = 0) (ho : D.other = false) :
    Calls Try.prog 33 #[.pointer (some ⟨b, 0, none⟩), .int .u8 33] w (RCmd w b ds lv (D.clean.begin 1)) := by
  obtain ⟨-, -, k2, -, -, -, -, k7, -, -, k10, k11, k12, -, kf, klt⟩ := H.facts
  have h6 := H.ok.r 6
  have g : ((D.r 6 : Int) / 16 % 2 == 1) = false := by
    have : (D.r 6 / 16 % 2 == 1) = false := ho
    simp at this ⊢; omega
  have gm : ((D.r 6 : Int) / 64 % 2 == 1) = true := by
    simp; omega
  have HX := Lib.hid (rclean_in H)
  have HN := Lib.hid H.ok.n
  have HOK := Lib.hid (Dk.tell_ok H.ok)
  clear H ho
  go_enter Try.func33, Try.ntmps33
  go_upto_region 5 with (fail)
  have E := HX.out
  change Code.wp _ _ _ _ ((((w.setCell ⟨b, 523, none⟩ (.bool false)).setCell ⟨b, 2, none⟩ (.int .u8 0)).setCell ⟨b, 524, none⟩ (.bool false)).setCell ⟨b, 522, none⟩ (.int .i64 0))
  clear HX k2 k7 k10 k11 k12 kf klt
  have HE := Lib.hid E
  clear E
  generalize (((w.setCell ⟨b, 523, none⟩ (.bool false)).setCell ⟨b, 2, none⟩ (.int .u8 0)).setCell ⟨b, 524, none⟩ (.bool false)).setCell ⟨b, 522, none⟩ (.int .i64 0) = W at *
  obtain ⟨k0, -, -, -, -, -, -, k7, -, k9, k10, k11, -, -, kf, klt⟩ := HE.out.1.facts
  rw [Dk.clean_r6] at k7
  go_wp2_with fail
  refine (rbegin_in HE.out.1 1 (by decide) _ rfl).mono ?_
  rintro e w2 ⟨rfl, H2, K2⟩
  have HR := Lib.hid (And.intro H2 (HE.out.2.trans K2))
  clear H2 K2 k0 k7 k9 k10 k11 kf klt
  go_wp2_with fail
  go_returns
  exact ⟨rfl, HR.out.1, HR.out.2⟩
set_option maxHeartbeats 4000000 in
theorem rcmd_48f (H : IdeIn 51 w b ds lv D) (hm : D.r 6 / 64 % 2 = 0) (ho : D.other = false) :
    Calls Try.prog 33 #[.pointer (some ⟨b, 0, none⟩), .int .u8 48] w (RCmd w b ds lv (D.clean.fail 4)) := by
  obtain ⟨-, -, k2, -, -, -, -, k7, -, -, k10, k11, k12, -, kf, klt⟩ := H.facts
  have h6 := H.ok.r 6
  have g : ((D.r 6 : Int) / 16 % 2 == 1) = false := by
    have : (D.r 6 / 16 % 2 == 1) = false := ho
    simp at this ⊢; omega
  have gm : ((D.r 6 : Int) / 64 % 2 == 1) = false := by
    simp; omega
  have HX := Lib.hid (rclean_in H)
  have HN := Lib.hid H.ok.n
  have HOK := Lib.hid (Dk.tell_ok H.ok)
  clear H ho
  go_enter Try.func33, Try.ntmps33
  go_upto_region 5 with (fail)
  have E := HX.out
  change Code.wp _ _ _ _ ((((w.setCell ⟨b, 523, none⟩ (.bool false)).setCell ⟨b, 2, none⟩ (.int .u8 0)).setCell ⟨b, 524, none⟩ (.bool false)).setCell ⟨b, 522, none⟩ (.int .i64 0))
  clear HX k2 k7 k10 k11 k12 kf klt
  have HE := Lib.hid E
  clear E
  generalize (((w.setCell ⟨b, 523, none⟩ (.bool false)).setCell ⟨b, 2, none⟩ (.int .u8 0)).setCell ⟨b, 524, none⟩ (.bool false)).setCell ⟨b, 522, none⟩ (.int .i64 0) = W at *
  obtain ⟨k0, -, -, -, -, -, -, k7, -, k9, k10, k11, -, -, kf, klt⟩ := HE.out.1.facts
  rw [Dk.clean_r6] at k7
  go_wp2_with fail
  refine (rfail_in HE.out.1 4 (by decide)).mono ?_
  rintro e w2 ⟨rfl, H2, K2⟩
  have HR := Lib.hid (And.intro H2 (HE.out.2.trans K2))
  clear H2 K2 k0 k7 k9 k10 k11 kf klt
  go_wp2_with fail
  go_returns
  exact ⟨rfl, HR.out.1, HR.out.2⟩
set_option maxHeartbeats 4000000 in
theorem rcmd_48b (H : IdeIn 51 w b ds lv D) (hm : ¬ D.r 6 / 64 % 2 = 0) (ho : D.other = false) :
    Calls Try.prog 33 #[.pointer (some ⟨b, 0, none⟩), .int .u8 48] w (RCmd w b ds lv (D.clean.begin 2)) := by
  obtain ⟨-, -, k2, -, -, -, -, k7, -, -, k10, k11, k12, -, kf, klt⟩ := H.facts
  have h6 := H.ok.r 6
  have g : ((D.r 6 : Int) / 16 % 2 == 1) = false := by
    have : (D.r 6 / 16 % 2 == 1) = false := ho
    simp at this ⊢; omega
  have gm : ((D.r 6 : Int) / 64 % 2 == 1) = true := by
    simp; omega
  have HX := Lib.hid (rclean_in H)
  have HN := Lib.hid H.ok.n
  have HOK := Lib.hid (Dk.tell_ok H.ok)
  clear H ho
  go_enter Try.func33, Try.ntmps33
  go_upto_region 5 with (fail)
  have E := HX.out
  change Code.wp _ _ _ _ ((((w.setCell ⟨b, 523, none⟩ (.bool false)).setCell ⟨b, 2, none⟩ (.int .u8 0)).setCell ⟨b, 524, none⟩ (.bool false)).setCell ⟨b, 522, none⟩ (.int .i64 0))
  clear HX k2 k7 k10 k11 k12 kf klt
  have HE := Lib.hid E
  clear E
  generalize (((w.setCell ⟨b, 523, none⟩ (.bool false)).setCell ⟨b, 2, none⟩ (.int .u8 0)).setCell ⟨b, 524, none⟩ (.bool false)).setCell ⟨b, 522, none⟩ (.int .i64 0) = W at *
  obtain ⟨k0, -, -, -, -, -, -, k7, -, k9, k10, k11, -, -, kf, klt⟩ := HE.out.1.facts
  rw [Dk.clean_r6] at k7
  go_wp2_with fail
  refine (rbegin_in HE.out.1 2 (by decide) _ rfl).mono ?_
  rintro e w2 ⟨rfl, H2, K2⟩
  have HR := Lib.hid (And.intro H2 (HE.out.2.trans K2))
  clear H2 K2 k0 k7 k9 k10 k11 kf klt
  go_wp2_with fail
  go_returns
  exact ⟨rfl, HR.out.1, HR.out.2⟩
set_option maxHeartbeats 4000000 in
theorem rcmd_49f (H : IdeIn 51 w b ds lv D) (hm : D.r 6 / 64 % 2 = 0) (ho : D.other = false) :
    Calls Try.prog 33 #[.pointer (some ⟨b, 0, none⟩), .int .u8 49] w (RCmd w b ds lv (D.clean.fail 4)) := by
  obtain ⟨-, -, k2, -, -, -, -, k7, -, -, k10, k11, k12, -, kf, klt⟩ := H.facts
  have h6 := H.ok.r 6
  have g : ((D.r 6 : Int) / 16 % 2 == 1) = false := by
    have : (D.r 6 / 16 % 2 == 1) = false := ho
    simp at this ⊢; omega
  have gm : ((D.r 6 : Int) / 64 % 2 == 1) = false := by
    simp; omega
  have HX := Lib.hid (rclean_in H)
  have HN := Lib.hid H.ok.n
  have HOK := Lib.hid (Dk.tell_ok H.ok)
  clear H ho
  go_enter Try.func33, Try.ntmps33
  go_upto_region 5 with (fail)
  have E := HX.out
  change Code.wp _ _ _ _ ((((w.setCell ⟨b, 523, none⟩ (.bool false)).setCell ⟨b, 2, none⟩ (.int .u8 0)).setCell ⟨b, 524, none⟩ (.bool false)).setCell ⟨b, 522, none⟩ (.int .i64 0))
  clear HX k2 k7 k10 k11 k12 kf klt
  have HE := Lib.hid E
  clear E
  generalize (((w.setCell ⟨b, 523, none⟩ (.bool false)).setCell ⟨b, 2, none⟩ (.int .u8 0)).setCell ⟨b, 524, none⟩ (.bool false)).setCell ⟨b, 522, none⟩ (.int .i64 0) = W at *
  obtain ⟨k0, -, -, -, -, -, -, k7, -, k9, k10, k11, -, -, kf, klt⟩ := HE.out.1.facts
  rw [Dk.clean_r6] at k7
  go_wp2_with fail
  refine (rfail_in HE.out.1 4 (by decide)).mono ?_
  rintro e w2 ⟨rfl, H2, K2⟩
  have HR := Lib.hid (And.intro H2 (HE.out.2.trans K2))
  clear H2 K2 k0 k7 k9 k10 k11 kf klt
  go_wp2_with fail
  go_returns
  exact ⟨rfl, HR.out.1, HR.out.2⟩
set_option maxHeartbeats 4000000 in
theorem rcmd_49b (H : IdeIn 51 w b ds lv D) (hm : ¬ D.r 6 / 64 % 2 = 0) (ho : D.other = false) :
    Calls Try.prog 33 #[.pointer (some ⟨b, 0, none⟩), .int .u8 49] w (RCmd w b ds lv (D.clean.begin 2)) := by
  obtain ⟨-, -, k2, -, -, -, -, k7, -, -, k10, k11, k12, -, kf, klt⟩ := H.facts
  have h6 := H.ok.r 6
  have g : ((D.r 6 : Int) / 16 % 2 == 1) = false := by
    have : (D.r 6 / 16 % 2 == 1) = false := ho
    simp at this ⊢; omega
  have gm : ((D.r 6 : Int) / 64 % 2 == 1) = true := by
    simp; omega
  have HX := Lib.hid (rclean_in H)
  have HN := Lib.hid H.ok.n
  have HOK := Lib.hid (Dk.tell_ok H.ok)
  clear H ho
  go_enter Try.func33, Try.ntmps33
  go_upto_region 5 with (fail)
  have E := HX.out
  change Code.wp _ _ _ _ ((((w.setCell ⟨b, 523, none⟩ (.bool false)).setCell ⟨b, 2, none⟩ (.int .u8 0)).setCell ⟨b, 524, none⟩ (.bool false)).setCell ⟨b, 522, none⟩ (.int .i64 0))
  clear HX k2 k7 k10 k11 k12 kf klt
  have HE := Lib.hid E
  clear E
  generalize (((w.setCell ⟨b, 523, none⟩ (.bool false)).setCell ⟨b, 2, none⟩ (.int .u8 0)).setCell ⟨b, 524, none⟩ (.bool false)).setCell ⟨b, 522, none⟩ (.int .i64 0) = W at *
  obtain ⟨k0, -, -, -, -, -, -, k7, -, k9, k10, k11, -, -, kf, klt⟩ := HE.out.1.facts
  rw [Dk.clean_r6] at k7
  go_wp2_with fail
  refine (rbegin_in HE.out.1 2 (by decide) _ rfl).mono ?_
  rintro e w2 ⟨rfl, H2, K2⟩
  have HR := Lib.hid (And.intro H2 (HE.out.2.trans K2))
  clear H2 K2 k0 k7 k9 k10 k11 kf klt
  go_wp2_with fail
  go_returns
  exact ⟨rfl, HR.out.1, HR.out.2⟩
set_option maxHeartbeats 4000000 in
theorem rcmd_231 (H : IdeIn 51 w b ds lv D) (ho : D.other = false) :
    Calls Try.prog 33 #[.pointer (some ⟨b, 0, none⟩), .int .u8 231] w (RCmd w b ds lv { D.clean with mark := true }) := by
  obtain ⟨-, -, k2, -, -, -, -, k7, -, -, k10, k11, k12, -, kf, klt⟩ := H.facts
  have h6 := H.ok.r 6
  have g : ((D.r 6 : Int) / 16 % 2 == 1) = false := by
    have : (D.r 6 / 16 % 2 == 1) = false := ho
    simp at this ⊢; omega
  have HX := Lib.hid (rclean_in H)
  have HN := Lib.hid H.ok.n
  have HOK := Lib.hid (Dk.tell_ok H.ok)
  clear H ho
  go_enter Try.func33, Try.ntmps33
  go_upto_region 5 with (fail)
  have E := HX.out
  change Code.wp _ _ _ _ ((((w.setCell ⟨b, 523, none⟩ (.bool false)).setCell ⟨b, 2, none⟩ (.int .u8 0)).setCell ⟨b, 524, none⟩ (.bool false)).setCell ⟨b, 522, none⟩ (.int .i64 0))
  clear HX k2 k7 k10 k11 k12 kf klt
  have HE := Lib.hid E
  clear E
  generalize (((w.setCell ⟨b, 523, none⟩ (.bool false)).setCell ⟨b, 2, none⟩ (.int .u8 0)).setCell ⟨b, 524, none⟩ (.bool false)).setCell ⟨b, 522, none⟩ (.int .i64 0) = W at *
  obtain ⟨k0, -, -, -, -, -, -, k7, -, k9, k10, k11, -, -, kf, klt⟩ := HE.out.1.facts
  rw [Dk.clean_r6] at k7
  have HB := Lib.hid (turned HE.out.1 (Blk.mark (Blk.of HE.out.1) true) ((Keeps.refl _ W).setOne 523 (.bool true)) (Dk.marked_ok HE.out.1.ok) rfl rfl rfl)
  go_wp2_with fail
  go_returns
  exact ⟨rfl, HB.out.1, HE.out.2.trans HB.out.2⟩
set_option maxHeartbeats 4000000 in
theorem rcmd_145 (H : IdeIn 51 w b ds lv D) (ho : D.other = false) :
    Calls Try.prog 33 #[.pointer (some ⟨b, 0, none⟩), .int .u8 145] w (RCmd w b ds lv { D.clean with mark := true }) := by
  obtain ⟨-, -, k2, -, -, -, -, k7, -, -, k10, k11, k12, -, kf, klt⟩ := H.facts
  have h6 := H.ok.r 6
  have g : ((D.r 6 : Int) / 16 % 2 == 1) = false := by
    have : (D.r 6 / 16 % 2 == 1) = false := ho
    simp at this ⊢; omega
  have HX := Lib.hid (rclean_in H)
  have HN := Lib.hid H.ok.n
  have HOK := Lib.hid (Dk.tell_ok H.ok)
  clear H ho
  go_enter Try.func33, Try.ntmps33
  go_upto_region 5 with (fail)
  have E := HX.out
  change Code.wp _ _ _ _ ((((w.setCell ⟨b, 523, none⟩ (.bool false)).setCell ⟨b, 2, none⟩ (.int .u8 0)).setCell ⟨b, 524, none⟩ (.bool false)).setCell ⟨b, 522, none⟩ (.int .i64 0))
  clear HX k2 k7 k10 k11 k12 kf klt
  have HE := Lib.hid E
  clear E
  generalize (((w.setCell ⟨b, 523, none⟩ (.bool false)).setCell ⟨b, 2, none⟩ (.int .u8 0)).setCell ⟨b, 524, none⟩ (.bool false)).setCell ⟨b, 522, none⟩ (.int .i64 0) = W at *
  obtain ⟨k0, -, -, -, -, -, -, k7, -, k9, k10, k11, -, -, kf, klt⟩ := HE.out.1.facts
  rw [Dk.clean_r6] at k7
  have HB := Lib.hid (turned HE.out.1 (Blk.mark (Blk.of HE.out.1) true) ((Keeps.refl _ W).setOne 523 (.bool true)) (Dk.marked_ok HE.out.1.ok) rfl rfl rfl)
  go_wp2_with fail
  go_returns
  exact ⟨rfl, HB.out.1, HE.out.2.trans HB.out.2⟩
set_option maxHeartbeats 4000000 in
theorem rcmd_no (H : IdeIn 51 w b ds lv D) (c : Nat) (hc : c < 256) (h : c ≠ 32 ∧ c ≠ 33 ∧ c ≠ 48 ∧ c ≠ 49 ∧ c ≠ 236 ∧ c ≠ 231 ∧ c ≠ 145) (ho : D.other = false) :
    Calls Try.prog 33 #[.pointer (some ⟨b, 0, none⟩), .int .u8 (c : Nat)] w (RCmd w b ds lv (D.clean.fail 4)) := by
  obtain ⟨-, -, k2, -, -, -, -, k7, -, -, k10, k11, k12, -, kf, klt⟩ := H.facts
  have h6 := H.ok.r 6
  have g : ((D.r 6 : Int) / 16 % 2 == 1) = false := by
    have : (D.r 6 / 16 % 2 == 1) = false := ho
    simp at this ⊢; omega
  have g32 : ((c : Int) == 32) = false := by simp; omega
  have g33 : ((c : Int) == 33) = false := by simp; omega
  have g48 : ((c : Int) == 48) = false := by simp; omega
  have g49 : ((c : Int) == 49) = false := by simp; omega
  have g236 : ((c : Int) == 236) = false := by simp; omega
  have g231 : ((c : Int) == 231) = false := by simp; omega
  have g145 : ((c : Int) == 145) = false := by simp; omega
  clear h
  have HX := Lib.hid (rclean_in H)
  have HN := Lib.hid H.ok.n
  have HOK := Lib.hid (Dk.tell_ok H.ok)
  clear H ho
  go_enter Try.func33, Try.ntmps33
  go_upto_region 5 with (fail)
  have E := HX.out
  change Code.wp _ _ _ _ ((((w.setCell ⟨b, 523, none⟩ (.bool false)).setCell ⟨b, 2, none⟩ (.int .u8 0)).setCell ⟨b, 524, none⟩ (.bool false)).setCell ⟨b, 522, none⟩ (.int .i64 0))
  clear HX k2 k7 k10 k11 k12 kf klt
  have HE := Lib.hid E
  clear E
  generalize (((w.setCell ⟨b, 523, none⟩ (.bool false)).setCell ⟨b, 2, none⟩ (.int .u8 0)).setCell ⟨b, 524, none⟩ (.bool false)).setCell ⟨b, 522, none⟩ (.int .i64 0) = W at *
  obtain ⟨k0, -, -, -, -, -, -, k7, -, k9, k10, k11, -, -, kf, klt⟩ := HE.out.1.facts
  rw [Dk.clean_r6] at k7
  go_wp2_with fail
  refine (rfail_in HE.out.1 4 (by decide)).mono ?_
  rintro e w2 ⟨rfl, H2, K2⟩
  have HR := Lib.hid (And.intro H2 (HE.out.2.trans K2))
  clear H2 K2 k0 k7 k9 k10 k11 kf klt
  go_wp2_with fail
  go_returns
  exact ⟨rfl, HR.out.1, HR.out.2⟩
set_option maxRecDepth 100000 in
theorem zero512 (w : World) : (zeroValue 49).run Try.prog w = .ok (.agg (bytesL 512 (fun _ => 0)).toArray) w := by kernel_rfl
theorem bytes_one (n : Nat) (f : Nat → Nat) : (bytesL n f).toArray.all (·.oneCell') = true := all_oneCell_toArray (bytesL_one n f)
set_option maxRecDepth 100000 in
theorem told_cells (n : Nat) : (((bytesL 512 (fun _ => 0)).toArray.setIfInBounds 0 (.int .u8 64)).setIfInBounds 99 (.int .u8 2)).setIfInBounds 120 (.int .u8 (n : Nat)) = (bytesL 512 (tellBuf n)).toArray := by kernel_rfl
set_option maxRecDepth 20000 in
set_option maxHeartbeats 4000000 in
theorem rcmd_tell (H : IdeIn 51 w b ds lv D) (ho : D.other = false) :
    Calls Try.prog 33 #[.pointer (some ⟨b, 0, none⟩), .int .u8 236] w (RCmd w b ds lv { D.clean with buf := tellBuf D.n, mode := 3, done := 0, mark := true }) := by
  obtain ⟨-, -, k2, -, -, -, -, k7, -, -, k10, k11, k12, -, kf, klt⟩ := H.facts
  have h6 := H.ok.r 6
  have g : ((D.r 6 : Int) / 16 % 2 == 1) = false := by
    have : (D.r 6 / 16 % 2 == 1) = false := ho
    simp at this ⊢; omega
  have hz := fun w => zero512 w
  have HX := Lib.hid (rclean_in H)
  have HN := Lib.hid H.ok.n
  have HOK := Lib.hid (Dk.tell_ok H.ok)
  clear H ho
  go_enter Try.func33, Try.ntmps33
  go_upto_region 5 with (fail)
  have E := HX.out
  change Code.wp _ _ _ _ ((((w.setCell ⟨b, 523, none⟩ (.bool false)).setCell ⟨b, 2, none⟩ (.int .u8 0)).setCell ⟨b, 524, none⟩ (.bool false)).setCell ⟨b, 522, none⟩ (.int .i64 0))
  clear HX k2 k7 k10 k11 k12 kf klt
  have HE := Lib.hid E
  clear E
  generalize (((w.setCell ⟨b, 523, none⟩ (.bool false)).setCell ⟨b, 2, none⟩ (.int .u8 0)).setCell ⟨b, 524, none⟩ (.bool false)).setCell ⟨b, 522, none⟩ (.int .i64 0) = W at *
  obtain ⟨k0, -, -, -, -, -, -, k7, -, k9, k10, k11, -, -, kf, klt⟩ := HE.out.1.facts
  rw [Dk.clean_r6] at k7
  obtain ⟨da, dc, hds⟩ := HE.out.1.disk.len
  have hds' : ds = .slice da (D.n * 512) dc := hds
  rw [hds'] at k0
  have HDS := Lib.hid hds
  clear hds hds'
  have hn64 := HN.out
  have q1 : (D.n : Int) * 512 / 512 = (D.n : Int) := by omega
  go_upto_region 20 with (fail)
  have hq := heap_new W (.cells (bytesL 512 (fun _ => 0)).toArray 49)
  have HE1 := Lib.hid (HE.out.1.of_heap (w' := W.alloc (.cells (bytesL 512 (fun _ => 0)).toArray 49)) (fun k hk => Below.heap_alloc _ _ _ (hk.lt HE.out.1)))
  have HK1 := Lib.hid (HE.out.2.alloc (.cells (bytesL 512 (fun _ => 0)).toArray 49))
  change Code.wp _ _ _ _ (W.alloc (.cells (bytesL 512 (fun _ => 0)).toArray 49))
  have hqb : b < W.heap.size := HE.out.1.facts.2.2.2.2.2.2.2.2.2.2.2.2.2.2.2
  have hK : Keeps (· = W.heap.size) (W.alloc (.cells (bytesL 512 (fun _ => 0)).toArray 49)) ((((W.alloc (.cells (bytesL 512 (fun _ => 0)).toArray 49)).setCell ⟨W.heap.size, 0, none⟩ (.int .u8 64)).setCell ⟨W.heap.size, 99, none⟩ (.int .u8 2)).setCell ⟨W.heap.size, 120, none⟩ (.int .u8 (D.n : Nat))) := (((Keeps.refl _ _).setOne _ _).setOne _ _).setOne _ _
  have hlow : ∀ k, Held b ds lv k → k < W.heap.size := fun k hk => hk.lt HE.out.1
  have hwb : w.heap.size ≤ W.heap.size := HE.out.2.size
  clear HE k0 k7 k9 k10 k11 kf klt hz
  generalize W.heap.size = q at *
  generalize W.alloc (.cells (bytesL 512 (fun _ => 0)).toArray 49) = W1 at *
  have z0 : W1.cell? ⟨q, 0, none⟩ = some (.int .u8 0) := by rw [cell_at hq, List.getElem?_toArray, bytesL_at 512 _ 0 (by decide)]; rfl
  have z99 : W1.cell? ⟨q, 99, none⟩ = some (.int .u8 0) := by rw [cell_at hq, List.getElem?_toArray, bytesL_at 512 _ 99 (by decide)]; rfl
  have z120 : W1.cell? ⟨q, 120, none⟩ = some (.int .u8 0) := by rw [cell_at hq, List.getElem?_toArray, bytesL_at 512 _ 120 (by decide)]; rfl
  have zf : ∀ k, W1.frozen? ⟨q, k, none⟩ = false := fun k => free_at hq
  have zl := heap_lt hq
  have HT : (((W1.setCell ⟨q, 0, none⟩ (.int .u8 64)).setCell ⟨q, 99, none⟩ (.int .u8 2)).setCell ⟨q, 120, none⟩ (.int .u8 (D.n : Nat))).heap[q]? = some (.cells (bytesL 512 (tellBuf D.n)).toArray 49) := by
    rw [heap_set_same _ (heap_set_same _ (heap_set_same _ hq)), told_cells]
  have HT1 := Lib.hid HT
  have HW := Lib.hid (And.intro hK hlow)
  clear HT hK hlow hq
  go_upto_region 23 with (fail)
  change Code.wp _ _ _ _ (((W1.setCell ⟨q, 0, none⟩ (.int .u8 64)).setCell ⟨q, 99, none⟩ (.int .u8 2)).setCell ⟨q, 120, none⟩ (.int .u8 (D.n : Nat)))
  have HE2 := Lib.hid (HE1.out.keeps HW.out.1 (fun k hk e => by have := HW.out.2 k hk; omega))
  have HK2 := Lib.hid (HK1.out.andThen (HW.out.1.mono (S' := fun k => q ≤ k) (fun k _ e => by omega)) (fun i hi h => by omega))
  clear z0 z99 z120 zf zl HE1 HK1 HW
  generalize ((W1.setCell ⟨q, 0, none⟩ (.int .u8 64)).setCell ⟨q, 99, none⟩ (.int .u8 2)).setCell ⟨q, 120, none⟩ (.int .u8 (D.n : Nat)) = W2 at *
  have ht : W2.there b 9 512 := fun j hj => ⟨by rw [HE2.out.cell _ (by omega), Option.isSome_some], free_at HE2.out.obj⟩
  have HTH := Lib.hid ht
  clear ht
  go_upto_region 24 with (first | (refine wpList_load_row rfl _ _ rfl q rfl _ _ _ _ HT1.out Try.underlying49 rfl size512 ?_) | (refine wpList_store_mid rfl _ _ _ rfl b 9 (bytesL 512 (tellBuf D.n)).toArray rfl rfl HTH.out size512 (bytes_one _ _) ?_))
  change Code.wp _ _ _ _ (W2.setCells b 9 (bytesL 512 (tellBuf D.n)))
  have B3 : Blk 51 (W2.setCells b 9 (bytesL 512 (tellBuf D.n))) b ds lv { D.clean with buf := tellBuf D.n } := by
    unfold Blk
    rw [heap_setCells b _ 9 W2 _ _ (Blk.of HE2.out) (by rw [bytesL_len, Dk.size]; decide), bytesL_len, Dk.over]
  have K3 := keeps_setCells b (bytesL 512 (tellBuf D.n)) 9 W2 W2 (Keeps.refl _ _)
  have HB3 := Lib.hid (And.intro B3 K3)
  clear B3 K3
  generalize W2.setCells b 9 (bytesL 512 (tellBuf D.n)) = W3 at *
  obtain ⟨-, -, -, -, -, -, -, -, -, j9, j10, j11, -, -, jf, jlt⟩ := HB3.out.1.facts
  go_wp2_with fail
  go_returns
  have E := turned HE2.out (Blk.mark (Blk.done (Blk.mode HB3.out.1 3 3 rfl) 0 0 rfl) true) (((HB3.out.2.setOne _ _).setOne _ _).setOne _ _) HOK.out rfl rfl rfl
  exact ⟨rfl, E.1, HK2.out.trans E.2⟩
theorem rcommand_in (H : IdeIn 51 w b ds lv D) (c : Nat) (hc : c < 256) :
    Calls Try.prog 33 #[.pointer (some ⟨b, 0, none⟩), .int .u8 (c : Nat)] w (RCmd w b ds lv (D.command c)) := by
  unfold Dk.command
  cases ho : D.other
  · rw [if_neg (by decide)]
    by_cases h1 : c = 32 ∨ c = 33
    · rw [if_pos h1]
      by_cases hm : D.r 6 / 64 % 2 = 0
      · rw [if_pos hm]; rcases h1 with rfl | rfl
        · exact rcmd_32f H hm ho
        · exact rcmd_33f H hm ho
      · rw [if_neg hm]; rcases h1 with rfl | rfl
        · exact rcmd_32b H hm ho
        · exact rcmd_33b H hm ho
    · rw [if_neg h1]
      by_cases h2 : c = 48 ∨ c = 49
      · rw [if_pos h2]
        by_cases hm : D.r 6 / 64 % 2 = 0
        · rw [if_pos hm]; rcases h2 with rfl | rfl
          · exact rcmd_48f H hm ho
          · exact rcmd_49f H hm ho
        · rw [if_neg hm]; rcases h2 with rfl | rfl
          · exact rcmd_48b H hm ho
          · exact rcmd_49b H hm ho
      · rw [if_neg h2]
        by_cases h3 : c = 236
        · rw [if_pos h3, h3]; exact rcmd_tell H ho
        · rw [if_neg h3]
          by_cases h4 : c = 231 ∨ c = 145
          · rw [if_pos h4]; rcases h4 with rfl | rfl
            · exact rcmd_231 H ho
            · exact rcmd_145 H ho
          · rw [if_neg h4]; exact rcmd_no H c hc ⟨by omega, by omega, by omega, by omega, by omega, by omega, by omega⟩ ho
  · rw [if_pos rfl]; exact rcmd_other H c ho
end
end Go.Proofs.Ytebhnfoehgpilaa
