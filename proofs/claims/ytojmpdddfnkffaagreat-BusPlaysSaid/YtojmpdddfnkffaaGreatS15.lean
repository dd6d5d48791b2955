/- Steps of a proof: BusZ, BusZb, together. -/
import Derived.Test.YtojmpdddfnkffaaGreatS14
/- bus: the document's bus: a byte to a port, a byte of one. -/
set_option maxHeartbeats 4000000
set_option maxRecDepth 20000
namespace Go.Proofs.YtojmpdddfnkffaaGreat
open Go.RowKit Go.MapKept
set_option linter.unusedVariables false

theorem gate_not (v : Nat) (h : v < 256) : (!gateBit v) = ((v : Int) / 2 % 2 == 0) := by
 have q : ∀ v : Fin 256, (!gateBit v.val) = (((v.val : Nat) : Int) / 2 % 2 == 0) := by decide +kernel
 exact q ⟨v, h⟩
theorem dev_no {p : Nat} (hd : dev p = none) : chipV p = -1 ∧ diskV p = -1 ∧ p ≠ 146 := by
 unfold dev at hd
 (repeat' split at hd)
 all_goals (first | cases hd | skip)
 refine ⟨?_, ?_, by omega⟩
 ·unfold chipV; rw [if_neg (by omega), if_neg (by omega), if_neg (by omega), if_neg (by omega)]
 ·unfold diskV; rw [if_neg (by omega), if_neg (by omega)]
section
variable {b pp pt pu pi pm : Nat} {B : Bs} {w0 w : World} {A0 : Nat → Prop}
theorem rout_32 (h : B.ok) (hf : B.fits 2000000) (T : Hp w0 A0 w (rbusObs b pm pp pt pu pi B)) (v : Nat) (hv : v < 256)  :
    Calls Tryz.prog 84 #[.pointer (some ⟨b, 0, none⟩), .int .u16 32, .int .u8 (v : Nat)] w fun e w' => e = .returned (.tuple #[]) ∧ Hp w0 A0 w' (rbusObs b pm pp pt pu pi (B.out1 0 0 v)) := by
 have HCH := Lib.hid (show chipV 32 = 0 by decide)
 have HDI := Lib.hid (show diskV 32 = -1 by decide)
 have HF := Lib.hid hf
 clear hf h
 obtain ⟨k0, k1, k2, k3, k4, k5, kf, kl⟩ := rbus_facts T.rbus
 go_enter Tryz.func84, Tryz.ntmps84
 go_wp2_with fail
 refine (chip_any 32 (by decide) w).mono ?_
 rintro e x1 ⟨rfl, rfl⟩
 rw [HCH.out]
 go_wp2_with fail
 refine (disk_any 32 (by decide) w).mono ?_
 rintro e x2 ⟨rfl, rfl⟩
 rw [HDI.out]
 go_wp2_with fail
 refine (T.act 1 rfl (rpic_out 0 v hv)).mono ?_
 rintro e w1 ⟨rfl, T1⟩
 clear k0 k1 k2 k3 k4 k5 kf kl
 go_wp2_with fail
 go_returns
 exact ⟨rfl, T1⟩
theorem rout_33 (h : B.ok) (hf : B.fits 2000000) (T : Hp w0 A0 w (rbusObs b pm pp pt pu pi B)) (v : Nat) (hv : v < 256)  :
    Calls Tryz.prog 84 #[.pointer (some ⟨b, 0, none⟩), .int .u16 33, .int .u8 (v : Nat)] w fun e w' => e = .returned (.tuple #[]) ∧ Hp w0 A0 w' (rbusObs b pm pp pt pu pi (B.out1 0 1 v)) := by
 have HCH := Lib.hid (show chipV 33 = 1 by decide)
 have HDI := Lib.hid (show diskV 33 = -1 by decide)
 have HF := Lib.hid hf
 clear hf h
 obtain ⟨k0, k1, k2, k3, k4, k5, kf, kl⟩ := rbus_facts T.rbus
 go_enter Tryz.func84, Tryz.ntmps84
 go_wp2_with fail
 refine (chip_any 33 (by decide) w).mono ?_
 rintro e x1 ⟨rfl, rfl⟩
 rw [HCH.out]
 go_wp2_with fail
 refine (disk_any 33 (by decide) w).mono ?_
 rintro e x2 ⟨rfl, rfl⟩
 rw [HDI.out]
 go_wp2_with fail
 refine (T.act 1 rfl (rpic_out 1 v hv)).mono ?_
 rintro e w1 ⟨rfl, T1⟩
 clear k0 k1 k2 k3 k4 k5 kf kl
 go_wp2_with fail
 go_returns
 exact ⟨rfl, T1⟩
theorem rout_160 (h : B.ok) (hf : B.fits 2000000) (T : Hp w0 A0 w (rbusObs b pm pp pt pu pi B)) (v : Nat) (hv : v < 256)  :
    Calls Tryz.prog 84 #[.pointer (some ⟨b, 0, none⟩), .int .u16 160, .int .u8 (v : Nat)] w fun e w' => e = .returned (.tuple #[]) ∧ Hp w0 A0 w' (rbusObs b pm pp pt pu pi (B.out1 0 2 v)) := by
 have HCH := Lib.hid (show chipV 160 = 2 by decide)
 have HDI := Lib.hid (show diskV 160 = -1 by decide)
 have HF := Lib.hid hf
 clear hf h
 obtain ⟨k0, k1, k2, k3, k4, k5, kf, kl⟩ := rbus_facts T.rbus
 go_enter Tryz.func84, Tryz.ntmps84
 go_wp2_with fail
 refine (chip_any 160 (by decide) w).mono ?_
 rintro e x1 ⟨rfl, rfl⟩
 rw [HCH.out]
 go_wp2_with fail
 refine (disk_any 160 (by decide) w).mono ?_
 rintro e x2 ⟨rfl, rfl⟩
 rw [HDI.out]
 go_wp2_with fail
 refine (T.act 1 rfl (rpic_out 2 v hv)).mono ?_
 rintro e w1 ⟨rfl, T1⟩
 clear k0 k1 k2 k3 k4 k5 kf kl
 go_wp2_with fail
 go_returns
 exact ⟨rfl, T1⟩
theorem rout_161 (h : B.ok) (hf : B.fits 2000000) (T : Hp w0 A0 w (rbusObs b pm pp pt pu pi B)) (v : Nat) (hv : v < 256)  :
    Calls Tryz.prog 84 #[.pointer (some ⟨b, 0, none⟩), .int .u16 161, .int .u8 (v : Nat)] w fun e w' => e = .returned (.tuple #[]) ∧ Hp w0 A0 w' (rbusObs b pm pp pt pu pi (B.out1 0 3 v)) := by
 have HCH := Lib.hid (show chipV 161 = 3 by decide)
 have HDI := Lib.hid (show diskV 161 = -1 by decide)
 have HF := Lib.hid hf
 clear hf h
 obtain ⟨k0, k1, k2, k3, k4, k5, kf, kl⟩ := rbus_facts T.rbus
 go_enter Tryz.func84, Tryz.ntmps84
 go_wp2_with fail
 refine (chip_any 161 (by decide) w).mono ?_
 rintro e x1 ⟨rfl, rfl⟩
 rw [HCH.out]
 go_wp2_with fail
 refine (disk_any 161 (by decide) w).mono ?_
 rintro e x2 ⟨rfl, rfl⟩
 rw [HDI.out]
 go_wp2_with fail
 refine (T.act 1 rfl (rpic_out 3 v hv)).mono ?_
 rintro e w1 ⟨rfl, T1⟩
 clear k0 k1 k2 k3 k4 k5 kf kl
 go_wp2_with fail
 go_returns
 exact ⟨rfl, T1⟩
theorem rout_64 (h : B.ok) (hf : B.fits 2000000) (T : Hp w0 A0 w (rbusObs b pm pp pt pu pi B)) (v : Nat) (hv : v < 256)  :
    Calls Tryz.prog 84 #[.pointer (some ⟨b, 0, none⟩), .int .u16 64, .int .u8 (v : Nat)] w fun e w' => e = .returned (.tuple #[]) ∧ Hp w0 A0 w' (rbusObs b pm pp pt pu pi (B.out1 1 0 v)) := by
 have HCH := Lib.hid (show chipV 64 = -1 by decide)
 have HDI := Lib.hid (show diskV 64 = -1 by decide)
 have HF := Lib.hid hf
 have ht : (B.t : Int) < 18446744073709551616 := by have := h.t; omega
 have HT := Lib.hid (And.intro h.T ht)
 clear h hf
 obtain ⟨k0, k1, k2, k3, k4, k5, kf, kl⟩ := rbus_facts T.rbus
 go_enter Tryz.func84, Tryz.ntmps84
 go_wp2_with fail
 refine (chip_any 64 (by decide) w).mono ?_
 rintro e x1 ⟨rfl, rfl⟩
 rw [HCH.out]
 go_wp2_with fail
 refine (disk_any 64 (by decide) w).mono ?_
 rintro e x2 ⟨rfl, rfl⟩
 rw [HDI.out]
 go_upto_region 5 with (fail)
 have T0 := Lib.hid T.drew
 clear T
 go_region_held3 (fun w' => w'.cell? ⟨b, 1, none⟩ = some (.pointer (some ⟨pp, 0, none⟩)) ∧ w'.cell? ⟨b, 2, none⟩ = some (.pointer (some ⟨pt, 0, none⟩)) ∧ w'.cell? ⟨b, 5, none⟩ = some (.int .u64 (B.t : Nat))) (first | exact Hp.r125 (B := B) T0.out | exact Hp.r125 (B := B.out1 1 0 v) T1 | go_keep) (first | (go_at_call 116; refine (T0.out.act 2 rfl (rtm_out B.T HT.out.1 HT.out.2 0 (by decide) v hv)).mono ?_; rintro e w1 ⟨rfl, T1⟩))
 clear k0 k1 k2 k3 k4 k5 kf kl
 go_wp2_with fail
 go_returns
 exact ⟨rfl, T1⟩
theorem rout_65 (h : B.ok) (hf : B.fits 2000000) (T : Hp w0 A0 w (rbusObs b pm pp pt pu pi B)) (v : Nat) (hv : v < 256)  :
    Calls Tryz.prog 84 #[.pointer (some ⟨b, 0, none⟩), .int .u16 65, .int .u8 (v : Nat)] w fun e w' => e = .returned (.tuple #[]) ∧ Hp w0 A0 w' (rbusObs b pm pp pt pu pi (B.out1 1 1 v)) := by
 have HCH := Lib.hid (show chipV 65 = -1 by decide)
 have HDI := Lib.hid (show diskV 65 = -1 by decide)
 have HF := Lib.hid hf
 have ht : (B.t : Int) < 18446744073709551616 := by have := h.t; omega
 have HT := Lib.hid (And.intro h.T ht)
 clear h hf
 obtain ⟨k0, k1, k2, k3, k4, k5, kf, kl⟩ := rbus_facts T.rbus
 go_enter Tryz.func84, Tryz.ntmps84
 go_wp2_with fail
 refine (chip_any 65 (by decide) w).mono ?_
 rintro e x1 ⟨rfl, rfl⟩
 rw [HCH.out]
 go_wp2_with fail
 refine (disk_any 65 (by decide) w).mono ?_
 rintro e x2 ⟨rfl, rfl⟩
 rw [HDI.out]
 go_upto_region 5 with (fail)
 have T0 := Lib.hid T.drew
 clear T
 go_region_held3 (fun w' => w'.cell? ⟨b, 1, none⟩ = some (.pointer (some ⟨pp, 0, none⟩)) ∧ w'.cell? ⟨b, 2, none⟩ = some (.pointer (some ⟨pt, 0, none⟩)) ∧ w'.cell? ⟨b, 5, none⟩ = some (.int .u64 (B.t : Nat))) (first | exact Hp.r125 (B := B) T0.out | exact Hp.r125 (B := B.out1 1 1 v) T1 | go_keep) (first | (go_at_call 116; refine (T0.out.act 2 rfl (rtm_out B.T HT.out.1 HT.out.2 1 (by decide) v hv)).mono ?_; rintro e w1 ⟨rfl, T1⟩))
 clear k0 k1 k2 k3 k4 k5 kf kl
 go_wp2_with fail
 go_returns
 exact ⟨rfl, T1⟩
theorem rout_66 (h : B.ok) (hf : B.fits 2000000) (T : Hp w0 A0 w (rbusObs b pm pp pt pu pi B)) (v : Nat) (hv : v < 256)  :
    Calls Tryz.prog 84 #[.pointer (some ⟨b, 0, none⟩), .int .u16 66, .int .u8 (v : Nat)] w fun e w' => e = .returned (.tuple #[]) ∧ Hp w0 A0 w' (rbusObs b pm pp pt pu pi (B.out1 1 2 v)) := by
 have HCH := Lib.hid (show chipV 66 = -1 by decide)
 have HDI := Lib.hid (show diskV 66 = -1 by decide)
 have HF := Lib.hid hf
 have ht : (B.t : Int) < 18446744073709551616 := by have := h.t; omega
 have HT := Lib.hid (And.intro h.T ht)
 clear h hf
 obtain ⟨k0, k1, k2, k3, k4, k5, kf, kl⟩ := rbus_facts T.rbus
 go_enter Tryz.func84, Tryz.ntmps84
 go_wp2_with fail
 refine (chip_any 66 (by decide) w).mono ?_
 rintro e x1 ⟨rfl, rfl⟩
 rw [HCH.out]
 go_wp2_with fail
 refine (disk_any 66 (by decide) w).mono ?_
 rintro e x2 ⟨rfl, rfl⟩
 rw [HDI.out]
 go_upto_region 5 with (fail)
 have T0 := Lib.hid T.drew
 clear T
 go_region_held3 (fun w' => w'.cell? ⟨b, 1, none⟩ = some (.pointer (some ⟨pp, 0, none⟩)) ∧ w'.cell? ⟨b, 2, none⟩ = some (.pointer (some ⟨pt, 0, none⟩)) ∧ w'.cell? ⟨b, 5, none⟩ = some (.int .u64 (B.t : Nat))) (first | exact Hp.r125 (B := B) T0.out | exact Hp.r125 (B := B.out1 1 2 v) T1 | go_keep) (first | (go_at_call 116; refine (T0.out.act 2 rfl (rtm_out B.T HT.out.1 HT.out.2 2 (by decide) v hv)).mono ?_; rintro e w1 ⟨rfl, T1⟩))
 clear k0 k1 k2 k3 k4 k5 kf kl
 go_wp2_with fail
 go_returns
 exact ⟨rfl, T1⟩
theorem rout_67 (h : B.ok) (hf : B.fits 2000000) (T : Hp w0 A0 w (rbusObs b pm pp pt pu pi B)) (v : Nat) (hv : v < 256)  :
    Calls Tryz.prog 84 #[.pointer (some ⟨b, 0, none⟩), .int .u16 67, .int .u8 (v : Nat)] w fun e w' => e = .returned (.tuple #[]) ∧ Hp w0 A0 w' (rbusObs b pm pp pt pu pi (B.out1 1 3 v)) := by
 have HCH := Lib.hid (show chipV 67 = -1 by decide)
 have HDI := Lib.hid (show diskV 67 = -1 by decide)
 have HF := Lib.hid hf
 have ht : (B.t : Int) < 18446744073709551616 := by have := h.t; omega
 have HT := Lib.hid (And.intro h.T ht)
 clear h hf
 obtain ⟨k0, k1, k2, k3, k4, k5, kf, kl⟩ := rbus_facts T.rbus
 go_enter Tryz.func84, Tryz.ntmps84
 go_wp2_with fail
 refine (chip_any 67 (by decide) w).mono ?_
 rintro e x1 ⟨rfl, rfl⟩
 rw [HCH.out]
 go_wp2_with fail
 refine (disk_any 67 (by decide) w).mono ?_
 rintro e x2 ⟨rfl, rfl⟩
 rw [HDI.out]
 go_upto_region 5 with (fail)
 have T0 := Lib.hid T.drew
 clear T
 go_region_held3 (fun w' => w'.cell? ⟨b, 1, none⟩ = some (.pointer (some ⟨pp, 0, none⟩)) ∧ w'.cell? ⟨b, 2, none⟩ = some (.pointer (some ⟨pt, 0, none⟩)) ∧ w'.cell? ⟨b, 5, none⟩ = some (.int .u64 (B.t : Nat))) (first | exact Hp.r125 (B := B) T0.out | exact Hp.r125 (B := B.out1 1 3 v) T1 | go_keep) (first | (go_at_call 116; refine (T0.out.act 2 rfl (rtm_out B.T HT.out.1 HT.out.2 3 (by decide) v hv)).mono ?_; rintro e w1 ⟨rfl, T1⟩))
 clear k0 k1 k2 k3 k4 k5 kf kl
 go_wp2_with fail
 go_returns
 exact ⟨rfl, T1⟩
theorem rout_1016 (h : B.ok) (hf : B.fits 2000000) (T : Hp w0 A0 w (rbusObs b pm pp pt pu pi B)) (v : Nat) (hv : v < 256)  :
    Calls Tryz.prog 84 #[.pointer (some ⟨b, 0, none⟩), .int .u16 1016, .int .u8 (v : Nat)] w fun e w' => e = .returned (.tuple #[]) ∧ Hp w0 A0 w' (rbusObs b pm pp pt pu pi (B.out1 2 0 v)) := by
 have HCH := Lib.hid (show chipV 1016 = -1 by decide)
 have HDI := Lib.hid (show diskV 1016 = -1 by decide)
 have HF := Lib.hid hf
 clear hf h
 obtain ⟨k0, k1, k2, k3, k4, k5, kf, kl⟩ := rbus_facts T.rbus
 go_enter Tryz.func84, Tryz.ntmps84
 go_wp2_with fail
 refine (chip_any 1016 (by decide) w).mono ?_
 rintro e x1 ⟨rfl, rfl⟩
 rw [HCH.out]
 go_wp2_with fail
 refine (disk_any 1016 (by decide) w).mono ?_
 rintro e x2 ⟨rfl, rfl⟩
 rw [HDI.out]
 go_wp2_with fail
 refine (T.act 3 rfl (ruart_out 0 v hv (by have := HF.out.s; omega))).mono ?_
 rintro e w1 ⟨rfl, T1⟩
 clear k0 k1 k2 k3 k4 k5 kf kl
 go_wp2_with fail
 go_returns
 exact ⟨rfl, T1⟩
theorem rout_1017 (h : B.ok) (hf : B.fits 2000000) (T : Hp w0 A0 w (rbusObs b pm pp pt pu pi B)) (v : Nat) (hv : v < 256)  :
    Calls Tryz.prog 84 #[.pointer (some ⟨b, 0, none⟩), .int .u16 1017, .int .u8 (v : Nat)] w fun e w' => e = .returned (.tuple #[]) ∧ Hp w0 A0 w' (rbusObs b pm pp pt pu pi (B.out1 2 1 v)) := by
 have HCH := Lib.hid (show chipV 1017 = -1 by decide)
 have HDI := Lib.hid (show diskV 1017 = -1 by decide)
 have HF := Lib.hid hf
 clear hf h
 obtain ⟨k0, k1, k2, k3, k4, k5, kf, kl⟩ := rbus_facts T.rbus
 go_enter Tryz.func84, Tryz.ntmps84
 go_wp2_with fail
 refine (chip_any 1017 (by decide) w).mono ?_
 rintro e x1 ⟨rfl, rfl⟩
 rw [HCH.out]
 go_wp2_with fail
 refine (disk_any 1017 (by decide) w).mono ?_
 rintro e x2 ⟨rfl, rfl⟩
 rw [HDI.out]
 go_wp2_with fail
 refine (T.act 3 rfl (ruart_out 1 v hv (by have := HF.out.s; omega))).mono ?_
 rintro e w1 ⟨rfl, T1⟩
 clear k0 k1 k2 k3 k4 k5 kf kl
 go_wp2_with fail
 go_returns
 exact ⟨rfl, T1⟩
theorem rout_1018 (h : B.ok) (hf : B.fits 2000000) (T : Hp w0 A0 w (rbusObs b pm pp pt pu pi B)) (v : Nat) (hv : v < 256)  :
    Calls Tryz.prog 84 #[.pointer (some ⟨b, 0, none⟩), .int .u16 1018, .int .u8 (v : Nat)] w fun e w' => e = .returned (.tuple #[]) ∧ Hp w0 A0 w' (rbusObs b pm pp pt pu pi (B.out1 2 2 v)) := by
 have HCH := Lib.hid (show chipV 1018 = -1 by decide)
 have HDI := Lib.hid (show diskV 1018 = -1 by decide)
 have HF := Lib.hid hf
 clear hf h
 obtain ⟨k0, k1, k2, k3, k4, k5, kf, kl⟩ := rbus_facts T.rbus
 go_enter Tryz.func84, Tryz.ntmps84
 go_wp2_with fail
 refine (chip_any 1018 (by decide) w).mono ?_
 rintro e x1 ⟨rfl, rfl⟩
 rw [HCH.out]
 go_wp2_with fail
 refine (disk_any 1018 (by decide) w).mono ?_
 rintro e x2 ⟨rfl, rfl⟩
 rw [HDI.out]
 go_wp2_with fail
 refine (T.act 3 rfl (ruart_out 2 v hv (by have := HF.out.s; omega))).mono ?_
 rintro e w1 ⟨rfl, T1⟩
 clear k0 k1 k2 k3 k4 k5 kf kl
 go_wp2_with fail
 go_returns
 exact ⟨rfl, T1⟩
theorem rout_1019 (h : B.ok) (hf : B.fits 2000000) (T : Hp w0 A0 w (rbusObs b pm pp pt pu pi B)) (v : Nat) (hv : v < 256)  :
    Calls Tryz.prog 84 #[.pointer (some ⟨b, 0, none⟩), .int .u16 1019, .int .u8 (v : Nat)] w fun e w' => e = .returned (.tuple #[]) ∧ Hp w0 A0 w' (rbusObs b pm pp pt pu pi (B.out1 2 3 v)) := by
 have HCH := Lib.hid (show chipV 1019 = -1 by decide)
 have HDI := Lib.hid (show diskV 1019 = -1 by decide)
 have HF := Lib.hid hf
 clear hf h
 obtain ⟨k0, k1, k2, k3, k4, k5, kf, kl⟩ := rbus_facts T.rbus
 go_enter Tryz.func84, Tryz.ntmps84
 go_wp2_with fail
 refine (chip_any 1019 (by decide) w).mono ?_
 rintro e x1 ⟨rfl, rfl⟩
 rw [HCH.out]
 go_wp2_with fail
 refine (disk_any 1019 (by decide) w).mono ?_
 rintro e x2 ⟨rfl, rfl⟩
 rw [HDI.out]
 go_wp2_with fail
 refine (T.act 3 rfl (ruart_out 3 v hv (by have := HF.out.s; omega))).mono ?_
 rintro e w1 ⟨rfl, T1⟩
 clear k0 k1 k2 k3 k4 k5 kf kl
 go_wp2_with fail
 go_returns
 exact ⟨rfl, T1⟩
theorem rout_1020 (h : B.ok) (hf : B.fits 2000000) (T : Hp w0 A0 w (rbusObs b pm pp pt pu pi B)) (v : Nat) (hv : v < 256)  :
    Calls Tryz.prog 84 #[.pointer (some ⟨b, 0, none⟩), .int .u16 1020, .int .u8 (v : Nat)] w fun e w' => e = .returned (.tuple #[]) ∧ Hp w0 A0 w' (rbusObs b pm pp pt pu pi (B.out1 2 4 v)) := by
 have HCH := Lib.hid (show chipV 1020 = -1 by decide)
 have HDI := Lib.hid (show diskV 1020 = -1 by decide)
 have HF := Lib.hid hf
 clear hf h
 obtain ⟨k0, k1, k2, k3, k4, k5, kf, kl⟩ := rbus_facts T.rbus
 go_enter Tryz.func84, Tryz.ntmps84
 go_wp2_with fail
 refine (chip_any 1020 (by decide) w).mono ?_
 rintro e x1 ⟨rfl, rfl⟩
 rw [HCH.out]
 go_wp2_with fail
 refine (disk_any 1020 (by decide) w).mono ?_
 rintro e x2 ⟨rfl, rfl⟩
 rw [HDI.out]
 go_wp2_with fail
 refine (T.act 3 rfl (ruart_out 4 v hv (by have := HF.out.s; omega))).mono ?_
 rintro e w1 ⟨rfl, T1⟩
 clear k0 k1 k2 k3 k4 k5 kf kl
 go_wp2_with fail
 go_returns
 exact ⟨rfl, T1⟩
theorem rout_1021 (h : B.ok) (hf : B.fits 2000000) (T : Hp w0 A0 w (rbusObs b pm pp pt pu pi B)) (v : Nat) (hv : v < 256)  :
    Calls Tryz.prog 84 #[.pointer (some ⟨b, 0, none⟩), .int .u16 1021, .int .u8 (v : Nat)] w fun e w' => e = .returned (.tuple #[]) ∧ Hp w0 A0 w' (rbusObs b pm pp pt pu pi (B.out1 2 5 v)) := by
 have HCH := Lib.hid (show chipV 1021 = -1 by decide)
 have HDI := Lib.hid (show diskV 1021 = -1 by decide)
 have HF := Lib.hid hf
 clear hf h
 obtain ⟨k0, k1, k2, k3, k4, k5, kf, kl⟩ := rbus_facts T.rbus
 go_enter Tryz.func84, Tryz.ntmps84
 go_wp2_with fail
 refine (chip_any 1021 (by decide) w).mono ?_
 rintro e x1 ⟨rfl, rfl⟩
 rw [HCH.out]
 go_wp2_with fail
 refine (disk_any 1021 (by decide) w).mono ?_
 rintro e x2 ⟨rfl, rfl⟩
 rw [HDI.out]
 go_wp2_with fail
 refine (T.act 3 rfl (ruart_out 5 v hv (by have := HF.out.s; omega))).mono ?_
 rintro e w1 ⟨rfl, T1⟩
 clear k0 k1 k2 k3 k4 k5 kf kl
 go_wp2_with fail
 go_returns
 exact ⟨rfl, T1⟩
theorem rout_1022 (h : B.ok) (hf : B.fits 2000000) (T : Hp w0 A0 w (rbusObs b pm pp pt pu pi B)) (v : Nat) (hv : v < 256)  :
    Calls Tryz.prog 84 #[.pointer (some ⟨b, 0, none⟩), .int .u16 1022, .int .u8 (v : Nat)] w fun e w' => e = .returned (.tuple #[]) ∧ Hp w0 A0 w' (rbusObs b pm pp pt pu pi (B.out1 2 6 v)) := by
 have HCH := Lib.hid (show chipV 1022 = -1 by decide)
 have HDI := Lib.hid (show diskV 1022 = -1 by decide)
 have HF := Lib.hid hf
 clear hf h
 obtain ⟨k0, k1, k2, k3, k4, k5, kf, kl⟩ := rbus_facts T.rbus
 go_enter Tryz.func84, Tryz.ntmps84
 go_wp2_with fail
 refine (chip_any 1022 (by decide) w).mono ?_
 rintro e x1 ⟨rfl, rfl⟩
 rw [HCH.out]
 go_wp2_with fail
 refine (disk_any 1022 (by decide) w).mono ?_
 rintro e x2 ⟨rfl, rfl⟩
 rw [HDI.out]
 go_wp2_with fail
 refine (T.act 3 rfl (ruart_out 6 v hv (by have := HF.out.s; omega))).mono ?_
 rintro e w1 ⟨rfl, T1⟩
 clear k0 k1 k2 k3 k4 k5 kf kl
 go_wp2_with fail
 go_returns
 exact ⟨rfl, T1⟩
theorem rout_1023 (h : B.ok) (hf : B.fits 2000000) (T : Hp w0 A0 w (rbusObs b pm pp pt pu pi B)) (v : Nat) (hv : v < 256)  :
    Calls Tryz.prog 84 #[.pointer (some ⟨b, 0, none⟩), .int .u16 1023, .int .u8 (v : Nat)] w fun e w' => e = .returned (.tuple #[]) ∧ Hp w0 A0 w' (rbusObs b pm pp pt pu pi (B.out1 2 7 v)) := by
 have HCH := Lib.hid (show chipV 1023 = -1 by decide)
 have HDI := Lib.hid (show diskV 1023 = -1 by decide)
 have HF := Lib.hid hf
 clear hf h
 obtain ⟨k0, k1, k2, k3, k4, k5, kf, kl⟩ := rbus_facts T.rbus
 go_enter Tryz.func84, Tryz.ntmps84
 go_wp2_with fail
 refine (chip_any 1023 (by decide) w).mono ?_
 rintro e x1 ⟨rfl, rfl⟩
 rw [HCH.out]
 go_wp2_with fail
 refine (disk_any 1023 (by decide) w).mono ?_
 rintro e x2 ⟨rfl, rfl⟩
 rw [HDI.out]
 go_wp2_with fail
 refine (T.act 3 rfl (ruart_out 7 v hv (by have := HF.out.s; omega))).mono ?_
 rintro e w1 ⟨rfl, T1⟩
 clear k0 k1 k2 k3 k4 k5 kf kl
 go_wp2_with fail
 go_returns
 exact ⟨rfl, T1⟩
theorem rout_496 (h : B.ok) (hf : B.fits 2000000) (T : Hp w0 A0 w (rbusObs b pm pp pt pu pi B)) (v : Nat) (hv : v < 256)  :
    Calls Tryz.prog 84 #[.pointer (some ⟨b, 0, none⟩), .int .u16 496, .int .u8 (v : Nat)] w fun e w' => e = .returned (.tuple #[]) ∧ Hp w0 A0 w' (rbusObs b pm pp pt pu pi (B.out1 3 0 v)) := by
 have HCH := Lib.hid (show chipV 496 = -1 by decide)
 have HDI := Lib.hid (show diskV 496 = 0 by decide)
 have HF := Lib.hid hf
 clear hf h
 obtain ⟨k0, k1, k2, k3, k4, k5, kf, kl⟩ := rbus_facts T.rbus
 go_enter Tryz.func84, Tryz.ntmps84
 go_wp2_with fail
 refine (chip_any 496 (by decide) w).mono ?_
 rintro e x1 ⟨rfl, rfl⟩
 rw [HCH.out]
 go_wp2_with fail
 refine (disk_any 496 (by decide) w).mono ?_
 rintro e x2 ⟨rfl, rfl⟩
 rw [HDI.out]
 go_wp2_with fail
 refine (T.act 4 rfl (ride_out 0 1 v (by omega) (by have := HF.out.l; omega))).mono ?_
 rintro e w1 ⟨rfl, T1⟩
 clear k0 k1 k2 k3 k4 k5 kf kl
 go_wp2_with fail
 go_returns
 exact ⟨rfl, T1⟩
theorem rout_497 (h : B.ok) (hf : B.fits 2000000) (T : Hp w0 A0 w (rbusObs b pm pp pt pu pi B)) (v : Nat) (hv : v < 256)  :
    Calls Tryz.prog 84 #[.pointer (some ⟨b, 0, none⟩), .int .u16 497, .int .u8 (v : Nat)] w fun e w' => e = .returned (.tuple #[]) ∧ Hp w0 A0 w' (rbusObs b pm pp pt pu pi (B.out1 3 1 v)) := by
 have HCH := Lib.hid (show chipV 497 = -1 by decide)
 have HDI := Lib.hid (show diskV 497 = 1 by decide)
 have HF := Lib.hid hf
 clear hf h
 obtain ⟨k0, k1, k2, k3, k4, k5, kf, kl⟩ := rbus_facts T.rbus
 go_enter Tryz.func84, Tryz.ntmps84
 go_wp2_with fail
 refine (chip_any 497 (by decide) w).mono ?_
 rintro e x1 ⟨rfl, rfl⟩
 rw [HCH.out]
 go_wp2_with fail
 refine (disk_any 497 (by decide) w).mono ?_
 rintro e x2 ⟨rfl, rfl⟩
 rw [HDI.out]
 go_wp2_with fail
 refine (T.act 4 rfl (ride_out 1 1 v (by omega) (by have := HF.out.l; omega))).mono ?_
 rintro e w1 ⟨rfl, T1⟩
 clear k0 k1 k2 k3 k4 k5 kf kl
 go_wp2_with fail
 go_returns
 exact ⟨rfl, T1⟩
theorem rout_498 (h : B.ok) (hf : B.fits 2000000) (T : Hp w0 A0 w (rbusObs b pm pp pt pu pi B)) (v : Nat) (hv : v < 256)  :
    Calls Tryz.prog 84 #[.pointer (some ⟨b, 0, none⟩), .int .u16 498, .int .u8 (v : Nat)] w fun e w' => e = .returned (.tuple #[]) ∧ Hp w0 A0 w' (rbusObs b pm pp pt pu pi (B.out1 3 2 v)) := by
 have HCH := Lib.hid (show chipV 498 = -1 by decide)
 have HDI := Lib.hid (show diskV 498 = 2 by decide)
 have HF := Lib.hid hf
 clear hf h
 obtain ⟨k0, k1, k2, k3, k4, k5, kf, kl⟩ := rbus_facts T.rbus
 go_enter Tryz.func84, Tryz.ntmps84
 go_wp2_with fail
 refine (chip_any 498 (by decide) w).mono ?_
 rintro e x1 ⟨rfl, rfl⟩
 rw [HCH.out]
 go_wp2_with fail
 refine (disk_any 498 (by decide) w).mono ?_
 rintro e x2 ⟨rfl, rfl⟩
 rw [HDI.out]
 go_wp2_with fail
 refine (T.act 4 rfl (ride_out 2 1 v (by omega) (by have := HF.out.l; omega))).mono ?_
 rintro e w1 ⟨rfl, T1⟩
 clear k0 k1 k2 k3 k4 k5 kf kl
 go_wp2_with fail
 go_returns
 exact ⟨rfl, T1⟩
theorem rout_499 (h : B.ok) (hf : B.fits 2000000) (T : Hp w0 A0 w (rbusObs b pm pp pt pu pi B)) (v : Nat) (hv : v < 256)  :
    Calls Tryz.prog 84 #[.pointer (some ⟨b, 0, none⟩), .int .u16 499, .int .u8 (v : Nat)] w fun e w' => e = .returned (.tuple #[]) ∧ Hp w0 A0 w' (rbusObs b pm pp pt pu pi (B.out1 3 3 v)) := by
 have HCH := Lib.hid (show chipV 499 = -1 by decide)
 have HDI := Lib.hid (show diskV 499 = 3 by decide)
 have HF := Lib.hid hf
 clear hf h
 obtain ⟨k0, k1, k2, k3, k4, k5, kf, kl⟩ := rbus_facts T.rbus
 go_enter Tryz.func84, Tryz.ntmps84
 go_wp2_with fail
 refine (chip_any 499 (by decide) w).mono ?_
 rintro e x1 ⟨rfl, rfl⟩
 rw [HCH.out]
 go_wp2_with fail
 refine (disk_any 499 (by decide) w).mono ?_
 rintro e x2 ⟨rfl, rfl⟩
 rw [HDI.out]
 go_wp2_with fail
 refine (T.act 4 rfl (ride_out 3 1 v (by omega) (by have := HF.out.l; omega))).mono ?_
 rintro e w1 ⟨rfl, T1⟩
 clear k0 k1 k2 k3 k4 k5 kf kl
 go_wp2_with fail
 go_returns
 exact ⟨rfl, T1⟩
theorem rout_500 (h : B.ok) (hf : B.fits 2000000) (T : Hp w0 A0 w (rbusObs b pm pp pt pu pi B)) (v : Nat) (hv : v < 256)  :
    Calls Tryz.prog 84 #[.pointer (some ⟨b, 0, none⟩), .int .u16 500, .int .u8 (v : Nat)] w fun e w' => e = .returned (.tuple #[]) ∧ Hp w0 A0 w' (rbusObs b pm pp pt pu pi (B.out1 3 4 v)) := by
 have HCH := Lib.hid (show chipV 500 = -1 by decide)
 have HDI := Lib.hid (show diskV 500 = 4 by decide)
 have HF := Lib.hid hf
 clear hf h
 obtain ⟨k0, k1, k2, k3, k4, k5, kf, kl⟩ := rbus_facts T.rbus
 go_enter Tryz.func84, Tryz.ntmps84
 go_wp2_with fail
 refine (chip_any 500 (by decide) w).mono ?_
 rintro e x1 ⟨rfl, rfl⟩
 rw [HCH.out]
 go_wp2_with fail
 refine (disk_any 500 (by decide) w).mono ?_
 rintro e x2 ⟨rfl, rfl⟩
 rw [HDI.out]
 go_wp2_with fail
 refine (T.act 4 rfl (ride_out 4 1 v (by omega) (by have := HF.out.l; omega))).mono ?_
 rintro e w1 ⟨rfl, T1⟩
 clear k0 k1 k2 k3 k4 k5 kf kl
 go_wp2_with fail
 go_returns
 exact ⟨rfl, T1⟩
theorem rout_501 (h : B.ok) (hf : B.fits 2000000) (T : Hp w0 A0 w (rbusObs b pm pp pt pu pi B)) (v : Nat) (hv : v < 256)  :
    Calls Tryz.prog 84 #[.pointer (some ⟨b, 0, none⟩), .int .u16 501, .int .u8 (v : Nat)] w fun e w' => e = .returned (.tuple #[]) ∧ Hp w0 A0 w' (rbusObs b pm pp pt pu pi (B.out1 3 5 v)) := by
 have HCH := Lib.hid (show chipV 501 = -1 by decide)
 have HDI := Lib.hid (show diskV 501 = 5 by decide)
 have HF := Lib.hid hf
 clear hf h
 obtain ⟨k0, k1, k2, k3, k4, k5, kf, kl⟩ := rbus_facts T.rbus
 go_enter Tryz.func84, Tryz.ntmps84
 go_wp2_with fail
 refine (chip_any 501 (by decide) w).mono ?_
 rintro e x1 ⟨rfl, rfl⟩
 rw [HCH.out]
 go_wp2_with fail
 refine (disk_any 501 (by decide) w).mono ?_
 rintro e x2 ⟨rfl, rfl⟩
 rw [HDI.out]
 go_wp2_with fail
 refine (T.act 4 rfl (ride_out 5 1 v (by omega) (by have := HF.out.l; omega))).mono ?_
 rintro e w1 ⟨rfl, T1⟩
 clear k0 k1 k2 k3 k4 k5 kf kl
 go_wp2_with fail
 go_returns
 exact ⟨rfl, T1⟩
theorem rout_502 (h : B.ok) (hf : B.fits 2000000) (T : Hp w0 A0 w (rbusObs b pm pp pt pu pi B)) (v : Nat) (hv : v < 256)  :
    Calls Tryz.prog 84 #[.pointer (some ⟨b, 0, none⟩), .int .u16 502, .int .u8 (v : Nat)] w fun e w' => e = .returned (.tuple #[]) ∧ Hp w0 A0 w' (rbusObs b pm pp pt pu pi (B.out1 3 6 v)) := by
 have HCH := Lib.hid (show chipV 502 = -1 by decide)
 have HDI := Lib.hid (show diskV 502 = 6 by decide)
 have HF := Lib.hid hf
 clear hf h
 obtain ⟨k0, k1, k2, k3, k4, k5, kf, kl⟩ := rbus_facts T.rbus
 go_enter Tryz.func84, Tryz.ntmps84
 go_wp2_with fail
 refine (chip_any 502 (by decide) w).mono ?_
 rintro e x1 ⟨rfl, rfl⟩
 rw [HCH.out]
 go_wp2_with fail
 refine (disk_any 502 (by decide) w).mono ?_
 rintro e x2 ⟨rfl, rfl⟩
 rw [HDI.out]
 go_wp2_with fail
 refine (T.act 4 rfl (ride_out 6 1 v (by omega) (by have := HF.out.l; omega))).mono ?_
 rintro e w1 ⟨rfl, T1⟩
 clear k0 k1 k2 k3 k4 k5 kf kl
 go_wp2_with fail
 go_returns
 exact ⟨rfl, T1⟩
theorem rout_503 (h : B.ok) (hf : B.fits 2000000) (T : Hp w0 A0 w (rbusObs b pm pp pt pu pi B)) (v : Nat) (hv : v < 256)  :
    Calls Tryz.prog 84 #[.pointer (some ⟨b, 0, none⟩), .int .u16 503, .int .u8 (v : Nat)] w fun e w' => e = .returned (.tuple #[]) ∧ Hp w0 A0 w' (rbusObs b pm pp pt pu pi (B.out1 3 7 v)) := by
 have HCH := Lib.hid (show chipV 503 = -1 by decide)
 have HDI := Lib.hid (show diskV 503 = 7 by decide)
 have HF := Lib.hid hf
 clear hf h
 obtain ⟨k0, k1, k2, k3, k4, k5, kf, kl⟩ := rbus_facts T.rbus
 go_enter Tryz.func84, Tryz.ntmps84
 go_wp2_with fail
 refine (chip_any 503 (by decide) w).mono ?_
 rintro e x1 ⟨rfl, rfl⟩
 rw [HCH.out]
 go_wp2_with fail
 refine (disk_any 503 (by decide) w).mono ?_
 rintro e x2 ⟨rfl, rfl⟩
 rw [HDI.out]
 go_wp2_with fail
 refine (T.act 4 rfl (ride_out 7 1 v (by omega) (by have := HF.out.l; omega))).mono ?_
 rintro e w1 ⟨rfl, T1⟩
 clear k0 k1 k2 k3 k4 k5 kf kl
 go_wp2_with fail
 go_returns
 exact ⟨rfl, T1⟩
theorem rout_1014 (h : B.ok) (hf : B.fits 2000000) (T : Hp w0 A0 w (rbusObs b pm pp pt pu pi B)) (v : Nat) (hv : v < 256)  :
    Calls Tryz.prog 84 #[.pointer (some ⟨b, 0, none⟩), .int .u16 1014, .int .u8 (v : Nat)] w fun e w' => e = .returned (.tuple #[]) ∧ Hp w0 A0 w' (rbusObs b pm pp pt pu pi (B.out1 3 8 v)) := by
 have HCH := Lib.hid (show chipV 1014 = -1 by decide)
 have HDI := Lib.hid (show diskV 1014 = 8 by decide)
 have HF := Lib.hid hf
 clear hf h
 obtain ⟨k0, k1, k2, k3, k4, k5, kf, kl⟩ := rbus_facts T.rbus
 go_enter Tryz.func84, Tryz.ntmps84
 go_wp2_with fail
 refine (chip_any 1014 (by decide) w).mono ?_
 rintro e x1 ⟨rfl, rfl⟩
 rw [HCH.out]
 go_wp2_with fail
 refine (disk_any 1014 (by decide) w).mono ?_
 rintro e x2 ⟨rfl, rfl⟩
 rw [HDI.out]
 go_wp2_with fail
 refine (T.act 4 rfl (ride_out 8 1 v (by omega) (by have := HF.out.l; omega))).mono ?_
 rintro e w1 ⟨rfl, T1⟩
 clear k0 k1 k2 k3 k4 k5 kf kl
 go_wp2_with fail
 go_returns
 exact ⟨rfl, T1⟩
theorem rout_146 (h : B.ok) (hf : B.fits 2000000) (T : Hp w0 A0 w (rbusObs b pm pp pt pu pi B)) (v : Nat) (hv : v < 256)  :
    Calls Tryz.prog 84 #[.pointer (some ⟨b, 0, none⟩), .int .u16 146, .int .u8 (v : Nat)] w fun e w' => e = .returned (.tuple #[]) ∧ Hp w0 A0 w' (rbusObs b pm pp pt pu pi (B.out1 4 0 v)) := by
 have HCH := Lib.hid (show chipV 146 = -1 by decide)
 have HDI := Lib.hid (show diskV 146 = -1 by decide)
 have HF := Lib.hid hf
 have hgv := gate_not v hv
 clear hf h
 obtain ⟨k0, k1, k2, k3, k4, k5, kf, kl⟩ := rbus_facts T.rbus
 go_enter Tryz.func84, Tryz.ntmps84
 go_wp2_with fail
 refine (chip_any 146 (by decide) w).mono ?_
 rintro e x1 ⟨rfl, rfl⟩
 rw [HCH.out]
 go_wp2_with fail
 refine (disk_any 146 (by decide) w).mono ?_
 rintro e x2 ⟨rfl, rfl⟩
 rw [HDI.out]
 obtain ⟨c4, cf4, cl4⟩ := T.ref4 5 rfl
 have T1 := T.refgate 5 rfl (gateBit v)
 rw [hgv] at T1
 have HT1 := Lib.hid T1
 clear T T1
 go_wp2_with fail
 go_returns
 exact ⟨rfl, HT1.out⟩
theorem rout_lo (h : B.ok) (hf : B.fits 2000000) (T : Hp w0 A0 w (rbusObs b pm pp pt pu pi B)) (v : Nat) (hv : v < 256) (p : Nat) (hp : p < 65536) (hd : dev p = none) (hr : p < 64)  :
    Calls Tryz.prog 84 #[.pointer (some ⟨b, 0, none⟩), .int .u16 (p : Nat), .int .u8 (v : Nat)] w fun e w' => e = .returned (.tuple #[]) ∧ Hp w0 A0 w' (rbusObs b pm pp pt pu pi (B)) := by
 have HCH := Lib.hid (show chipV p = -1 by exact (dev_no hd).1)
 have HDI := Lib.hid (show diskV p = -1 by exact (dev_no hd).2.1)
 have HF := Lib.hid hf
 have a1 : ¬ ((64 : Int) ≤ p) := by omega
 have a3 : ¬ ((1016 : Int) ≤ p) := by omega
 have a4 : ((p : Int) == 146) = false := by have := (dev_no hd).2.2; simp; omega
 clear hd
 clear hf h
 obtain ⟨k0, k1, k2, k3, k4, k5, kf, kl⟩ := rbus_facts T.rbus
 go_enter Tryz.func84, Tryz.ntmps84
 go_wp2_with fail
 refine (chip_any p (by omega) w).mono ?_
 rintro e x1 ⟨rfl, rfl⟩
 rw [HCH.out]
 go_wp2_with fail
 refine (disk_any p (by omega) w).mono ?_
 rintro e x2 ⟨rfl, rfl⟩
 rw [HDI.out]
 go_wp2_with fail
 go_returns
 exact ⟨rfl, T⟩
theorem rout_mid (h : B.ok) (hf : B.fits 2000000) (T : Hp w0 A0 w (rbusObs b pm pp pt pu pi B)) (v : Nat) (hv : v < 256) (p : Nat) (hp : p < 65536) (hd : dev p = none) (hr : 68 ≤ p ∧ p < 1016)  :
    Calls Tryz.prog 84 #[.pointer (some ⟨b, 0, none⟩), .int .u16 (p : Nat), .int .u8 (v : Nat)] w fun e w' => e = .returned (.tuple #[]) ∧ Hp w0 A0 w' (rbusObs b pm pp pt pu pi (B)) := by
 have HCH := Lib.hid (show chipV p = -1 by exact (dev_no hd).1)
 have HDI := Lib.hid (show diskV p = -1 by exact (dev_no hd).2.1)
 have HF := Lib.hid hf
 have a1 : (64 : Int) ≤ p := by omega
 have a2 : ¬ ((p : Int) < 68) := by omega
 have a3 : ¬ ((1016 : Int) ≤ p) := by omega
 have a4 : ((p : Int) == 146) = false := by have := (dev_no hd).2.2; simp; omega
 clear hd
 clear hf h
 obtain ⟨k0, k1, k2, k3, k4, k5, kf, kl⟩ := rbus_facts T.rbus
 go_enter Tryz.func84, Tryz.ntmps84
 go_wp2_with fail
 refine (chip_any p (by omega) w).mono ?_
 rintro e x1 ⟨rfl, rfl⟩
 rw [HCH.out]
 go_wp2_with fail
 refine (disk_any p (by omega) w).mono ?_
 rintro e x2 ⟨rfl, rfl⟩
 rw [HDI.out]
 go_wp2_with fail
 go_returns
 exact ⟨rfl, T⟩
theorem rout_hi (h : B.ok) (hf : B.fits 2000000) (T : Hp w0 A0 w (rbusObs b pm pp pt pu pi B)) (v : Nat) (hv : v < 256) (p : Nat) (hp : p < 65536) (hd : dev p = none) (hr : 1024 ≤ p)  :
    Calls Tryz.prog 84 #[.pointer (some ⟨b, 0, none⟩), .int .u16 (p : Nat), .int .u8 (v : Nat)] w fun e w' => e = .returned (.tuple #[]) ∧ Hp w0 A0 w' (rbusObs b pm pp pt pu pi (B)) := by
 have HCH := Lib.hid (show chipV p = -1 by exact (dev_no hd).1)
 have HDI := Lib.hid (show diskV p = -1 by exact (dev_no hd).2.1)
 have HF := Lib.hid hf
 have a1 : (64 : Int) ≤ p := by omega
 have a2 : ¬ ((p : Int) < 68) := by omega
 have a3 : (1016 : Int) ≤ p := by omega
 have a5 : ¬ ((p : Int) < 1024) := by omega
 have a4 : ((p : Int) == 146) = false := by have := (dev_no hd).2.2; simp; omega
 clear hd
 clear hf h
 obtain ⟨k0, k1, k2, k3, k4, k5, kf, kl⟩ := rbus_facts T.rbus
 go_enter Tryz.func84, Tryz.ntmps84
 go_wp2_with fail
 refine (chip_any p (by omega) w).mono ?_
 rintro e x1 ⟨rfl, rfl⟩
 rw [HCH.out]
 go_wp2_with fail
 refine (disk_any p (by omega) w).mono ?_
 rintro e x2 ⟨rfl, rfl⟩
 rw [HDI.out]
 go_wp2_with fail
 go_returns
 exact ⟨rfl, T⟩
theorem rin_32 (h : B.ok) (hf : B.fits 2000000) (T : Hp w0 A0 w (rbusObs b pm pp pt pu pi B)) (hg : B.R.closed = !B.g)  :
    Calls Tryz.prog 86 #[.pointer (some ⟨b, 0, none⟩), .int .u16 32] w fun e w' => e = .returned (.int .u8 (B.in1V 0 0)) ∧ Hp w0 A0 w' (rbusObs b pm pp pt pu pi (B.in1S 0 0)) := by
 have HCH := Lib.hid (show chipV 32 = 0 by decide)
 have HDI := Lib.hid (show diskV 32 = -1 by decide)
 have HF := Lib.hid hf
 clear hf h
 obtain ⟨k0, k1, k2, k3, k4, k5, kf, kl⟩ := rbus_facts T.rbus
 go_enter Tryz.func86, Tryz.ntmps86
 go_wp2_with fail
 refine (chip_any 32 (by decide) w).mono ?_
 rintro e x1 ⟨rfl, rfl⟩
 rw [HCH.out]
 go_wp2_with fail
 refine (disk_any 32 (by decide) w).mono ?_
 rintro e x2 ⟨rfl, rfl⟩
 rw [HDI.out]
 go_wp2_with fail
 refine (T.act 1 rfl (rpic_in 0)).mono ?_
 rintro e w1 ⟨rfl, T1⟩
 clear k0 k1 k2 k3 k4 k5 kf kl
 go_wp2_with fail
 go_ret
 exact ⟨rfl, T1⟩
theorem rin_33 (h : B.ok) (hf : B.fits 2000000) (T : Hp w0 A0 w (rbusObs b pm pp pt pu pi B)) (hg : B.R.closed = !B.g)  :
    Calls Tryz.prog 86 #[.pointer (some ⟨b, 0, none⟩), .int .u16 33] w fun e w' => e = .returned (.int .u8 (B.in1V 0 1)) ∧ Hp w0 A0 w' (rbusObs b pm pp pt pu pi (B.in1S 0 1)) := by
 have HCH := Lib.hid (show chipV 33 = 1 by decide)
 have HDI := Lib.hid (show diskV 33 = -1 by decide)
 have HF := Lib.hid hf
 clear hf h
 obtain ⟨k0, k1, k2, k3, k4, k5, kf, kl⟩ := rbus_facts T.rbus
 go_enter Tryz.func86, Tryz.ntmps86
 go_wp2_with fail
 refine (chip_any 33 (by decide) w).mono ?_
 rintro e x1 ⟨rfl, rfl⟩
 rw [HCH.out]
 go_wp2_with fail
 refine (disk_any 33 (by decide) w).mono ?_
 rintro e x2 ⟨rfl, rfl⟩
 rw [HDI.out]
 go_wp2_with fail
 refine (T.act 1 rfl (rpic_in 1)).mono ?_
 rintro e w1 ⟨rfl, T1⟩
 clear k0 k1 k2 k3 k4 k5 kf kl
 go_wp2_with fail
 go_ret
 exact ⟨rfl, T1⟩
theorem rin_160 (h : B.ok) (hf : B.fits 2000000) (T : Hp w0 A0 w (rbusObs b pm pp pt pu pi B)) (hg : B.R.closed = !B.g)  :
    Calls Tryz.prog 86 #[.pointer (some ⟨b, 0, none⟩), .int .u16 160] w fun e w' => e = .returned (.int .u8 (B.in1V 0 2)) ∧ Hp w0 A0 w' (rbusObs b pm pp pt pu pi (B.in1S 0 2)) := by
 have HCH := Lib.hid (show chipV 160 = 2 by decide)
 have HDI := Lib.hid (show diskV 160 = -1 by decide)
 have HF := Lib.hid hf
 clear hf h
 obtain ⟨k0, k1, k2, k3, k4, k5, kf, kl⟩ := rbus_facts T.rbus
 go_enter Tryz.func86, Tryz.ntmps86
 go_wp2_with fail
 refine (chip_any 160 (by decide) w).mono ?_
 rintro e x1 ⟨rfl, rfl⟩
 rw [HCH.out]
 go_wp2_with fail
 refine (disk_any 160 (by decide) w).mono ?_
 rintro e x2 ⟨rfl, rfl⟩
 rw [HDI.out]
 go_wp2_with fail
 refine (T.act 1 rfl (rpic_in 2)).mono ?_
 rintro e w1 ⟨rfl, T1⟩
 clear k0 k1 k2 k3 k4 k5 kf kl
 go_wp2_with fail
 go_ret
 exact ⟨rfl, T1⟩
theorem rin_161 (h : B.ok) (hf : B.fits 2000000) (T : Hp w0 A0 w (rbusObs b pm pp pt pu pi B)) (hg : B.R.closed = !B.g)  :
    Calls Tryz.prog 86 #[.pointer (some ⟨b, 0, none⟩), .int .u16 161] w fun e w' => e = .returned (.int .u8 (B.in1V 0 3)) ∧ Hp w0 A0 w' (rbusObs b pm pp pt pu pi (B.in1S 0 3)) := by
 have HCH := Lib.hid (show chipV 161 = 3 by decide)
 have HDI := Lib.hid (show diskV 161 = -1 by decide)
 have HF := Lib.hid hf
 clear hf h
 obtain ⟨k0, k1, k2, k3, k4, k5, kf, kl⟩ := rbus_facts T.rbus
 go_enter Tryz.func86, Tryz.ntmps86
 go_wp2_with fail
 refine (chip_any 161 (by decide) w).mono ?_
 rintro e x1 ⟨rfl, rfl⟩
 rw [HCH.out]
 go_wp2_with fail
 refine (disk_any 161 (by decide) w).mono ?_
 rintro e x2 ⟨rfl, rfl⟩
 rw [HDI.out]
 go_wp2_with fail
 refine (T.act 1 rfl (rpic_in 3)).mono ?_
 rintro e w1 ⟨rfl, T1⟩
 clear k0 k1 k2 k3 k4 k5 kf kl
 go_wp2_with fail
 go_ret
 exact ⟨rfl, T1⟩
theorem rin_64 (h : B.ok) (hf : B.fits 2000000) (T : Hp w0 A0 w (rbusObs b pm pp pt pu pi B)) (hg : B.R.closed = !B.g)  :
    Calls Tryz.prog 86 #[.pointer (some ⟨b, 0, none⟩), .int .u16 64] w fun e w' => e = .returned (.int .u8 (B.in1V 1 0)) ∧ Hp w0 A0 w' (rbusObs b pm pp pt pu pi (B.in1S 1 0)) := by
 have HCH := Lib.hid (show chipV 64 = -1 by decide)
 have HDI := Lib.hid (show diskV 64 = -1 by decide)
 have HF := Lib.hid hf
 have ht : (B.t : Int) < 18446744073709551616 := by have := h.t; omega
 have HT := Lib.hid (And.intro h.T ht)
 clear h hf
 obtain ⟨k0, k1, k2, k3, k4, k5, kf, kl⟩ := rbus_facts T.rbus
 go_enter Tryz.func86, Tryz.ntmps86
 go_wp2_with fail
 refine (chip_any 64 (by decide) w).mono ?_
 rintro e x1 ⟨rfl, rfl⟩
 rw [HCH.out]
 go_wp2_with fail
 refine (disk_any 64 (by decide) w).mono ?_
 rintro e x2 ⟨rfl, rfl⟩
 rw [HDI.out]
 go_upto_region 7 with (fail)
 have T0 := Lib.hid T.drew
 clear T
 go_region_held3 (fun w' => w'.cell? ⟨b, 1, none⟩ = some (.pointer (some ⟨pp, 0, none⟩)) ∧ w'.cell? ⟨b, 2, none⟩ = some (.pointer (some ⟨pt, 0, none⟩)) ∧ w'.cell? ⟨b, 5, none⟩ = some (.int .u64 (B.t : Nat))) (first | exact Hp.r125 (B := B) T0.out | exact Hp.r125 (B := B.in1S 1 0) T1 | go_keep) (first | (go_at_call 120; refine (T0.out.act 2 rfl (rtm_in B.T HT.out.1 HT.out.2 0 (by decide))).mono ?_; rintro e w1 ⟨rfl, T1⟩))
 clear k0 k1 k2 k3 k4 k5 kf kl
 go_wp2_with fail
 go_ret
 exact ⟨rfl, T1⟩
theorem rin_65 (h : B.ok) (hf : B.fits 2000000) (T : Hp w0 A0 w (rbusObs b pm pp pt pu pi B)) (hg : B.R.closed = !B.g)  :
    Calls Tryz.prog 86 #[.pointer (some ⟨b, 0, none⟩), .int .u16 65] w fun e w' => e = .returned (.int .u8 (B.in1V 1 1)) ∧ Hp w0 A0 w' (rbusObs b pm pp pt pu pi (B.in1S 1 1)) := by
 have HCH := Lib.hid (show chipV 65 = -1 by decide)
 have HDI := Lib.hid (show diskV 65 = -1 by decide)
 have HF := Lib.hid hf
 have ht : (B.t : Int) < 18446744073709551616 := by have := h.t; omega
 have HT := Lib.hid (And.intro h.T ht)
 clear h hf
 obtain ⟨k0, k1, k2, k3, k4, k5, kf, kl⟩ := rbus_facts T.rbus
 go_enter Tryz.func86, Tryz.ntmps86
 go_wp2_with fail
 refine (chip_any 65 (by decide) w).mono ?_
 rintro e x1 ⟨rfl, rfl⟩
 rw [HCH.out]
 go_wp2_with fail
 refine (disk_any 65 (by decide) w).mono ?_
 rintro e x2 ⟨rfl, rfl⟩
 rw [HDI.out]
 go_upto_region 7 with (fail)
 have T0 := Lib.hid T.drew
 clear T
 go_region_held3 (fun w' => w'.cell? ⟨b, 1, none⟩ = some (.pointer (some ⟨pp, 0, none⟩)) ∧ w'.cell? ⟨b, 2, none⟩ = some (.pointer (some ⟨pt, 0, none⟩)) ∧ w'.cell? ⟨b, 5, none⟩ = some (.int .u64 (B.t : Nat))) (first | exact Hp.r125 (B := B) T0.out | exact Hp.r125 (B := B.in1S 1 1) T1 | go_keep) (first | (go_at_call 120; refine (T0.out.act 2 rfl (rtm_in B.T HT.out.1 HT.out.2 1 (by decide))).mono ?_; rintro e w1 ⟨rfl, T1⟩))
 clear k0 k1 k2 k3 k4 k5 kf kl
 go_wp2_with fail
 go_ret
 exact ⟨rfl, T1⟩
theorem rin_66 (h : B.ok) (hf : B.fits 2000000) (T : Hp w0 A0 w (rbusObs b pm pp pt pu pi B)) (hg : B.R.closed = !B.g)  :
    Calls Tryz.prog 86 #[.pointer (some ⟨b, 0, none⟩), .int .u16 66] w fun e w' => e = .returned (.int .u8 (B.in1V 1 2)) ∧ Hp w0 A0 w' (rbusObs b pm pp pt pu pi (B.in1S 1 2)) := by
 have HCH := Lib.hid (show chipV 66 = -1 by decide)
 have HDI := Lib.hid (show diskV 66 = -1 by decide)
 have HF := Lib.hid hf
 have ht : (B.t : Int) < 18446744073709551616 := by have := h.t; omega
 have HT := Lib.hid (And.intro h.T ht)
 clear h hf
 obtain ⟨k0, k1, k2, k3, k4, k5, kf, kl⟩ := rbus_facts T.rbus
 go_enter Tryz.func86, Tryz.ntmps86
 go_wp2_with fail
 refine (chip_any 66 (by decide) w).mono ?_
 rintro e x1 ⟨rfl, rfl⟩
 rw [HCH.out]
 go_wp2_with fail
 refine (disk_any 66 (by decide) w).mono ?_
 rintro e x2 ⟨rfl, rfl⟩
 rw [HDI.out]
 go_upto_region 7 with (fail)
 have T0 := Lib.hid T.drew
 clear T
 go_region_held3 (fun w' => w'.cell? ⟨b, 1, none⟩ = some (.pointer (some ⟨pp, 0, none⟩)) ∧ w'.cell? ⟨b, 2, none⟩ = some (.pointer (some ⟨pt, 0, none⟩)) ∧ w'.cell? ⟨b, 5, none⟩ = some (.int .u64 (B.t : Nat))) (first | exact Hp.r125 (B := B) T0.out | exact Hp.r125 (B := B.in1S 1 2) T1 | go_keep) (first | (go_at_call 120; refine (T0.out.act 2 rfl (rtm_in B.T HT.out.1 HT.out.2 2 (by decide))).mono ?_; rintro e w1 ⟨rfl, T1⟩))
 clear k0 k1 k2 k3 k4 k5 kf kl
 go_wp2_with fail
 go_ret
 exact ⟨rfl, T1⟩
theorem rin_67 (h : B.ok) (hf : B.fits 2000000) (T : Hp w0 A0 w (rbusObs b pm pp pt pu pi B)) (hg : B.R.closed = !B.g)  :
    Calls Tryz.prog 86 #[.pointer (some ⟨b, 0, none⟩), .int .u16 67] w fun e w' => e = .returned (.int .u8 (B.in1V 1 3)) ∧ Hp w0 A0 w' (rbusObs b pm pp pt pu pi (B.in1S 1 3)) := by
 have HCH := Lib.hid (show chipV 67 = -1 by decide)
 have HDI := Lib.hid (show diskV 67 = -1 by decide)
 have HF := Lib.hid hf
 have ht : (B.t : Int) < 18446744073709551616 := by have := h.t; omega
 have HT := Lib.hid (And.intro h.T ht)
 clear h hf
 obtain ⟨k0, k1, k2, k3, k4, k5, kf, kl⟩ := rbus_facts T.rbus
 go_enter Tryz.func86, Tryz.ntmps86
 go_wp2_with fail
 refine (chip_any 67 (by decide) w).mono ?_
 rintro e x1 ⟨rfl, rfl⟩
 rw [HCH.out]
 go_wp2_with fail
 refine (disk_any 67 (by decide) w).mono ?_
 rintro e x2 ⟨rfl, rfl⟩
 rw [HDI.out]
 go_upto_region 7 with (fail)
 have T0 := Lib.hid T.drew
 clear T
 go_region_held3 (fun w' => w'.cell? ⟨b, 1, none⟩ = some (.pointer (some ⟨pp, 0, none⟩)) ∧ w'.cell? ⟨b, 2, none⟩ = some (.pointer (some ⟨pt, 0, none⟩)) ∧ w'.cell? ⟨b, 5, none⟩ = some (.int .u64 (B.t : Nat))) (first | exact Hp.r125 (B := B) T0.out | exact Hp.r125 (B := B.in1S 1 3) T1 | go_keep) (first | (go_at_call 120; refine (T0.out.act 2 rfl (rtm_in B.T HT.out.1 HT.out.2 3 (by decide))).mono ?_; rintro e w1 ⟨rfl, T1⟩))
 clear k0 k1 k2 k3 k4 k5 kf kl
 go_wp2_with fail
 go_ret
 exact ⟨rfl, T1⟩
theorem rin_1016 (h : B.ok) (hf : B.fits 2000000) (T : Hp w0 A0 w (rbusObs b pm pp pt pu pi B)) (hg : B.R.closed = !B.g)  :
    Calls Tryz.prog 86 #[.pointer (some ⟨b, 0, none⟩), .int .u16 1016] w fun e w' => e = .returned (.int .u8 (B.in1V 2 0)) ∧ Hp w0 A0 w' (rbusObs b pm pp pt pu pi (B.in1S 2 0)) := by
 have HCH := Lib.hid (show chipV 1016 = -1 by decide)
 have HDI := Lib.hid (show diskV 1016 = -1 by decide)
 have HF := Lib.hid hf
 clear hf h
 obtain ⟨k0, k1, k2, k3, k4, k5, kf, kl⟩ := rbus_facts T.rbus
 go_enter Tryz.func86, Tryz.ntmps86
 go_wp2_with fail
 refine (chip_any 1016 (by decide) w).mono ?_
 rintro e x1 ⟨rfl, rfl⟩
 rw [HCH.out]
 go_wp2_with fail
 refine (disk_any 1016 (by decide) w).mono ?_
 rintro e x2 ⟨rfl, rfl⟩
 rw [HDI.out]
 go_wp2_with fail
 refine (T.act 3 rfl (ruart_in 0)).mono ?_
 rintro e w1 ⟨rfl, T1⟩
 clear k0 k1 k2 k3 k4 k5 kf kl
 go_wp2_with fail
 go_ret
 exact ⟨rfl, T1⟩
theorem rin_1017 (h : B.ok) (hf : B.fits 2000000) (T : Hp w0 A0 w (rbusObs b pm pp pt pu pi B)) (hg : B.R.closed = !B.g)  :
    Calls Tryz.prog 86 #[.pointer (some ⟨b, 0, none⟩), .int .u16 1017] w fun e w' => e = .returned (.int .u8 (B.in1V 2 1)) ∧ Hp w0 A0 w' (rbusObs b pm pp pt pu pi (B.in1S 2 1)) := by
 have HCH := Lib.hid (show chipV 1017 = -1 by decide)
 have HDI := Lib.hid (show diskV 1017 = -1 by decide)
 have HF := Lib.hid hf
 clear hf h
 obtain ⟨k0, k1, k2, k3, k4, k5, kf, kl⟩ := rbus_facts T.rbus
 go_enter Tryz.func86, Tryz.ntmps86
 go_wp2_with fail
 refine (chip_any 1017 (by decide) w).mono ?_
 rintro e x1 ⟨rfl, rfl⟩
 rw [HCH.out]
 go_wp2_with fail
 refine (disk_any 1017 (by decide) w).mono ?_
 rintro e x2 ⟨rfl, rfl⟩
 rw [HDI.out]
 go_wp2_with fail
 refine (T.act 3 rfl (ruart_in 1)).mono ?_
 rintro e w1 ⟨rfl, T1⟩
 clear k0 k1 k2 k3 k4 k5 kf kl
 go_wp2_with fail
 go_ret
 exact ⟨rfl, T1⟩
theorem rin_1018 (h : B.ok) (hf : B.fits 2000000) (T : Hp w0 A0 w (rbusObs b pm pp pt pu pi B)) (hg : B.R.closed = !B.g)  :
    Calls Tryz.prog 86 #[.pointer (some ⟨b, 0, none⟩), .int .u16 1018] w fun e w' => e = .returned (.int .u8 (B.in1V 2 2)) ∧ Hp w0 A0 w' (rbusObs b pm pp pt pu pi (B.in1S 2 2)) := by
 have HCH := Lib.hid (show chipV 1018 = -1 by decide)
 have HDI := Lib.hid (show diskV 1018 = -1 by decide)
 have HF := Lib.hid hf
 clear hf h
 obtain ⟨k0, k1, k2, k3, k4, k5, kf, kl⟩ := rbus_facts T.rbus
 go_enter Tryz.func86, Tryz.ntmps86
 go_wp2_with fail
 refine (chip_any 1018 (by decide) w).mono ?_
 rintro e x1 ⟨rfl, rfl⟩
 rw [HCH.out]
 go_wp2_with fail
 refine (disk_any 1018 (by decide) w).mono ?_
 rintro e x2 ⟨rfl, rfl⟩
 rw [HDI.out]
 go_wp2_with fail
 refine (T.act 3 rfl (ruart_in 2)).mono ?_
 rintro e w1 ⟨rfl, T1⟩
 clear k0 k1 k2 k3 k4 k5 kf kl
 go_wp2_with fail
 go_ret
 exact ⟨rfl, T1⟩
theorem rin_1019 (h : B.ok) (hf : B.fits 2000000) (T : Hp w0 A0 w (rbusObs b pm pp pt pu pi B)) (hg : B.R.closed = !B.g)  :
    Calls Tryz.prog 86 #[.pointer (some ⟨b, 0, none⟩), .int .u16 1019] w fun e w' => e = .returned (.int .u8 (B.in1V 2 3)) ∧ Hp w0 A0 w' (rbusObs b pm pp pt pu pi (B.in1S 2 3)) := by
 have HCH := Lib.hid (show chipV 1019 = -1 by decide)
 have HDI := Lib.hid (show diskV 1019 = -1 by decide)
 have HF := Lib.hid hf
 clear hf h
 obtain ⟨k0, k1, k2, k3, k4, k5, kf, kl⟩ := rbus_facts T.rbus
 go_enter Tryz.func86, Tryz.ntmps86
 go_wp2_with fail
 refine (chip_any 1019 (by decide) w).mono ?_
 rintro e x1 ⟨rfl, rfl⟩
 rw [HCH.out]
 go_wp2_with fail
 refine (disk_any 1019 (by decide) w).mono ?_
 rintro e x2 ⟨rfl, rfl⟩
 rw [HDI.out]
 go_wp2_with fail
 refine (T.act 3 rfl (ruart_in 3)).mono ?_
 rintro e w1 ⟨rfl, T1⟩
 clear k0 k1 k2 k3 k4 k5 kf kl
 go_wp2_with fail
 go_ret
 exact ⟨rfl, T1⟩
theorem rin_1020 (h : B.ok) (hf : B.fits 2000000) (T : Hp w0 A0 w (rbusObs b pm pp pt pu pi B)) (hg : B.R.closed = !B.g)  :
    Calls Tryz.prog 86 #[.pointer (some ⟨b, 0, none⟩), .int .u16 1020] w fun e w' => e = .returned (.int .u8 (B.in1V 2 4)) ∧ Hp w0 A0 w' (rbusObs b pm pp pt pu pi (B.in1S 2 4)) := by
 have HCH := Lib.hid (show chipV 1020 = -1 by decide)
 have HDI := Lib.hid (show diskV 1020 = -1 by decide)
 have HF := Lib.hid hf
 clear hf h
 obtain ⟨k0, k1, k2, k3, k4, k5, kf, kl⟩ := rbus_facts T.rbus
 go_enter Tryz.func86, Tryz.ntmps86
 go_wp2_with fail
 refine (chip_any 1020 (by decide) w).mono ?_
 rintro e x1 ⟨rfl, rfl⟩
 rw [HCH.out]
 go_wp2_with fail
 refine (disk_any 1020 (by decide) w).mono ?_
 rintro e x2 ⟨rfl, rfl⟩
 rw [HDI.out]
 go_wp2_with fail
 refine (T.act 3 rfl (ruart_in 4)).mono ?_
 rintro e w1 ⟨rfl, T1⟩
 clear k0 k1 k2 k3 k4 k5 kf kl
 go_wp2_with fail
 go_ret
 exact ⟨rfl, T1⟩
theorem rin_1021 (h : B.ok) (hf : B.fits 2000000) (T : Hp w0 A0 w (rbusObs b pm pp pt pu pi B)) (hg : B.R.closed = !B.g)  :
    Calls Tryz.prog 86 #[.pointer (some ⟨b, 0, none⟩), .int .u16 1021] w fun e w' => e = .returned (.int .u8 (B.in1V 2 5)) ∧ Hp w0 A0 w' (rbusObs b pm pp pt pu pi (B.in1S 2 5)) := by
 have HCH := Lib.hid (show chipV 1021 = -1 by decide)
 have HDI := Lib.hid (show diskV 1021 = -1 by decide)
 have HF := Lib.hid hf
 clear hf h
 obtain ⟨k0, k1, k2, k3, k4, k5, kf, kl⟩ := rbus_facts T.rbus
 go_enter Tryz.func86, Tryz.ntmps86
 go_wp2_with fail
 refine (chip_any 1021 (by decide) w).mono ?_
 rintro e x1 ⟨rfl, rfl⟩
 rw [HCH.out]
 go_wp2_with fail
 refine (disk_any 1021 (by decide) w).mono ?_
 rintro e x2 ⟨rfl, rfl⟩
 rw [HDI.out]
 go_wp2_with fail
 refine (T.act 3 rfl (ruart_in 5)).mono ?_
 rintro e w1 ⟨rfl, T1⟩
 clear k0 k1 k2 k3 k4 k5 kf kl
 go_wp2_with fail
 go_ret
 exact ⟨rfl, T1⟩
theorem rin_1022 (h : B.ok) (hf : B.fits 2000000) (T : Hp w0 A0 w (rbusObs b pm pp pt pu pi B)) (hg : B.R.closed = !B.g)  :
    Calls Tryz.prog 86 #[.pointer (some ⟨b, 0, none⟩), .int .u16 1022] w fun e w' => e = .returned (.int .u8 (B.in1V 2 6)) ∧ Hp w0 A0 w' (rbusObs b pm pp pt pu pi (B.in1S 2 6)) := by
 have HCH := Lib.hid (show chipV 1022 = -1 by decide)
 have HDI := Lib.hid (show diskV 1022 = -1 by decide)
 have HF := Lib.hid hf
 clear hf h
 obtain ⟨k0, k1, k2, k3, k4, k5, kf, kl⟩ := rbus_facts T.rbus
 go_enter Tryz.func86, Tryz.ntmps86
 go_wp2_with fail
 refine (chip_any 1022 (by decide) w).mono ?_
 rintro e x1 ⟨rfl, rfl⟩
 rw [HCH.out]
 go_wp2_with fail
 refine (disk_any 1022 (by decide) w).mono ?_
 rintro e x2 ⟨rfl, rfl⟩
 rw [HDI.out]
 go_wp2_with fail
 refine (T.act 3 rfl (ruart_in 6)).mono ?_
 rintro e w1 ⟨rfl, T1⟩
 clear k0 k1 k2 k3 k4 k5 kf kl
 go_wp2_with fail
 go_ret
 exact ⟨rfl, T1⟩
theorem rin_1023 (h : B.ok) (hf : B.fits 2000000) (T : Hp w0 A0 w (rbusObs b pm pp pt pu pi B)) (hg : B.R.closed = !B.g)  :
    Calls Tryz.prog 86 #[.pointer (some ⟨b, 0, none⟩), .int .u16 1023] w fun e w' => e = .returned (.int .u8 (B.in1V 2 7)) ∧ Hp w0 A0 w' (rbusObs b pm pp pt pu pi (B.in1S 2 7)) := by
 have HCH := Lib.hid (show chipV 1023 = -1 by decide)
 have HDI := Lib.hid (show diskV 1023 = -1 by decide)
 have HF := Lib.hid hf
 clear hf h
 obtain ⟨k0, k1, k2, k3, k4, k5, kf, kl⟩ := rbus_facts T.rbus
 go_enter Tryz.func86, Tryz.ntmps86
 go_wp2_with fail
 refine (chip_any 1023 (by decide) w).mono ?_
 rintro e x1 ⟨rfl, rfl⟩
 rw [HCH.out]
 go_wp2_with fail
 refine (disk_any 1023 (by decide) w).mono ?_
 rintro e x2 ⟨rfl, rfl⟩
 rw [HDI.out]
 go_wp2_with fail
 refine (T.act 3 rfl (ruart_in 7)).mono ?_
 rintro e w1 ⟨rfl, T1⟩
 clear k0 k1 k2 k3 k4 k5 kf kl
 go_wp2_with fail
 go_ret
 exact ⟨rfl, T1⟩
theorem rin_496 (h : B.ok) (hf : B.fits 2000000) (T : Hp w0 A0 w (rbusObs b pm pp pt pu pi B)) (hg : B.R.closed = !B.g)  :
    Calls Tryz.prog 86 #[.pointer (some ⟨b, 0, none⟩), .int .u16 496] w fun e w' => e = .returned (.int .u8 (B.in1V 3 0)) ∧ Hp w0 A0 w' (rbusObs b pm pp pt pu pi (B.in1S 3 0)) := by
 have HCH := Lib.hid (show chipV 496 = -1 by decide)
 have HDI := Lib.hid (show diskV 496 = 0 by decide)
 have HF := Lib.hid hf
 clear hf h
 obtain ⟨k0, k1, k2, k3, k4, k5, kf, kl⟩ := rbus_facts T.rbus
 go_enter Tryz.func86, Tryz.ntmps86
 go_wp2_with fail
 refine (chip_any 496 (by decide) w).mono ?_
 rintro e x1 ⟨rfl, rfl⟩
 rw [HCH.out]
 go_wp2_with fail
 refine (disk_any 496 (by decide) w).mono ?_
 rintro e x2 ⟨rfl, rfl⟩
 rw [HDI.out]
 go_wp2_with fail
 refine (T.act 4 rfl (ride_in 0 1)).mono ?_
 rintro e w1 ⟨rfl, T1⟩
 clear k0 k1 k2 k3 k4 k5 kf kl
 go_wp2_with fail
 go_ret
 exact ⟨rfl, T1⟩
theorem rin_497 (h : B.ok) (hf : B.fits 2000000) (T : Hp w0 A0 w (rbusObs b pm pp pt pu pi B)) (hg : B.R.closed = !B.g)  :
    Calls Tryz.prog 86 #[.pointer (some ⟨b, 0, none⟩), .int .u16 497] w fun e w' => e = .returned (.int .u8 (B.in1V 3 1)) ∧ Hp w0 A0 w' (rbusObs b pm pp pt pu pi (B.in1S 3 1)) := by
 have HCH := Lib.hid (show chipV 497 = -1 by decide)
 have HDI := Lib.hid (show diskV 497 = 1 by decide)
 have HF := Lib.hid hf
 clear hf h
 obtain ⟨k0, k1, k2, k3, k4, k5, kf, kl⟩ := rbus_facts T.rbus
 go_enter Tryz.func86, Tryz.ntmps86
 go_wp2_with fail
 refine (chip_any 497 (by decide) w).mono ?_
 rintro e x1 ⟨rfl, rfl⟩
 rw [HCH.out]
 go_wp2_with fail
 refine (disk_any 497 (by decide) w).mono ?_
 rintro e x2 ⟨rfl, rfl⟩
 rw [HDI.out]
 go_wp2_with fail
 refine (T.act 4 rfl (ride_in 1 1)).mono ?_
 rintro e w1 ⟨rfl, T1⟩
 clear k0 k1 k2 k3 k4 k5 kf kl
 go_wp2_with fail
 go_ret
 exact ⟨rfl, T1⟩
theorem rin_498 (h : B.ok) (hf : B.fits 2000000) (T : Hp w0 A0 w (rbusObs b pm pp pt pu pi B)) (hg : B.R.closed = !B.g)  :
    Calls Tryz.prog 86 #[.pointer (some ⟨b, 0, none⟩), .int .u16 498] w fun e w' => e = .returned (.int .u8 (B.in1V 3 2)) ∧ Hp w0 A0 w' (rbusObs b pm pp pt pu pi (B.in1S 3 2)) := by
 have HCH := Lib.hid (show chipV 498 = -1 by decide)
 have HDI := Lib.hid (show diskV 498 = 2 by decide)
 have HF := Lib.hid hf
 clear hf h
 obtain ⟨k0, k1, k2, k3, k4, k5, kf, kl⟩ := rbus_facts T.rbus
 go_enter Tryz.func86, Tryz.ntmps86
 go_wp2_with fail
 refine (chip_any 498 (by decide) w).mono ?_
 rintro e x1 ⟨rfl, rfl⟩
 rw [HCH.out]
 go_wp2_with fail
 refine (disk_any 498 (by decide) w).mono ?_
 rintro e x2 ⟨rfl, rfl⟩
 rw [HDI.out]
 go_wp2_with fail
 refine (T.act 4 rfl (ride_in 2 1)).mono ?_
 rintro e w1 ⟨rfl, T1⟩
 clear k0 k1 k2 k3 k4 k5 kf kl
 go_wp2_with fail
 go_ret
 exact ⟨rfl, T1⟩
theorem rin_499 (h : B.ok) (hf : B.fits 2000000) (T : Hp w0 A0 w (rbusObs b pm pp pt pu pi B)) (hg : B.R.closed = !B.g)  :
    Calls Tryz.prog 86 #[.pointer (some ⟨b, 0, none⟩), .int .u16 499] w fun e w' => e = .returned (.int .u8 (B.in1V 3 3)) ∧ Hp w0 A0 w' (rbusObs b pm pp pt pu pi (B.in1S 3 3)) := by
 have HCH := Lib.hid (show chipV 499 = -1 by decide)
 have HDI := Lib.hid (show diskV 499 = 3 by decide)
 have HF := Lib.hid hf
 clear hf h
 obtain ⟨k0, k1, k2, k3, k4, k5, kf, kl⟩ := rbus_facts T.rbus
 go_enter Tryz.func86, Tryz.ntmps86
 go_wp2_with fail
 refine (chip_any 499 (by decide) w).mono ?_
 rintro e x1 ⟨rfl, rfl⟩
 rw [HCH.out]
 go_wp2_with fail
 refine (disk_any 499 (by decide) w).mono ?_
 rintro e x2 ⟨rfl, rfl⟩
 rw [HDI.out]
 go_wp2_with fail
 refine (T.act 4 rfl (ride_in 3 1)).mono ?_
 rintro e w1 ⟨rfl, T1⟩
 clear k0 k1 k2 k3 k4 k5 kf kl
 go_wp2_with fail
 go_ret
 exact ⟨rfl, T1⟩
theorem rin_500 (h : B.ok) (hf : B.fits 2000000) (T : Hp w0 A0 w (rbusObs b pm pp pt pu pi B)) (hg : B.R.closed = !B.g)  :
    Calls Tryz.prog 86 #[.pointer (some ⟨b, 0, none⟩), .int .u16 500] w fun e w' => e = .returned (.int .u8 (B.in1V 3 4)) ∧ Hp w0 A0 w' (rbusObs b pm pp pt pu pi (B.in1S 3 4)) := by
 have HCH := Lib.hid (show chipV 500 = -1 by decide)
 have HDI := Lib.hid (show diskV 500 = 4 by decide)
 have HF := Lib.hid hf
 clear hf h
 obtain ⟨k0, k1, k2, k3, k4, k5, kf, kl⟩ := rbus_facts T.rbus
 go_enter Tryz.func86, Tryz.ntmps86
 go_wp2_with fail
 refine (chip_any 500 (by decide) w).mono ?_
 rintro e x1 ⟨rfl, rfl⟩
 rw [HCH.out]
 go_wp2_with fail
 refine (disk_any 500 (by decide) w).mono ?_
 rintro e x2 ⟨rfl, rfl⟩
 rw [HDI.out]
 go_wp2_with fail
 refine (T.act 4 rfl (ride_in 4 1)).mono ?_
 rintro e w1 ⟨rfl, T1⟩
 clear k0 k1 k2 k3 k4 k5 kf kl
 go_wp2_with fail
 go_ret
 exact ⟨rfl, T1⟩
theorem rin_501 (h : B.ok) (hf : B.fits 2000000) (T : Hp w0 A0 w (rbusObs b pm pp pt pu pi B)) (hg : B.R.closed = !B.g)  :
    Calls Tryz.prog 86 #[.pointer (some ⟨b, 0, none⟩), .int .u16 501] w fun e w' => e = .returned (.int .u8 (B.in1V 3 5)) ∧ Hp w0 A0 w' (rbusObs b pm pp pt pu pi (B.in1S 3 5)) := by
 have HCH := Lib.hid (show chipV 501 = -1 by decide)
 have HDI := Lib.hid (show diskV 501 = 5 by decide)
 have HF := Lib.hid hf
 clear hf h
 obtain ⟨k0, k1, k2, k3, k4, k5, kf, kl⟩ := rbus_facts T.rbus
 go_enter Tryz.func86, Tryz.ntmps86
 go_wp2_with fail
 refine (chip_any 501 (by decide) w).mono ?_
 rintro e x1 ⟨rfl, rfl⟩
 rw [HCH.out]
 go_wp2_with fail
 refine (disk_any 501 (by decide) w).mono ?_
 rintro e x2 ⟨rfl, rfl⟩
 rw [HDI.out]
 go_wp2_with fail
 refine (T.act 4 rfl (ride_in 5 1)).mono ?_
 rintro e w1 ⟨rfl, T1⟩
 clear k0 k1 k2 k3 k4 k5 kf kl
 go_wp2_with fail
 go_ret
 exact ⟨rfl, T1⟩
theorem rin_502 (h : B.ok) (hf : B.fits 2000000) (T : Hp w0 A0 w (rbusObs b pm pp pt pu pi B)) (hg : B.R.closed = !B.g)  :
    Calls Tryz.prog 86 #[.pointer (some ⟨b, 0, none⟩), .int .u16 502] w fun e w' => e = .returned (.int .u8 (B.in1V 3 6)) ∧ Hp w0 A0 w' (rbusObs b pm pp pt pu pi (B.in1S 3 6)) := by
 have HCH := Lib.hid (show chipV 502 = -1 by decide)
 have HDI := Lib.hid (show diskV 502 = 6 by decide)
 have HF := Lib.hid hf
 clear hf h
 obtain ⟨k0, k1, k2, k3, k4, k5, kf, kl⟩ := rbus_facts T.rbus
 go_enter Tryz.func86, Tryz.ntmps86
 go_wp2_with fail
 refine (chip_any 502 (by decide) w).mono ?_
 rintro e x1 ⟨rfl, rfl⟩
 rw [HCH.out]
 go_wp2_with fail
 refine (disk_any 502 (by decide) w).mono ?_
 rintro e x2 ⟨rfl, rfl⟩
 rw [HDI.out]
 go_wp2_with fail
 refine (T.act 4 rfl (ride_in 6 1)).mono ?_
 rintro e w1 ⟨rfl, T1⟩
 clear k0 k1 k2 k3 k4 k5 kf kl
 go_wp2_with fail
 go_ret
 exact ⟨rfl, T1⟩
theorem rin_503 (h : B.ok) (hf : B.fits 2000000) (T : Hp w0 A0 w (rbusObs b pm pp pt pu pi B)) (hg : B.R.closed = !B.g)  :
    Calls Tryz.prog 86 #[.pointer (some ⟨b, 0, none⟩), .int .u16 503] w fun e w' => e = .returned (.int .u8 (B.in1V 3 7)) ∧ Hp w0 A0 w' (rbusObs b pm pp pt pu pi (B.in1S 3 7)) := by
 have HCH := Lib.hid (show chipV 503 = -1 by decide)
 have HDI := Lib.hid (show diskV 503 = 7 by decide)
 have HF := Lib.hid hf
 clear hf h
 obtain ⟨k0, k1, k2, k3, k4, k5, kf, kl⟩ := rbus_facts T.rbus
 go_enter Tryz.func86, Tryz.ntmps86
 go_wp2_with fail
 refine (chip_any 503 (by decide) w).mono ?_
 rintro e x1 ⟨rfl, rfl⟩
 rw [HCH.out]
 go_wp2_with fail
 refine (disk_any 503 (by decide) w).mono ?_
 rintro e x2 ⟨rfl, rfl⟩
 rw [HDI.out]
 go_wp2_with fail
 refine (T.act 4 rfl (ride_in 7 1)).mono ?_
 rintro e w1 ⟨rfl, T1⟩
 clear k0 k1 k2 k3 k4 k5 kf kl
 go_wp2_with fail
 go_ret
 exact ⟨rfl, T1⟩
theorem rin_1014 (h : B.ok) (hf : B.fits 2000000) (T : Hp w0 A0 w (rbusObs b pm pp pt pu pi B)) (hg : B.R.closed = !B.g)  :
    Calls Tryz.prog 86 #[.pointer (some ⟨b, 0, none⟩), .int .u16 1014] w fun e w' => e = .returned (.int .u8 (B.in1V 3 8)) ∧ Hp w0 A0 w' (rbusObs b pm pp pt pu pi (B.in1S 3 8)) := by
 have HCH := Lib.hid (show chipV 1014 = -1 by decide)
 have HDI := Lib.hid (show diskV 1014 = 8 by decide)
 have HF := Lib.hid hf
 clear hf h
 obtain ⟨k0, k1, k2, k3, k4, k5, kf, kl⟩ := rbus_facts T.rbus
 go_enter Tryz.func86, Tryz.ntmps86
 go_wp2_with fail
 refine (chip_any 1014 (by decide) w).mono ?_
 rintro e x1 ⟨rfl, rfl⟩
 rw [HCH.out]
 go_wp2_with fail
 refine (disk_any 1014 (by decide) w).mono ?_
 rintro e x2 ⟨rfl, rfl⟩
 rw [HDI.out]
 go_wp2_with fail
 refine (T.act 4 rfl (ride_in 8 1)).mono ?_
 rintro e w1 ⟨rfl, T1⟩
 clear k0 k1 k2 k3 k4 k5 kf kl
 go_wp2_with fail
 go_ret
 exact ⟨rfl, T1⟩
theorem rin_146_true (h : B.ok) (hf : B.fits 2000000) (T : Hp w0 A0 w (rbusObs b pm pp pt pu pi B)) (hg : B.R.closed = !B.g) (hgb : B.g = true)  :
    Calls Tryz.prog 86 #[.pointer (some ⟨b, 0, none⟩), .int .u16 146] w fun e w' => e = .returned (.int .u8 2) ∧ Hp w0 A0 w' (rbusObs b pm pp pt pu pi (B.in1S 4 0)) := by
 have HCH := Lib.hid (show chipV 146 = -1 by decide)
 have HDI := Lib.hid (show diskV 146 = -1 by decide)
 have HF := Lib.hid hf
 have hcl : B.R.closed = false := by rw [hg, hgb]; rfl
 clear hf h
 obtain ⟨k0, k1, k2, k3, k4, k5, kf, kl⟩ := rbus_facts T.rbus
 go_enter Tryz.func86, Tryz.ntmps86
 go_wp2_with fail
 refine (chip_any 146 (by decide) w).mono ?_
 rintro e x1 ⟨rfl, rfl⟩
 rw [HCH.out]
 go_wp2_with fail
 refine (disk_any 146 (by decide) w).mono ?_
 rintro e x2 ⟨rfl, rfl⟩
 rw [HDI.out]
 obtain ⟨c4, cf4, cl4⟩ := T.ref4 5 rfl
 rw [hcl] at c4
 go_wp2_with fail
 go_ret
 exact ⟨rfl, T⟩
theorem rin_146_false (h : B.ok) (hf : B.fits 2000000) (T : Hp w0 A0 w (rbusObs b pm pp pt pu pi B)) (hg : B.R.closed = !B.g) (hgb : B.g = false)  :
    Calls Tryz.prog 86 #[.pointer (some ⟨b, 0, none⟩), .int .u16 146] w fun e w' => e = .returned (.int .u8 0) ∧ Hp w0 A0 w' (rbusObs b pm pp pt pu pi (B.in1S 4 0)) := by
 have HCH := Lib.hid (show chipV 146 = -1 by decide)
 have HDI := Lib.hid (show diskV 146 = -1 by decide)
 have HF := Lib.hid hf
 have hcl : B.R.closed = true := by rw [hg, hgb]; rfl
 clear hf h
 obtain ⟨k0, k1, k2, k3, k4, k5, kf, kl⟩ := rbus_facts T.rbus
 go_enter Tryz.func86, Tryz.ntmps86
 go_wp2_with fail
 refine (chip_any 146 (by decide) w).mono ?_
 rintro e x1 ⟨rfl, rfl⟩
 rw [HCH.out]
 go_wp2_with fail
 refine (disk_any 146 (by decide) w).mono ?_
 rintro e x2 ⟨rfl, rfl⟩
 rw [HDI.out]
 obtain ⟨c4, cf4, cl4⟩ := T.ref4 5 rfl
 rw [hcl] at c4
 go_wp2_with fail
 go_ret
 exact ⟨rfl, T⟩
theorem rin_146 (h : B.ok) (hf : B.fits 2000000) (T : Hp w0 A0 w (rbusObs b pm pp pt pu pi B)) (hg : B.R.closed = !B.g) :
    Calls Tryz.prog 86 #[.pointer (some ⟨b, 0, none⟩), .int .u16 146] w fun e w' => e = .returned (.int .u8 (B.in1V 4 0)) ∧ Hp w0 A0 w' (rbusObs b pm pp pt pu pi (B.in1S 4 0)) := by
 show Calls _ _ _ _ fun e w' => e = .returned (.int .u8 (if B.g then 2 else 0)) ∧ _
 cases hgb : B.g
 ·exact rin_146_false h hf T hg hgb
 ·exact rin_146_true h hf T hg hgb
theorem rin_lo (h : B.ok) (hf : B.fits 2000000) (T : Hp w0 A0 w (rbusObs b pm pp pt pu pi B)) (hg : B.R.closed = !B.g) (p : Nat) (hp : p < 65536) (hd : dev p = none) (hr : p < 64)  :
    Calls Tryz.prog 86 #[.pointer (some ⟨b, 0, none⟩), .int .u16 (p : Nat)] w fun e w' => e = .returned (.int .u8 (255)) ∧ Hp w0 A0 w' (rbusObs b pm pp pt pu pi (B)) := by
 have HCH := Lib.hid (show chipV p = -1 by exact (dev_no hd).1)
 have HDI := Lib.hid (show diskV p = -1 by exact (dev_no hd).2.1)
 have HF := Lib.hid hf
 have a1 : ¬ ((64 : Int) ≤ p) := by omega
 have a3 : ¬ ((1016 : Int) ≤ p) := by omega
 have a4 : ((p : Int) == 146) = false := by have := (dev_no hd).2.2; simp; omega
 clear hd
 clear hf h
 obtain ⟨k0, k1, k2, k3, k4, k5, kf, kl⟩ := rbus_facts T.rbus
 go_enter Tryz.func86, Tryz.ntmps86
 go_wp2_with fail
 refine (chip_any p (by omega) w).mono ?_
 rintro e x1 ⟨rfl, rfl⟩
 rw [HCH.out]
 go_wp2_with fail
 refine (disk_any p (by omega) w).mono ?_
 rintro e x2 ⟨rfl, rfl⟩
 rw [HDI.out]
 go_wp2_with fail
 go_ret
 exact ⟨rfl, T⟩
theorem rin_mid (h : B.ok) (hf : B.fits 2000000) (T : Hp w0 A0 w (rbusObs b pm pp pt pu pi B)) (hg : B.R.closed = !B.g) (p : Nat) (hp : p < 65536) (hd : dev p = none) (hr : 68 ≤ p ∧ p < 1016)  :
    Calls Tryz.prog 86 #[.pointer (some ⟨b, 0, none⟩), .int .u16 (p : Nat)] w fun e w' => e = .returned (.int .u8 (255)) ∧ Hp w0 A0 w' (rbusObs b pm pp pt pu pi (B)) := by
 have HCH := Lib.hid (show chipV p = -1 by exact (dev_no hd).1)
 have HDI := Lib.hid (show diskV p = -1 by exact (dev_no hd).2.1)
 have HF := Lib.hid hf
 have a1 : (64 : Int) ≤ p := by omega
 have a2 : ¬ ((p : Int) < 68) := by omega
 have a3 : ¬ ((1016 : Int) ≤ p) := by omega
 have a4 : ((p : Int) == 146) = false := by have := (dev_no hd).2.2; simp; omega
 clear hd
 clear hf h
 obtain ⟨k0, k1, k2, k3, k4, k5, kf, kl⟩ := rbus_facts T.rbus
 go_enter Tryz.func86, Tryz.ntmps86
 go_wp2_with fail
 refine (chip_any p (by omega) w).mono ?_
 rintro e x1 ⟨rfl, rfl⟩
 rw [HCH.out]
 go_wp2_with fail
 refine (disk_any p (by omega) w).mono ?_
 rintro e x2 ⟨rfl, rfl⟩
 rw [HDI.out]
 go_wp2_with fail
 go_ret
 exact ⟨rfl, T⟩
theorem rin_hi (h : B.ok) (hf : B.fits 2000000) (T : Hp w0 A0 w (rbusObs b pm pp pt pu pi B)) (hg : B.R.closed = !B.g) (p : Nat) (hp : p < 65536) (hd : dev p = none) (hr : 1024 ≤ p)  :
    Calls Tryz.prog 86 #[.pointer (some ⟨b, 0, none⟩), .int .u16 (p : Nat)] w fun e w' => e = .returned (.int .u8 (255)) ∧ Hp w0 A0 w' (rbusObs b pm pp pt pu pi (B)) := by
 have HCH := Lib.hid (show chipV p = -1 by exact (dev_no hd).1)
 have HDI := Lib.hid (show diskV p = -1 by exact (dev_no hd).2.1)
 have HF := Lib.hid hf
 have a1 : (64 : Int) ≤ p := by omega
 have a2 : ¬ ((p : Int) < 68) := by omega
 have a3 : (1016 : Int) ≤ p := by omega
 have a5 : ¬ ((p : Int) < 1024) := by omega
 have a4 : ((p : Int) == 146) = false := by have := (dev_no hd).2.2; simp; omega
 clear hd
 clear hf h
 obtain ⟨k0, k1, k2, k3, k4, k5, kf, kl⟩ := rbus_facts T.rbus
 go_enter Tryz.func86, Tryz.ntmps86
 go_wp2_with fail
 refine (chip_any p (by omega) w).mono ?_
 rintro e x1 ⟨rfl, rfl⟩
 rw [HCH.out]
 go_wp2_with fail
 refine (disk_any p (by omega) w).mono ?_
 rintro e x2 ⟨rfl, rfl⟩
 rw [HDI.out]
 go_wp2_with fail
 go_ret
 exact ⟨rfl, T⟩
end
end Go.Proofs.YtojmpdddfnkffaaGreat

/- bus: the document's bus: Out, In, Tick, Push, Ack. -/
namespace Go.Proofs.YtojmpdddfnkffaaGreat
open Go.RowKit Go.MapKept
set_option linter.unusedVariables false

theorem getB_log (S : Ide.Dk) : S.getB.log = S.log := by
 unfold Ide.Dk.getB
 (repeat' split)
 ·rfl
 ·rfl
 ·exact Ide.next_log _
 ·rfl
theorem getN_log (S : Ide.Dk) : ∀ k, (S.getN k).log = S.log
 | 0 => rfl
 | k + 1 => (getB_log _).trans (getN_log S k)
theorem inS_log (S : Ide.Dk) (r s : Int) : (S.inS r s).log = S.log := by
 unfold Ide.Dk.inS
 (repeat' split)
 ·rfl
 ·rfl
 ·exact getN_log _ _
 ·rfl
 ·rfl
theorem inS_sent (U : Uart.Ut) (n : Int) : (U.inS n).sent = U.sent := by
 unfold Uart.Ut.inS
 (repeat' split) <;> first | rfl | (unfold Uart.Ut.ask; (repeat' split) <;> rfl)
theorem in1_fits {B : Bs} {m : Nat} (h : B.fits m) (k n : Nat) : (B.in1S k n).fits m := by
 unfold Bs.in1S
 split
 ·exact h
 ·exact ⟨h.s, h.l⟩
 ·exact ⟨by show (B.u.inS n).sent.length ≤ m; rw [inS_sent]; exact h.s, h.l⟩
 ·exact ⟨h.s, by show (B.k.inS n 1).log.length ≤ m; rw [inS_log]; exact h.l⟩
 ·exact h
theorem insS_fits {B : Bs} {m : Nat} (h : B.fits m) (a : Nat) : ∀ k, (B.insS a k).fits m
 | 0 => h
 | k + 1 => by
  show (Bs.inPS _ _).fits m
  unfold Bs.inPS
  split
  ·exact insS_fits h a k
  ·exact in1_fits (insS_fits h a k) _ _
theorem dev_gap {p : Nat} (hd : dev p = none) : p < 64 ∨ (68 ≤ p ∧ p < 1016) ∨ 1024 ≤ p := by
 unfold dev at hd
 (repeat' split at hd)
 all_goals (first | omega | cases hd)
theorem dev_is {p k n : Nat} (hd : dev p = some (k, n)) : (k = 0 ∧ ((p = 32 ∧ n = 0) ∨ (p = 33 ∧ n = 1) ∨ (p = 160 ∧ n = 2) ∨ (p = 161 ∧ n = 3))) ∨ (k = 1 ∧ p = 64 + n ∧ n < 4) ∨ (k = 2 ∧ p = 1016 + n ∧ n < 8) ∨ (k = 3 ∧ ((p = 496 + n ∧ n < 8) ∨ (p = 1014 ∧ n = 8))) ∨ (k = 4 ∧ p = 146 ∧ n = 0) := by
 unfold dev at hd
 (repeat' split at hd)
 all_goals (first | (simp only [Option.some.injEq, Prod.mk.injEq] at hd; obtain ⟨rfl, rfl⟩ := hd; omega) | cases hd)
def Gt (B : Bs) : Prop := B.R.closed = !B.g
theorem gt_out1 {B : Bs} (h : Gt B) (k n v : Nat) : Gt (B.out1 k n v) := by
 unfold Bs.out1
 split
 ·exact h
 ·exact h
 ·exact h
 ·exact h
 ·exact rfl
theorem gt_outP {B : Bs} (h : Gt B) (p v : Nat) : Gt (B.outP p v) := by
 unfold Bs.outP
 split
 ·exact h
 ·exact gt_out1 h _ _ _
theorem gt_outs {B : Bs} (h : Gt B) (a v : Nat) : ∀ k, Gt (B.outs a v k)
 | 0 => h
 | k + 1 => gt_outP (gt_outs h a v k) _ _
theorem gt_wide {B : Bs} (h : Gt B) (a s v : Nat) : Gt (B.wide a s v) := by
 unfold Bs.wide
 split
 ·exact h
 ·exact gt_outs h a v s
theorem gt_in1 {B : Bs} (h : Gt B) (k n : Nat) : Gt (B.in1S k n) := by
 unfold Bs.in1S
 split <;> exact h
theorem gt_insS {B : Bs} (h : Gt B) (a : Nat) : ∀ k, Gt (B.insS a k)
 | 0 => h
 | k + 1 => by
  show Gt (Bs.inPS _ _)
  unfold Bs.inPS
  split
  ·exact gt_insS h a k
  ·exact gt_in1 (gt_insS h a k) _ _
theorem gt_wideS {B : Bs} (h : Gt B) (a s : Nat) : Gt (B.wideS a s) := by
 unfold Bs.wideS
 split
 ·exact h
 ·exact gt_insS h a s
section
variable {b pp pt pu pi pm : Nat} {B : Bs} {w0 w : World} {A0 : Nat → Prop}
theorem routP_hp (h : B.ok) (hf : B.fits 2000000) (T : Hp w0 A0 w (rbusObs b pm pp pt pu pi B)) (p v : Nat) (hp : p < 65536) (hv : v < 256) :
    Calls Tryz.prog 84 #[.pointer (some ⟨b, 0, none⟩), .int .u16 (p : Nat), .int .u8 (v : Nat)] w fun e w' => e = .returned (.tuple #[]) ∧ Hp w0 A0 w' (rbusObs b pm pp pt pu pi (B.outP p v)) := by
 unfold Bs.outP
 cases hd : dev p with
 | none =>
  rcases dev_gap hd with hr | hr | hr
  ·exact rout_lo h hf T v hv p hp hd hr
  ·exact rout_mid h hf T v hv p hp hd hr
  ·exact rout_hi h hf T v hv p hp hd hr
 | some x =>
  obtain ⟨k, n⟩ := x
  show Calls _ _ _ _ fun e w' => e = .returned (.tuple #[]) ∧ Hp w0 A0 w' (rbusObs b pm pp pt pu pi (B.out1 k n v))
  rcases dev_is hd with ⟨rfl, h0⟩ | ⟨rfl, h1, h2⟩ | ⟨rfl, h1, h2⟩ | ⟨rfl, h3⟩ | ⟨rfl, rfl, rfl⟩
  ·rcases h0 with ⟨rfl, rfl⟩ | ⟨rfl, rfl⟩ | ⟨rfl, rfl⟩ | ⟨rfl, rfl⟩
   ·exact rout_32 h hf T v hv
   ·exact rout_33 h hf T v hv
   ·exact rout_160 h hf T v hv
   ·exact rout_161 h hf T v hv
  ·subst h1; rcases (show n = 0 ∨ n = 1 ∨ n = 2 ∨ n = 3 by omega) with rfl | rfl | rfl | rfl
   ·exact rout_64 h hf T v hv
   ·exact rout_65 h hf T v hv
   ·exact rout_66 h hf T v hv
   ·exact rout_67 h hf T v hv
  ·subst h1; rcases (show n = 0 ∨ n = 1 ∨ n = 2 ∨ n = 3 ∨ n = 4 ∨ n = 5 ∨ n = 6 ∨ n = 7 by omega) with rfl | rfl | rfl | rfl | rfl | rfl | rfl | rfl
   ·exact rout_1016 h hf T v hv
   ·exact rout_1017 h hf T v hv
   ·exact rout_1018 h hf T v hv
   ·exact rout_1019 h hf T v hv
   ·exact rout_1020 h hf T v hv
   ·exact rout_1021 h hf T v hv
   ·exact rout_1022 h hf T v hv
   ·exact rout_1023 h hf T v hv
  ·rcases h3 with ⟨h1, h2⟩ | ⟨rfl, rfl⟩
   ·subst h1; rcases (show n = 0 ∨ n = 1 ∨ n = 2 ∨ n = 3 ∨ n = 4 ∨ n = 5 ∨ n = 6 ∨ n = 7 by omega) with rfl | rfl | rfl | rfl | rfl | rfl | rfl | rfl
    ·exact rout_496 h hf T v hv
    ·exact rout_497 h hf T v hv
    ·exact rout_498 h hf T v hv
    ·exact rout_499 h hf T v hv
    ·exact rout_500 h hf T v hv
    ·exact rout_501 h hf T v hv
    ·exact rout_502 h hf T v hv
    ·exact rout_503 h hf T v hv
   ·exact rout_1014 h hf T v hv
  ·exact rout_146 h hf T v hv
theorem Hp.roks (T : Hp w0 A0 w (rbusObs b pm pp pt pu pi B)) : Oks B := by
 obtain ⟨A1, v1, u1, h1, ok, -⟩ := T.get 1 rfl
 obtain ⟨A2, q, sv, h2, -⟩ := T.get 3 rfl
 obtain ⟨A3, ds, lv, h3, h4, -⟩ := T.get 4 rfl
 exact ⟨ok.1, ok.2, h2.ok, h4⟩
theorem rinP_hp (h : B.ok) (hf : B.fits 2000000) (hg : Gt B) (T : Hp w0 A0 w (rbusObs b pm pp pt pu pi B)) (p : Nat) (hp : p < 65536) :
    Calls Tryz.prog 86 #[.pointer (some ⟨b, 0, none⟩), .int .u16 (p : Nat)] w fun e w' => e = .returned (.int .u8 (B.inPV p : Nat)) ∧ Hp w0 A0 w' (rbusObs b pm pp pt pu pi (B.inPS p)) := by
 have hb := Bs.in1_bd T.roks
 unfold Bs.inPV Bs.inPS
 cases hd : dev p with
 | none =>
  rcases dev_gap hd with hr | hr | hr
  ·exact rin_lo h hf T hg p hp hd hr
  ·exact rin_mid h hf T hg p hp hd hr
  ·exact rin_hi h hf T hg p hp hd hr
 | some x =>
  obtain ⟨k, n⟩ := x
  show Calls _ _ _ _ fun e w' => e = .returned (.int .u8 (((B.in1V k n).toNat : Nat) : Int)) ∧ Hp w0 A0 w' (rbusObs b pm pp pt pu pi (B.in1S k n))
  rw [show (((B.in1V k n).toNat : Nat) : Int) = B.in1V k n by have := (hb k n).1; omega]
  rcases dev_is hd with ⟨rfl, h0⟩ | ⟨rfl, h1, h2⟩ | ⟨rfl, h1, h2⟩ | ⟨rfl, h3⟩ | ⟨rfl, rfl, rfl⟩
  ·rcases h0 with ⟨rfl, rfl⟩ | ⟨rfl, rfl⟩ | ⟨rfl, rfl⟩ | ⟨rfl, rfl⟩
   ·exact rin_32 h hf T hg
   ·exact rin_33 h hf T hg
   ·exact rin_160 h hf T hg
   ·exact rin_161 h hf T hg
  ·subst h1; rcases (show n = 0 ∨ n = 1 ∨ n = 2 ∨ n = 3 by omega) with rfl | rfl | rfl | rfl
   ·exact rin_64 h hf T hg
   ·exact rin_65 h hf T hg
   ·exact rin_66 h hf T hg
   ·exact rin_67 h hf T hg
  ·subst h1; rcases (show n = 0 ∨ n = 1 ∨ n = 2 ∨ n = 3 ∨ n = 4 ∨ n = 5 ∨ n = 6 ∨ n = 7 by omega) with rfl | rfl | rfl | rfl | rfl | rfl | rfl | rfl
   ·exact rin_1016 h hf T hg
   ·exact rin_1017 h hf T hg
   ·exact rin_1018 h hf T hg
   ·exact rin_1019 h hf T hg
   ·exact rin_1020 h hf T hg
   ·exact rin_1021 h hf T hg
   ·exact rin_1022 h hf T hg
   ·exact rin_1023 h hf T hg
  ·rcases h3 with ⟨h1, h2⟩ | ⟨rfl, rfl⟩
   ·subst h1; rcases (show n = 0 ∨ n = 1 ∨ n = 2 ∨ n = 3 ∨ n = 4 ∨ n = 5 ∨ n = 6 ∨ n = 7 by omega) with rfl | rfl | rfl | rfl | rfl | rfl | rfl | rfl
    ·exact rin_496 h hf T hg
    ·exact rin_497 h hf T hg
    ·exact rin_498 h hf T hg
    ·exact rin_499 h hf T hg
    ·exact rin_500 h hf T hg
    ·exact rin_501 h hf T hg
    ·exact rin_502 h hf T hg
    ·exact rin_503 h hf T hg
   ·exact rin_1014 h hf T hg
  ·exact rin_146 h hf T hg
theorem rlines_all (h : B.ok) (T : Hp w0 A0 w (rbusObs b pm pp pt pu pi B)) :
    Calls Tryz.prog 44 #[.pointer (some ⟨b, 0, none⟩)] w fun e w' => e = .returned (.tuple #[]) ∧ Hp w0 A0 w' (rbusObs b pm pp pt pu pi B.lines) :=
 rlines_hp (rline_all h.T h.t) T
theorem addb_at (V n k : Nat) (hV : V < 256 ^ k) (hn : n < 256) (hk : k < 4) : (((V : Int) + (n : Int) * 2 ^ (8 * k) % 4294967296) % 4294967296 = ((V + n * 256 ^ k : Nat) : Int)) ∧ V + n * 256 ^ k < 256 ^ (k + 1) := by
 have hp : (256 : Nat) ^ k = 2 ^ (8 * k) := by rw [Nat.pow_mul]
 have h1 : n * 256 ^ k ≤ 255 * 256 ^ k := Nat.mul_le_mul_right _ (by omega)
 have h2 : 256 ^ (k + 1) ≤ 256 ^ 4 := Nat.pow_le_pow_right (by decide) (by omega)
 have h3 : V + n * 256 ^ k < 256 ^ (k + 1) := by rw [Nat.pow_succ]; omega
 refine ⟨?_, h3⟩
 rw [show ((n : Nat) : Int) * 2 ^ (8 * k) = ((n * 256 ^ k : Nat) : Int) by rw [hp]; simp]
 omega
theorem wideV_496 (B : Bs) (s : Nat) : B.wideV 496 s = B.k.inV 0 s := if_pos rfl
theorem wideS_496 (B : Bs) (s : Nat) : B.wideS 496 s = { B with k := B.k.inS 0 s } := if_pos rfl
theorem key_at (a k : Nat) : ((a : Int) + (k : Int)) % 65536 = (((a + k) % 65536 : Nat) : Int) := by omega
theorem byte_mod (v k : Nat) : ((v / 256 ^ k % 256 : Nat) : Int) % 256 = ((v / 256 ^ k % 256 : Nat) : Int) := by omega
theorem shrb_at (v k : Nat) : ((v : Int) / 2 ^ (8 * k)).tmod 256 = ((v / 256 ^ k % 256 : Nat) : Int) := by
 have e : ((v : Int) / 2 ^ (8 * k)) = ((v / 256 ^ k : Nat) : Int) := by
  rw [show (256 : Nat) ^ k = 2 ^ (8 * k) by rw [Nat.pow_mul]]
  simp
 rw [e, Int.tmod_eq_emod_of_nonneg (Int.natCast_nonneg _)]
 omega
theorem rOut_hp (h : B.ok) (hf : B.fits 1000000) (T : Hp w0 A0 w (rbusObs b pm pp pt pu pi B)) (a s v : Nat) (ha : a < 65536) (hs : s = 1 ∨ s = 2 ∨ s = 4) (hv : v < 4294967296) :
    Calls Tryz.prog 45 #[.pointer (some ⟨b, 0, none⟩), .int .u16 (a : Nat), .int .i64 (s : Nat), .int .u32 (v : Nat)] w fun e w' => e = .returned (.int .i64 0) ∧ Hp w0 A0 w' (rbusObs b pm pp pt pu pi (B.out a s v)) := by
 have HO := Lib.hid h
 have HF := Lib.hid hf
 have s4 : s ≤ 4 := by omega
 have hT := Lib.hid T
 clear h hf T
 by_cases h9 : a = 496
 ·subst h9
  rcases hs with rfl | rfl | rfl
  ·obtain ⟨k0, k1, k2, k3, k4, k5, kf, kl⟩ := rbus_facts hT.out.rbus
   go_enter Tryz.func45, Tryz.ntmps45
   go_wp2_with fail
   refine (hT.out.act 4 rfl (ride_out 0 1 v hv (by have := HF.out.l; omega))).mono ?_
   rintro e w1 ⟨rfl, T1⟩
   clear k0 k1 k2 k3 k4 k5 kf kl
   have T2 := Lib.hid (show Hp w0 A0 w1 (rbusObs b pm pp pt pu pi (B.wide 496 1 v)) from T1)
   clear T1
   go_wp2_with fail
   refine (rlines_all (Bs.wide_ok HO.out 496 1 v).1 T2.out).mono ?_
   rintro e w2 ⟨rfl, T3⟩
   go_wp2_with fail
   go_ret
   exact ⟨rfl, T3⟩
  ·obtain ⟨k0, k1, k2, k3, k4, k5, kf, kl⟩ := rbus_facts hT.out.rbus
   go_enter Tryz.func45, Tryz.ntmps45
   go_wp2_with fail
   refine (hT.out.act 4 rfl (ride_out 0 2 v hv (by have := HF.out.l; omega))).mono ?_
   rintro e w1 ⟨rfl, T1⟩
   clear k0 k1 k2 k3 k4 k5 kf kl
   have T2 := Lib.hid (show Hp w0 A0 w1 (rbusObs b pm pp pt pu pi (B.wide 496 2 v)) from T1)
   clear T1
   go_wp2_with fail
   refine (rlines_all (Bs.wide_ok HO.out 496 2 v).1 T2.out).mono ?_
   rintro e w2 ⟨rfl, T3⟩
   go_wp2_with fail
   go_ret
   exact ⟨rfl, T3⟩
  ·obtain ⟨k0, k1, k2, k3, k4, k5, kf, kl⟩ := rbus_facts hT.out.rbus
   go_enter Tryz.func45, Tryz.ntmps45
   go_wp2_with fail
   refine (hT.out.act 4 rfl (ride_out 0 4 v hv (by have := HF.out.l; omega))).mono ?_
   rintro e w1 ⟨rfl, T1⟩
   clear k0 k1 k2 k3 k4 k5 kf kl
   have T2 := Lib.hid (show Hp w0 A0 w1 (rbusObs b pm pp pt pu pi (B.wide 496 4 v)) from T1)
   clear T1
   go_wp2_with fail
   refine (rlines_all (Bs.wide_ok HO.out 496 4 v).1 T2.out).mono ?_
   rintro e w2 ⟨rfl, T3⟩
   go_wp2_with fail
   go_ret
   exact ⟨rfl, T3⟩
 ·have e9 : ((a : Int) == 496) = false := by simp; omega
  have H9 := Lib.hid h9
  clear h9
  rcases hs with rfl | rfl | rfl
  ·rw [show ((1 : Nat) : Int) = 1 from rfl]
   go_enter Tryz.func45, Tryz.ntmps45
   go_wp2_with fail
   go_loopw [9] (fun i wr => ∃ k : Nat, k ≤ 1 ∧ i = .int .i64 k ∧ Hp w0 A0 wr (rbusObs b pm pp pt pu pi (B.outs a v k))) (fun i _ => 1 - (intOf i).toNat)
   case atStart => exact ⟨0, by omega, rfl, hT.out⟩
   case round =>
    obtain ⟨k, hk, rfl, T⟩ := hrel
    have HT1 := Lib.hid T
    clear T
    by_cases hlt : k < 1
    ·have OK := Lib.hid (Bs.outs_ok HO.out a v k).1
     have FI := Lib.hid (Bs.outs_fits HF.out a v k)
     have hkey : IntKind.u16.wrap ((a : Int) + (k : Int)) = (((a + k) % 65536 : Nat) : Int) := by rw [IntKind.wrap_u16]; omega
     have hw : IntKind.i64.wrap (8 * (k : Int)) = 8 * (k : Int) := IntWalk.i64_in _ (by omega)
     have r2 : (0 : Int) ≤ 8 * (k : Int) := by omega
     have r3 : (8 : Int) * (k : Int) ≤ 32 := by omega
     have r4 : (k : Int) < 1 := by omega
     go_wp2_with fail
     first | rw [shrb_at v k] | rw [Ide.shr_nat v k]
     rw [key_at a k, byte_mod v k]
     refine (routP_hp OK.out (FI.out.le (by omega)) HT1.out ((a + k) % 65536) (v / 256 ^ k % 256) (Nat.mod_lt _ (by decide)) (Nat.mod_lt _ (by decide))).mono ?_
     rintro e w1 ⟨rfl, T2⟩
     have HT2 := Lib.hid (show Hp w0 A0 w1 (rbusObs b pm pp pt pu pi (B.outs a v (k + 1))) from T2)
     clear T2
     go_wp2_with fail
     go_roundw
     case rel => exact ⟨k + 1, by omega, by go_num, HT2.out⟩
     case measure => (simp [intOf]) <;> omega
    ·obtain rfl : k = 1 := by omega
     have T2 := Lib.hid (show Hp w0 A0 wr (rbusObs b pm pp pt pu pi (B.wide a 1 v)) from by
      show Hp _ _ _ (rbusObs _ _ _ _ _ _ (if a = 496 then _ else B.outs a v 1)); rw [if_neg H9.out]; exact HT1.out)
     clear HT1
     go_wp2_with fail
     refine (rlines_all (Bs.wide_ok HO.out a 1 v).1 T2.out).mono ?_
     rintro e w2 ⟨rfl, T3⟩
     go_wp2_with fail
     go_ret
     exact ⟨rfl, T3⟩
  ·rw [show ((2 : Nat) : Int) = 2 from rfl]
   go_enter Tryz.func45, Tryz.ntmps45
   go_wp2_with fail
   go_loopw [9] (fun i wr => ∃ k : Nat, k ≤ 2 ∧ i = .int .i64 k ∧ Hp w0 A0 wr (rbusObs b pm pp pt pu pi (B.outs a v k))) (fun i _ => 2 - (intOf i).toNat)
   case atStart => exact ⟨0, by omega, rfl, hT.out⟩
   case round =>
    obtain ⟨k, hk, rfl, T⟩ := hrel
    have HT1 := Lib.hid T
    clear T
    by_cases hlt : k < 2
    ·have OK := Lib.hid (Bs.outs_ok HO.out a v k).1
     have FI := Lib.hid (Bs.outs_fits HF.out a v k)
     have hkey : IntKind.u16.wrap ((a : Int) + (k : Int)) = (((a + k) % 65536 : Nat) : Int) := by rw [IntKind.wrap_u16]; omega
     have hw : IntKind.i64.wrap (8 * (k : Int)) = 8 * (k : Int) := IntWalk.i64_in _ (by omega)
     have r2 : (0 : Int) ≤ 8 * (k : Int) := by omega
     have r3 : (8 : Int) * (k : Int) ≤ 32 := by omega
     have r4 : (k : Int) < 2 := by omega
     go_wp2_with fail
     first | rw [shrb_at v k] | rw [Ide.shr_nat v k]
     rw [key_at a k, byte_mod v k]
     refine (routP_hp OK.out (FI.out.le (by omega)) HT1.out ((a + k) % 65536) (v / 256 ^ k % 256) (Nat.mod_lt _ (by decide)) (Nat.mod_lt _ (by decide))).mono ?_
     rintro e w1 ⟨rfl, T2⟩
     have HT2 := Lib.hid (show Hp w0 A0 w1 (rbusObs b pm pp pt pu pi (B.outs a v (k + 1))) from T2)
     clear T2
     go_wp2_with fail
     go_roundw
     case rel => exact ⟨k + 1, by omega, by go_num, HT2.out⟩
     case measure => (simp [intOf]) <;> omega
    ·obtain rfl : k = 2 := by omega
     have T2 := Lib.hid (show Hp w0 A0 wr (rbusObs b pm pp pt pu pi (B.wide a 2 v)) from by
      show Hp _ _ _ (rbusObs _ _ _ _ _ _ (if a = 496 then _ else B.outs a v 2)); rw [if_neg H9.out]; exact HT1.out)
     clear HT1
     go_wp2_with fail
     refine (rlines_all (Bs.wide_ok HO.out a 2 v).1 T2.out).mono ?_
     rintro e w2 ⟨rfl, T3⟩
     go_wp2_with fail
     go_ret
     exact ⟨rfl, T3⟩
  ·rw [show ((4 : Nat) : Int) = 4 from rfl]
   go_enter Tryz.func45, Tryz.ntmps45
   go_wp2_with fail
   go_loopw [9] (fun i wr => ∃ k : Nat, k ≤ 4 ∧ i = .int .i64 k ∧ Hp w0 A0 wr (rbusObs b pm pp pt pu pi (B.outs a v k))) (fun i _ => 4 - (intOf i).toNat)
   case atStart => exact ⟨0, by omega, rfl, hT.out⟩
   case round =>
    obtain ⟨k, hk, rfl, T⟩ := hrel
    have HT1 := Lib.hid T
    clear T
    by_cases hlt : k < 4
    ·have OK := Lib.hid (Bs.outs_ok HO.out a v k).1
     have FI := Lib.hid (Bs.outs_fits HF.out a v k)
     have hkey : IntKind.u16.wrap ((a : Int) + (k : Int)) = (((a + k) % 65536 : Nat) : Int) := by rw [IntKind.wrap_u16]; omega
     have hw : IntKind.i64.wrap (8 * (k : Int)) = 8 * (k : Int) := IntWalk.i64_in _ (by omega)
     have r2 : (0 : Int) ≤ 8 * (k : Int) := by omega
     have r3 : (8 : Int) * (k : Int) ≤ 32 := by omega
     have r4 : (k : Int) < 4 := by omega
     go_wp2_with fail
     first | rw [shrb_at v k] | rw [Ide.shr_nat v k]
     rw [key_at a k, byte_mod v k]
     refine (routP_hp OK.out (FI.out.le (by omega)) HT1.out ((a + k) % 65536) (v / 256 ^ k % 256) (Nat.mod_lt _ (by decide)) (Nat.mod_lt _ (by decide))).mono ?_
     rintro e w1 ⟨rfl, T2⟩
     have HT2 := Lib.hid (show Hp w0 A0 w1 (rbusObs b pm pp pt pu pi (B.outs a v (k + 1))) from T2)
     clear T2
     go_wp2_with fail
     go_roundw
     case rel => exact ⟨k + 1, by omega, by go_num, HT2.out⟩
     case measure => (simp [intOf]) <;> omega
    ·obtain rfl : k = 4 := by omega
     have T2 := Lib.hid (show Hp w0 A0 wr (rbusObs b pm pp pt pu pi (B.wide a 4 v)) from by
      show Hp _ _ _ (rbusObs _ _ _ _ _ _ (if a = 496 then _ else B.outs a v 4)); rw [if_neg H9.out]; exact HT1.out)
     clear HT1
     go_wp2_with fail
     refine (rlines_all (Bs.wide_ok HO.out a 4 v).1 T2.out).mono ?_
     rintro e w2 ⟨rfl, T3⟩
     go_wp2_with fail
     go_ret
     exact ⟨rfl, T3⟩
theorem rIn_1 (h : B.ok) (hf : B.fits 1000000) (hg : Gt B) (T : Hp w0 A0 w (rbusObs b pm pp pt pu pi B)) (a : Nat) (ha : a < 65536) (h9 : a ≠ 496) :
    Calls Tryz.prog 46 #[.pointer (some ⟨b, 0, none⟩), .int .u16 (a : Nat), .int .i64 1] w fun e w' => e = .returned (.tuple #[.int .u32 (B.wideV a 1 : Nat), .int .i64 0]) ∧ Hp w0 A0 w' (rbusObs b pm pp pt pu pi (B.inS a 1)) := by
 have HO := Lib.hid h
 have HF := Lib.hid hf
 have HG := Lib.hid hg
 have hT := Lib.hid T
 clear h hf hg T
 have e9 : ((a : Int) == 496) = false := by simp; omega
 have H9 := Lib.hid h9
 clear h9
 go_enter Tryz.func46, Tryz.ntmps46
 go_wp2_with fail
 go_loopw [8, 9] (fun y i wr => ∃ k : Nat, k ≤ 1 ∧ i = .int .i64 k ∧ y = .int .u32 (B.insV a k : Nat) ∧ B.insV a k < 256 ^ k ∧ Hp w0 A0 wr (rbusObs b pm pp pt pu pi (B.insS a k))) (fun y i _ => 1 - (intOf i).toNat)
 case atStart => exact ⟨0, by omega, rfl, rfl, Nat.zero_lt_one, hT.out⟩
 case round =>
  obtain ⟨k, hk, rfl, rfl, hvb, T⟩ := hrel
  have HT1 := Lib.hid T
  have HVB := Lib.hid hvb
  clear hvb
  by_cases hlt : k < 1
  ·have OK := Lib.hid (Bs.insS_ok HO.out a k).1
   have FI := Lib.hid (insS_fits HF.out a k)
   have GT := Lib.hid (gt_insS HG.out a k)
   have hn8 := Bs.inP_bd T.roks ((a + k) % 65536)
   have hsu : B.insV a (k + 1) = B.insV a k + (B.insS a k).inPV ((a + k) % 65536) * 256 ^ k := rfl
   have hj4 := addb_at (B.insV a k) _ k HVB.out hn8 (by omega)
   have HSU := Lib.hid (And.intro hsu hj4)
   have hkey : IntKind.u16.wrap ((a : Int) + (k : Int)) = (((a + k) % 65536 : Nat) : Int) := by rw [IntKind.wrap_u16]; omega
   have hw : IntKind.i64.wrap (8 * (k : Int)) = 8 * (k : Int) := IntWalk.i64_in _ (by omega)
   have r2 : (0 : Int) ≤ 8 * (k : Int) := by omega
   have r3 : (8 : Int) * (k : Int) ≤ 32 := by omega
   have r4 : (k : Int) < 1 := by omega
   have HV := Lib.hid hn8
   clear hsu hj4 hn8 T
   generalize hV : B.insV a k = V at *
   clear hV
   go_wp2_with fail
   rw [key_at a k]
   refine (rinP_hp OK.out (FI.out.le (by decide)) GT.out HT1.out ((a + k) % 65536) (Nat.mod_lt _ (by decide))).mono ?_
   rintro e w1 ⟨rfl, T2⟩
   have HT2 := Lib.hid (show Hp w0 A0 w1 (rbusObs b pm pp pt pu pi (B.insS a (k + 1))) from T2)
   clear T2 HT1
   generalize (B.insS a k).inPV ((a + k) % 65536) = nv at *
   have hn0 : (0 : Int) ≤ (nv : Int) := by omega
   have hn1 : (nv : Int) < 256 := by have := HV.out; omega
   go_wp2_with fail
   go_roundw
   case rel =>
    refine ⟨k + 1, by omega, by go_num, ?_, ?_, HT2.out⟩
    ·rw [HSU.out.1]
     exact congrArg (Value.int .u32) HSU.out.2.1
    ·rw [HSU.out.1]; exact HSU.out.2.2
   case measure => (simp [intOf]) <;> omega
  ·obtain rfl : k = 1 := by omega
   have T2 := Lib.hid (show Hp w0 A0 wr (rbusObs b pm pp pt pu pi (B.wideS a 1)) from by
    show Hp _ _ _ (rbusObs _ _ _ _ _ _ (if a = 496 then _ else B.insS a 1)); rw [if_neg H9.out]; exact HT1.out)
   clear HT1 T
   go_wp2_with fail
   refine (rlines_all (Bs.wideS_ok HO.out a 1).1 T2.out).mono ?_
   rintro e w2 ⟨rfl, T3⟩
   go_wp2_with fail
   go_ret2
   exact ⟨congrArg (fun x : Nat => Ending.returned (Value.tuple #[.int .u32 (x : Int), .int .i64 0])) (if_neg H9.out : B.wideV a 1 = _).symm, T3⟩
theorem rIn_2 (h : B.ok) (hf : B.fits 1000000) (hg : Gt B) (T : Hp w0 A0 w (rbusObs b pm pp pt pu pi B)) (a : Nat) (ha : a < 65536) (h9 : a ≠ 496) :
    Calls Tryz.prog 46 #[.pointer (some ⟨b, 0, none⟩), .int .u16 (a : Nat), .int .i64 2] w fun e w' => e = .returned (.tuple #[.int .u32 (B.wideV a 2 : Nat), .int .i64 0]) ∧ Hp w0 A0 w' (rbusObs b pm pp pt pu pi (B.inS a 2)) := by
 have HO := Lib.hid h
 have HF := Lib.hid hf
 have HG := Lib.hid hg
 have hT := Lib.hid T
 clear h hf hg T
 have e9 : ((a : Int) == 496) = false := by simp; omega
 have H9 := Lib.hid h9
 clear h9
 go_enter Tryz.func46, Tryz.ntmps46
 go_wp2_with fail
 go_loopw [8, 9] (fun y i wr => ∃ k : Nat, k ≤ 2 ∧ i = .int .i64 k ∧ y = .int .u32 (B.insV a k : Nat) ∧ B.insV a k < 256 ^ k ∧ Hp w0 A0 wr (rbusObs b pm pp pt pu pi (B.insS a k))) (fun y i _ => 2 - (intOf i).toNat)
 case atStart => exact ⟨0, by omega, rfl, rfl, Nat.zero_lt_one, hT.out⟩
 case round =>
  obtain ⟨k, hk, rfl, rfl, hvb, T⟩ := hrel
  have HT1 := Lib.hid T
  have HVB := Lib.hid hvb
  clear hvb
  by_cases hlt : k < 2
  ·have OK := Lib.hid (Bs.insS_ok HO.out a k).1
   have FI := Lib.hid (insS_fits HF.out a k)
   have GT := Lib.hid (gt_insS HG.out a k)
   have hn8 := Bs.inP_bd T.roks ((a + k) % 65536)
   have hsu : B.insV a (k + 1) = B.insV a k + (B.insS a k).inPV ((a + k) % 65536) * 256 ^ k := rfl
   have hj4 := addb_at (B.insV a k) _ k HVB.out hn8 (by omega)
   have HSU := Lib.hid (And.intro hsu hj4)
   have hkey : IntKind.u16.wrap ((a : Int) + (k : Int)) = (((a + k) % 65536 : Nat) : Int) := by rw [IntKind.wrap_u16]; omega
   have hw : IntKind.i64.wrap (8 * (k : Int)) = 8 * (k : Int) := IntWalk.i64_in _ (by omega)
   have r2 : (0 : Int) ≤ 8 * (k : Int) := by omega
   have r3 : (8 : Int) * (k : Int) ≤ 32 := by omega
   have r4 : (k : Int) < 2 := by omega
   have HV := Lib.hid hn8
   clear hsu hj4 hn8 T
   generalize hV : B.insV a k = V at *
   clear hV
   go_wp2_with fail
   rw [key_at a k]
   refine (rinP_hp OK.out (FI.out.le (by decide)) GT.out HT1.out ((a + k) % 65536) (Nat.mod_lt _ (by decide))).mono ?_
   rintro e w1 ⟨rfl, T2⟩
   have HT2 := Lib.hid (show Hp w0 A0 w1 (rbusObs b pm pp pt pu pi (B.insS a (k + 1))) from T2)
   clear T2 HT1
   generalize (B.insS a k).inPV ((a + k) % 65536) = nv at *
   have hn0 : (0 : Int) ≤ (nv : Int) := by omega
   have hn1 : (nv : Int) < 256 := by have := HV.out; omega
   go_wp2_with fail
   go_roundw
   case rel =>
    refine ⟨k + 1, by omega, by go_num, ?_, ?_, HT2.out⟩
    ·rw [HSU.out.1]
     exact congrArg (Value.int .u32) HSU.out.2.1
    ·rw [HSU.out.1]; exact HSU.out.2.2
   case measure => (simp [intOf]) <;> omega
  ·obtain rfl : k = 2 := by omega
   have T2 := Lib.hid (show Hp w0 A0 wr (rbusObs b pm pp pt pu pi (B.wideS a 2)) from by
    show Hp _ _ _ (rbusObs _ _ _ _ _ _ (if a = 496 then _ else B.insS a 2)); rw [if_neg H9.out]; exact HT1.out)
   clear HT1 T
   go_wp2_with fail
   refine (rlines_all (Bs.wideS_ok HO.out a 2).1 T2.out).mono ?_
   rintro e w2 ⟨rfl, T3⟩
   go_wp2_with fail
   go_ret2
   exact ⟨congrArg (fun x : Nat => Ending.returned (Value.tuple #[.int .u32 (x : Int), .int .i64 0])) (if_neg H9.out : B.wideV a 2 = _).symm, T3⟩
theorem rIn_4 (h : B.ok) (hf : B.fits 1000000) (hg : Gt B) (T : Hp w0 A0 w (rbusObs b pm pp pt pu pi B)) (a : Nat) (ha : a < 65536) (h9 : a ≠ 496) :
    Calls Tryz.prog 46 #[.pointer (some ⟨b, 0, none⟩), .int .u16 (a : Nat), .int .i64 4] w fun e w' => e = .returned (.tuple #[.int .u32 (B.wideV a 4 : Nat), .int .i64 0]) ∧ Hp w0 A0 w' (rbusObs b pm pp pt pu pi (B.inS a 4)) := by
 have HO := Lib.hid h
 have HF := Lib.hid hf
 have HG := Lib.hid hg
 have hT := Lib.hid T
 clear h hf hg T
 have e9 : ((a : Int) == 496) = false := by simp; omega
 have H9 := Lib.hid h9
 clear h9
 go_enter Tryz.func46, Tryz.ntmps46
 go_wp2_with fail
 go_loopw [8, 9] (fun y i wr => ∃ k : Nat, k ≤ 4 ∧ i = .int .i64 k ∧ y = .int .u32 (B.insV a k : Nat) ∧ B.insV a k < 256 ^ k ∧ Hp w0 A0 wr (rbusObs b pm pp pt pu pi (B.insS a k))) (fun y i _ => 4 - (intOf i).toNat)
 case atStart => exact ⟨0, by omega, rfl, rfl, Nat.zero_lt_one, hT.out⟩
 case round =>
  obtain ⟨k, hk, rfl, rfl, hvb, T⟩ := hrel
  have HT1 := Lib.hid T
  have HVB := Lib.hid hvb
  clear hvb
  by_cases hlt : k < 4
  ·have OK := Lib.hid (Bs.insS_ok HO.out a k).1
   have FI := Lib.hid (insS_fits HF.out a k)
   have GT := Lib.hid (gt_insS HG.out a k)
   have hn8 := Bs.inP_bd T.roks ((a + k) % 65536)
   have hsu : B.insV a (k + 1) = B.insV a k + (B.insS a k).inPV ((a + k) % 65536) * 256 ^ k := rfl
   have hj4 := addb_at (B.insV a k) _ k HVB.out hn8 (by omega)
   have HSU := Lib.hid (And.intro hsu hj4)
   have hkey : IntKind.u16.wrap ((a : Int) + (k : Int)) = (((a + k) % 65536 : Nat) : Int) := by rw [IntKind.wrap_u16]; omega
   have hw : IntKind.i64.wrap (8 * (k : Int)) = 8 * (k : Int) := IntWalk.i64_in _ (by omega)
   have r2 : (0 : Int) ≤ 8 * (k : Int) := by omega
   have r3 : (8 : Int) * (k : Int) ≤ 32 := by omega
   have r4 : (k : Int) < 4 := by omega
   have HV := Lib.hid hn8
   clear hsu hj4 hn8 T
   generalize hV : B.insV a k = V at *
   clear hV
   go_wp2_with fail
   rw [key_at a k]
   refine (rinP_hp OK.out (FI.out.le (by decide)) GT.out HT1.out ((a + k) % 65536) (Nat.mod_lt _ (by decide))).mono ?_
   rintro e w1 ⟨rfl, T2⟩
   have HT2 := Lib.hid (show Hp w0 A0 w1 (rbusObs b pm pp pt pu pi (B.insS a (k + 1))) from T2)
   clear T2 HT1
   generalize (B.insS a k).inPV ((a + k) % 65536) = nv at *
   have hn0 : (0 : Int) ≤ (nv : Int) := by omega
   have hn1 : (nv : Int) < 256 := by have := HV.out; omega
   go_wp2_with fail
   go_roundw
   case rel =>
    refine ⟨k + 1, by omega, by go_num, ?_, ?_, HT2.out⟩
    ·rw [HSU.out.1]
     exact congrArg (Value.int .u32) HSU.out.2.1
    ·rw [HSU.out.1]; exact HSU.out.2.2
   case measure => (simp [intOf]) <;> omega
  ·obtain rfl : k = 4 := by omega
   have T2 := Lib.hid (show Hp w0 A0 wr (rbusObs b pm pp pt pu pi (B.wideS a 4)) from by
    show Hp _ _ _ (rbusObs _ _ _ _ _ _ (if a = 496 then _ else B.insS a 4)); rw [if_neg H9.out]; exact HT1.out)
   clear HT1 T
   go_wp2_with fail
   refine (rlines_all (Bs.wideS_ok HO.out a 4).1 T2.out).mono ?_
   rintro e w2 ⟨rfl, T3⟩
   go_wp2_with fail
   go_ret2
   exact ⟨congrArg (fun x : Nat => Ending.returned (Value.tuple #[.int .u32 (x : Int), .int .i64 0])) (if_neg H9.out : B.wideV a 4 = _).symm, T3⟩
theorem rIn_hp (h : B.ok) (hf : B.fits 1000000) (hg : Gt B) (T : Hp w0 A0 w (rbusObs b pm pp pt pu pi B)) (a s : Nat) (ha : a < 65536) (hs : s = 1 ∨ s = 2 ∨ s = 4) :
    Calls Tryz.prog 46 #[.pointer (some ⟨b, 0, none⟩), .int .u16 (a : Nat), .int .i64 (s : Nat)] w fun e w' => e = .returned (.tuple #[.int .u32 (B.wideV a s : Nat), .int .i64 0]) ∧ Hp w0 A0 w' (rbusObs b pm pp pt pu pi (B.inS a s)) := by
 have HO := Lib.hid h
 have HF := Lib.hid hf
 have HG := Lib.hid hg
 have hT := Lib.hid T
 clear h hf hg T
 by_cases h9 : a = 496
 ·subst h9
  rcases hs with rfl | rfl | rfl
  ·obtain ⟨k0, k1, k2, k3, k4, k5, kf, kl⟩ := rbus_facts hT.out.rbus
   go_enter Tryz.func46, Tryz.ntmps46
   go_wp2_with fail
   refine (hT.out.act 4 rfl (ride_in 0 1)).mono ?_
   rintro e w1 ⟨rfl, T1⟩
   clear k0 k1 k2 k3 k4 k5 kf kl
   have T2 := Lib.hid (show Hp w0 A0 w1 (rbusObs b pm pp pt pu pi (B.wideS 496 1)) from by rw [wideS_496]; exact T1)
   clear T1
   go_wp2_with fail
   refine (rlines_all (Bs.wideS_ok HO.out 496 1).1 T2.out).mono ?_
   rintro e w2 ⟨rfl, T3⟩
   go_wp2_with fail
   go_ret2
   rw [wideV_496]
   exact ⟨rfl, T3⟩
  ·obtain ⟨k0, k1, k2, k3, k4, k5, kf, kl⟩ := rbus_facts hT.out.rbus
   go_enter Tryz.func46, Tryz.ntmps46
   go_wp2_with fail
   refine (hT.out.act 4 rfl (ride_in 0 2)).mono ?_
   rintro e w1 ⟨rfl, T1⟩
   clear k0 k1 k2 k3 k4 k5 kf kl
   have T2 := Lib.hid (show Hp w0 A0 w1 (rbusObs b pm pp pt pu pi (B.wideS 496 2)) from by rw [wideS_496]; exact T1)
   clear T1
   go_wp2_with fail
   refine (rlines_all (Bs.wideS_ok HO.out 496 2).1 T2.out).mono ?_
   rintro e w2 ⟨rfl, T3⟩
   go_wp2_with fail
   go_ret2
   rw [wideV_496]
   exact ⟨rfl, T3⟩
  ·obtain ⟨k0, k1, k2, k3, k4, k5, kf, kl⟩ := rbus_facts hT.out.rbus
   go_enter Tryz.func46, Tryz.ntmps46
   go_wp2_with fail
   refine (hT.out.act 4 rfl (ride_in 0 4)).mono ?_
   rintro e w1 ⟨rfl, T1⟩
   clear k0 k1 k2 k3 k4 k5 kf kl
   have T2 := Lib.hid (show Hp w0 A0 w1 (rbusObs b pm pp pt pu pi (B.wideS 496 4)) from by rw [wideS_496]; exact T1)
   clear T1
   go_wp2_with fail
   refine (rlines_all (Bs.wideS_ok HO.out 496 4).1 T2.out).mono ?_
   rintro e w2 ⟨rfl, T3⟩
   go_wp2_with fail
   go_ret2
   rw [wideV_496]
   exact ⟨rfl, T3⟩
 ·rcases hs with rfl | rfl | rfl
  ·exact rIn_1 HO.out HF.out HG.out hT.out a ha h9
  ·exact rIn_2 HO.out HF.out HG.out hT.out a ha h9
  ·exact rIn_4 HO.out HF.out HG.out hT.out a ha h9
theorem rPush_hp (h : B.ok) (T : Hp w0 A0 w (rbusObs b pm pp pt pu pi B)) (x : Nat) (hx : x < 256) :
    Calls Tryz.prog 49 #[.pointer (some ⟨b, 0, none⟩), .int .u8 (x : Nat)] w fun e w' => e = .returned (.tuple #[]) ∧ Hp w0 A0 w' (rbusObs b pm pp pt pu pi (B.push x)) := by
 have HO := Lib.hid h
 clear h
 obtain ⟨k0, k1, k2, k3, k4, k5, kf, kl⟩ := rbus_facts T.rbus
 go_enter Tryz.func49, Tryz.ntmps49
 go_wp2_with fail
 refine (T.act 3 rfl (ruart_push x hx)).mono ?_
 rintro e w1 ⟨rfl, T1⟩
 have T2 : Hp w0 A0 w1 (rbusObs b pm pp pt pu pi { B with u := B.u.push x }) := T1
 clear T1 k0 k1 k2 k3 k4 k5 kf kl
 go_wp2_with fail
 refine (rlines_all (B := { B with u := B.u.push x }) ⟨HO.out.T, HO.out.t⟩ T2).mono ?_
 rintro e w2 ⟨rfl, T3⟩
 go_wp2_with fail
 go_returns
 exact ⟨rfl, T3⟩
theorem rAck_hp (h : B.ok) (T : Hp w0 A0 w (rbusObs b pm pp pt pu pi B)) :
    Calls Tryz.prog 50 #[.pointer (some ⟨b, 0, none⟩)] w fun e w' => e = .returned (.int .i64 (Pic.vec0 B.c B.d : Nat)) ∧ Hp w0 A0 w' (rbusObs b pm pp pt pu pi B.ack) := by
 have HO := Lib.hid h
 clear h
 obtain ⟨k0, k1, k2, k3, k4, k5, kf, kl⟩ := rbus_facts T.rbus
 go_enter Tryz.func50, Tryz.ntmps50
 go_wp2_with fail
 refine (T.act 1 rfl rpic_ack).mono ?_
 rintro e w1 ⟨rfl, T1⟩
 have T2 : Hp w0 A0 w1 (rbusObs b pm pp pt pu pi { B with c := Pic.tkc B.c B.d, d := Pic.tkd B.c B.d }) := T1
 clear T1 k0 k1 k2 k3 k4 k5 kf kl
 go_wp2_with fail
 refine (rlines_all (B := { B with c := Pic.tkc B.c B.d, d := Pic.tkd B.c B.d }) ⟨HO.out.T, HO.out.t⟩ T2).mono ?_
 rintro e w2 ⟨rfl, T3⟩
 go_wp2_with fail
 go_ret
 exact ⟨rfl, T3⟩
theorem rTick_hp (h : B.ok) (T : Hp w0 A0 w (rbusObs b pm pp pt pu pi B)) (n : Nat) (hn : n < 9223372036854775807) (ht : B.t + n < 18446744073709551615) :
    Calls Tryz.prog 47 #[.pointer (some ⟨b, 0, none⟩), .int .i64 (n : Nat)] w fun e w' => e = .returned (.tuple #[]) ∧ Hp w0 A0 w' (rbusObs b pm pp pt pu pi (B.ticks n)) := by
 have HO := Lib.hid h
 have HT := Lib.hid T
 have HN := Lib.hid (And.intro hn ht)
 clear h T hn ht
 go_enter Tryz.func47, Tryz.ntmps47
 go_wp2_with fail
 go_loopw [4] (fun i wr => ∃ k : Nat, k ≤ n ∧ i = .int .i64 k ∧ Hp w0 A0 wr (rbusObs b pm pp pt pu pi (B.ticks k))) (fun i _ => n - (intOf i).toNat)
 case atStart => exact ⟨0, by omega, rfl, HT.out⟩
 case round =>
  obtain ⟨k, hk, rfl, T⟩ := hrel
  have HTT := Lib.hid T
  by_cases hlt : k < n
  ·have ok := Bs.ticks_ok HO.out k (by have := HN.out.2; omega)
   have hw2 : IntKind.i64.wrap ((k : Int) + 1) = (k : Int) + 1 := IntWalk.i64_in _ (by have := HN.out.1; omega)
   have OK := Lib.hid ok
   obtain ⟨tk, htk⟩ : ∃ tk, tk = (B.ticks k).t := ⟨_, rfl⟩
   have htb := Lib.hid (show (tk : Int) < 18446744073709551614 by have := HN.out.2; rw [htk, ok.2]; omega)
   have hw1 : IntKind.u64.wrap ((tk : Int) + 1) = (tk : Int) + 1 := IntWalk.u64_in _ (by have := htb.out; omega)
   obtain ⟨k0, k1, k2, k3, k4, k5, kf, kl⟩ := rbus_facts T.rbus
   rw [← htk] at k5
   have HTK := Lib.hid htk
   have T1 : Hp w0 A0 (wr.setCell ⟨b, 5, none⟩ (.int .u64 ((tk : Int) + 1))) (rbusObs b pm pp pt pu pi { B.ticks k with t := tk + 1 }) := T.set 0 rfl 5 (.int .u64 ((tk : Int) + 1))
   have HT1 := Lib.hid T1
   have r4 : (k : Int) < n := by omega
   clear T T1 htk ok hk hlt
   go_upto_region 4 with (fail)
   clear k0 k1 k2 k3 k4 k5 kf kl
   go_wp2_with fail
   refine (rlines_all (B := { B.ticks k with t := tk + 1 }) ⟨Tm3.later OK.out.1.T (by show ((B.ticks k).t : Int) ≤ ((tk + 1 : Nat) : Int); rw [← HTK.out]; omega), by show tk + 1 < _; have := htb.out; omega⟩ HT1.out).mono ?_
   rintro e w2 ⟨rfl, T3⟩
   have T4 : Hp w0 A0 w2 (rbusObs b pm pp pt pu pi (B.ticks (k + 1))) := by
    have e : (B.ticks (k + 1)) = ({ B.ticks k with t := tk + 1 } : Bs).lines := by rw [HTK.out]; rfl
    rw [e]; exact T3
   have HT4 := Lib.hid T4
   clear T3 T4
   go_wp2_with fail
   go_roundw
   case rel => exact ⟨k + 1, by omega, by go_num, HT4.out⟩
   case measure => (simp [intOf]) <;> omega
  ·have hk2 : k = n := by omega
   have HK2 := Lib.hid hk2
   have r4 : ¬ ((k : Int) < n) := by omega
   clear T hk2 hk hlt
   go_wp2_with fail
   go_returns
   exact ⟨rfl, by rw [← HK2.out]; exact HTT.out⟩
end
end Go.Proofs.YtojmpdddfnkffaaGreat

