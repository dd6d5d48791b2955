/- ide: the document's disk: behind a sector; a byte is read. -/
import Derived.Test.YtebhnfoehgpilaaIdeW
import Derived.Test.YtebhnfoehgpilaaIdeI
namespace Go.Proofs.Ytebhnfoehgpilaa
open Go.RowKit
set_option linter.unusedVariables false
set_option linter.unusedSimpArgs false

theorem Dk.setR_ok' {S : Dk} (h : S.ok) (k v : Nat) (hv : v < 256) : (S.setR k v).ok := { h with r := upd_lt h.r k v hv }
/-- Behind the registers' turn. -/
def Dk.pre (S : Dk) : Dk := ((((S.setR 3 ((S.place + 1) % 256)).setR 4 ((S.place + 1) / 256 % 256)).setR 5 ((S.place + 1) / 65536 % 256)).setR 6 (S.r 6 / 16 * 16 + (S.place + 1) / 16777216 % 16)).setR 2 ((S.r 2 + 255) % 256)
theorem Dk.setR_n (S : Dk) (k v : Nat) : (S.setR k v).n = S.n := rfl
theorem Dk.setR_d (S : Dk) (k v : Nat) : (S.setR k v).d = S.d := rfl
theorem Dk.setR_log (S : Dk) (k v : Nat) : (S.setR k v).log = S.log := rfl
theorem Dk.setR_mode (S : Dk) (k v : Nat) : (S.setR k v).mode = S.mode := rfl
theorem Dk.setR_same (S : Dk) (k v : Nat) : (S.setR k v).r k = v := upd_same _ _ _
theorem Dk.setMode_r (S : Dk) (m : Nat) : (S.setMode m).r = S.r := rfl
theorem Dk.pre_step (S : Dk) : S.pre.setMode 0 = S.step := by unfold Dk.pre; exact (Dk.step_eq S).symm
theorem Dk.pre_ok {S : Dk} (h : S.ok) : S.pre.ok := by
  unfold Dk.pre
  exact Dk.setR_ok' (Dk.setR_ok' (Dk.setR_ok' (Dk.setR_ok' (Dk.setR_ok' h _ _ (Nat.mod_lt _ (by decide))) _ _ (Nat.mod_lt _ (by decide))) _ _ (Nat.mod_lt _ (by decide))) _ _ (by have := h.r 6; omega)) _ _ (Nat.mod_lt _ (by decide))
theorem Dk.pre_mode (S : Dk) : S.pre.mode = S.mode := by unfold Dk.pre; rw [Dk.setR_mode, Dk.setR_mode, Dk.setR_mode, Dk.setR_mode, Dk.setR_mode]
theorem Dk.pre_n (S : Dk) : S.pre.n = S.n := by unfold Dk.pre; rw [Dk.setR_n, Dk.setR_n, Dk.setR_n, Dk.setR_n, Dk.setR_n]
theorem Dk.pre_d (S : Dk) : S.pre.d = S.d := by unfold Dk.pre; rw [Dk.setR_d, Dk.setR_d, Dk.setR_d, Dk.setR_d, Dk.setR_d]
theorem Dk.pre_log (S : Dk) : S.pre.log = S.log := by unfold Dk.pre; rw [Dk.setR_log, Dk.setR_log, Dk.setR_log, Dk.setR_log, Dk.setR_log]
theorem Dk.pre_r2 (S : Dk) : S.pre.r 2 = (S.r 2 + 255) % 256 := by unfold Dk.pre; exact Dk.setR_same _ _ _
theorem Dk.step_r2 (S : Dk) : S.step.r 2 = (S.r 2 + 255) % 256 := by rw [← Dk.pre_step, Dk.setMode_r, Dk.pre_r2]
theorem Dk.setMode_fail (S : Dk) (x e : Nat) : (S.setMode x).fail e = S.fail e := by simp only [Dk.fail, Dk.setMode]
theorem Dk.setMode_place (S : Dk) (x : Nat) : (S.setMode x).place = S.place := by unfold Dk.place; rw [Dk.setMode_r]
theorem Dk.setMode_n (S : Dk) (x : Nat) : (S.setMode x).n = S.n := rfl
theorem Dk.begin_mode (S : Dk) (x m : Nat) : (S.setMode x).begin m = S.begin m := by
  unfold Dk.begin
  rw [Dk.setMode_place, Dk.setMode_n, Dk.setMode_fail]
  simp only [Dk.setMode]
theorem Dk.setMode_d (S : Dk) (x : Nat) : (S.setMode x).d = S.d := rfl
theorem Dk.setMode_log (S : Dk) (x : Nat) : (S.setMode x).log = S.log := rfl
theorem Dk.next_zero (S : Dk) (h : S.step.r 2 = 0) : S.next = S.step := by unfold Dk.next; rw [if_pos h]
theorem Dk.next_more (S : Dk) (h : ¬ S.step.r 2 = 0) : S.next = S.pre.begin S.mode := by
  have e : S.next = S.step.begin S.mode := by unfold Dk.next; rw [if_neg h]
  rw [e, ← Dk.pre_step, Dk.begin_mode]
section
variable {w : World} {b : Nat} {ds lv : Value} {D : Dk}
set_option maxRecDepth 20000 in
set_option maxHeartbeats 4000000 in
theorem rone_in (H : IdeIn 51 w b ds lv D) :
    Calls Try.prog 43 #[.pointer (some ⟨b, 0, none⟩)] w (RCmd w b ds lv D.next) := by
  have HP := Lib.hid (rplace_in H)
  have hp := Dk.place_lt H.ok
  obtain ⟨-, -, -, k3, k4, k5, k6, k7, -, -, k10, -, -, -, kf, klt⟩ := H.facts
  have HH := Lib.hid H
  have h2 := H.ok.r 2
  have h6 := H.ok.r 6
  have HPL := Lib.hid (show D.place = D.place from rfl)
  clear H
  obtain ⟨p, hpp⟩ : ∃ p, p = D.place := ⟨_, rfl⟩
  have HPP := Lib.hid hpp
  rw [← hpp] at HP hp
  clear hpp HPL
  go_enter Try.func43, Try.ntmps43
  go_wp2_with fail
  refine HP.out.mono ?_
  rintro e w1 ⟨rfl, n, rfl⟩
  go_upto_region 4 with (fail)
  go_region
  go_wp2_with fail
  go_region
  go_upto_region 7 with (fail)
  have v1 : ((p : Int) + 1) % 256 = (((p + 1) % 256 : Nat) : Int) := by omega
  have v2 : ((p : Int) + 1) / 256 % 256 = (((p + 1) / 256 % 256 : Nat) : Int) := by omega
  have v3 : ((p : Int) + 1) / 65536 % 256 = (((p + 1) / 65536 % 256 : Nat) : Int) := by omega
  have v4 : (D.r 6 : Int) - (D.r 6 : Int) % 16 + ((p : Int) + 1) / 16777216 % 16 = ((D.r 6 / 16 * 16 + (p + 1) / 16777216 % 16 : Nat) : Int) := by omega
  have v5 : ((D.r 2 : Int) - 1) % 256 = (((D.r 2 + 255) % 256 : Nat) : Int) := by omega
  have B := Blk.drew (Blk.drew (Blk.reg (Blk.reg (Blk.reg (Blk.reg (Blk.reg (Blk.drewN (Blk.of HH.out) n) 3 _ _ v1 (by decide)) 4 _ _ v2 (by decide)) 5 _ _ v3 (by decide)) 6 _ _ v4 (by decide)) 2 _ _ v5 (by decide)))
  have K : Keeps (· = b) w ((((((w.drewN n).setCell ⟨b, 4, none⟩ (.int .u8 (((p : Int) + 1) % 256))).setCell ⟨b, 5, none⟩ (.int .u8 (((p : Int) + 1) / 256 % 256))).setCell ⟨b, 6, none⟩ (.int .u8 (((p : Int) + 1) / 65536 % 256))).setCell ⟨b, 7, none⟩ (.int .u8 ((D.r 6 : Int) - (D.r 6 : Int) % 16 + ((p : Int) + 1) / 16777216 % 16))).setCell ⟨b, 3, none⟩ (.int .u8 (((D.r 2 : Int) - 1) % 256))).drew.drew :=
    ((((((((Keeps.refl _ w).drewN n).setOne _ _).setOne _ _).setOne _ _).setOne _ _).setOne _ _).drew).drew
  have E := turned HH.out (D' := D.pre) (by unfold Dk.pre; rw [← HPP.out]; exact B) K (Dk.pre_ok HH.out.ok) (Dk.pre_n D) (Dk.pre_d D) (Dk.pre_log D)
  change Code.wp _ _ _ _ ((((((w.drewN n).setCell ⟨b, 4, none⟩ (.int .u8 (((p : Int) + 1) % 256))).setCell ⟨b, 5, none⟩ (.int .u8 (((p : Int) + 1) / 256 % 256))).setCell ⟨b, 6, none⟩ (.int .u8 (((p : Int) + 1) / 65536 % 256))).setCell ⟨b, 7, none⟩ (.int .u8 ((D.r 6 : Int) - (D.r 6 : Int) % 16 + ((p : Int) + 1) / 16777216 % 16))).setCell ⟨b, 3, none⟩ (.int .u8 (((D.r 2 : Int) - 1) % 256))).drew.drew
  have HE := Lib.hid E
  clear E K B v1 v2 v3 v4 v5 k3 k4 k5 k6 k7 k10 kf klt
  generalize ((((((w.drewN n).setCell ⟨b, 4, none⟩ (.int .u8 (((p : Int) + 1) % 256))).setCell ⟨b, 5, none⟩ (.int .u8 (((p : Int) + 1) / 256 % 256))).setCell ⟨b, 6, none⟩ (.int .u8 (((p : Int) + 1) / 65536 % 256))).setCell ⟨b, 7, none⟩ (.int .u8 ((D.r 6 : Int) - (D.r 6 : Int) % 16 + ((p : Int) + 1) / 16777216 % 16))).setCell ⟨b, 3, none⟩ (.int .u8 (((D.r 2 : Int) - 1) % 256))).drew.drew = W at *
  obtain ⟨-, -, -, k3, -, -, -, -, -, -, k10, -, -, -, kf, klt⟩ := HE.out.1.facts
  rw [Dk.pre_r2] at k3
  rw [Dk.pre_mode] at k10
  by_cases hz : (D.r 2 + 255) % 256 = 0
  · have HZ := Lib.hid (Dk.next_zero D (by rw [Dk.step_r2]; exact hz))
    rw [hz] at k3
    clear hz
    go_wp2_with fail
    go_returns
    have E := turned HE.out.1 (Blk.mode (Blk.of HE.out.1) 0 0 rfl) ((Keeps.refl _ W).setOne 522 (.int .i64 0)) (D' := D.pre.setMode 0) (by rw [Dk.pre_step]; exact Dk.step_ok HH.out.ok) (Dk.setMode_n _ _) (Dk.setMode_d _ _) (Dk.setMode_log _ _)
    rw [Dk.pre_step] at E
    exact ⟨rfl, by rw [HZ.out]; exact E.1, HE.out.2.trans E.2⟩
  · have HZ := Lib.hid (Dk.next_more D (by rw [Dk.step_r2]; exact hz))
    have g : ((((D.r 2 + 255) % 256 : Nat) : Int) == 0) = false := by simp; omega
    have hm4 := HH.out.ok.mode
    clear hz
    go_wp2_with fail
    refine (rbegin_in HE.out.1 D.mode hm4 _ rfl).mono ?_
    rintro e w2 ⟨rfl, H2, K2⟩
    have HR := Lib.hid (And.intro H2 (HE.out.2.trans K2))
    clear H2 K2 k3 k10 kf klt
    go_wp2_with fail
    go_returns
    exact ⟨rfl, by rw [HZ.out]; exact HR.out.1, HR.out.2⟩
end
end Go.Proofs.Ytebhnfoehgpilaa
