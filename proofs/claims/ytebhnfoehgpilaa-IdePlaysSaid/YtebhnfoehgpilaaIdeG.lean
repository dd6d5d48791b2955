/- ide: behind a sector. -/
import Derived.Test.YtebhnfoehgpilaaIdeF
namespace Go.Proofs.Ytebhnfoehgpilaa
open Go.RowKit
set_option linter.unusedVariables false

theorem Dk.step_eq (S : Dk) : S.step = (((((S.setR 3 ((S.place + 1) % 256)).setR 4 ((S.place + 1) / 256 % 256)).setR 5 ((S.place + 1) / 65536 % 256)).setR 6 (S.r 6 / 16 * 16 + (S.place + 1) / 16777216 % 16)).setR 2 ((S.r 2 + 255) % 256)).setMode 0 := by
  simp only [Dk.setR, Dk.setMode, Dk.step]
theorem Dk.step_ok {S : Dk} (h : S.ok) : S.step.ok :=
  { h with r := upd_lt (upd_lt (upd_lt (upd_lt (upd_lt h.r 3 _ (Nat.mod_lt _ (by decide))) 4 _ (Nat.mod_lt _ (by decide))) 5 _ (Nat.mod_lt _ (by decide))) 6 _ (by have := h.r 6; omega)) 2 _ (Nat.mod_lt _ (by decide)), mode := (by show (0 : Nat) < 4; decide) }
/-- The first k bytes of a number are written to the registers from 3 on. -/
def Dk.regs (S : Dk) (n : Nat) : Nat → Dk
  | 0 => S
  | k + 1 => (S.regs n k).setR (3 + k) (n / 256 ^ k % 256)
theorem Dk.regs_succ (S : Dk) (n k : Nat) : S.regs n (k + 1) = (S.regs n k).setR (3 + k) (n / 256 ^ k % 256) := rfl
theorem shr_nat (n k : Nat) : (n : Int) / 2 ^ (8 * k) % 256 = ((n / 256 ^ k % 256 : Nat) : Int) := by
  have hp : (256 : Nat) ^ k = 2 ^ (8 * k) := by rw [Nat.pow_mul]
  rw [hp]; simp
theorem Blk.reg1 {T : TypeId} {w : World} {b : Nat} {ds lv : Value} {D : Dk} (h : Blk T w b ds lv D) (k v : Nat) (x : Int) (hx : x = (v : Nat)) (hk : k < 7) : Blk T (w.setCell ⟨b, 1 + k, none⟩ (.int .u8 x)) b ds lv (D.setR k v) := by
  rw [Nat.add_comm 1 k]; exact Blk.reg h k v x hx hk
theorem Blk.drew {T : TypeId} {w : World} {b : Nat} {ds lv : Value} {D : Dk} (H : Blk T w b ds lv D) : Blk T w.drew b ds lv D := H
theorem Dk.step_regs (S : Dk) : ((((S.regs (S.place + 1) 3).setR 6 (S.r 6 / 16 * 16 + (S.place + 1) / 16777216 % 16)).setR 2 ((S.r 2 + 255) % 256)).setMode 0) = S.step := by
  rw [Dk.step_eq]
  simp only [Dk.regs, Nat.pow_zero, Nat.div_one, Nat.pow_one, Nat.reducePow, Nat.reduceAdd, Nat.add_zero]
theorem top_bits (x n : Nat) (hx : x < 256) (hn : n < 4611686018427387904) :
    bits .or .u8 (bits .andNot .u8 (x : Int) 15) (bits .and .i64 ((n : Int) / 16777216) 15 % 256) = ((x / 16 * 16 + n / 16777216 % 16 : Nat) : Int) := by
  have e1 : bits .andNot .u8 (x : Int) 15 = ((x / 16 * 16 : Nat) : Int) := by
    have h : bits .andNot .u8 (x : Int) 15 = ((x &&& 240 : Nat) : Int) := u8_andNot_nat x 15 hx (by decide)
    have h2 : ∀ y : Fin 256, y.val &&& 240 = y.val / 16 * 16 := by decide +kernel
    rw [h, h2 ⟨x, hx⟩]
  have e2 : bits .and .i64 ((n : Int) / 16777216) 15 = (n : Int) / 16777216 % 16 := bits_mask .i64 62 (by decide) wraps_i64 4 (by decide) _ (by omega) (by simp only [Int.reducePow]; omega)
  rw [e1, e2, bits_join .u8 8 (by decide) wraps_u8 4 _ _ (by omega) (by simp only [Int.reducePow]; omega) (by simp only [Int.reducePow]; omega) (by omega) (by simp only [Int.reducePow]; omega) (by simp only [Int.reducePow]; omega)]
  omega
section
variable {w : World} {b : Nat} {ds lv : Value} {D : Dk}
set_option maxHeartbeats 2000000 in
theorem next_in (H : IdeIn 56 w b ds lv D) :
    Calls Try.prog 38 #[.pointer (some ⟨b, 0, none⟩)] w fun e w' => e = .returned (.tuple #[]) ∧ IdeIn 56 w' b ds lv D.next ∧ Keeps (· = b) w w' := by
  have HP := Lib.hid (place_in H)
  have hlt := Dk.place_lt H.ok
  have r6 := H.ok.r 6
  have r2 := H.ok.r 2
  obtain ⟨-, -, -, k3, k4, k5, k6, k7, -, -, k10, -, -, -, kf, klt⟩ := H.facts
  have HH := Lib.hid H
  clear H
  have hlt2 := hlt
  obtain ⟨p, hp⟩ : ∃ p, p = D.place := ⟨_, rfl⟩
  rw [← hp] at HP hlt
  have HPE := Lib.hid hp
  clear hp hlt2
  go_enter Try.func38, Try.ntmps38
  go_wp2_with fail
  refine HP.out.mono ?_
  rintro e w1 ⟨rfl, n, rfl⟩
  go_wp2_with fail
  have N0 : (0 : Int) ≤ (p : Int) + 1 := by omega
  obtain ⟨N, hN⟩ : ∃ N : Nat, N = p + 1 := ⟨_, rfl⟩
  have hN2 : (p : Int) + 1 = (N : Int) := by omega
  rw [hN2]
  have HN := Lib.hid hN
  clear hN hN2 N0 hlt HP k4 k5 k6
  go_loopw [8] (fun i wc => ∃ k : Nat, k ≤ 3 ∧ i = .int .i64 k ∧ Blk 56 wc b ds lv (D.regs N k) ∧ Keeps (· = b) w wc) (fun i _ => 3 - (intOf i).toNat)
  case atStart => exact ⟨0, by omega, rfl, Blk.drewN (Blk.of HH.out) n, (Keeps.refl _ w).drewN n⟩
  case round =>
    clear k3 k7 k10 kf klt r6 r2
    obtain ⟨k, hk, rfl, B, K⟩ := hrel
    obtain ⟨-, -, -, -, -, -, -, -, -, -, -, -, -, -, kf, klt⟩ := B.facts
    have HB := Lib.hid B
    clear B
    by_cases h3 : k < 3
    · have hcell : wr.cell? ⟨b, 1 + (3 + k), none⟩ = some (.int .u8 ((D.regs N k).r (3 + k) : Nat)) := HB.out.rcell (3 + k) (by omega)
      have q0 : (0 : Int) ≤ 3 + (k : Int) := by omega
      have q1 : (3 : Int) + (k : Int) < 7 := by omega
      have q2 : (0 : Int) ≤ 8 * (k : Int) := by omega
      have q3 : (8 : Int) * (k : Int) ≤ 64 := by omega
      go_wp2_with fail
      go_region
      go_wp2_with fail
      go_roundw
      case rel => exact ⟨k + 1, by omega, by go_num, by rw [Dk.regs_succ]; exact Blk.drew (Blk.reg1 HB.out (3 + k) _ _ (shr_nat N k) (by omega)), (K.setOne _ _).drew⟩
      case measure => (simp [intOf]) <;> omega
    · have hk3 : k = 3 := by omega
      have e6 : (D.regs N k).r 6 = D.r 6 := by rw [hk3]; rfl
      have e2 : (D.regs N k).r 2 = D.r 2 := by rw [hk3]; rfl
      have em : (D.regs N k).mode = D.mode := by rw [hk3]; rfl
      obtain ⟨-, -, -, k3, -, -, -, k7, -, -, k10, -, -, -, kf, klt⟩ := HB.out.facts
      rw [e6] at k7
      rw [e2] at k3
      rw [em] at k10
      have HK3 := Lib.hid hk3
      clear e6 e2 em hk3
      have HT := Lib.hid (top_bits (D.r 6) N (HH.out.ok.r 6) (by have := HN.out; have := HPE.out; have := Dk.place_lt HH.out.ok; omega))
      have hr2 := HH.out.ok.r 2
      have hv : (((D.r 2 : Nat) : Int) - 1) % 256 = (((D.r 2 + 255) % 256 : Nat) : Int) := by omega
      have B3 : Blk 56 ((((wr.setCell ⟨b, 7, none⟩ (.int .u8 (bits .or .u8 (bits .andNot .u8 ((D.r 6 : Nat) : Int) 15) (bits .and .i64 ((N : Int) / 16777216) 15 % 256)))).setCell ⟨b, 3, none⟩ (.int .u8 ((((D.r 2 : Nat) : Int) - 1) % 256))).setCell ⟨b, 522, none⟩ (.int .i64 0)).drew.drew) b ds lv D.step := by
        rw [← Dk.step_regs]
        have e := HK3.out
        have hp : N = D.place + 1 := by rw [HN.out, HPE.out]
        have HB3 := HB.out
        rw [e] at HB3
        rw [hp] at HB3 HT ⊢
        exact Blk.drew (Blk.drew (Blk.mode (Blk.reg (Blk.reg HB3 6 _ _ HT.out (by decide)) 2 _ _ hv (by decide)) 0 0 rfl))
      have K3 : Keeps (· = b) w ((((wr.setCell ⟨b, 7, none⟩ (.int .u8 (bits .or .u8 (bits .andNot .u8 ((D.r 6 : Nat) : Int) 15) (bits .and .i64 ((N : Int) / 16777216) 15 % 256)))).setCell ⟨b, 3, none⟩ (.int .u8 ((((D.r 2 : Nat) : Int) - 1) % 256))).setCell ⟨b, 522, none⟩ (.int .i64 0)).drew.drew) := ((((K.setOne _ _).setOne _ _).setOne _ _).drew).drew
      have E := turned HH.out B3 K3 (Dk.step_ok HH.out.ok) rfl rfl rfl
      have HE := Lib.hid E
      clear B3 K3 E HT hr2 K
      have hm4 := HH.out.ok.mode
      by_cases hz : (D.r 2 + 255) % 256 = 0
      · have g : ((((D.r 2 : Nat) : Int) - 1) % 256 != 0) = false := by rw [hv, hz]; rfl
        have HZ := Lib.hid hz
        clear hv hz
        go_wp2_with fail
        go_region
        go_wp2_with fail
        go_region
        go_wp2_with fail
        go_returns
        refine ⟨rfl, ?_⟩
        have e : D.next = D.step := by unfold Dk.next; rw [if_pos (show D.step.r 2 = 0 from HZ.out)]
        rw [e]
        exact HE.out
      · have g : ((((D.r 2 : Nat) : Int) - 1) % 256 != 0) = true := by rw [hv]; simp; omega
        have HZ := Lib.hid hz
        clear hv hz
        go_wp2_with fail
        go_region
        go_wp2_with fail
        go_region
        go_wp2_with fail
        refine (begin_in HE.out.1 D.mode hm4 _ rfl).mono ?_
        rintro e w2 ⟨rfl, H2, K2⟩
        go_wp2_with fail
        go_returns
        have e : D.next = D.step.begin D.mode := by unfold Dk.next; rw [if_neg (show ¬ D.step.r 2 = 0 from HZ.out)]
        rw [e]
        exact ⟨rfl, H2, HE.out.2.trans K2⟩
theorem Dk.next_ok (h : D.ok) : D.next.ok := by
  unfold Dk.next
  split
  · exact Dk.step_ok h
  · exact Dk.begin_ok (Dk.step_ok h) _ h.mode
end
end Go.Proofs.Ytebhnfoehgpilaa
