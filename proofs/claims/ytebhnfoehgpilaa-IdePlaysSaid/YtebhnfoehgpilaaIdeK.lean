/- ide: In. -/
import Derived.Test.YtebhnfoehgpilaaIdeJ
namespace Go.Proofs.Ytebhnfoehgpilaa
open Go.RowKit
set_option linter.unusedVariables false

theorem or_shift (v b k : Nat) (hv : v < 256 ^ k) (hb : b < 256) (hk : k < 4) : bits .or .u32 (v : Int) ((b : Int) * 2 ^ (8 * k) % 4294967296) = ((v + b * 256 ^ k : Nat) : Int) := by
  have hp : (256 : Nat) ^ k = 2 ^ (8 * k) := by rw [Nat.pow_mul]
  have hle : b * 256 ^ k ≤ 255 * 256 ^ k := Nat.mul_le_mul_right _ (by omega)
  have h3 : 256 ^ k ≤ 256 ^ 3 := Nat.pow_le_pow_right (by decide) (by omega)
  have e : ((b : Int) * 2 ^ (8 * k) % 4294967296) = ((b * 256 ^ k : Nat) : Int) := by
    rw [hp]
    rw [hp] at hle h3
    rw [Int.emod_eq_of_lt]
    · simp
    · exact Int.mul_nonneg (by omega) (Int.pow_nonneg (by decide))
    · have : ((b : Int) * 2 ^ (8 * k)) = ((b * 2 ^ (8 * k) : Nat) : Int) := by simp
      rw [this]; omega
  rw [e, u32_or_nat _ _ (by omega) (by omega), Nat.or_comm]
  congr 1
  rw [Nat.add_comm, hp]
  rw [hp] at hv
  exact nat_join (8 * k) _ _ (by simp) hv
/-- Behind k bytes that were read. -/
def Dk.getN (S : Dk) : Nat → Dk
  | 0 => S
  | k + 1 => (S.getN k).getB
def Dk.getV (S : Dk) : Nat → Nat
  | 0 => 0
  | k + 1 => S.getV k + (S.getN k).gets * 256 ^ k
theorem gets_lt {S : Dk} (h : S.ok) : S.gets < 256 := by
  unfold Dk.gets
  split
  · exact h.buf _
  · decide
theorem room_getN {S : Dk} (h : S.room) (k : Nat) : (S.getN k).room := by
  induction k with
  | zero => exact h
  | succ k ih => exact room_get ih
def Dk.status (S : Dk) : Nat := 80 + (if S.mode = 0 then 0 else 8) + (if S.failed then 1 else 0)
section
variable {w : World} {b : Nat} {ds lv : Value} {D : Dk}
theorem in_err (reg size : Int) (x : Int) (he : callErr reg size = x) (hx : (x != 0) = true) :
    Calls Try.prog 13 #[.pointer (some ⟨b, 0, none⟩), .int .i64 reg, .int .i64 size] w fun e w' => e = .returned (.tuple #[.int .u32 0, .int .i64 x]) ∧ w = w' := by
  have HC := Lib.hid (check_in (w := w) (b := b) reg size)
  have HE := Lib.hid he
  clear he
  go_enter Try.func13, Try.ntmps13
  go_wp2_with fail
  refine HC.out.mono ?_
  rintro e w1 ⟨rfl, rfl⟩
  rw [HE.out]
  go_wp2_with fail
  go_ret2
  exact ⟨rfl, rfl⟩
theorem in_nil (reg size : Int) (w : World) :
    Calls Try.prog 13 #[.pointer none, .int .i64 reg, .int .i64 size] w fun e w' => e = .returned (.tuple #[.int .u32 0, .int .i64 1]) ∧ w = w' := by
  go_enter Try.func13, Try.ntmps13
  go_wp2_with fail
  refine (check_nil _ reg size).mono ?_
  rintro e w1 ⟨rfl, rfl⟩
  go_wp2_with fail
  go_ret2
  exact ⟨rfl, rfl⟩
set_option maxHeartbeats 1000000 in
theorem in_other (H : IdeIn 56 w b ds lv D) (reg size : Int) (he : callErr reg size = 0) (ho : D.other = true) (h6 : reg ≠ 6) :
    Calls Try.prog 13 #[.pointer (some ⟨b, 0, none⟩), .int .i64 reg, .int .i64 size] w fun e w' => e = .returned (.tuple #[.int .u32 0, .int .i64 0]) ∧ w = w' := by
  have HC := Lib.hid (check_in (w := w) (b := b) reg size)
  have HE := Lib.hid he
  have HO := Lib.hid (other_in H)
  have H1 := Lib.hid ho
  have g : (reg != 6) = true := by simpa using h6
  clear he ho h6
  go_enter Try.func13, Try.ntmps13
  go_wp2_with fail
  refine HC.out.mono ?_
  rintro e w1 ⟨rfl, rfl⟩
  rw [HE.out]
  go_wp2_with fail
  refine HO.out.mono ?_
  rintro e w1 ⟨rfl, rfl⟩
  rw [H1.out]
  go_wp2_with fail
  go_ret2
  exact ⟨rfl, rfl⟩
set_option maxHeartbeats 1000000 in
theorem in_r (H : IdeIn 56 w b ds lv D) (r : Nat) (h1 : 1 ≤ r) (h6 : r ≤ 6) (size : Int) (ho : D.other = false ∨ r = 6) :
    Calls Try.prog 13 #[.pointer (some ⟨b, 0, none⟩), .int .i64 (r : Nat), .int .i64 size] w fun e w' => e = .returned (.tuple #[.int .u32 (D.r r : Nat), .int .i64 0]) ∧ w = w' := by
  have hc := H.reg r (by omega)
  have hlt := H.ok.r r
  have he : callErr (r : Int) size = 0 := by unfold callErr; rw [if_neg (by omega), if_neg (by omega)]
  have HE := Lib.hid he
  have HO := Lib.hid (other_in H)
  have g0 : ((r : Int) == 0) = false := by simp; omega
  have g7 : (r : Int) < 7 := by omega
  have q0 : (0 : Int) ≤ (r : Int) := by omega
  obtain ⟨u, hu⟩ : ∃ u, u = D.r r := ⟨_, rfl⟩
  rw [← hu] at hc hlt
  have HU := Lib.hid hu
  clear hu he H h1
  rcases ho with ho | ho
  · have H1 := Lib.hid ho
    clear ho
    go_enter Try.func13, Try.ntmps13
    go_wp2_with fail
    refine (check_in (r : Int) size).mono ?_
    rintro e w1 ⟨rfl, rfl⟩
    rw [HE.out]
    go_wp2_with fail
    refine HO.out.mono ?_
    rintro e w1 ⟨rfl, rfl⟩
    rw [H1.out]
    go_wp2_with fail
    go_ret2
    exact ⟨by rw [← HU.out]; rfl, rfl⟩
  · have g6 : ((r : Int) != 6) = false := by simp; omega
    clear ho
    cases hx : D.other
    all_goals
      have H1 := Lib.hid hx
      clear hx
      go_enter Try.func13, Try.ntmps13
      go_wp2_with fail
      refine (check_in (r : Int) size).mono ?_
      rintro e w1 ⟨rfl, rfl⟩
      rw [HE.out]
      go_wp2_with fail
      refine HO.out.mono ?_
      rintro e w1 ⟨rfl, rfl⟩
      rw [H1.out]
      go_wp2_with fail
      go_ret2
      exact ⟨by rw [← HU.out]; rfl, rfl⟩
theorem Dk.mark_ok {S : Dk} (h : S.ok) (x : Bool) : (S.setMark x).ok := { h with }
set_option maxHeartbeats 2000000 in
theorem in_s (H : IdeIn 56 w b ds lv D) (r : Int) (hr : r = 7 ∨ r = 8) (size : Int) (ho : D.other = false) :
    Calls Try.prog 13 #[.pointer (some ⟨b, 0, none⟩), .int .i64 r, .int .i64 size] w fun e w' => e = .returned (.tuple #[.int .u32 (D.status : Nat), .int .i64 0]) ∧ IdeIn 56 w' b ds lv (D.setMark (D.mark && r == 8)) ∧ Keeps (· = b) w w' := by
  obtain ⟨-, -, -, -, -, -, -, -, -, -, k10, k11, k12, -, kf, klt⟩ := H.facts
  have HO := Lib.hid (other_in H)
  have H1 := Lib.hid ho
  have HH := Lib.hid H
  have o1 : bits .or .u32 80 8 = 88 := by decide
  have o2 : bits .or .u32 88 1 = 89 := by decide
  have o3 : bits .or .u32 80 1 = 81 := by decide
  clear ho H
  obtain ⟨m, hm⟩ : ∃ m, m = D.mark := ⟨_, rfl⟩
  rw [← hm] at k11
  have HM := Lib.hid hm
  clear hm
  rcases hr with rfl | rfl
  all_goals
    cases hf : D.failed
    all_goals
      rw [hf] at k12
      have HF := Lib.hid hf
      clear hf
      by_cases hz : D.mode = 0
      · have g : (((D.mode : Nat) : Int) != 0) = false := by rw [hz]; rfl
        have HZ := Lib.hid hz
        clear hz
        cases m
        all_goals
          go_enter Try.func13, Try.ntmps13
          go_wp2_with fail
          refine (check_in _ size).mono ?_
          rintro e w1 ⟨rfl, rfl⟩
          first | rw [show callErr 7 size = 0 from rfl] | rw [show callErr 8 size = 0 from rfl]
          go_wp2_with fail
          refine HO.out.mono ?_
          rintro e w1 ⟨rfl, rfl⟩
          rw [H1.out]
          go_wp2_with fail
          go_ret2
          refine ⟨by unfold Dk.status; rw [HZ.out, HF.out]; rfl, ?_⟩
          rw [← HM.out]
          exact turned HH.out (Blk.mark (Blk.of HH.out) _) ((Keeps.refl _ _).setOne _ _) (Dk.mark_ok HH.out.ok _) rfl rfl rfl
      · have g : (((D.mode : Nat) : Int) != 0) = true := by simp; omega
        have HZ := Lib.hid hz
        clear hz
        cases m
        all_goals
          go_enter Try.func13, Try.ntmps13
          go_wp2_with fail
          refine (check_in _ size).mono ?_
          rintro e w1 ⟨rfl, rfl⟩
          first | rw [show callErr 7 size = 0 from rfl] | rw [show callErr 8 size = 0 from rfl]
          go_wp2_with fail
          refine HO.out.mono ?_
          rintro e w1 ⟨rfl, rfl⟩
          rw [H1.out]
          go_wp2_with fail
          go_ret2
          refine ⟨by unfold Dk.status; rw [if_neg HZ.out, HF.out]; rfl, ?_⟩
          rw [← HM.out]
          exact turned HH.out (Blk.mark (Blk.of HH.out) _) ((Keeps.refl _ _).setOne _ _) (Dk.mark_ok HH.out.ok _) rfl rfl rfl
set_option maxHeartbeats 2000000 in
theorem in_0 (H : IdeIn 56 w b ds lv D) (hr : D.room) (s : Nat) (hs : s = 1 ∨ s = 2 ∨ s = 4) (ho : D.other = false) :
    Calls Try.prog 13 #[.pointer (some ⟨b, 0, none⟩), .int .i64 0, .int .i64 (s : Nat)] w fun e w' => e = .returned (.tuple #[.int .u32 (D.getV s : Nat), .int .i64 0]) ∧ IdeIn 56 w' b ds lv (D.getN s) ∧ Keeps (· = b) w w' := by
  have he : callErr 0 (s : Int) = 0 := by unfold callErr; rcases hs with rfl | rfl | rfl <;> rfl
  have HC := Lib.hid (check_in (w := w) (b := b) 0 (s : Int))
  have HE := Lib.hid he
  have HO := Lib.hid (other_in H)
  have H1 := Lib.hid ho
  have hs4 : s ≤ 4 := by omega
  have HH := Lib.hid H
  have HR := Lib.hid hr
  clear he hs H hr ho
  go_enter Try.func13, Try.ntmps13
  go_wp2_with fail
  refine HC.out.mono ?_
  rintro e w1 ⟨rfl, rfl⟩
  rw [HE.out]
  go_wp2_with fail
  refine HO.out.mono ?_
  rintro e w1 ⟨rfl, rfl⟩
  rw [H1.out]
  go_wp2_with fail
  go_loopw [9, 53] (fun v i wr => ∃ k : Nat, k ≤ s ∧ i = .int .i64 k ∧ v = .int .u32 (D.getV k : Nat) ∧ D.getV k < 256 ^ k ∧ IdeIn 56 wr b ds lv (D.getN k) ∧ Keeps (· = b) w wr) (fun _ i _ => s - (intOf i).toNat)
  case atStart => exact ⟨0, by omega, rfl, rfl, (show (0 : Nat) < 1 by decide), HH.out, Keeps.refl _ _⟩
  case round =>
    obtain ⟨k, hk, rfl, rfl, hlt, H2, K2⟩ := hrel
    have HH2 := Lib.hid H2
    have HK2 := Lib.hid K2
    have HL := Lib.hid hlt
    clear H2 K2 hlt
    by_cases hks : k < s
    · have q2 : (0 : Int) ≤ 8 * (k : Int) := by omega
      have q3 : (8 : Int) * (k : Int) ≤ 32 := by omega
      have hgl := gets_lt HH2.out.ok
      have HGL := Lib.hid hgl
      have HOR := Lib.hid (or_shift (D.getV k) ((D.getN k).gets) k HL.out hgl (by omega))
      have hv32 : D.getV k < 4294967296 := Nat.lt_of_lt_of_le HL.out (Nat.le_trans (Nat.pow_le_pow_right (by decide) (show k ≤ 4 by omega)) (by decide))
      go_wp2_with fail
      refine (get_in HH2.out (room_getN HR.out k)).mono ?_
      rintro e w3 ⟨rfl, H3, K3⟩
      go_wp2_with fail
      go_roundw
      case rel =>
        refine ⟨k + 1, by omega, by go_num, by rw [HOR.out]; rfl, ?_, H3, HK2.out.trans K3⟩
        show D.getV k + (D.getN k).gets * 256 ^ k < 256 ^ (k + 1)
        have h1 := HL.out
        have h2 : (D.getN k).gets * 256 ^ k ≤ 255 * 256 ^ k := Nat.mul_le_mul_right _ (by have := HGL.out; omega)
        rw [Nat.pow_succ]; omega
      case measure => (simp [intOf]) <;> omega
    · have hk2 : k = s := by omega
      have HKS := Lib.hid hk2
      clear hk2
      go_wp2_with fail
      go_ret2
      exact ⟨by rw [← HKS.out]; rfl, by rw [← HKS.out]; exact HH2.out, HK2.out⟩
end
end Go.Proofs.Ytebhnfoehgpilaa
