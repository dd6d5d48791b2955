/- Steps of a proof: IdeRa, IdeRb, BusR, together. -/
import Derived.Test.YtojmpdddfnkffaaGreatS10
import Derived.Test.YtojmpdddfnkffaaGreatS5
import Derived.Laws.AppendOwnNone
import Derived.Test.YtojmpdddfnkffaaGreatS7
import Derived.Test.YtojmpdddfnkffaaGreatS9
/- ide: the document's disk: Out, In. -/
set_option maxHeartbeats 4000000
set_option maxRecDepth 20000
namespace Go.Proofs.YtojmpdddfnkffaaGreat.Ide
open Go.RowKit
set_option linter.unusedVariables false
set_option linter.unusedSimpArgs false

def RWent (w : World) (b : Nat) (ds lv : Value) (D : Dk) (wr : World) : Prop :=
 ∃ lv', IdeIn 108 wr b ds lv' D ∧ Keeps (Held b ds lv) w wr ∧ ∀ k, lv'.ownBlock = some k → lv.ownBlock = some k ∨ w.heap.size ≤ k
theorem RWent.next {w wr w1 : World} {b : Nat} {ds lv lv1 : Value} {D1 : Dk} (K : Keeps (Held b ds lv) w wr) (N : ∀ k, lv1.ownBlock = some k → lv.ownBlock = some k ∨ w.heap.size ≤ k) (h : RWent wr b ds lv1 D1 w1) : RWent w b ds lv D1 w1 := by
 obtain ⟨lv2, H, K2, N2⟩ := h
 refine ⟨lv2, H, K.andThen K2 fun i hi hs => ?_, fun k hk => ?_⟩
 ·rcases hs with h | h | h
  ·exact Or.inl h
  ·exact Or.inr (Or.inl h)
  ·rcases N i h with h | h
   ·exact Or.inr (Or.inr h)
   ·omega
 ·rcases N2 k hk with h | h
  ·exact N k h
  ·exact .inr (Nat.le_trans K.size h)
theorem RWent.of {w wr : World} {b : Nat} {ds lv : Value} {D : Dk} (H : IdeIn 108 wr b ds lv D) (K : Keeps (· = b) w wr) : RWent w b ds lv D wr := ⟨lv, H, K.mono fun k _ h => Or.inl h, fun k h => .inl h⟩
section
variable {w : World} {b : Nat} {ds lv : Value} {D : Dk}
theorem rput_in (H : IdeIn 108 w b ds lv D) (hr : D.room) (v : Nat) (hv : v < 256) (hL : D.log.length < 17592186044416) :
    Calls Tryz.prog 111 #[.pointer (some ⟨b, 0, none⟩), .int .u8 v] w fun e w' => e = .returned (.tuple #[]) ∧ RWent w b ds lv (D.putB v) w' := by
 by_cases hm : D.mode = 2
 ·exact rput_live H v hv hm (hr (by omega)) hL
 ·have e : D.putB v = D := by unfold Dk.putB; rw [if_neg hm]
  rw [e]
  refine (rput_idle H v hm).mono ?_
  rintro e w' ⟨rfl, rfl⟩
  exact ⟨rfl, lv, H, Keeps.refl _ _, fun k h => .inl h⟩
theorem rother (H : IdeIn 108 w b ds lv D) : ((D.r 6 : Int) / 16 % 2 == 1) = D.other ∧ ((D.r 6 : Int) / 16 % 2 == 0) = !D.other := by
 unfold Dk.other
 constructor
 ·rw [Bool.eq_iff_iff]; simp; omega
 ·rw [Bool.eq_iff_iff]; simp; omega
theorem rout_err (reg size v : Int) (he : callErr reg size ≠ 0) :
    Calls Tryz.prog 83 #[.pointer (some ⟨b, 0, none⟩), .int .i64 reg, .int .i64 size, .int .u32 v] w fun e w' => e = .returned (.int .i64 (callErr reg size)) ∧ w = w' := by
 unfold callErr at he ⊢
 by_cases h0 : reg < 0
 ·rw [if_pos (.inl h0)]
  clear he
  go_enter Tryz.func83, Tryz.ntmps83
  go_wp2_with fail
  go_ret
  exact ⟨rfl, rfl⟩
 ·by_cases h8 : 8 < reg
  ·rw [if_pos (.inr h8)]
   clear he
   go_enter Tryz.func83, Tryz.ntmps83
   go_wp2_with fail
   go_ret
   exact ⟨rfl, rfl⟩
  ·rw [if_neg (by omega)] at he ⊢
   have hr : reg = 0 ∧ size ≠ 1 ∧ size ≠ 2 ∧ size ≠ 4 := Classical.byContradiction fun h => he (if_neg h)
   rw [if_pos hr]
   obtain ⟨rfl, h1, h2, h4⟩ := hr
   have g1 : (size != 1) = true := by simpa using h1
   have g2 : (size != 2) = true := by simpa using h2
   have g4 : (size != 4) = true := by simpa using h4
   clear he h1 h2 h4 h0 h8
   go_enter Tryz.func83, Tryz.ntmps83
   go_wp2_with fail
   go_ret
   exact ⟨rfl, rfl⟩
theorem shr_mod (v k : Nat) : ((v : Int) / 2 ^ (8 * k)).tmod 256 % 256 = ((v / 256 ^ k % 256 : Nat) : Int) := by
 have h0 : (0 : Int) ≤ (v : Int) / 2 ^ (8 * k) := Int.ediv_nonneg (by omega) (Int.le_of_lt (Int.pow_pos (by decide)))
 rw [Int.tmod_eq_emod_of_nonneg h0, Int.emod_emod, shr_nat]
theorem rout_01 (H : IdeIn 108 w b ds lv D) (hr : D.room) (v : Nat) (hv : v < 4294967296) (hL : D.log.length + 4 < 17592186044416) :
    Calls Tryz.prog 83 #[.pointer (some ⟨b, 0, none⟩), .int .i64 0, .int .i64 1, .int .u32 v] w fun e w' => e = .returned (.int .i64 0) ∧ RWent w b ds lv (D.puts v 1) w' := by
 have HL := Lib.hid hL
 have HH := Lib.hid H
 have HR := Lib.hid hr
 clear hL H hr
 go_enter Tryz.func83, Tryz.ntmps83
 go_wp2_with fail
 go_loopw [10] (fun i wr => ∃ k : Nat, k ≤ 1 ∧ i = .int .i64 k ∧ RWent w b ds lv (D.puts v k) wr) (fun i _ => 1 - (intOf i).toNat)
 case atStart => exact ⟨0, by omega, rfl, .of HH.out (Keeps.refl _ _)⟩
 case round =>
  obtain ⟨k, hk, rfl, lv1, H1, K1, N1⟩ := hrel
  have HH1 := Lib.hid H1
  have HK1 := Lib.hid K1
  have HN1 := Lib.hid N1
  obtain ⟨-, -, -, -, -, -, -, k7, -⟩ := H1.facts
  have h6 := H1.ok.r 6
  have g0 := (rother H1).2
  clear H1 K1 N1
  by_cases hlt : k < 1
  ·have p2 : (k : Int) < 1 := by omega
   cases ho : (D.puts v k).other
   ·rw [ho] at g0
    have HO := Lib.hid ho
    clear ho
    have q2 : (0 : Int) ≤ 8 * (k : Int) := by omega
    have q3 : (8 : Int) * (k : Int) ≤ 32 := by omega
    go_wp2_with fail
    rw [shr_mod v k]
    refine (rput_in HH1.out (room_puts HR.out v k) (v / 256 ^ k % 256) (Nat.mod_lt _ (by decide)) (by have := puts_log D v k; have := HL.out; omega)).mono ?_
    rintro e w2 ⟨rfl, lv2, H2, K2, N2⟩
    have G := RWent.next HK1.out HN1.out (⟨lv2, H2, K2, N2⟩ : RWent _ b ds lv1 _ w2)
    rw [← Dk.puts_go D v k HO.out] at G
    have HG := Lib.hid G
    clear H2 K2 N2 G
    go_wp2_with fail
    go_roundw
    case rel => exact ⟨k + 1, by omega, by go_num, HG.out⟩
    case measure => (simp [intOf]) <;> omega
   ·rw [ho] at g0
    have HO := Lib.hid ho
    clear ho
    go_wp2_with fail
    go_returns
    have e := Dk.puts_stay D v k HO.out (1 - k)
    rw [show k + (1 - k) = 1 by omega] at e
    exact ⟨rfl, by rw [e]; exact ⟨lv1, HH1.out, HK1.out, HN1.out⟩⟩
  ·have p2 : (1 : Int) ≤ k := by omega
   have hk2 : k = 1 := by omega
   have HK2 := Lib.hid hk2
   clear hk2
   go_wp2_with fail
   go_returns
   exact ⟨rfl, by rw [← HK2.out]; exact ⟨lv1, HH1.out, HK1.out, HN1.out⟩⟩
theorem rout_02 (H : IdeIn 108 w b ds lv D) (hr : D.room) (v : Nat) (hv : v < 4294967296) (hL : D.log.length + 4 < 17592186044416) :
    Calls Tryz.prog 83 #[.pointer (some ⟨b, 0, none⟩), .int .i64 0, .int .i64 2, .int .u32 v] w fun e w' => e = .returned (.int .i64 0) ∧ RWent w b ds lv (D.puts v 2) w' := by
 have HL := Lib.hid hL
 have HH := Lib.hid H
 have HR := Lib.hid hr
 clear hL H hr
 go_enter Tryz.func83, Tryz.ntmps83
 go_wp2_with fail
 go_loopw [10] (fun i wr => ∃ k : Nat, k ≤ 2 ∧ i = .int .i64 k ∧ RWent w b ds lv (D.puts v k) wr) (fun i _ => 2 - (intOf i).toNat)
 case atStart => exact ⟨0, by omega, rfl, .of HH.out (Keeps.refl _ _)⟩
 case round =>
  obtain ⟨k, hk, rfl, lv1, H1, K1, N1⟩ := hrel
  have HH1 := Lib.hid H1
  have HK1 := Lib.hid K1
  have HN1 := Lib.hid N1
  obtain ⟨-, -, -, -, -, -, -, k7, -⟩ := H1.facts
  have h6 := H1.ok.r 6
  have g0 := (rother H1).2
  clear H1 K1 N1
  by_cases hlt : k < 2
  ·have p2 : (k : Int) < 2 := by omega
   cases ho : (D.puts v k).other
   ·rw [ho] at g0
    have HO := Lib.hid ho
    clear ho
    have q2 : (0 : Int) ≤ 8 * (k : Int) := by omega
    have q3 : (8 : Int) * (k : Int) ≤ 32 := by omega
    go_wp2_with fail
    rw [shr_mod v k]
    refine (rput_in HH1.out (room_puts HR.out v k) (v / 256 ^ k % 256) (Nat.mod_lt _ (by decide)) (by have := puts_log D v k; have := HL.out; omega)).mono ?_
    rintro e w2 ⟨rfl, lv2, H2, K2, N2⟩
    have G := RWent.next HK1.out HN1.out (⟨lv2, H2, K2, N2⟩ : RWent _ b ds lv1 _ w2)
    rw [← Dk.puts_go D v k HO.out] at G
    have HG := Lib.hid G
    clear H2 K2 N2 G
    go_wp2_with fail
    go_roundw
    case rel => exact ⟨k + 1, by omega, by go_num, HG.out⟩
    case measure => (simp [intOf]) <;> omega
   ·rw [ho] at g0
    have HO := Lib.hid ho
    clear ho
    go_wp2_with fail
    go_returns
    have e := Dk.puts_stay D v k HO.out (2 - k)
    rw [show k + (2 - k) = 2 by omega] at e
    exact ⟨rfl, by rw [e]; exact ⟨lv1, HH1.out, HK1.out, HN1.out⟩⟩
  ·have p2 : (2 : Int) ≤ k := by omega
   have hk2 : k = 2 := by omega
   have HK2 := Lib.hid hk2
   clear hk2
   go_wp2_with fail
   go_returns
   exact ⟨rfl, by rw [← HK2.out]; exact ⟨lv1, HH1.out, HK1.out, HN1.out⟩⟩
theorem rout_04 (H : IdeIn 108 w b ds lv D) (hr : D.room) (v : Nat) (hv : v < 4294967296) (hL : D.log.length + 4 < 17592186044416) :
    Calls Tryz.prog 83 #[.pointer (some ⟨b, 0, none⟩), .int .i64 0, .int .i64 4, .int .u32 v] w fun e w' => e = .returned (.int .i64 0) ∧ RWent w b ds lv (D.puts v 4) w' := by
 have HL := Lib.hid hL
 have HH := Lib.hid H
 have HR := Lib.hid hr
 clear hL H hr
 go_enter Tryz.func83, Tryz.ntmps83
 go_wp2_with fail
 go_loopw [10] (fun i wr => ∃ k : Nat, k ≤ 4 ∧ i = .int .i64 k ∧ RWent w b ds lv (D.puts v k) wr) (fun i _ => 4 - (intOf i).toNat)
 case atStart => exact ⟨0, by omega, rfl, .of HH.out (Keeps.refl _ _)⟩
 case round =>
  obtain ⟨k, hk, rfl, lv1, H1, K1, N1⟩ := hrel
  have HH1 := Lib.hid H1
  have HK1 := Lib.hid K1
  have HN1 := Lib.hid N1
  obtain ⟨-, -, -, -, -, -, -, k7, -⟩ := H1.facts
  have h6 := H1.ok.r 6
  have g0 := (rother H1).2
  clear H1 K1 N1
  by_cases hlt : k < 4
  ·have p2 : (k : Int) < 4 := by omega
   cases ho : (D.puts v k).other
   ·rw [ho] at g0
    have HO := Lib.hid ho
    clear ho
    have q2 : (0 : Int) ≤ 8 * (k : Int) := by omega
    have q3 : (8 : Int) * (k : Int) ≤ 32 := by omega
    go_wp2_with fail
    rw [shr_mod v k]
    refine (rput_in HH1.out (room_puts HR.out v k) (v / 256 ^ k % 256) (Nat.mod_lt _ (by decide)) (by have := puts_log D v k; have := HL.out; omega)).mono ?_
    rintro e w2 ⟨rfl, lv2, H2, K2, N2⟩
    have G := RWent.next HK1.out HN1.out (⟨lv2, H2, K2, N2⟩ : RWent _ b ds lv1 _ w2)
    rw [← Dk.puts_go D v k HO.out] at G
    have HG := Lib.hid G
    clear H2 K2 N2 G
    go_wp2_with fail
    go_roundw
    case rel => exact ⟨k + 1, by omega, by go_num, HG.out⟩
    case measure => (simp [intOf]) <;> omega
   ·rw [ho] at g0
    have HO := Lib.hid ho
    clear ho
    go_wp2_with fail
    go_returns
    have e := Dk.puts_stay D v k HO.out (4 - k)
    rw [show k + (4 - k) = 4 by omega] at e
    exact ⟨rfl, by rw [e]; exact ⟨lv1, HH1.out, HK1.out, HN1.out⟩⟩
  ·have p2 : (4 : Int) ≤ k := by omega
   have hk2 : k = 4 := by omega
   have HK2 := Lib.hid hk2
   clear hk2
   go_wp2_with fail
   go_returns
   exact ⟨rfl, by rw [← HK2.out]; exact ⟨lv1, HH1.out, HK1.out, HN1.out⟩⟩
theorem rout_1 (size v : Int) :
    Calls Tryz.prog 83 #[.pointer (some ⟨b, 0, none⟩), .int .i64 1, .int .i64 size, .int .u32 v] w fun e w' => e = .returned (.int .i64 0) ∧ w = w' := by
 go_enter Tryz.func83, Tryz.ntmps83
 go_wp2_with fail
 go_returns
 exact ⟨rfl, rfl⟩
theorem rout_7 (H : IdeIn 108 w b ds lv D) (size : Int) (v : Nat) (hv : v < 4294967296) :
    Calls Tryz.prog 83 #[.pointer (some ⟨b, 0, none⟩), .int .i64 7, .int .i64 size, .int .u32 v] w fun e w' => e = .returned (.int .i64 0) ∧ IdeIn 108 w' b ds lv (D.command (v % 256)) ∧ Keeps (· = b) w w' := by
 have hm : (v : Int) % 256 = ((v % 256 : Nat) : Int) := by omega
 have HM := Lib.hid hm
 clear hm
 go_enter Tryz.func83, Tryz.ntmps83
 go_wp2_with fail
 rw [HM.out]
 refine (rcommand_in H (v % 256) (Nat.mod_lt _ (by decide))).mono ?_
 rintro e w2 ⟨rfl, H2, K2⟩
 have HX := Lib.hid (And.intro H2 K2)
 clear H2 K2
 go_wp2_with fail
 go_returns
 exact ⟨rfl, HX.out.1, HX.out.2⟩
theorem rout_8 (H : IdeIn 108 w b ds lv D) (size : Int) (v : Nat) (hv : v < 4294967296) :
    Calls Tryz.prog 83 #[.pointer (some ⟨b, 0, none⟩), .int .i64 8, .int .i64 size, .int .u32 v] w fun e w' =>
     e = .returned (.int .i64 0) ∧ IdeIn 108 w' b ds lv (if v / 4 % 2 == 1 then (D.setC (v % 256)).fresh else D.setC (v % 256)) ∧ Keeps (· = b) w w' := by
 obtain ⟨-, -, -, -, -, -, -, -, k8, -, -, -, -, -, kf, klt⟩ := H.facts
 have hb : ((v : Int) % 256 / 4 % 2 == 1) = (v / 4 % 2 == 1) := by rw [Bool.eq_iff_iff]; simp; omega
 have E := turned H (Blk.ctl (Blk.of H) (v % 256) ((v : Int) % 256) (by omega)) ((Keeps.refl _ w).setOne _ _) (Dk.setC_ok H.ok _ (Nat.mod_lt _ (by decide))) rfl rfl rfl
 have HE := Lib.hid E
 clear E H
 cases hx : v / 4 % 2 == 1
 all_goals
  rw [hx] at hb
  clear hx
  go_enter Tryz.func83, Tryz.ntmps83
  go_wp2_with fail
  first
   | (go_returns
      exact ⟨rfl, HE.out⟩)
   | (refine (rfresh_in HE.out.1).mono ?_
      rintro e w2 ⟨rfl, H2, K2⟩
      go_wp2_with fail
      go_returns
      exact ⟨rfl, H2, HE.out.2.trans K2⟩)
theorem rout_r (H : IdeIn 108 w b ds lv D) (r : Nat) (h2 : 2 ≤ r) (h6 : r ≤ 6) (size : Int) (v : Nat) (hv : v < 4294967296) :
    Calls Tryz.prog 83 #[.pointer (some ⟨b, 0, none⟩), .int .i64 (r : Nat), .int .i64 size, .int .u32 v] w fun e w' =>
     e = .returned (.int .i64 0) ∧ IdeIn 108 w' b ds lv (D.setR r (v % 256)) ∧ Keeps (· = b) w w' := by
 have hc := H.reg r (by omega)
 have kf : ∀ k, w.frozen? ⟨b, k, none⟩ = false := fun k => free_at H.obj
 have E := turned H (Blk.reg1 (Blk.of H) r (v % 256) ((v : Int) % 256) (by omega) (by omega)) ((Keeps.refl _ w).setOne _ _) (Dk.setR_ok H.ok r _ (Nat.mod_lt _ (by decide))) rfl rfl rfl
 have HE := Lib.hid E
 have g0 : ((r : Int) == 0) = false := by simp; omega
 have g1 : ((r : Int) == 1) = false := by simp; omega
 have g7 : ((r : Int) == 7) = false := by simp; omega
 have g8 : ((r : Int) == 8) = false := by simp; omega
 have q0 : (0 : Int) ≤ (r : Int) := by omega
 have q1 : (r : Int) < 7 := by omega
 clear E H h2 h6
 go_enter Tryz.func83, Tryz.ntmps83
 go_wp2_with fail
 go_returns
 exact ⟨rfl, HE.out⟩
theorem rout_any (H : IdeIn 108 w b ds lv D) (hr : D.room) (reg size : Int) (v : Nat) (hv : v < 4294967296) (hL : D.log.length + 4 < 17592186044416) :
    Calls Tryz.prog 83 #[.pointer (some ⟨b, 0, none⟩), .int .i64 reg, .int .i64 size, .int .u32 v] w fun e w' => e = .returned (.int .i64 (callErr reg size)) ∧ RWent w b ds lv (D.out reg size v) w' := by
 unfold Dk.out
 by_cases he : callErr reg size = 0
 ·rw [if_neg (by omega), he]
  have he2 := he
  unfold callErr at he2
  by_cases h0 : reg = 0
  ·subst h0
   have hs : size = 1 ∨ size = 2 ∨ size = 4 := by
    split at he2
    ·omega
    ·split at he2
     ·omega
     ·omega
   rw [if_pos rfl]
   rcases hs with rfl | rfl | rfl
   ·exact rout_01 H hr v hv hL
   ·exact rout_02 H hr v hv hL
   ·exact rout_04 H hr v hv hL
  ·rw [if_neg h0]
   by_cases h1 : reg = 1
   ·subst h1
    rw [if_pos rfl]
    refine (rout_1 size v).mono ?_
    rintro e w1 ⟨rfl, rfl⟩
    exact ⟨rfl, RWent.of H (Keeps.refl _ _)⟩
   ·rw [if_neg h1]
    by_cases h7 : reg = 7
    ·subst h7
     rw [if_pos rfl]
     refine (rout_7 H size v hv).mono ?_
     rintro e w1 ⟨rfl, H1, K⟩
     exact ⟨rfl, RWent.of H1 K⟩
    ·rw [if_neg h7]
     by_cases h8 : reg = 8
     ·subst h8
      rw [if_pos rfl]
      refine (rout_8 H size v hv).mono ?_
      rintro e w1 ⟨rfl, H1, K⟩
      exact ⟨rfl, RWent.of H1 K⟩
     ·rw [if_neg h8]
      have hr2 : 0 ≤ reg ∧ reg ≤ 8 := by
       split at he2
       ·omega
       ·omega
      have := rout_r H reg.toNat (by omega) (by omega) size v hv
      rw [show ((reg.toNat : Nat) : Int) = reg by omega] at this
      refine this.mono ?_
      rintro e w1 ⟨rfl, H1, K⟩
      exact ⟨rfl, RWent.of H1 K⟩
 ·rw [if_pos he]
  refine (rout_err reg size v he).mono ?_
  rintro e w1 ⟨rfl, rfl⟩
  exact ⟨rfl, RWent.of H (Keeps.refl _ _)⟩
-- IN
theorem rin_err (reg size : Int) (he : callErr reg size ≠ 0) :
    Calls Tryz.prog 85 #[.pointer (some ⟨b, 0, none⟩), .int .i64 reg, .int .i64 size] w fun e w' => e = .returned (.tuple #[.int .u32 0, .int .i64 (callErr reg size)]) ∧ w = w' := by
 unfold callErr at he ⊢
 by_cases h0 : reg < 0
 ·rw [if_pos (.inl h0)]
  clear he
  go_enter Tryz.func85, Tryz.ntmps85
  go_wp2_with fail
  go_ret2
  exact ⟨rfl, rfl⟩
 ·by_cases h8 : 8 < reg
  ·rw [if_pos (.inr h8)]
   clear he
   go_enter Tryz.func85, Tryz.ntmps85
   go_wp2_with fail
   go_ret2
   exact ⟨rfl, rfl⟩
  ·rw [if_neg (by omega)] at he ⊢
   have hr : reg = 0 ∧ size ≠ 1 ∧ size ≠ 2 ∧ size ≠ 4 := Classical.byContradiction fun h => he (if_neg h)
   rw [if_pos hr]
   obtain ⟨rfl, h1, h2, h4⟩ := hr
   have g1 : (size != 1) = true := by simpa using h1
   have g2 : (size != 2) = true := by simpa using h2
   have g4 : (size != 4) = true := by simpa using h4
   clear he h1 h2 h4 h0 h8
   go_enter Tryz.func85, Tryz.ntmps85
   go_wp2_with fail
   go_ret2
   exact ⟨rfl, rfl⟩
theorem sized_call {reg size : Int} (he : callErr reg size = 0) : 0 ≤ reg ∧ reg ≤ 8 ∧ (reg = 0 → size = 1 ∨ size = 2 ∨ size = 4) := by
 unfold callErr at he
 split at he
 ·omega
 ·split at he
  ·omega
  ·omega
theorem rin_other (H : IdeIn 108 w b ds lv D) (reg size : Int) (he : callErr reg size = 0) (ho : D.other = true) (h6 : reg ≠ 6) :
    Calls Tryz.prog 85 #[.pointer (some ⟨b, 0, none⟩), .int .i64 reg, .int .i64 size] w fun e w' => e = .returned (.tuple #[.int .u32 0, .int .i64 0]) ∧ w = w' := by
 obtain ⟨l0, l8, hs⟩ := sized_call he
 obtain ⟨-, -, -, -, -, -, -, k7, -⟩ := H.facts
 have hr6 := H.ok.r 6
 have g0 := (rother H).1
 rw [ho] at g0
 have g6 : (reg != 6) = true := by simpa using h6
 clear H he ho h6
 by_cases h0 : reg = 0
 ·subst h0
  rcases hs rfl with rfl | rfl | rfl
  all_goals
   go_enter Tryz.func85, Tryz.ntmps85
   go_wp2_with fail
   go_ret2
   exact ⟨rfl, rfl⟩
 ·have g : (reg == 0) = false := by simpa using h0
  clear hs h0
  go_enter Tryz.func85, Tryz.ntmps85
  go_wp2_with fail
  go_ret2
  exact ⟨rfl, rfl⟩
theorem rin_r (H : IdeIn 108 w b ds lv D) (r : Nat) (h1 : 1 ≤ r) (h6 : r ≤ 6) (size : Int) (ho : D.other = false ∨ r = 6) :
    Calls Tryz.prog 85 #[.pointer (some ⟨b, 0, none⟩), .int .i64 (r : Nat), .int .i64 size] w fun e w' => e = .returned (.tuple #[.int .u32 (D.r r : Nat), .int .i64 0]) ∧ w = w' := by
 have hc := H.reg r (by omega)
 obtain ⟨-, -, -, -, -, -, -, k7, -⟩ := H.facts
 have hr6 := H.ok.r 6
 have hrr := H.ok.r r
 have g0 := (rother H).1
 have g : ((r : Int) == 0) = false := by simp; omega
 have q0 : (0 : Int) ≤ (r : Int) := by omega
 have q1 : (r : Int) < 7 := by omega
 have q2 : (1 : Int) ≤ (r : Int) := by omega
 clear H
 cases hd : D.other
 ·rw [hd] at g0
  clear ho hd
  go_enter Tryz.func85, Tryz.ntmps85
  go_wp2_with fail
  go_ret2
  exact ⟨rfl, rfl⟩
 ·rw [hd] at g0 ho
  have e6 : r = 6 := by rcases ho with h | h; cases h; exact h
  subst e6
  clear hd ho
  have hc' : w.cell? ⟨b, 7, none⟩ = some (.int .u8 (D.r 6 : Nat)) := hc
  clear hc
  go_enter Tryz.func85, Tryz.ntmps85
  go_wp2_with fail
  go_ret2
  exact ⟨rfl, rfl⟩
theorem rin_s (H : IdeIn 108 w b ds lv D) (r : Int) (hr : r = 7 ∨ r = 8) (size : Int) (ho : D.other = false) :
    Calls Tryz.prog 85 #[.pointer (some ⟨b, 0, none⟩), .int .i64 r, .int .i64 size] w fun e w' => e = .returned (.tuple #[.int .u32 (D.status : Nat), .int .i64 0]) ∧ IdeIn 108 w' b ds lv (D.setMark (D.mark && r == 8)) ∧ Keeps (· = b) w w' := by
 obtain ⟨-, -, -, -, -, -, -, k7, -, -, k10, k11, k12, -, kf, klt⟩ := H.facts
 have hr6 := H.ok.r 6
 have g0 := (rother H).1
 rw [ho] at g0
 have HH := Lib.hid H
 clear ho H
 obtain ⟨m, hm⟩ : ∃ m, m = D.mark := ⟨_, rfl⟩
 rw [← hm] at k11
 have HM := Lib.hid hm
 clear hm
 rcases hr with rfl | rfl
 all_goals
  cases hf : D.failed
  all_goals
   rw [hf] at k12
   have HF := Lib.hid hf
   clear hf
   by_cases hz : D.mode = 0
   ·have g : decide ((0 : Int) < ((D.mode : Nat) : Int)) = false := by rw [hz]; rfl
    rw [hz] at k10
    have HZ := Lib.hid hz
    clear hz g
    go_enter Tryz.func85, Tryz.ntmps85
    go_wp2_with fail
    go_ret2
    refine ⟨by unfold Dk.status; rw [HZ.out, HF.out]; rfl, ?_⟩
    first
     | (have e : D.setMark (D.mark && (7 : Int) == 8) = D.setMark false := by rw [show ((7 : Int) == 8) = false from rfl, Bool.and_false]
        rw [e]; exact turned HH.out (Blk.mark (Blk.of HH.out) _) ((Keeps.refl _ _).setOne _ _) (Dk.mark_ok HH.out.ok _) rfl rfl rfl)
     | (have e : D.setMark (D.mark && (8 : Int) == 8) = D := by rw [show ((8 : Int) == 8) = true from rfl, Bool.and_true]; rfl
        rw [e]; exact ⟨HH.out, Keeps.refl _ _⟩)
   ·have q : (0 : Int) < ((D.mode : Nat) : Int) := by omega
    have HZ := Lib.hid hz
    clear hz
    go_enter Tryz.func85, Tryz.ntmps85
    go_wp2_with fail
    go_ret2
    refine ⟨by unfold Dk.status; rw [if_neg HZ.out, HF.out]; rfl, ?_⟩
    first
     | (have e : D.setMark (D.mark && (7 : Int) == 8) = D.setMark false := by rw [show ((7 : Int) == 8) = false from rfl, Bool.and_false]
        rw [e]; exact turned HH.out (Blk.mark (Blk.of HH.out) _) ((Keeps.refl _ _).setOne _ _) (Dk.mark_ok HH.out.ok _) rfl rfl rfl)
     | (have e : D.setMark (D.mark && (8 : Int) == 8) = D := by rw [show ((8 : Int) == 8) = true from rfl, Bool.and_true]; rfl
        rw [e]; exact ⟨HH.out, Keeps.refl _ _⟩)
theorem rin_01 (H : IdeIn 108 w b ds lv D) (hr : D.room) (ho : D.other = false) :
    Calls Tryz.prog 85 #[.pointer (some ⟨b, 0, none⟩), .int .i64 0, .int .i64 1] w fun e w' => e = .returned (.tuple #[.int .u32 (D.getV 1 : Nat), .int .i64 0]) ∧ IdeIn 108 w' b ds lv (D.getN 1) ∧ Keeps (· = b) w w' := by
 obtain ⟨-, -, -, -, -, -, -, k7, -⟩ := H.facts
 have hr6 := H.ok.r 6
 have g0 := (rother H).1
 rw [ho] at g0
 have HH := Lib.hid H
 have HR := Lib.hid hr
 clear H hr ho
 go_enter Tryz.func85, Tryz.ntmps85
 go_wp2_with fail
 go_loopw [8, 9] (fun v i wr => ∃ k : Nat, k ≤ 1 ∧ i = .int .i64 k ∧ v = .int .u32 (D.getV k : Nat) ∧ D.getV k < 256 ^ k ∧ IdeIn 108 wr b ds lv (D.getN k) ∧ Keeps (· = b) w wr) (fun _ i _ => 1 - (intOf i).toNat)
 case atStart => exact ⟨0, by omega, rfl, rfl, (show (0 : Nat) < 1 by decide), HH.out, Keeps.refl _ _⟩
 case round =>
  clear k7 hr6 g0
  obtain ⟨k, hk, rfl, rfl, hlt, H2, K2⟩ := hrel
  have HH2 := Lib.hid H2
  have HK2 := Lib.hid K2
  have hgl := gets_lt H2.ok
  clear H2 K2
  have HV := Lib.hid (show D.getV (k + 1) = D.getV k + (D.getN k).gets * 256 ^ k from rfl)
  have HN := Lib.hid (show D.getN (k + 1) = (D.getN k).getB from rfl)
  by_cases hks : k < 1
  ·have HRM := Lib.hid (room_getN HR.out k)
   generalize D.getV k = g at *
   rcases (show k = 0 by omega) with rfl
   ·have HLT := Lib.hid (show g < 256 ^ 0 from hlt)
    have h1 : g < 4294967296 := Nat.lt_of_lt_of_le hlt (by decide)
    have HG := Lib.hid (show (D.getN 0).gets < 256 from hgl)
    clear hlt
    go_wp2_with fail
    refine (rget_in HH2.out HRM.out).mono ?_
    rintro e w3 ⟨rfl, H3, K3⟩
    have HX := Lib.hid (And.intro H3 (HK2.out.trans K3))
    clear H3 K3
    go_wp2_with fail
    go_roundw
    case rel =>
     have a1 := HLT.out
     have a2 := HG.out
     have a3 : D.getV 1 = g + (D.getN 0).gets * 256 ^ 0 := HV.out
     simp only [Nat.reducePow] at a1 a3
     refine ⟨1, by omega, rfl, congrArg (Value.int .u32) (?_ : _ = _), ?_, HX.out.1, HX.out.2⟩
     ·rw [a3]; omega
     ·rw [a3]; simp only [Nat.reducePow]; omega
    case measure => (simp [intOf])
  ·have q2 : (1 : Int) ≤ k := by omega
   have hk2 : k = 1 := by omega
   have HKS := Lib.hid hk2
   clear hk2
   go_wp2_with fail
   go_ret2
   exact ⟨by rw [← HKS.out]; rfl, by rw [← HKS.out]; exact HH2.out, HK2.out⟩
theorem rin_02 (H : IdeIn 108 w b ds lv D) (hr : D.room) (ho : D.other = false) :
    Calls Tryz.prog 85 #[.pointer (some ⟨b, 0, none⟩), .int .i64 0, .int .i64 2] w fun e w' => e = .returned (.tuple #[.int .u32 (D.getV 2 : Nat), .int .i64 0]) ∧ IdeIn 108 w' b ds lv (D.getN 2) ∧ Keeps (· = b) w w' := by
 obtain ⟨-, -, -, -, -, -, -, k7, -⟩ := H.facts
 have hr6 := H.ok.r 6
 have g0 := (rother H).1
 rw [ho] at g0
 have HH := Lib.hid H
 have HR := Lib.hid hr
 clear H hr ho
 go_enter Tryz.func85, Tryz.ntmps85
 go_wp2_with fail
 go_loopw [8, 9] (fun v i wr => ∃ k : Nat, k ≤ 2 ∧ i = .int .i64 k ∧ v = .int .u32 (D.getV k : Nat) ∧ D.getV k < 256 ^ k ∧ IdeIn 108 wr b ds lv (D.getN k) ∧ Keeps (· = b) w wr) (fun _ i _ => 2 - (intOf i).toNat)
 case atStart => exact ⟨0, by omega, rfl, rfl, (show (0 : Nat) < 1 by decide), HH.out, Keeps.refl _ _⟩
 case round =>
  clear k7 hr6 g0
  obtain ⟨k, hk, rfl, rfl, hlt, H2, K2⟩ := hrel
  have HH2 := Lib.hid H2
  have HK2 := Lib.hid K2
  have hgl := gets_lt H2.ok
  clear H2 K2
  have HV := Lib.hid (show D.getV (k + 1) = D.getV k + (D.getN k).gets * 256 ^ k from rfl)
  have HN := Lib.hid (show D.getN (k + 1) = (D.getN k).getB from rfl)
  by_cases hks : k < 2
  ·have HRM := Lib.hid (room_getN HR.out k)
   generalize D.getV k = g at *
   rcases (show k = 0 ∨ k = 1 by omega) with rfl | rfl
   ·have HLT := Lib.hid (show g < 256 ^ 0 from hlt)
    have h1 : g < 4294967296 := Nat.lt_of_lt_of_le hlt (by decide)
    have HG := Lib.hid (show (D.getN 0).gets < 256 from hgl)
    clear hlt
    go_wp2_with fail
    refine (rget_in HH2.out HRM.out).mono ?_
    rintro e w3 ⟨rfl, H3, K3⟩
    have HX := Lib.hid (And.intro H3 (HK2.out.trans K3))
    clear H3 K3
    go_wp2_with fail
    go_roundw
    case rel =>
     have a1 := HLT.out
     have a2 := HG.out
     have a3 : D.getV 1 = g + (D.getN 0).gets * 256 ^ 0 := HV.out
     simp only [Nat.reducePow] at a1 a3
     refine ⟨1, by omega, rfl, congrArg (Value.int .u32) (?_ : _ = _), ?_, HX.out.1, HX.out.2⟩
     ·rw [a3]; omega
     ·rw [a3]; simp only [Nat.reducePow]; omega
    case measure => (simp [intOf])
   ·have HLT := Lib.hid (show g < 256 ^ 1 from hlt)
    have h1 : g < 4294967296 := Nat.lt_of_lt_of_le hlt (by decide)
    have HG := Lib.hid (show (D.getN 1).gets < 256 from hgl)
    clear hlt
    go_wp2_with fail
    refine (rget_in HH2.out HRM.out).mono ?_
    rintro e w3 ⟨rfl, H3, K3⟩
    have HX := Lib.hid (And.intro H3 (HK2.out.trans K3))
    clear H3 K3
    go_wp2_with fail
    go_roundw
    case rel =>
     have a1 := HLT.out
     have a2 := HG.out
     have a3 : D.getV 2 = g + (D.getN 1).gets * 256 ^ 1 := HV.out
     simp only [Nat.reducePow] at a1 a3
     refine ⟨2, by omega, rfl, congrArg (Value.int .u32) (?_ : _ = _), ?_, HX.out.1, HX.out.2⟩
     ·rw [a3]; omega
     ·rw [a3]; simp only [Nat.reducePow]; omega
    case measure => (simp [intOf])
  ·have q2 : (2 : Int) ≤ k := by omega
   have hk2 : k = 2 := by omega
   have HKS := Lib.hid hk2
   clear hk2
   go_wp2_with fail
   go_ret2
   exact ⟨by rw [← HKS.out]; rfl, by rw [← HKS.out]; exact HH2.out, HK2.out⟩
theorem rin_04 (H : IdeIn 108 w b ds lv D) (hr : D.room) (ho : D.other = false) :
    Calls Tryz.prog 85 #[.pointer (some ⟨b, 0, none⟩), .int .i64 0, .int .i64 4] w fun e w' => e = .returned (.tuple #[.int .u32 (D.getV 4 : Nat), .int .i64 0]) ∧ IdeIn 108 w' b ds lv (D.getN 4) ∧ Keeps (· = b) w w' := by
 obtain ⟨-, -, -, -, -, -, -, k7, -⟩ := H.facts
 have hr6 := H.ok.r 6
 have g0 := (rother H).1
 rw [ho] at g0
 have HH := Lib.hid H
 have HR := Lib.hid hr
 clear H hr ho
 go_enter Tryz.func85, Tryz.ntmps85
 go_wp2_with fail
 go_loopw [8, 9] (fun v i wr => ∃ k : Nat, k ≤ 4 ∧ i = .int .i64 k ∧ v = .int .u32 (D.getV k : Nat) ∧ D.getV k < 256 ^ k ∧ IdeIn 108 wr b ds lv (D.getN k) ∧ Keeps (· = b) w wr) (fun _ i _ => 4 - (intOf i).toNat)
 case atStart => exact ⟨0, by omega, rfl, rfl, (show (0 : Nat) < 1 by decide), HH.out, Keeps.refl _ _⟩
 case round =>
  clear k7 hr6 g0
  obtain ⟨k, hk, rfl, rfl, hlt, H2, K2⟩ := hrel
  have HH2 := Lib.hid H2
  have HK2 := Lib.hid K2
  have hgl := gets_lt H2.ok
  clear H2 K2
  have HV := Lib.hid (show D.getV (k + 1) = D.getV k + (D.getN k).gets * 256 ^ k from rfl)
  have HN := Lib.hid (show D.getN (k + 1) = (D.getN k).getB from rfl)
  by_cases hks : k < 4
  ·have HRM := Lib.hid (room_getN HR.out k)
   generalize D.getV k = g at *
   rcases (show k = 0 ∨ k = 1 ∨ k = 2 ∨ k = 3 by omega) with rfl | rfl | rfl | rfl
   ·have HLT := Lib.hid (show g < 256 ^ 0 from hlt)
    have h1 : g < 4294967296 := Nat.lt_of_lt_of_le hlt (by decide)
    have HG := Lib.hid (show (D.getN 0).gets < 256 from hgl)
    clear hlt
    go_wp2_with fail
    refine (rget_in HH2.out HRM.out).mono ?_
    rintro e w3 ⟨rfl, H3, K3⟩
    have HX := Lib.hid (And.intro H3 (HK2.out.trans K3))
    clear H3 K3
    go_wp2_with fail
    go_roundw
    case rel =>
     have a1 := HLT.out
     have a2 := HG.out
     have a3 : D.getV 1 = g + (D.getN 0).gets * 256 ^ 0 := HV.out
     simp only [Nat.reducePow] at a1 a3
     refine ⟨1, by omega, rfl, congrArg (Value.int .u32) (?_ : _ = _), ?_, HX.out.1, HX.out.2⟩
     ·rw [a3]; omega
     ·rw [a3]; simp only [Nat.reducePow]; omega
    case measure => (simp [intOf])
   ·have HLT := Lib.hid (show g < 256 ^ 1 from hlt)
    have h1 : g < 4294967296 := Nat.lt_of_lt_of_le hlt (by decide)
    have HG := Lib.hid (show (D.getN 1).gets < 256 from hgl)
    clear hlt
    go_wp2_with fail
    refine (rget_in HH2.out HRM.out).mono ?_
    rintro e w3 ⟨rfl, H3, K3⟩
    have HX := Lib.hid (And.intro H3 (HK2.out.trans K3))
    clear H3 K3
    go_wp2_with fail
    go_roundw
    case rel =>
     have a1 := HLT.out
     have a2 := HG.out
     have a3 : D.getV 2 = g + (D.getN 1).gets * 256 ^ 1 := HV.out
     simp only [Nat.reducePow] at a1 a3
     refine ⟨2, by omega, rfl, congrArg (Value.int .u32) (?_ : _ = _), ?_, HX.out.1, HX.out.2⟩
     ·rw [a3]; omega
     ·rw [a3]; simp only [Nat.reducePow]; omega
    case measure => (simp [intOf])
   ·have HLT := Lib.hid (show g < 256 ^ 2 from hlt)
    have h1 : g < 4294967296 := Nat.lt_of_lt_of_le hlt (by decide)
    have HG := Lib.hid (show (D.getN 2).gets < 256 from hgl)
    clear hlt
    go_wp2_with fail
    refine (rget_in HH2.out HRM.out).mono ?_
    rintro e w3 ⟨rfl, H3, K3⟩
    have HX := Lib.hid (And.intro H3 (HK2.out.trans K3))
    clear H3 K3
    go_wp2_with fail
    go_roundw
    case rel =>
     have a1 := HLT.out
     have a2 := HG.out
     have a3 : D.getV 3 = g + (D.getN 2).gets * 256 ^ 2 := HV.out
     simp only [Nat.reducePow] at a1 a3
     refine ⟨3, by omega, rfl, congrArg (Value.int .u32) (?_ : _ = _), ?_, HX.out.1, HX.out.2⟩
     ·rw [a3]; omega
     ·rw [a3]; simp only [Nat.reducePow]; omega
    case measure => (simp [intOf])
   ·have HLT := Lib.hid (show g < 256 ^ 3 from hlt)
    have h1 : g < 4294967296 := Nat.lt_of_lt_of_le hlt (by decide)
    have HG := Lib.hid (show (D.getN 3).gets < 256 from hgl)
    clear hlt
    go_wp2_with fail
    refine (rget_in HH2.out HRM.out).mono ?_
    rintro e w3 ⟨rfl, H3, K3⟩
    have HX := Lib.hid (And.intro H3 (HK2.out.trans K3))
    clear H3 K3
    go_wp2_with fail
    go_roundw
    case rel =>
     have a1 := HLT.out
     have a2 := HG.out
     have a3 : D.getV 4 = g + (D.getN 3).gets * 256 ^ 3 := HV.out
     simp only [Nat.reducePow] at a1 a3
     refine ⟨4, by omega, rfl, congrArg (Value.int .u32) (?_ : _ = _), ?_, HX.out.1, HX.out.2⟩
     ·rw [a3]; omega
     ·rw [a3]; simp only [Nat.reducePow]; omega
    case measure => (simp [intOf])
  ·have q2 : (4 : Int) ≤ k := by omega
   have hk2 : k = 4 := by omega
   have HKS := Lib.hid hk2
   clear hk2
   go_wp2_with fail
   go_ret2
   exact ⟨by rw [← HKS.out]; rfl, by rw [← HKS.out]; exact HH2.out, HK2.out⟩
theorem rin_any (H : IdeIn 108 w b ds lv D) (hr : D.room) (reg size : Int) :
    Calls Tryz.prog 85 #[.pointer (some ⟨b, 0, none⟩), .int .i64 reg, .int .i64 size] w fun e w' => e = .returned (.tuple #[.int .u32 (D.inV reg size : Nat), .int .i64 (callErr reg size)]) ∧ RWent w b ds lv (D.inS reg size) w' := by
 unfold Dk.inV Dk.inS
 by_cases he : callErr reg size = 0
 ·have hz : ¬ (callErr reg size ≠ 0) := fun h => h he
  obtain ⟨l0, l8, hs⟩ := sized_call he
  rw [if_neg hz, if_neg hz]
  by_cases ho : D.other = true ∧ reg ≠ 6
  ·rw [if_pos ho, if_pos ho, he]
   refine (rin_other H reg size he ho.1 ho.2).mono ?_
   rintro e w1 ⟨rfl, rfl⟩
   exact ⟨rfl, RWent.of H (Keeps.refl _ _)⟩
  ·rw [if_neg ho, if_neg ho, he]
   have ho2 : D.other = false ∨ reg = 6 := by
    cases h : D.other
    ·exact .inl rfl
    ·exact .inr (Classical.byContradiction fun q => ho ⟨h, q⟩)
   by_cases h0 : reg = 0
   ·subst h0
    have hoo := ho2.resolve_right (by decide)
    rw [if_pos rfl, if_pos rfl]
    rcases hs rfl with rfl | rfl | rfl
    ·refine (rin_01 H hr hoo).mono ?_
     rintro e w1 ⟨rfl, H1, K⟩
     exact ⟨rfl, RWent.of H1 K⟩
    ·refine (rin_02 H hr hoo).mono ?_
     rintro e w1 ⟨rfl, H1, K⟩
     exact ⟨rfl, RWent.of H1 K⟩
    ·refine (rin_04 H hr hoo).mono ?_
     rintro e w1 ⟨rfl, H1, K⟩
     exact ⟨rfl, RWent.of H1 K⟩
   ·rw [if_neg h0, if_neg h0]
    by_cases h7 : reg < 7
    ·rw [if_pos h7, if_pos h7]
     have := rin_r (w := w) H reg.toNat (by omega) (by omega) size (ho2.imp id fun h => by omega)
     rw [show ((reg.toNat : Nat) : Int) = reg by omega] at this
     refine this.mono ?_
     rintro e w1 ⟨rfl, rfl⟩
     exact ⟨rfl, RWent.of H (Keeps.refl _ _)⟩
    ·rw [if_neg h7, if_neg h7]
     refine (rin_s H reg (by omega) size (ho2.resolve_right (by omega))).mono ?_
     rintro e w1 ⟨rfl, H1, K⟩
     exact ⟨rfl, RWent.of H1 K⟩
 ·rw [if_pos he, if_pos he]
  refine (rin_err reg size he).mono ?_
  rintro e w1 ⟨rfl, rfl⟩
  exact ⟨rfl, RWent.of H (Keeps.refl _ _)⟩
end
end Go.Proofs.YtojmpdddfnkffaaGreat.Ide

/- ide: the document's disk: New, Written. -/
namespace Go.Proofs.YtojmpdddfnkffaaGreat.Ide
open Go.RowKit
set_option linter.unusedVariables false
set_option linter.unusedSimpArgs false

set_option maxRecDepth 100000 in
theorem rbuilt_new (a : Option Addr) (m c : Nat) : Tryz.prog.built 108 [(0, .slice a m c)] = some (blank.cells (.slice a m c) (.slice none 0 0)) := by kernel_rfl
theorem reads_news {w : World} {v : Value} {n : Nat} {d : Nat → Nat} (H : Reads w v n d) : (n = 0 ∧ v = .slice none 0 0) ∨ ∃ ad c, v = .slice (some ad) n c ∧ ∀ j u, (bytesL n d)[j]? = some u → w.cell? (ad.add j) = some u := by
 obtain ⟨a, c, rfl, h⟩ := H
 cases a with
 | none =>
  rcases h with ⟨rfl, h⟩ | ⟨b, off, h, _⟩
  ·obtain rfl := h rfl; exact .inl ⟨rfl, rfl⟩
  ·cases h
 | some a =>
  right
  rcases h with ⟨rfl, h⟩ | ⟨b, off, h, _, hc⟩
  ·exact ⟨a, c, rfl, fun j u hj => by rw [bytesL_no 0 d j (Nat.zero_le _)] at hj; cases hj⟩
  ·cases h
   exact ⟨_, c, rfl, fun j u hj => by obtain ⟨hj2, rfl⟩ := bytesL_some hj; rw [Go.WideShapes.add_plain]; exact hc j hj2⟩
section
variable {w : World} {b : Nat} {ds lv : Value} {D : Dk}
theorem rmade_in {w1 : World} {L n : Nat} {d : Nat → Nat} {a' : Option Addr} {c' : Nat} (hL : L = n * 512) (hn : n ≤ 64) (hd : ∀ i, d i < 256) (hown : w1.ownsRow w.heap.size 5 1 (.slice a' L c') L (bytesL L d)) :
    IdeIn 108 (w1.alloc (.cells (blank.cells (.slice a' L c') (.slice none 0 0)) 108)) w1.heap.size (.slice a' L c') (.slice none 0 0) (Dk.made n d) := by
 have hlt := World.ownsRow.lt hown
 refine { obj := heap_new w1 _, disk := ?_, log := World.ownsRow_nil _ _ _ _, d1 := fun e => ?_, d2 := (fun e => by cases e), d3 := (fun k _ e => by cases e), ok := Dk.made_ok hn hd }
 ·have hr := row_base hown
  rw [hL] at hr ⊢
  exact hr.alloc _
 ·exact Nat.lt_irrefl _ (hlt _ e).2
def NewAt (w : World) (n : Nat) (d : Nat → Nat) (e : Ending) (w' : World) : Prop :=
 ∃ b ds, e = .returned (.tuple #[.pointer (some ⟨b, 0, none⟩), .int .i64 0]) ∧ IdeIn 108 w' b ds (.slice none 0 0) (Dk.new n d) ∧ w.heap.size ≤ b ∧ (∀ k, ds.ownBlock = some k → w.heap.size ≤ k) ∧ Below w.heap.size w w'
theorem rrow_len {w : World} {B n : Nat} {E : TypeId} {v : Value} {xs : List Value} (h : w.ownsRow B E 1 v n xs) : ∃ a c, v = .slice a n c := by
 rcases h.2 with ⟨rfl, rfl⟩ | ⟨g, cap, cur, rfl, _⟩
 ·exact ⟨_, _, rfl⟩
 ·exact ⟨_, _, rfl⟩
theorem rnew_yes {v : Value} {n : Nat} {d : Nat → Nat} (H : Reads w v (n * 512) d) (hn : n ≤ 64) (hd : ∀ i, d i < 256) :
    Calls Tryz.prog 40 #[v] w (NewAt w n d) := by
 have hown : (w.alloc (.cells #[] 5)).ownsRow w.heap.size 5 1 (.slice (some ⟨w.heap.size, 0, none⟩) 0 0) 0 [] := World.ownsRow_made w #[] 0 (Nat.le_refl _) (by decide) (by simp)
 have HOWN := Lib.hid hown
 clear hown
 obtain ⟨i0, hi, hz0, hz1, hz2⟩ := info_parts info8
 have q1 : ((n * 512 : Nat) : Int) % 512 = 0 := by omega
 have q2 : ((n * 512 : Nat) : Int) ≤ 32768 := by omega
 have q3 : n * 512 ≤ 32768 := by omega
 rcases reads_news H with ⟨h0, rfl⟩ | ⟨ad, c, rfl, hnews⟩
 ·have hn0 : n = 0 := by omega
  subst hn0
  clear H h0 q1 q2 q3
  go_enter Tryz.func40, Tryz.ntmps40
  go_wp2_with (first | (at_builtin; (refine wpList_append_own_none rfl _ _ 22 rfl w.heap.size 5 i0 1 Tryz.underlying22 hi _ 0 [] rfl HOWN.out rfl ?_)) | ((refine wpList_build_eq (o := ⟨some 17, _, _, _, _, _⟩) ?hg0 108 ?pt0 ?ho0 (blank.cells (.slice (some ⟨w.heap.size, 0, none⟩) 0 0) (.slice none 0 0)) ?hb0 ?_); (case ho0 => rfl); (case hg0 => rfl); (case hb0 => (simp only [List.map_toArray, List.map_cons, List.map_nil]; exact rbuilt_new _ _ _))))
  have H0 := rmade_in (w := w) (n := 0) (L := 0) (d := d) (by omega) (by omega) hd HOWN.out
  simp only [World.size_alloc] at H0
  have H1 := Lib.hid H0
  clear H0
  refine (rfresh_in H1.out).mono ?_
  rintro e w2 ⟨rfl, H2, K2⟩
  have HX := Lib.hid (And.intro H2 K2)
  clear H2 K2
  go_wp2_with fail
  go_ret2
  refine ⟨_, _, rfl, HX.out.1, by simp, fun k hk => by cases hk; exact Nat.le_refl _, ?_⟩
  exact Keeps.toBelow (((Below.refl _ _).alloc (Nat.le_refl _) _).alloc (by simp) _) HX.out.2 (by simp; omega) (fun i h => by rw [h]; simp)
 ·have HNEWS := Lib.hid (show ∀ j u, (bytesL (n * 512) d)[j]? = some u → (w.alloc (.cells #[] 5)).cell? (ad.add j) = some u from fun j u h => by
    have := hnews j u h
    rw [World.cell?_alloc_lt _ _ _ (World.block_lt_of_cell? w _ this)]
    exact this)
  clear hnews H
  obtain ⟨L, hL⟩ : ∃ L, L = n * 512 := ⟨_, rfl⟩
  rw [← hL] at q1 q2 q3 HNEWS ⊢
  have HL := Lib.hid (And.intro hL hn)
  clear hL hn
  go_enter Tryz.func40, Tryz.ntmps40
  go_wp2_with (first | (at_builtin; refine wpList_append_own _ rfl _ _ 22 rfl w.heap.size 5 i0 (.int .u8 0) 1 1 Tryz.underlying22 hi hz0 hz1 hz2 rfl (by decide) _ 0 [] rfl HOWN.out ad L c (bytesL L d) rfl (by rw [bytesL_len]; omega) HNEWS.out (bytesL_one L d) (by unfold maxLen; omega) (by omega) (by simp) ?_; intro v' w1 hown1 hgrow1 _; have HB1 := Lib.hid (((Below.refl w.heap.size w).alloc (Nat.le_refl _) (.cells #[] 5)).grown hgrow1 (by simp) (by intro k hk; cases hk; exact Nat.le_refl _)); have HW1 := Lib.hid (show w1.ownsRow w.heap.size 5 1 v' L (bytesL L d) from by simpa using hown1); obtain ⟨a', c', hvv⟩ := rrow_len HW1.out; clear hown1 hgrow1; obtain rfl := hvv) | ((refine wpList_build_eq (o := ⟨some 17, _, _, _, _, _⟩) ?hg0 108 ?pt0 ?ho0 (blank.cells (.slice a' L c') (.slice none 0 0)) ?hb0 ?_); (case ho0 => rfl); (case hg0 => rfl); (case hb0 => (simp only [List.map_toArray, List.map_cons, List.map_nil]; exact rbuilt_new _ _ _))))
  have H1 := Lib.hid (rmade_in (w := w) HL.out.1 HL.out.2 hd HW1.out)
  refine (rfresh_in H1.out).mono ?_
  rintro e w2 ⟨rfl, H2, K2⟩
  have HX := Lib.hid (And.intro H2 K2)
  clear H2 K2
  go_wp2_with fail
  go_ret2
  refine ⟨_, _, rfl, HX.out.1, HB1.out.size, fun k hk => (World.ownsRow.lt HW1.out k hk).1, ?_⟩
  exact Keeps.toBelow (HB1.out.alloc HB1.out.size _) HX.out.2 (by simp; have := HB1.out.size; omega) (fun i h => by rw [h]; exact HB1.out.size)
theorem rnew_bad (a : Option Addr) (m c : Nat) (h : m % 512 ≠ 0 ∨ 32768 < m) :
    Calls Tryz.prog 40 #[.slice a m c] w fun e w' => e = .returned (.tuple #[.pointer none, .int .i64 140]) ∧ w = w' := by
 by_cases h1 : m % 512 = 0
 ·have q : (32768 : Int) < (m : Int) := by omega
  have q2 : ((m : Int) % 512 != 0) = false := by simp; omega
  clear h h1
  go_enter Tryz.func40, Tryz.ntmps40
  go_wp2_with fail
  go_ret2
  exact ⟨rfl, rfl⟩
 ·have q2 : ((m : Int) % 512 != 0) = true := by simp; omega
  clear h h1
  go_enter Tryz.func40, Tryz.ntmps40
  go_wp2_with fail
  go_ret2
  exact ⟨rfl, rfl⟩
theorem rwritten_in (H : IdeIn 108 w b ds lv D) :
    Calls Tryz.prog 58 #[.pointer (some ⟨b, 0, none⟩)] w fun e w' => e = .returned lv ∧ IdeIn 108 w' b ds (.slice none 0 0) D.quit ∧ Keeps (· = b) w w' := by
 obtain ⟨-, -, -, -, -, -, -, -, -, -, -, -, -, k13, kf, klt⟩ := H.facts
 obtain ⟨a, m, c, rfl⟩ := row_slice H.log
 have HH := Lib.hid H
 clear H
 go_enter Tryz.func58, Tryz.ntmps58
 go_wp2_with fail
 go_ret
 have K : Keeps (· = b) w (w.setCell ⟨b, 525, none⟩ (.slice none 0 0)) := (Keeps.refl _ w).setOne _ _
 refine ⟨rfl, ({ obj := ?_, disk := ?_, log := World.ownsRow_nil _ _ _ _, d1 := HH.out.d1, d2 := (fun e => by cases e), d3 := (fun k _ e => by cases e), ok := Dk.quit_ok HH.out.ok } : IdeIn _ _ _ _ _ _), K⟩
 ·rw [heap_set_same (.slice none 0 0) HH.out.obj, Dk.put_log D ds (.slice a m c) [] (.slice none 0 0)]; rfl
 ·exact HH.out.disk.of_heap fun k hk => K.block k (HH.out.disk.lt hk) (fun e => HH.out.d1 (by rw [← e]; exact hk))
end
end Go.Proofs.YtojmpdddfnkffaaGreat.Ide

/- bus: the document's bus: its devices, its lines, New. -/
namespace Go.Proofs.YtojmpdddfnkffaaGreat
open Go.RowKit Go.MapKept
set_option linter.unusedVariables false
set_option linter.unusedSimpArgs false

def rct (c : Pit.Ct) : List Value := [.int .i64 c.m, .int .i64 c.h, .int .u64 c.l, .int .u64 c.g, .bool c.st, .bool c.wn, .int .u8 c.f, .bool c.up, .bool c.hd, .int .u64 c.v]
def rcts (T : Tm3) : Array Value := (rct T.a ++ rct T.b ++ rct T.c).toArray
def oRTm (b : Nat) (T : Tm3) : Ob := Ob.box b (.cells (rcts T) 147)
def oRPic (b : Nat) (c d : Pic.Chip) : Ob := ⟨fun w H => ∃ v u, Pic.RP w b v u c d ∧ (c.ok ∧ d.ok) ∧ ∀ k, H k ↔ (k = b ∨ v.ownBlock = some k ∨ u.ownBlock = some k),
 fun ⟨v, u, h, ok, e⟩ g => ⟨v, u, ⟨(g b ((e b).2 (.inl rfl))).trans h.obj, h.cw.of_heap fun k hk => g k ((e k).2 (.inr (.inl hk))), h.dw.of_heap fun k hk => g k ((e k).2 (.inr (.inr hk)))⟩, ok, e⟩,
 fun ⟨v, u, h, ok, e⟩ k hk => by
  rcases (e k).1 hk with rfl | hk | hk
  ·exact h.lt
  ·exact h.cw.lt hk
  ·exact h.dw.lt hk⟩
def oRUart (b : Nat) (U : Uart.Ut) : Ob := ⟨fun w H => ∃ cv ov, Uart.RfIn w b cv ov U ∧ ∀ k, H k ↔ Uart.RHeld b cv ov k,
 fun ⟨q, sv, h, e⟩ g => ⟨q, sv, h.of_heap fun k hk => g k ((e k).2 hk), e⟩, fun ⟨q, sv, h, e⟩ k hk => h.lt ((e k).1 hk)⟩
def oRIde (b : Nat) (D : Ide.Dk) : Ob := ⟨fun w H => ∃ ds lv, Ide.IdeIn 108 w b ds lv D ∧ D.room ∧ ∀ k, H k ↔ Ide.Held b ds lv k,
 fun ⟨q, sv, h, r, e⟩ g => ⟨q, sv, h.of_heap fun k hk => g k ((e k).2 hk), r, e⟩, fun ⟨q, sv, h, r, e⟩ k hk => Ide.Held.lt h ((e k).1 hk)⟩
def oRef (b : Nat) (R : RS) : Ob := ⟨fun w H => Ref w b H R,
 fun {w w' H} h g => by
  obtain ⟨g0, g1, g2, g3, h, e⟩ := h
  exact ⟨g0, g1, g2, g3, { h with
   obj := (g b ((e b).2 (.inl rfl))).trans h.obj
   r0 := (g g0 ((e g0).2 (.inr (.inl rfl)))).trans h.r0
   r1 := (g g1 ((e g1).2 (.inr (.inr (.inl rfl))))).trans h.r1
   r2 := (g g2 ((e g2).2 (.inr (.inr (.inr (.inl rfl)))))).trans h.r2
   r3 := (g g3 ((e g3).2 (.inr (.inr (.inr (.inr rfl)))))).trans h.r3 }, e⟩,
 fun {w H} h k hk => by
  obtain ⟨g0, g1, g2, g3, h, e⟩ := h
  rcases (e k).1 hk with rfl | rfl | rfl | rfl | rfl
  ·exact heap_lt h.obj
  ·exact heap_lt h.r0
  ·exact heap_lt h.r1
  ·exact heap_lt h.r2
  ·exact heap_lt h.r3⟩
def rbusCells (pm pp pt pu pi : Nat) (t : Nat) : Array Value :=
 #[.pointer (some ⟨pm, 0, none⟩), .pointer (some ⟨pp, 0, none⟩), .pointer (some ⟨pt, 0, none⟩), .pointer (some ⟨pu, 0, none⟩), .pointer (some ⟨pi, 0, none⟩), .int .u64 (t : Nat)]
def rbusObs (b pm pp pt pu pi : Nat) (B : Bs) : List Ob := [Ob.box b (.cells (rbusCells pm pp pt pu pi B.t) 51), oRPic pp B.c B.d, oRTm pt B.T, oRUart pu B.u, oRIde pi B.k, oRef pm B.R]
theorem rbus_facts {w : World} {b pp pt pu pi pm : Nat} {t : Nat} (h : w.heap[b]? = some (.cells (rbusCells pm pp pt pu pi t) 51)) :
    w.cell? ⟨b, 0, none⟩ = some (.pointer (some ⟨pm, 0, none⟩)) ∧ w.cell? ⟨b, 1, none⟩ = some (.pointer (some ⟨pp, 0, none⟩)) ∧ w.cell? ⟨b, 2, none⟩ = some (.pointer (some ⟨pt, 0, none⟩)) ∧ w.cell? ⟨b, 3, none⟩ = some (.pointer (some ⟨pu, 0, none⟩)) ∧ w.cell? ⟨b, 4, none⟩ = some (.pointer (some ⟨pi, 0, none⟩)) ∧
    w.cell? ⟨b, 5, none⟩ = some (.int .u64 (t : Nat)) ∧ (∀ k, w.frozen? ⟨b, k, none⟩ = false) ∧ b < w.heap.size := by
 refine ⟨?_, ?_, ?_, ?_, ?_, ?_, fun k => free_at h, heap_lt h⟩ <;> (rw [cell_at h]; rfl)
section
variable {b : Nat} {c d : Pic.Chip} {U : Uart.Ut} {D : Ide.Dk} {R : RS}
theorem rpic_line (n : Int) (up : Bool) : Acts 79 #[.pointer (some ⟨b, 0, none⟩), .int .i64 n, .bool up] (oRPic b c d) (.int .i64 (Pic.lerr n)) (oRPic b (Pic.lnc c n up) (Pic.lnd d n up)) := by
 rintro w A ⟨v, u, H, ok, e⟩
 refine (Pic.rline_any H ok.1 ok.2 n up).mono ?_
 rintro x w1 ⟨rfl, H1, K⟩
 exact ⟨rfl, A, ⟨v, u, H1, ⟨Pic.lnc_ok ok.1 n up, Pic.lnd_ok ok.2 n up⟩, e⟩, K.mono fun k _ h => (e k).2 (.inl h), fun k hk => .inl hk⟩
theorem ruart_line : Acts 81 #[.pointer (some ⟨b, 0, none⟩)] (oRUart b U) (.bool U.line) (oRUart b U) := by
 rintro w A ⟨v, u, H, e⟩
 refine (Uart.rline_any H).mono ?_
 rintro x w1 ⟨rfl, rfl⟩
 exact ⟨rfl, A, ⟨v, u, H, e⟩, Moves.refl _ _⟩
theorem ride_line : Acts 82 #[.pointer (some ⟨b, 0, none⟩)] (oRIde b D) (.bool D.line) (oRIde b D) := by
 rintro w A ⟨v, u, H, r, e⟩
 refine (Ide.rline_in H).mono ?_
 rintro x w1 ⟨rfl, rfl⟩
 exact ⟨rfl, A, ⟨v, u, H, r, e⟩, Moves.refl _ _⟩
def tm0 : Tm3 := ⟨Pit.ctNew, Pit.ctNew, Pit.ctNew⟩
theorem rtm_new (w : World) : Calls Tryz.prog 42 #[] w fun e w' => e = .returned (.pointer (some ⟨w.heap.size, 0, none⟩)) ∧ w'.heap[w.heap.size]? = some (.cells (rcts tm0) 147) ∧ Below w.heap.size w w' := by
 go_enter Tryz.func42, Tryz.ntmps42
 go_wp2
 go_rounds 4
 go_ret
 exact ⟨rfl, heap_new w _, by go_grown⟩
theorem rtm0_facts {w : World} (h : w.heap[b]? = some (.cells (rcts tm0) 147)) :
    w.cell? ⟨b, 0, none⟩ = some (.int .i64 3) ∧ w.cell? ⟨b, 1, none⟩ = some (.int .i64 3) ∧ w.cell? ⟨b, 2, none⟩ = some (.int .u64 65536) ∧ w.cell? ⟨b, 3, none⟩ = some (.int .u64 0) ∧ w.cell? ⟨b, 4, none⟩ = some (.bool false) ∧
    w.cell? ⟨b, 5, none⟩ = some (.bool false) ∧ w.cell? ⟨b, 6, none⟩ = some (.int .u8 0) ∧ w.cell? ⟨b, 7, none⟩ = some (.bool false) ∧ w.cell? ⟨b, 8, none⟩ = some (.bool false) ∧ w.cell? ⟨b, 9, none⟩ = some (.int .u64 0) ∧ b < w.heap.size := by
 refine ⟨?_, ?_, ?_, ?_, ?_, ?_, ?_, ?_, ?_, ?_, heap_lt h⟩ <;> (rw [cell_at h]; rfl)
theorem rtm_line0 : Acts 80 #[.pointer (some ⟨b, 0, none⟩), .int .u64 0] (oRTm b tm0) (.bool true) (oRTm b tm0) := by
 rintro w A ⟨H, e⟩
 have HH := Lib.hid H
 suffices hc : Calls Tryz.prog 80 #[.pointer (some ⟨b, 0, none⟩), .int .u64 0] w fun e w' => e = .returned (.bool true) ∧ Below w.heap.size w w' by
  refine hc.mono ?_
  rintro x w1 ⟨rfl, hb⟩
  exact ⟨rfl, A, ⟨heap_below hb HH.out, e⟩, moves_one e (Keeps.ofBelow hb)⟩
 obtain ⟨k0, k1, k2, k3, k4, k5, k6, k7, k8, k9, kl⟩ := rtm0_facts H
 clear H e
 go_enter Tryz.func80, Tryz.ntmps80
 go_wp2_with fail
 go_quiet (fail)
 go_wp2_with fail
 go_ret
 exact ⟨rfl, Pic.below_drewN ((Below.refl _ _).alloc (Nat.le_refl _) _) _⟩
end
section
variable {b pp pt pu pi pm : Nat} {B : Bs} {w0 w : World} {A0 : Nat → Prop}
theorem Hp.rbus (T : Hp w0 A0 w (rbusObs b pm pp pt pu pi B)) : w.heap[b]? = some (.cells (rbusCells pm pp pt pu pi B.t) 51) := T.box 0 rfl
theorem Hp.r125 (T : Hp w0 A0 w (rbusObs b pm pp pt pu pi B)) : w.cell? ⟨b, 1, none⟩ = some (.pointer (some ⟨pp, 0, none⟩)) ∧ w.cell? ⟨b, 2, none⟩ = some (.pointer (some ⟨pt, 0, none⟩)) ∧ w.cell? ⟨b, 5, none⟩ = some (.int .u64 (B.t : Nat)) :=
 have h := rbus_facts T.rbus
 ⟨h.2.1, h.2.2.1, h.2.2.2.2.2.1⟩
theorem Hp.r13 (T : Hp w0 A0 w (rbusObs b pm pp pt pu pi B)) : w.cell? ⟨b, 1, none⟩ = some (.pointer (some ⟨pp, 0, none⟩)) ∧ w.cell? ⟨b, 3, none⟩ = some (.pointer (some ⟨pu, 0, none⟩)) :=
 have h := rbus_facts T.rbus
 ⟨h.2.1, h.2.2.2.1⟩
theorem Hp.r14 (T : Hp w0 A0 w (rbusObs b pm pp pt pu pi B)) : w.cell? ⟨b, 1, none⟩ = some (.pointer (some ⟨pp, 0, none⟩)) ∧ w.cell? ⟨b, 4, none⟩ = some (.pointer (some ⟨pi, 0, none⟩)) :=
 have h := rbus_facts T.rbus
 ⟨h.2.1, h.2.2.2.2.1⟩
def RLine (T : Tm3) (t : Nat) : Prop := ∀ b, Acts 80 #[.pointer (some ⟨b, 0, none⟩), .int .u64 (t : Nat)] (oRTm b T) (.bool (T.a.line t)) (oRTm b T)
theorem rlines_hp (hl : RLine B.T B.t) (T : Hp w0 A0 w (rbusObs b pm pp pt pu pi B)) :
    Calls Tryz.prog 44 #[.pointer (some ⟨b, 0, none⟩)] w fun e w' => e = .returned (.tuple #[]) ∧ Hp w0 A0 w' (rbusObs b pm pp pt pu pi B.lines) := by
 have HL := Lib.hid hl
 clear hl
 go_enter Tryz.func44, Tryz.ntmps44
 go_wp2_with fail
 obtain ⟨k0, k1, k2, k3, k4, k5, kf, kl⟩ := rbus_facts T.rbus
 have T0 := Lib.hid T.drew
 clear T
 go_region_held3 (fun w' => w'.cell? ⟨b, 1, none⟩ = some (.pointer (some ⟨pp, 0, none⟩)) ∧ w'.cell? ⟨b, 2, none⟩ = some (.pointer (some ⟨pt, 0, none⟩)) ∧ w'.cell? ⟨b, 5, none⟩ = some (.int .u64 (B.t : Nat))) (first | exact Hp.r125 (B := B) T0.out | exact Hp.r125 (B := (B.line 0 (B.T.a.line B.t))) T2 | exact Hp.r125 (B := B) T1 | go_keep) (first | (go_at_call 80; refine (T0.out.act 2 rfl (HL.out _)).mono ?_; rintro e w1 ⟨rfl, T1⟩; replace T1 : Hp w0 A0 w1 (rbusObs b pm pp pt pu pi B) := T1) | (go_at_call 79; refine (T1.act 1 rfl (rpic_line _ _)).mono ?_; rintro e w2 ⟨rfl, T2⟩; replace T2 : Hp w0 A0 w2 (rbusObs b pm pp pt pu pi (B.line 0 (B.T.a.line B.t))) := T2))
 clear k0 k1 k2 k3 k4 k5 kf kl T1 T0
 have S0 := T2
 clear T2
 go_wp2_with fail
 obtain ⟨k0, k1, k2, k3, k4, k5, kf, kl⟩ := rbus_facts S0.rbus
 have T0 := Lib.hid S0.drew
 clear S0
 go_region_held3 (fun w' => w'.cell? ⟨b, 1, none⟩ = some (.pointer (some ⟨pp, 0, none⟩)) ∧ w'.cell? ⟨b, 3, none⟩ = some (.pointer (some ⟨pu, 0, none⟩))) (first | exact Hp.r13 (B := (B.line 0 (B.T.a.line B.t))) T0.out | exact Hp.r13 (B := ((B.line 0 (B.T.a.line B.t)).line 4 B.u.line)) T2 | exact Hp.r13 (B := (B.line 0 (B.T.a.line B.t))) T1 | go_keep) (first | (go_at_call 81; refine (T0.out.act 3 rfl (ruart_line)).mono ?_; rintro e w1 ⟨rfl, T1⟩; replace T1 : Hp w0 A0 w1 (rbusObs b pm pp pt pu pi (B.line 0 (B.T.a.line B.t))) := T1) | (go_at_call 79; refine (T1.act 1 rfl (rpic_line _ _)).mono ?_; rintro e w2 ⟨rfl, T2⟩; replace T2 : Hp w0 A0 w2 (rbusObs b pm pp pt pu pi ((B.line 0 (B.T.a.line B.t)).line 4 B.u.line)) := T2))
 clear k0 k1 k2 k3 k4 k5 kf kl T1 T0
 have S1 := T2
 clear T2
 go_wp2_with fail
 obtain ⟨k0, k1, k2, k3, k4, k5, kf, kl⟩ := rbus_facts S1.rbus
 have T0 := Lib.hid S1.drew
 clear S1
 go_region_held3 (fun w' => w'.cell? ⟨b, 1, none⟩ = some (.pointer (some ⟨pp, 0, none⟩)) ∧ w'.cell? ⟨b, 4, none⟩ = some (.pointer (some ⟨pi, 0, none⟩))) (first | exact Hp.r14 (B := ((B.line 0 (B.T.a.line B.t)).line 4 B.u.line)) T0.out | exact Hp.r14 (B := (((B.line 0 (B.T.a.line B.t)).line 4 B.u.line).line 14 B.k.line)) T2 | exact Hp.r14 (B := ((B.line 0 (B.T.a.line B.t)).line 4 B.u.line)) T1 | go_keep) (first | (go_at_call 82; refine (T0.out.act 4 rfl (ride_line)).mono ?_; rintro e w1 ⟨rfl, T1⟩; replace T1 : Hp w0 A0 w1 (rbusObs b pm pp pt pu pi ((B.line 0 (B.T.a.line B.t)).line 4 B.u.line)) := T1) | (go_at_call 79; refine (T1.act 1 rfl (rpic_line _ _)).mono ?_; rintro e w2 ⟨rfl, T2⟩; replace T2 : Hp w0 A0 w2 (rbusObs b pm pp pt pu pi (((B.line 0 (B.T.a.line B.t)).line 4 B.u.line).line 14 B.k.line)) := T2))
 clear k0 k1 k2 k3 k4 k5 kf kl T1 T0
 have S2 := T2
 clear T2
 go_wp2_with fail
 go_returns
 exact ⟨rfl, S2⟩
theorem rline0 : RLine tm0 0 := fun b => by
 have e : Pit.Ct.line tm0.a ((0 : Nat) : Int) = true := by kernel_rfl
 rw [e]
 exact rtm_line0
def oRBus (b pm : Nat) (B : Bs) : Ob := Ob.any fun x : Nat × Nat × Nat × Nat => Ob.all (rbusObs b pm x.1 x.2.1 x.2.2.1 x.2.2.2 B)
theorem Hp.toRBus {os : List Ob} (T : Hp w0 A0 w (rbusObs b pm pp pt pu pi B ++ os)) : Hp w0 A0 w (oRBus b pm B :: os) :=
 T.pack fun A a => ⟨(pp, pt, pu, pi), a⟩
end
section
variable {pm : Nat} {R : RS} {n : Nat} {d : Nat → Nat} {v : Value} {w0 w : World} {A0 : Nat → Prop}
theorem RefIn.gate {w : World} {b g0 g1 g2 g3 : Nat} {R : RS} (H : RefIn w b g0 g1 g2 g3 R) (x : Bool) : RefIn (w.setCell ⟨b, 4, none⟩ (.bool !x)) b g0 g1 g2 g3 (R.gate x) :=
 have o : ∀ k, k ≠ b → (w.setCell ⟨b, 4, none⟩ (.bool !x)).heap[k]? = w.heap[k]? := fun k h => heap_set_other _ h
 {obj := by rw [heap_set_map, H.obj]; rfl
  r0 := (o _ H.e0.symm).trans H.r0
  r1 := (o _ H.e1.symm).trans H.r1
  r2 := (o _ H.e2.symm).trans H.r2
  r3 := (o _ H.e3.symm).trans H.r3
  d1 := H.d1
  d2 := H.d2
  d3 := H.d3
  ok := RS.gate_ok H.ok x }
theorem Hp.refgate {os : List Ob} (T : Hp w0 A0 w os) (i : Nat) (h : os[i]? = some (oRef pm R)) (x : Bool) : Hp w0 A0 (w.setCell ⟨pm, 4, none⟩ (.bool !x)) (os.set i (oRef pm (R.gate x))) := by
 obtain ⟨A, ⟨g0, g1, g2, g3, H, e⟩, g⟩ := T.turn i h
 exact g _ A (oRef pm (R.gate x)) ⟨g0, g1, g2, g3, H.gate x, e⟩ ⟨(Keeps.refl _ _).setCell (.inl ((e pm).2 (.inl rfl))) _, fun k hk => .inl hk⟩
theorem Hp.ref4 {os : List Ob} (T : Hp w0 A0 w os) (i : Nat) (h : os[i]? = some (oRef pm R)) : w.cell? ⟨pm, 4, none⟩ = some (.bool R.closed) ∧ (∀ k, w.frozen? ⟨pm, k, none⟩ = false) ∧ pm < w.heap.size := by
 obtain ⟨A, g0, g1, g2, g3, H, e⟩ := T.get i h
 exact ⟨by rw [cell_at H.obj]; rfl, fun k => free_at H.obj, heap_lt H.obj⟩
theorem rnew_hp (T : Hp w0 A0 w [oRef pm R]) (H : Ide.Reads w v (n * 512) d) (hn : n ≤ 64) (hd : ∀ i, d i < 256) :
    Calls Tryz.prog 8 #[.pointer (some ⟨pm, 0, none⟩), v] w fun e w' => ∃ b, e = .returned (.tuple #[.pointer (some ⟨b, 0, none⟩), .int .i64 0]) ∧ Hp w0 A0 w' [oRBus b pm (Bs.new R n d)] := by
 have HT := Lib.hid T
 have HH := Lib.hid (And.intro H (And.intro hn hd))
 obtain ⟨va, vc, rfl, -⟩ := H
 clear T hn hd
 go_enter Tryz.func8, Tryz.ntmps8
 go_wp2_with fail
 refine (Ide.rnew_yes HH.out.1 HH.out.2.1 HH.out.2.2).mono ?_
 rintro e w1 ⟨pi, ds, rfl, I1, i2, i3, hb1⟩
 have T1 := HT.out.new hb1 (o := oRIde pi (Ide.Dk.new n d)) (A := Ide.Held pi ds (.slice none 0 0)) ⟨ds, _, I1, Ide.room_fresh _, fun k => Iff.rfl⟩ (fun k hk => by
  rcases hk with rfl | hk | hk
  ·exact i2
  ·exact i3 k hk
  ·cases hk)
 obtain ⟨c4, cf, cl⟩ := T1.ref4 0 rfl
 have T1 := T1.refgate 0 rfl true
 have HT1 := Lib.hid T1
 clear I1 i2 i3 hb1 T1
 go_upto_region 7 with (fail)
 clear c4 cf cl
 change Code.wp _ _ _ _ (w1.setCell ⟨pm, 4, none⟩ (.bool !true))
 generalize w1.setCell ⟨pm, 4, none⟩ (.bool !true) = w1 at *
 go_wp2_with fail
 refine (Pic.rnew_any _).mono ?_
 rintro e w2 ⟨rfl, P2, hb2⟩
 have T2 := HT1.out.new hb2 (o := oRPic w1.heap.size Pic.chip0 Pic.chip0) (A := fun k => k = w1.heap.size) ⟨_, _, P2, ⟨Pic.chip0_ok, Pic.chip0_ok⟩, fun k => ⟨fun h => .inl h, fun h => h.elim id fun h => h.elim (fun h => by cases h) (fun h => by cases h)⟩⟩ (fun k hk => by omega)
 generalize w1.heap.size = pp at *
 have HT2 := Lib.hid T2
 clear T2 P2 hb2
 go_wp2_with fail
 refine (rtm_new _).mono ?_
 rintro e w3 ⟨rfl, P3, hb3⟩
 have T3 := HT2.out.new hb3 (o := oRTm w2.heap.size tm0) (A := fun k => k = w2.heap.size) ⟨P3, fun k => Iff.rfl⟩ (fun k hk => by omega)
 generalize w2.heap.size = pt at *
 have HT3 := Lib.hid T3
 clear T3 P3 hb3
 go_wp2_with fail
 refine (Uart.rnew_any _).mono ?_
 rintro e w4 ⟨rfl, U4, hb4⟩
 have T4 := HT3.out.new hb4 (o := oRUart w3.heap.size Uart.Ut.new) (A := Uart.RHeld w3.heap.size (.slice none 0 0) (.slice none 0 0)) ⟨_, _, U4, fun k => Iff.rfl⟩ (fun k hk => by
  rcases hk with rfl | hk | hk
  ·exact Nat.le_refl _
  ·cases hk
  ·cases hk)
 generalize w3.heap.size = pu at *
 have T5 := T4.make (.cells (rbusCells pm pp pt pu pi 0) 51)
 have HT5 := Lib.hid T5
 clear T4 T5 U4 hb4
 go_upto_region 8 with (fail)
 have T8 : Hp w0 A0 (w4.alloc (.cells #[.pointer (some ⟨pm, 0, none⟩), .pointer (some ⟨pp, 0, none⟩), .pointer (some ⟨pt, 0, none⟩), .pointer (some ⟨pu, 0, none⟩), .pointer (some ⟨pi, 0, none⟩), .int .u64 0] 51)) [oRef pm (R.gate true), oRIde pi (Ide.Dk.new n d), oRPic pp Pic.chip0 Pic.chip0, oRTm pt tm0, oRUart pu Uart.Ut.new, Ob.box w4.heap.size (.cells (rbusCells pm pp pt pu pi 0) 51)] := HT5.out
 clear HT5 HT1 HT2 HT3
 generalize w4.alloc (.cells #[.pointer (some ⟨pm, 0, none⟩), .pointer (some ⟨pp, 0, none⟩), .pointer (some ⟨pt, 0, none⟩), .pointer (some ⟨pu, 0, none⟩), .pointer (some ⟨pi, 0, none⟩), .int .u64 0] 51) = W at *
 generalize w4.heap.size = b at *
 have S1 := T8.front 1 rfl
 have S2 := S1.front 4 rfl
 have S3 := S2.front 4 rfl
 have S4 := S3.front 4 rfl
 have S5 : Hp w0 A0 W (rbusObs b pm pp pt pu pi (Bs.mk Pic.chip0 Pic.chip0 tm0 Uart.Ut.new (Ide.Dk.new n d) true (R.gate true) 0)) := S4.front 5 rfl
 have HS5 := Lib.hid S5
 clear T8 S1 S2 S3 S4 S5
 go_wp2_with fail
 refine (rlines_hp (B := Bs.mk Pic.chip0 Pic.chip0 tm0 Uart.Ut.new (Ide.Dk.new n d) true (R.gate true) 0) rline0 HS5.out).mono ?_
 rintro e v8 ⟨rfl, S8⟩
 go_wp2_with fail
 go_ret2
 exact ⟨b, rfl, S8.toRBus (os := [])⟩
end
end Go.Proofs.YtojmpdddfnkffaaGreat

