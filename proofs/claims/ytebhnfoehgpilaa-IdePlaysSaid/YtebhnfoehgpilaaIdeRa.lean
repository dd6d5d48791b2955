/- ide: the document's disk: Out, In. -/
import Derived.Test.YtebhnfoehgpilaaIdeZ
namespace Go.Proofs.Ytebhnfoehgpilaa
open Go.RowKit
set_option linter.unusedVariables false
set_option linter.unusedSimpArgs false

/-- A disk of the document's behind a call: its blocks. -/
def RWent (w : World) (b : Nat) (ds lv : Value) (D : Dk) (wr : World) : Prop :=
  ∃ lv', IdeIn 51 wr b ds lv' D ∧ Keeps (Held b ds lv) w wr ∧ ∀ k, lv'.ownBlock = some k → lv.ownBlock = some k ∨ w.heap.size ≤ k
theorem RWent.next {w wr w1 : World} {b : Nat} {ds lv lv1 : Value} {D1 : Dk} (K : Keeps (Held b ds lv) w wr) (N : ∀ k, lv1.ownBlock = some k → lv.ownBlock = some k ∨ w.heap.size ≤ k) (h : RWent wr b ds lv1 D1 w1) : RWent w b ds lv D1 w1 := by
  obtain ⟨lv2, H, K2, N2⟩ := h
  refine ⟨lv2, H, K.andThen K2 fun i hi hs => ?_, fun k hk => ?_⟩
  · rcases hs with h | h | h
    · exact Or.inl h
    · exact Or.inr (Or.inl h)
    · rcases N i h with h | h
      · exact Or.inr (Or.inr h)
      · omega
  · rcases N2 k hk with h | h
    · exact N k h
    · exact .inr (Nat.le_trans K.size h)
theorem RWent.of {w wr : World} {b : Nat} {ds lv : Value} {D : Dk} (H : IdeIn 51 wr b ds lv D) (K : Keeps (· = b) w wr) : RWent w b ds lv D wr := ⟨lv, H, K.mono fun k _ h => Or.inl h, fun k h => .inl h⟩
section
variable {w : World} {b : Nat} {ds lv : Value} {D : Dk}
theorem rput_in (H : IdeIn 51 w b ds lv D) (hr : D.room) (v : Nat) (hv : v < 256) (hL : D.log.length < 17592186044416) :
    Calls Try.prog 32 #[.pointer (some ⟨b, 0, none⟩), .int .u8 v] w fun e w' => e = .returned (.tuple #[]) ∧ RWent w b ds lv (D.putB v) w' := by
  by_cases hm : D.mode = 2
  · exact rput_live H v hv hm (hr (by omega)) hL
  · have e : D.putB v = D := by unfold Dk.putB; rw [if_neg hm]
    rw [e]
    refine (rput_idle H v hm).mono ?_
    rintro e w' ⟨rfl, rfl⟩
    exact ⟨rfl, lv, H, Keeps.refl _ _, fun k h => .inl h⟩
theorem rother (H : IdeIn 51 w b ds lv D) : ((D.r 6 : Int) / 16 % 2 == 1) = D.other ∧ ((D.r 6 : Int) / 16 % 2 == 0) = !D.other := by
  unfold Dk.other
  constructor
  · rw [Bool.eq_iff_iff]; simp; omega
  · rw [Bool.eq_iff_iff]; simp; omega
set_option maxHeartbeats 1000000 in
theorem rout_err (reg size v : Int) (he : callErr reg size ≠ 0) :
    Calls Try.prog 19 #[.pointer (some ⟨b, 0, none⟩), .int .i64 reg, .int .i64 size, .int .u32 v] w fun e w' => e = .returned (.int .i64 (callErr reg size)) ∧ w = w' := by
  unfold callErr at he ⊢
  by_cases h0 : reg < 0
  · rw [if_pos (.inl h0)]
    clear he
    go_enter Try.func19, Try.ntmps19
    go_wp2_with fail
    go_ret
    exact ⟨rfl, rfl⟩
  · by_cases h8 : 8 < reg
    · rw [if_pos (.inr h8)]
      clear he
      go_enter Try.func19, Try.ntmps19
      go_wp2_with fail
      go_ret
      exact ⟨rfl, rfl⟩
    · rw [if_neg (by omega)] at he ⊢
      have hr : reg = 0 ∧ size ≠ 1 ∧ size ≠ 2 ∧ size ≠ 4 := Classical.byContradiction fun h => he (if_neg h)
      rw [if_pos hr]
      obtain ⟨rfl, h1, h2, h4⟩ := hr
      have g1 : (size != 1) = true := by simpa using h1
      have g2 : (size != 2) = true := by simpa using h2
      have g4 : (size != 4) = true := by simpa using h4
      clear he h1 h2 h4 h0 h8
      go_enter Try.func19, Try.ntmps19
      go_wp2_with fail
      go_ret
      exact ⟨rfl, rfl⟩
theorem shr_mod (v k : Nat) : ((v : Int) / 2 ^ (8 * k)).tmod 256 % 256 = ((v / 256 ^ k % 256 : Nat) : Int) := by
  have h0 : (0 : Int) ≤ (v : Int) / 2 ^ (8 * k) := Int.ediv_nonneg (by omega) (Int.le_of_lt (Int.pow_pos (by decide)))
  rw [Int.tmod_eq_emod_of_nonneg h0, Int.emod_emod, shr_nat]
set_option maxHeartbeats 2000000 in
theorem rout_01 (H : IdeIn 51 w b ds lv D) (hr : D.room) (v : Nat) (hv : v < 4294967296) (hL : D.log.length + 4 < 17592186044416) :
    Calls Try.prog 19 #[.pointer (some ⟨b, 0, none⟩), .int .i64 0, .int .i64 1, .int .u32 v] w fun e w' => e = .returned (.int .i64 0) ∧ RWent w b ds lv (D.puts v 1) w' := by
  have HL := Lib.hid hL
  have HH := Lib.hid H
  have HR := Lib.hid hr
  clear hL H hr
  go_enter Try.func19, Try.ntmps19
  go_wp2_with fail
  go_loopw [10] (fun i wr => ∃ k : Nat, k ≤ 1 ∧ i = .int .i64 k ∧ RWent w b ds lv (D.puts v k) wr) (fun i _ => 1 - (intOf i).toNat)
  case atStart => exact ⟨0, by omega, rfl, .of HH.out (Keeps.refl _ _)⟩
  case round =>
    obtain ⟨k, hk, rfl, lv1, H1, K1, N1⟩ := hrel
    have HH1 := Lib.hid H1
    have HK1 := Lib.hid K1
    have HN1 := Lib.hid N1
    obtain ⟨-, -, -, -, -, -, -, k7, -⟩ := H1.facts
    have h6 := H1.ok.r 6
    have g0 := (rother H1).2
    clear H1 K1 N1
    by_cases hlt : k < 1
    · have p2 : (k : Int) < 1 := by omega
      cases ho : (D.puts v k).other
      · rw [ho] at g0
        have HO := Lib.hid ho
        clear ho
        have q2 : (0 : Int) ≤ 8 * (k : Int) := by omega
        have q3 : (8 : Int) * (k : Int) ≤ 32 := by omega
        go_wp2_with fail
        rw [shr_mod v k]
        refine (rput_in HH1.out (room_puts HR.out v k) (v / 256 ^ k % 256) (Nat.mod_lt _ (by decide)) (by have := puts_log D v k; have := HL.out; omega)).mono ?_
        rintro e w2 ⟨rfl, lv2, H2, K2, N2⟩
        have G := RWent.next HK1.out HN1.out (⟨lv2, H2, K2, N2⟩ : RWent _ b ds lv1 _ w2)
        rw [← Dk.puts_go D v k HO.out] at G
        have HG := Lib.hid G
        clear H2 K2 N2 G
        go_wp2_with fail
        go_roundw
        case rel => exact ⟨k + 1, by omega, by go_num, HG.out⟩
        case measure => (simp [intOf]) <;> omega
      · rw [ho] at g0
        have HO := Lib.hid ho
        clear ho
        go_wp2_with fail
        go_returns
        have e := Dk.puts_stay D v k HO.out (1 - k)
        rw [show k + (1 - k) = 1 by omega] at e
        exact ⟨rfl, by rw [e]; exact ⟨lv1, HH1.out, HK1.out, HN1.out⟩⟩
    · have p2 : (1 : Int) ≤ k := by omega
      have hk2 : k = 1 := by omega
      have HK2 := Lib.hid hk2
      clear hk2
      go_wp2_with fail
      go_returns
      exact ⟨rfl, by rw [← HK2.out]; exact ⟨lv1, HH1.out, HK1.out, HN1.out⟩⟩
set_option maxHeartbeats 2000000 in
theorem rout_02 (H : IdeIn 51 w b ds lv D) (hr : D.room) (v : Nat) (hv : v < 4294967296) (hL : D.log.length + 4 < 17592186044416) :
    Calls Try.prog 19 #[.pointer (some ⟨b, 0, none⟩), .int .i64 0, .int .i64 2, .int .u32 v] w fun e w' => e = .returned (.int .i64 0) ∧ RWent w b ds lv (D.puts v 2) w' := by
  have HL := Lib.hid hL
  have HH := Lib.hid H
  have HR := Lib.hid hr
  clear hL H hr
  go_enter Try.func19, Try.ntmps19
  go_wp2_with fail
  go_loopw [10] (fun i wr => ∃ k : Nat, k ≤ 2 ∧ i = .int .i64 k ∧ RWent w b ds lv (D.puts v k) wr) (fun i _ => 2 - (intOf i).toNat)
  case atStart => exact ⟨0, by omega, rfl, .of HH.out (Keeps.refl _ _)⟩
  case round =>
    obtain ⟨k, hk, rfl, lv1, H1, K1, N1⟩ := hrel
    have HH1 := Lib.hid H1
    have HK1 := Lib.hid K1
    have HN1 := Lib.hid N1
    obtain ⟨-, -, -, -, -, -, -, k7, -⟩ := H1.facts
    have h6 := H1.ok.r 6
    have g0 := (rother H1).2
    clear H1 K1 N1
    by_cases hlt : k < 2
    · have p2 : (k : Int) < 2 := by omega
      cases ho : (D.puts v k).other
      · rw [ho] at g0
        have HO := Lib.hid ho
        clear ho
        have q2 : (0 : Int) ≤ 8 * (k : Int) := by omega
        have q3 : (8 : Int) * (k : Int) ≤ 32 := by omega
        go_wp2_with fail
        rw [shr_mod v k]
        refine (rput_in HH1.out (room_puts HR.out v k) (v / 256 ^ k % 256) (Nat.mod_lt _ (by decide)) (by have := puts_log D v k; have := HL.out; omega)).mono ?_
        rintro e w2 ⟨rfl, lv2, H2, K2, N2⟩
        have G := RWent.next HK1.out HN1.out (⟨lv2, H2, K2, N2⟩ : RWent _ b ds lv1 _ w2)
        rw [← Dk.puts_go D v k HO.out] at G
        have HG := Lib.hid G
        clear H2 K2 N2 G
        go_wp2_with fail
        go_roundw
        case rel => exact ⟨k + 1, by omega, by go_num, HG.out⟩
        case measure => (simp [intOf]) <;> omega
      · rw [ho] at g0
        have HO := Lib.hid ho
        clear ho
        go_wp2_with fail
        go_returns
        have e := Dk.puts_stay D v k HO.out (2 - k)
        rw [show k + (2 - k) = 2 by omega] at e
        exact ⟨rfl, by rw [e]; exact ⟨lv1, HH1.out, HK1.out, HN1.out⟩⟩
    · have p2 : (2 : Int) ≤ k := by omega
      have hk2 : k = 2 := by omega
      have HK2 := Lib.hid hk2
      clear hk2
      go_wp2_with fail
      go_returns
      exact ⟨rfl, by rw [← HK2.out]; exact ⟨lv1, HH1.out, HK1.out, HN1.out⟩⟩
set_option maxHeartbeats 2000000 in
theorem rout_04 (H : IdeIn 51 w b ds lv D) (hr : D.room) (v : Nat) (hv : v < 4294967296) (hL : D.log.length + 4 < 17592186044416) :
    Calls Try.prog 19 #[.pointer (some ⟨b, 0, none⟩), .int .i64 0, .int .i64 4, .int .u32 v] w fun e w' => e = .returned (.int .i64 0) ∧ RWent w b ds lv (D.puts v 4) w' := by
  have HL := Lib.hid hL
  have HH := Lib.hid H
  have HR := Lib.hid hr
  clear hL H hr
  go_enter Try.func19, Try.ntmps19
  go_wp2_with fail
  go_loopw [10] (fun i wr => ∃ k : Nat, k ≤ 4 ∧ i = .int .i64 k ∧ RWent w b ds lv (D.puts v k) wr) (fun i _ => 4 - (intOf i).toNat)
  case atStart => exact ⟨0, by omega, rfl, .of HH.out (Keeps.refl _ _)⟩
  case round =>
    obtain ⟨k, hk, rfl, lv1, H1, K1, N1⟩ := hrel
    have HH1 := Lib.hid H1
    have HK1 := Lib.hid K1
    have HN1 := Lib.hid N1
    obtain ⟨-, -, -, -, -, -, -, k7, -⟩ := H1.facts
    have h6 := H1.ok.r 6
    have g0 := (rother H1).2
    clear H1 K1 N1
    by_cases hlt : k < 4
    · have p2 : (k : Int) < 4 := by omega
      cases ho : (D.puts v k).other
      · rw [ho] at g0
        have HO := Lib.hid ho
        clear ho
        have q2 : (0 : Int) ≤ 8 * (k : Int) := by omega
        have q3 : (8 : Int) * (k : Int) ≤ 32 := by omega
        go_wp2_with fail
        rw [shr_mod v k]
        refine (rput_in HH1.out (room_puts HR.out v k) (v / 256 ^ k % 256) (Nat.mod_lt _ (by decide)) (by have := puts_log D v k; have := HL.out; omega)).mono ?_
        rintro e w2 ⟨rfl, lv2, H2, K2, N2⟩
        have G := RWent.next HK1.out HN1.out (⟨lv2, H2, K2, N2⟩ : RWent _ b ds lv1 _ w2)
        rw [← Dk.puts_go D v k HO.out] at G
        have HG := Lib.hid G
        clear H2 K2 N2 G
        go_wp2_with fail
        go_roundw
        case rel => exact ⟨k + 1, by omega, by go_num, HG.out⟩
        case measure => (simp [intOf]) <;> omega
      · rw [ho] at g0
        have HO := Lib.hid ho
        clear ho
        go_wp2_with fail
        go_returns
        have e := Dk.puts_stay D v k HO.out (4 - k)
        rw [show k + (4 - k) = 4 by omega] at e
        exact ⟨rfl, by rw [e]; exact ⟨lv1, HH1.out, HK1.out, HN1.out⟩⟩
    · have p2 : (4 : Int) ≤ k := by omega
      have hk2 : k = 4 := by omega
      have HK2 := Lib.hid hk2
      clear hk2
      go_wp2_with fail
      go_returns
      exact ⟨rfl, by rw [← HK2.out]; exact ⟨lv1, HH1.out, HK1.out, HN1.out⟩⟩
set_option maxHeartbeats 1000000 in
theorem rout_1 (size v : Int) :
    Calls Try.prog 19 #[.pointer (some ⟨b, 0, none⟩), .int .i64 1, .int .i64 size, .int .u32 v] w fun e w' => e = .returned (.int .i64 0) ∧ w = w' := by
  go_enter Try.func19, Try.ntmps19
  go_wp2_with fail
  go_returns
  exact ⟨rfl, rfl⟩
set_option maxHeartbeats 1000000 in
theorem rout_7 (H : IdeIn 51 w b ds lv D) (size : Int) (v : Nat) (hv : v < 4294967296) :
    Calls Try.prog 19 #[.pointer (some ⟨b, 0, none⟩), .int .i64 7, .int .i64 size, .int .u32 v] w fun e w' => e = .returned (.int .i64 0) ∧ IdeIn 51 w' b ds lv (D.command (v % 256)) ∧ Keeps (· = b) w w' := by
  have hm : (v : Int) % 256 = ((v % 256 : Nat) : Int) := by omega
  have HM := Lib.hid hm
  clear hm
  go_enter Try.func19, Try.ntmps19
  go_wp2_with fail
  rw [HM.out]
  refine (rcommand_in H (v % 256) (Nat.mod_lt _ (by decide))).mono ?_
  rintro e w2 ⟨rfl, H2, K2⟩
  have HX := Lib.hid (And.intro H2 K2)
  clear H2 K2
  go_wp2_with fail
  go_returns
  exact ⟨rfl, HX.out.1, HX.out.2⟩
set_option maxHeartbeats 1000000 in
theorem rout_8 (H : IdeIn 51 w b ds lv D) (size : Int) (v : Nat) (hv : v < 4294967296) :
    Calls Try.prog 19 #[.pointer (some ⟨b, 0, none⟩), .int .i64 8, .int .i64 size, .int .u32 v] w fun e w' =>
      e = .returned (.int .i64 0) ∧ IdeIn 51 w' b ds lv (if v / 4 % 2 == 1 then (D.setC (v % 256)).fresh else D.setC (v % 256)) ∧ Keeps (· = b) w w' := by
  obtain ⟨-, -, -, -, -, -, -, -, k8, -, -, -, -, -, kf, klt⟩ := H.facts
  have hb : ((v : Int) % 256 / 4 % 2 == 1) = (v / 4 % 2 == 1) := by rw [Bool.eq_iff_iff]; simp; omega
  have E := turned H (Blk.ctl (Blk.of H) (v % 256) ((v : Int) % 256) (by omega)) ((Keeps.refl _ w).setOne _ _) (Dk.setC_ok H.ok _ (Nat.mod_lt _ (by decide))) rfl rfl rfl
  have HE := Lib.hid E
  clear E H
  cases hx : v / 4 % 2 == 1
  all_goals
    rw [hx] at hb
    clear hx
    go_enter Try.func19, Try.ntmps19
    go_wp2_with fail
    first
      | (go_returns
         exact ⟨rfl, HE.out⟩)
      | (refine (rfresh_in HE.out.1).mono ?_
         rintro e w2 ⟨rfl, H2, K2⟩
         go_wp2_with fail
         go_returns
         exact ⟨rfl, H2, HE.out.2.trans K2⟩)
set_option maxHeartbeats 1000000 in
theorem rout_r (H : IdeIn 51 w b ds lv D) (r : Nat) (h2 : 2 ≤ r) (h6 : r ≤ 6) (size : Int) (v : Nat) (hv : v < 4294967296) :
    Calls Try.prog 19 #[.pointer (some ⟨b, 0, none⟩), .int .i64 (r : Nat), .int .i64 size, .int .u32 v] w fun e w' =>
      e = .returned (.int .i64 0) ∧ IdeIn 51 w' b ds lv (D.setR r (v % 256)) ∧ Keeps (· = b) w w' := by
  have hc := H.reg r (by omega)
  have kf : ∀ k, w.frozen? ⟨b, k, none⟩ = false := fun k => free_at H.obj
  have E := turned H (Blk.reg1 (Blk.of H) r (v % 256) ((v : Int) % 256) (by omega) (by omega)) ((Keeps.refl _ w).setOne _ _) (Dk.setR_ok H.ok r _ (Nat.mod_lt _ (by decide))) rfl rfl rfl
  have HE := Lib.hid E
  have g0 : ((r : Int) == 0) = false := by simp; omega
  have g1 : ((r : Int) == 1) = false := by simp; omega
  have g7 : ((r : Int) == 7) = false := by simp; omega
  have g8 : ((r : Int) == 8) = false := by simp; omega
  have q0 : (0 : Int) ≤ (r : Int) := by omega
  have q1 : (r : Int) < 7 := by omega
  clear E H h2 h6
  go_enter Try.func19, Try.ntmps19
  go_wp2_with fail
  go_returns
  exact ⟨rfl, HE.out⟩
theorem rout_any (H : IdeIn 51 w b ds lv D) (hr : D.room) (reg size : Int) (v : Nat) (hv : v < 4294967296) (hL : D.log.length + 4 < 17592186044416) :
    Calls Try.prog 19 #[.pointer (some ⟨b, 0, none⟩), .int .i64 reg, .int .i64 size, .int .u32 v] w fun e w' => e = .returned (.int .i64 (callErr reg size)) ∧ RWent w b ds lv (D.out reg size v) w' := by
  unfold Dk.out
  by_cases he : callErr reg size = 0
  · rw [if_neg (by omega), he]
    have he2 := he
    unfold callErr at he2
    by_cases h0 : reg = 0
    · subst h0
      have hs : size = 1 ∨ size = 2 ∨ size = 4 := by
        split at he2
        · omega
        · split at he2
          · omega
          · omega
      rw [if_pos rfl]
      rcases hs with rfl | rfl | rfl
      · exact rout_01 H hr v hv hL
      · exact rout_02 H hr v hv hL
      · exact rout_04 H hr v hv hL
    · rw [if_neg h0]
      by_cases h1 : reg = 1
      · subst h1
        rw [if_pos rfl]
        refine (rout_1 size v).mono ?_
        rintro e w1 ⟨rfl, rfl⟩
        exact ⟨rfl, RWent.of H (Keeps.refl _ _)⟩
      · rw [if_neg h1]
        by_cases h7 : reg = 7
        · subst h7
          rw [if_pos rfl]
          refine (rout_7 H size v hv).mono ?_
          rintro e w1 ⟨rfl, H1, K⟩
          exact ⟨rfl, RWent.of H1 K⟩
        · rw [if_neg h7]
          by_cases h8 : reg = 8
          · subst h8
            rw [if_pos rfl]
            refine (rout_8 H size v hv).mono ?_
            rintro e w1 ⟨rfl, H1, K⟩
            exact ⟨rfl, RWent.of H1 K⟩
          · rw [if_neg h8]
            have hr2 : 0 ≤ reg ∧ reg ≤ 8 := by
              split at he2
              · omega
              · omega
            have := rout_r H reg.toNat (by omega) (by omega) size v hv
            rw [show ((reg.toNat : Nat) : Int) = reg by omega] at this
            refine this.mono ?_
            rintro e w1 ⟨rfl, H1, K⟩
            exact ⟨rfl, RWent.of H1 K⟩
  · rw [if_pos he]
    refine (rout_err reg size v he).mono ?_
    rintro e w1 ⟨rfl, rfl⟩
    exact ⟨rfl, RWent.of H (Keeps.refl _ _)⟩
-- IN
set_option maxHeartbeats 1000000 in
theorem rin_err (reg size : Int) (he : callErr reg size ≠ 0) :
    Calls Try.prog 20 #[.pointer (some ⟨b, 0, none⟩), .int .i64 reg, .int .i64 size] w fun e w' => e = .returned (.tuple #[.int .u32 0, .int .i64 (callErr reg size)]) ∧ w = w' := by
  unfold callErr at he ⊢
  by_cases h0 : reg < 0
  · rw [if_pos (.inl h0)]
    clear he
    go_enter Try.func20, Try.ntmps20
    go_wp2_with fail
    go_ret2
    exact ⟨rfl, rfl⟩
  · by_cases h8 : 8 < reg
    · rw [if_pos (.inr h8)]
      clear he
      go_enter Try.func20, Try.ntmps20
      go_wp2_with fail
      go_ret2
      exact ⟨rfl, rfl⟩
    · rw [if_neg (by omega)] at he ⊢
      have hr : reg = 0 ∧ size ≠ 1 ∧ size ≠ 2 ∧ size ≠ 4 := Classical.byContradiction fun h => he (if_neg h)
      rw [if_pos hr]
      obtain ⟨rfl, h1, h2, h4⟩ := hr
      have g1 : (size != 1) = true := by simpa using h1
      have g2 : (size != 2) = true := by simpa using h2
      have g4 : (size != 4) = true := by simpa using h4
      clear he h1 h2 h4 h0 h8
      go_enter Try.func20, Try.ntmps20
      go_wp2_with fail
      go_ret2
      exact ⟨rfl, rfl⟩
/-- A call that has no error: its size. -/
theorem sized_call {reg size : Int} (he : callErr reg size = 0) : 0 ≤ reg ∧ reg ≤ 8 ∧ (reg = 0 → size = 1 ∨ size = 2 ∨ size = 4) := by
  unfold callErr at he
  split at he
  · omega
  · split at he
    · omega
    · omega
set_option maxHeartbeats 1000000 in
theorem rin_other (H : IdeIn 51 w b ds lv D) (reg size : Int) (he : callErr reg size = 0) (ho : D.other = true) (h6 : reg ≠ 6) :
    Calls Try.prog 20 #[.pointer (some ⟨b, 0, none⟩), .int .i64 reg, .int .i64 size] w fun e w' => e = .returned (.tuple #[.int .u32 0, .int .i64 0]) ∧ w = w' := by
  obtain ⟨l0, l8, hs⟩ := sized_call he
  obtain ⟨-, -, -, -, -, -, -, k7, -⟩ := H.facts
  have hr6 := H.ok.r 6
  have g0 := (rother H).1
  rw [ho] at g0
  have g6 : (reg != 6) = true := by simpa using h6
  clear H he ho h6
  by_cases h0 : reg = 0
  · subst h0
    rcases hs rfl with rfl | rfl | rfl
    all_goals
      go_enter Try.func20, Try.ntmps20
      go_wp2_with fail
      go_ret2
      exact ⟨rfl, rfl⟩
  · have g : (reg == 0) = false := by simpa using h0
    clear hs h0
    go_enter Try.func20, Try.ntmps20
    go_wp2_with fail
    go_ret2
    exact ⟨rfl, rfl⟩
set_option maxHeartbeats 2000000 in
theorem rin_r (H : IdeIn 51 w b ds lv D) (r : Nat) (h1 : 1 ≤ r) (h6 : r ≤ 6) (size : Int) (ho : D.other = false ∨ r = 6) :
    Calls Try.prog 20 #[.pointer (some ⟨b, 0, none⟩), .int .i64 (r : Nat), .int .i64 size] w fun e w' => e = .returned (.tuple #[.int .u32 (D.r r : Nat), .int .i64 0]) ∧ w = w' := by
  have hc := H.reg r (by omega)
  obtain ⟨-, -, -, -, -, -, -, k7, -⟩ := H.facts
  have hr6 := H.ok.r 6
  have hrr := H.ok.r r
  have g0 := (rother H).1
  have g : ((r : Int) == 0) = false := by simp; omega
  have q0 : (0 : Int) ≤ (r : Int) := by omega
  have q1 : (r : Int) < 7 := by omega
  have q2 : (1 : Int) ≤ (r : Int) := by omega
  clear H
  cases hd : D.other
  · rw [hd] at g0
    clear ho hd
    go_enter Try.func20, Try.ntmps20
    go_wp2_with fail
    go_ret2
    exact ⟨rfl, rfl⟩
  · rw [hd] at g0 ho
    have e6 : r = 6 := by rcases ho with h | h; cases h; exact h
    subst e6
    clear hd ho
    have hc' : w.cell? ⟨b, 7, none⟩ = some (.int .u8 (D.r 6 : Nat)) := hc
    clear hc
    go_enter Try.func20, Try.ntmps20
    go_wp2_with fail
    go_ret2
    exact ⟨rfl, rfl⟩
set_option maxHeartbeats 2000000 in
theorem rin_s (H : IdeIn 51 w b ds lv D) (r : Int) (hr : r = 7 ∨ r = 8) (size : Int) (ho : D.other = false) :
    Calls Try.prog 20 #[.pointer (some ⟨b, 0, none⟩), .int .i64 r, .int .i64 size] w fun e w' => e = .returned (.tuple #[.int .u32 (D.status : Nat), .int .i64 0]) ∧ IdeIn 51 w' b ds lv (D.setMark (D.mark && r == 8)) ∧ Keeps (· = b) w w' := by
  obtain ⟨-, -, -, -, -, -, -, k7, -, -, k10, k11, k12, -, kf, klt⟩ := H.facts
  have hr6 := H.ok.r 6
  have g0 := (rother H).1
  rw [ho] at g0
  have HH := Lib.hid H
  clear ho H
  obtain ⟨m, hm⟩ : ∃ m, m = D.mark := ⟨_, rfl⟩
  rw [← hm] at k11
  have HM := Lib.hid hm
  clear hm
  rcases hr with rfl | rfl
  all_goals
    cases hf : D.failed
    all_goals
      rw [hf] at k12
      have HF := Lib.hid hf
      clear hf
      by_cases hz : D.mode = 0
      · have g : decide ((0 : Int) < ((D.mode : Nat) : Int)) = false := by rw [hz]; rfl
        rw [hz] at k10
        have HZ := Lib.hid hz
        clear hz g
        go_enter Try.func20, Try.ntmps20
        go_wp2_with fail
        go_ret2
        refine ⟨by unfold Dk.status; rw [HZ.out, HF.out]; rfl, ?_⟩
        first
          | (have e : D.setMark (D.mark && (7 : Int) == 8) = D.setMark false := by rw [show ((7 : Int) == 8) = false from rfl, Bool.and_false]
             rw [e]; exact turned HH.out (Blk.mark (Blk.of HH.out) _) ((Keeps.refl _ _).setOne _ _) (Dk.mark_ok HH.out.ok _) rfl rfl rfl)
          | (have e : D.setMark (D.mark && (8 : Int) == 8) = D := by rw [show ((8 : Int) == 8) = true from rfl, Bool.and_true]; rfl
             rw [e]; exact ⟨HH.out, Keeps.refl _ _⟩)
      · have q : (0 : Int) < ((D.mode : Nat) : Int) := by omega
        have HZ := Lib.hid hz
        clear hz
        go_enter Try.func20, Try.ntmps20
        go_wp2_with fail
        go_ret2
        refine ⟨by unfold Dk.status; rw [if_neg HZ.out, HF.out]; rfl, ?_⟩
        first
          | (have e : D.setMark (D.mark && (7 : Int) == 8) = D.setMark false := by rw [show ((7 : Int) == 8) = false from rfl, Bool.and_false]
             rw [e]; exact turned HH.out (Blk.mark (Blk.of HH.out) _) ((Keeps.refl _ _).setOne _ _) (Dk.mark_ok HH.out.ok _) rfl rfl rfl)
          | (have e : D.setMark (D.mark && (8 : Int) == 8) = D := by rw [show ((8 : Int) == 8) = true from rfl, Bool.and_true]; rfl
             rw [e]; exact ⟨HH.out, Keeps.refl _ _⟩)
set_option maxHeartbeats 4000000 in
theorem rin_01 (H : IdeIn 51 w b ds lv D) (hr : D.room) (ho : D.other = false) :
    Calls Try.prog 20 #[.pointer (some ⟨b, 0, none⟩), .int .i64 0, .int .i64 1] w fun e w' => e = .returned (.tuple #[.int .u32 (D.getV 1 : Nat), .int .i64 0]) ∧ IdeIn 51 w' b ds lv (D.getN 1) ∧ Keeps (· = b) w w' := by
  obtain ⟨-, -, -, -, -, -, -, k7, -⟩ := H.facts
  have hr6 := H.ok.r 6
  have g0 := (rother H).1
  rw [ho] at g0
  have HH := Lib.hid H
  have HR := Lib.hid hr
  clear H hr ho
  go_enter Try.func20, Try.ntmps20
  go_wp2_with fail
  go_loopw [8, 9] (fun v i wr => ∃ k : Nat, k ≤ 1 ∧ i = .int .i64 k ∧ v = .int .u32 (D.getV k : Nat) ∧ D.getV k < 256 ^ k ∧ IdeIn 51 wr b ds lv (D.getN k) ∧ Keeps (· = b) w wr) (fun _ i _ => 1 - (intOf i).toNat)
  case atStart => exact ⟨0, by omega, rfl, rfl, (show (0 : Nat) < 1 by decide), HH.out, Keeps.refl _ _⟩
  case round =>
    clear k7 hr6 g0
    obtain ⟨k, hk, rfl, rfl, hlt, H2, K2⟩ := hrel
    have HH2 := Lib.hid H2
    have HK2 := Lib.hid K2
    have hgl := gets_lt H2.ok
    clear H2 K2
    have HV := Lib.hid (show D.getV (k + 1) = D.getV k + (D.getN k).gets * 256 ^ k from rfl)
    have HN := Lib.hid (show D.getN (k + 1) = (D.getN k).getB from rfl)
    by_cases hks : k < 1
    · have HRM := Lib.hid (room_getN HR.out k)
      generalize D.getV k = g at *
      rcases (show k = 0 by omega) with rfl
      · have HLT := Lib.hid (show g < 256 ^ 0 from hlt)
        have h1 : g < 4294967296 := Nat.lt_of_lt_of_le hlt (by decide)
        have HG := Lib.hid (show (D.getN 0).gets < 256 from hgl)
        clear hlt
        go_wp2_with fail
        refine (rget_in HH2.out HRM.out).mono ?_
        rintro e w3 ⟨rfl, H3, K3⟩
        have HX := Lib.hid (And.intro H3 (HK2.out.trans K3))
        clear H3 K3
        go_wp2_with fail
        go_roundw
        case rel =>
          have a1 := HLT.out
          have a2 := HG.out
          have a3 : D.getV 1 = g + (D.getN 0).gets * 256 ^ 0 := HV.out
          simp only [Nat.reducePow] at a1 a3
          refine ⟨1, by omega, rfl, congrArg (Value.int .u32) (?_ : _ = _), ?_, HX.out.1, HX.out.2⟩
          · rw [a3]; omega
          · rw [a3]; simp only [Nat.reducePow]; omega
        case measure => (simp [intOf])
    · have q2 : (1 : Int) ≤ k := by omega
      have hk2 : k = 1 := by omega
      have HKS := Lib.hid hk2
      clear hk2
      go_wp2_with fail
      go_ret2
      exact ⟨by rw [← HKS.out]; rfl, by rw [← HKS.out]; exact HH2.out, HK2.out⟩
set_option maxHeartbeats 4000000 in
theorem rin_02 (H : IdeIn 51 w b ds lv D) (hr : D.room) (ho : D.other = false) :
    Calls Try.prog 20 #[.pointer (some ⟨b, 0, none⟩), .int .i64 0, .int .i64 2] w fun e w' => e = .returned (.tuple #[.int .u32 (D.getV 2 : Nat), .int .i64 0]) ∧ IdeIn 51 w' b ds lv (D.getN 2) ∧ Keeps (· = b) w w' := by
  obtain ⟨-, -, -, -, -, -, -, k7, -⟩ := H.facts
  have hr6 := H.ok.r 6
  have g0 := (rother H).1
  rw [ho] at g0
  have HH := Lib.hid H
  have HR := Lib.hid hr
  clear H hr ho
  go_enter Try.func20, Try.ntmps20
  go_wp2_with fail
  go_loopw [8, 9] (fun v i wr => ∃ k : Nat, k ≤ 2 ∧ i = .int .i64 k ∧ v = .int .u32 (D.getV k : Nat) ∧ D.getV k < 256 ^ k ∧ IdeIn 51 wr b ds lv (D.getN k) ∧ Keeps (· = b) w wr) (fun _ i _ => 2 - (intOf i).toNat)
  case atStart => exact ⟨0, by omega, rfl, rfl, (show (0 : Nat) < 1 by decide), HH.out, Keeps.refl _ _⟩
  case round =>
    clear k7 hr6 g0
    obtain ⟨k, hk, rfl, rfl, hlt, H2, K2⟩ := hrel
    have HH2 := Lib.hid H2
    have HK2 := Lib.hid K2
    have hgl := gets_lt H2.ok
    clear H2 K2
    have HV := Lib.hid (show D.getV (k + 1) = D.getV k + (D.getN k).gets * 256 ^ k from rfl)
    have HN := Lib.hid (show D.getN (k + 1) = (D.getN k).getB from rfl)
    by_cases hks : k < 2
    · have HRM := Lib.hid (room_getN HR.out k)
      generalize D.getV k = g at *
      rcases (show k = 0 ∨ k = 1 by omega) with rfl | rfl
      · have HLT := Lib.hid (show g < 256 ^ 0 from hlt)
        have h1 : g < 4294967296 := Nat.lt_of_lt_of_le hlt (by decide)
        have HG := Lib.hid (show (D.getN 0).gets < 256 from hgl)
        clear hlt
        go_wp2_with fail
        refine (rget_in HH2.out HRM.out).mono ?_
        rintro e w3 ⟨rfl, H3, K3⟩
        have HX := Lib.hid (And.intro H3 (HK2.out.trans K3))
        clear H3 K3
        go_wp2_with fail
        go_roundw
        case rel =>
          have a1 := HLT.out
          have a2 := HG.out
          have a3 : D.getV 1 = g + (D.getN 0).gets * 256 ^ 0 := HV.out
          simp only [Nat.reducePow] at a1 a3
          refine ⟨1, by omega, rfl, congrArg (Value.int .u32) (?_ : _ = _), ?_, HX.out.1, HX.out.2⟩
          · rw [a3]; omega
          · rw [a3]; simp only [Nat.reducePow]; omega
        case measure => (simp [intOf])
      · have HLT := Lib.hid (show g < 256 ^ 1 from hlt)
        have h1 : g < 4294967296 := Nat.lt_of_lt_of_le hlt (by decide)
        have HG := Lib.hid (show (D.getN 1).gets < 256 from hgl)
        clear hlt
        go_wp2_with fail
        refine (rget_in HH2.out HRM.out).mono ?_
        rintro e w3 ⟨rfl, H3, K3⟩
        have HX := Lib.hid (And.intro H3 (HK2.out.trans K3))
        clear H3 K3
        go_wp2_with fail
        go_roundw
        case rel =>
          have a1 := HLT.out
          have a2 := HG.out
          have a3 : D.getV 2 = g + (D.getN 1).gets * 256 ^ 1 := HV.out
          simp only [Nat.reducePow] at a1 a3
          refine ⟨2, by omega, rfl, congrArg (Value.int .u32) (?_ : _ = _), ?_, HX.out.1, HX.out.2⟩
          · rw [a3]; omega
          · rw [a3]; simp only [Nat.reducePow]; omega
        case measure => (simp [intOf])
    · have q2 : (2 : Int) ≤ k := by omega
      have hk2 : k = 2 := by omega
      have HKS := Lib.hid hk2
      clear hk2
      go_wp2_with fail
      go_ret2
      exact ⟨by rw [← HKS.out]; rfl, by rw [← HKS.out]; exact HH2.out, HK2.out⟩
set_option maxHeartbeats 4000000 in
theorem rin_04 (H : IdeIn 51 w b ds lv D) (hr : D.room) (ho : D.other = false) :
    Calls Try.prog 20 #[.pointer (some ⟨b, 0, none⟩), .int .i64 0, .int .i64 4] w fun e w' => e = .returned (.tuple #[.int .u32 (D.getV 4 : Nat), .int .i64 0]) ∧ IdeIn 51 w' b ds lv (D.getN 4) ∧ Keeps (· = b) w w' := by
  obtain ⟨-, -, -, -, -, -, -, k7, -⟩ := H.facts
  have hr6 := H.ok.r 6
  have g0 := (rother H).1
  rw [ho] at g0
  have HH := Lib.hid H
  have HR := Lib.hid hr
  clear H hr ho
  go_enter Try.func20, Try.ntmps20
  go_wp2_with fail
  go_loopw [8, 9] (fun v i wr => ∃ k : Nat, k ≤ 4 ∧ i = .int .i64 k ∧ v = .int .u32 (D.getV k : Nat) ∧ D.getV k < 256 ^ k ∧ IdeIn 51 wr b ds lv (D.getN k) ∧ Keeps (· = b) w wr) (fun _ i _ => 4 - (intOf i).toNat)
  case atStart => exact ⟨0, by omega, rfl, rfl, (show (0 : Nat) < 1 by decide), HH.out, Keeps.refl _ _⟩
  case round =>
    clear k7 hr6 g0
    obtain ⟨k, hk, rfl, rfl, hlt, H2, K2⟩ := hrel
    have HH2 := Lib.hid H2
    have HK2 := Lib.hid K2
    have hgl := gets_lt H2.ok
    clear H2 K2
    have HV := Lib.hid (show D.getV (k + 1) = D.getV k + (D.getN k).gets * 256 ^ k from rfl)
    have HN := Lib.hid (show D.getN (k + 1) = (D.getN k).getB from rfl)
    by_cases hks : k < 4
    · have HRM := Lib.hid (room_getN HR.out k)
      generalize D.getV k = g at *
      rcases (show k = 0 ∨ k = 1 ∨ k = 2 ∨ k = 3 by omega) with rfl | rfl | rfl | rfl
      · have HLT := Lib.hid (show g < 256 ^ 0 from hlt)
        have h1 : g < 4294967296 := Nat.lt_of_lt_of_le hlt (by decide)
        have HG := Lib.hid (show (D.getN 0).gets < 256 from hgl)
        clear hlt
        go_wp2_with fail
        refine (rget_in HH2.out HRM.out).mono ?_
        rintro e w3 ⟨rfl, H3, K3⟩
        have HX := Lib.hid (And.intro H3 (HK2.out.trans K3))
        clear H3 K3
        go_wp2_with fail
        go_roundw
        case rel =>
          have a1 := HLT.out
          have a2 := HG.out
          have a3 : D.getV 1 = g + (D.getN 0).gets * 256 ^ 0 := HV.out
          simp only [Nat.reducePow] at a1 a3
          refine ⟨1, by omega, rfl, congrArg (Value.int .u32) (?_ : _ = _), ?_, HX.out.1, HX.out.2⟩
          · rw [a3]; omega
          · rw [a3]; simp only [Nat.reducePow]; omega
        case measure => (simp [intOf])
      · have HLT := Lib.hid (show g < 256 ^ 1 from hlt)
        have h1 : g < 4294967296 := Nat.lt_of_lt_of_le hlt (by decide)
        have HG := Lib.hid (show (D.getN 1).gets < 256 from hgl)
        clear hlt
        go_wp2_with fail
        refine (rget_in HH2.out HRM.out).mono ?_
        rintro e w3 ⟨rfl, H3, K3⟩
        have HX := Lib.hid (And.intro H3 (HK2.out.trans K3))
        clear H3 K3
        go_wp2_with fail
        go_roundw
        case rel =>
          have a1 := HLT.out
          have a2 := HG.out
          have a3 : D.getV 2 = g + (D.getN 1).gets * 256 ^ 1 := HV.out
          simp only [Nat.reducePow] at a1 a3
          refine ⟨2, by omega, rfl, congrArg (Value.int .u32) (?_ : _ = _), ?_, HX.out.1, HX.out.2⟩
          · rw [a3]; omega
          · rw [a3]; simp only [Nat.reducePow]; omega
        case measure => (simp [intOf])
      · have HLT := Lib.hid (show g < 256 ^ 2 from hlt)
        have h1 : g < 4294967296 := Nat.lt_of_lt_of_le hlt (by decide)
        have HG := Lib.hid (show (D.getN 2).gets < 256 from hgl)
        clear hlt
        go_wp2_with fail
        refine (rget_in HH2.out HRM.out).mono ?_
        rintro e w3 ⟨rfl, H3, K3⟩
        have HX := Lib.hid (And.intro H3 (HK2.out.trans K3))
        clear H3 K3
        go_wp2_with fail
        go_roundw
        case rel =>
          have a1 := HLT.out
          have a2 := HG.out
          have a3 : D.getV 3 = g + (D.getN 2).gets * 256 ^ 2 := HV.out
          simp only [Nat.reducePow] at a1 a3
          refine ⟨3, by omega, rfl, congrArg (Value.int .u32) (?_ : _ = _), ?_, HX.out.1, HX.out.2⟩
          · rw [a3]; omega
          · rw [a3]; simp only [Nat.reducePow]; omega
        case measure => (simp [intOf])
      · have HLT := Lib.hid (show g < 256 ^ 3 from hlt)
        have h1 : g < 4294967296 := Nat.lt_of_lt_of_le hlt (by decide)
        have HG := Lib.hid (show (D.getN 3).gets < 256 from hgl)
        clear hlt
        go_wp2_with fail
        refine (rget_in HH2.out HRM.out).mono ?_
        rintro e w3 ⟨rfl, H3, K3⟩
        have HX := Lib.hid (And.intro H3 (HK2.out.trans K3))
        clear H3 K3
        go_wp2_with fail
        go_roundw
        case rel =>
          have a1 := HLT.out
          have a2 := HG.out
          have a3 : D.getV 4 = g + (D.getN 3).gets * 256 ^ 3 := HV.out
          simp only [Nat.reducePow] at a1 a3
          refine ⟨4, by omega, rfl, congrArg (Value.int .u32) (?_ : _ = _), ?_, HX.out.1, HX.out.2⟩
          · rw [a3]; omega
          · rw [a3]; simp only [Nat.reducePow]; omega
        case measure => (simp [intOf])
    · have q2 : (4 : Int) ≤ k := by omega
      have hk2 : k = 4 := by omega
      have HKS := Lib.hid hk2
      clear hk2
      go_wp2_with fail
      go_ret2
      exact ⟨by rw [← HKS.out]; rfl, by rw [← HKS.out]; exact HH2.out, HK2.out⟩
theorem rin_any (H : IdeIn 51 w b ds lv D) (hr : D.room) (reg size : Int) :
    Calls Try.prog 20 #[.pointer (some ⟨b, 0, none⟩), .int .i64 reg, .int .i64 size] w fun e w' => e = .returned (.tuple #[.int .u32 (D.inV reg size : Nat), .int .i64 (callErr reg size)]) ∧ RWent w b ds lv (D.inS reg size) w' := by
  unfold Dk.inV Dk.inS
  by_cases he : callErr reg size = 0
  · have hz : ¬ (callErr reg size ≠ 0) := fun h => h he
    obtain ⟨l0, l8, hs⟩ := sized_call he
    rw [if_neg hz, if_neg hz]
    by_cases ho : D.other = true ∧ reg ≠ 6
    · rw [if_pos ho, if_pos ho, he]
      refine (rin_other H reg size he ho.1 ho.2).mono ?_
      rintro e w1 ⟨rfl, rfl⟩
      exact ⟨rfl, RWent.of H (Keeps.refl _ _)⟩
    · rw [if_neg ho, if_neg ho, he]
      have ho2 : D.other = false ∨ reg = 6 := by
        cases h : D.other
        · exact .inl rfl
        · exact .inr (Classical.byContradiction fun q => ho ⟨h, q⟩)
      by_cases h0 : reg = 0
      · subst h0
        have hoo := ho2.resolve_right (by decide)
        rw [if_pos rfl, if_pos rfl]
        rcases hs rfl with rfl | rfl | rfl
        · refine (rin_01 H hr hoo).mono ?_
          rintro e w1 ⟨rfl, H1, K⟩
          exact ⟨rfl, RWent.of H1 K⟩
        · refine (rin_02 H hr hoo).mono ?_
          rintro e w1 ⟨rfl, H1, K⟩
          exact ⟨rfl, RWent.of H1 K⟩
        · refine (rin_04 H hr hoo).mono ?_
          rintro e w1 ⟨rfl, H1, K⟩
          exact ⟨rfl, RWent.of H1 K⟩
      · rw [if_neg h0, if_neg h0]
        by_cases h7 : reg < 7
        · rw [if_pos h7, if_pos h7]
          have := rin_r (w := w) H reg.toNat (by omega) (by omega) size (ho2.imp id fun h => by omega)
          rw [show ((reg.toNat : Nat) : Int) = reg by omega] at this
          refine this.mono ?_
          rintro e w1 ⟨rfl, rfl⟩
          exact ⟨rfl, RWent.of H (Keeps.refl _ _)⟩
        · rw [if_neg h7, if_neg h7]
          refine (rin_s H reg (by omega) size (ho2.resolve_right (by omega))).mono ?_
          rintro e w1 ⟨rfl, H1, K⟩
          exact ⟨rfl, RWent.of H1 K⟩
  · rw [if_pos he, if_pos he]
    refine (rin_err reg size he).mono ?_
    rintro e w1 ⟨rfl, rfl⟩
    exact ⟨rfl, RWent.of H (Keeps.refl _ _)⟩
end
end Go.Proofs.Ytebhnfoehgpilaa
