/- uart: the document's port: Write. -/
import Derived.Test.YtliiccmpfmgioaaUartS
namespace Go.Proofs.Ytliiccmpfmgioaa
open Go.RowKit Go.Conc
set_option linter.unusedVariables false

theorem latch_yes {U : Ut} (h : U.ok) (hl : U.latch = true) : (127 : Int) < U.lcr := by
  have h1 : U.lcr / 128 % 2 = 1 := by unfold Ut.latch at hl; simpa using hl
  have := h.lcr
  omega
theorem latch_no {U : Ut} (h : U.ok) (hl : U.latch = false) : (U.lcr : Int) ≤ 127 := by
  have h1 : ¬ U.lcr / 128 % 2 = 1 := by unfold Ut.latch at hl; simpa using hl
  have := h.lcr
  omega
theorem lcr_or (U : Ut) : (127 : Int) < U.lcr ∨ (U.lcr : Int) ≤ 127 := by omega
section
variable {w w' : World} {b : Nat} {cv ov : Value} {U : Ut}
set_option maxHeartbeats 2000000 in
theorem rwrite_d (H : RfIn w b cv ov U) (k v : Nat) (hk : k < 2) (hv : v < 256) (hl : U.latch = true) :
    Calls Try.prog 14 #[.pointer (some ⟨b, 0, none⟩), .int .i64 (k : Nat), .int .u8 (v : Nat)] w fun e w' => e = .returned (.int .i64 0) ∧ RWent w b cv ov (U.setD k v) w' := by
  obtain ⟨-, -, k2, k3, k4, -, -, -, -, -, -, kf, kl⟩ := H.facts
  have hg := latch_yes H.ok hl
  have HH := Lib.hid (H.setD k v hk hv)
  clear H hl
  rcases (show k = 0 ∨ k = 1 by omega) with rfl | rfl
  all_goals
    go_enter Try.func14, Try.ntmps14
    go_wp2_with fail
    go_ret
    exact ⟨rfl, RWent.of HH.out (rkeeps w b cv ov _ _)⟩
set_option maxHeartbeats 4000000 in
theorem rwrite_0 (H : RfIn w b cv ov U) (v : Nat) (hv : v < 256) (hl : U.latch = false) (hL : U.sent.length + 1 ≤ 140737488355328) :
    Calls Try.prog 14 #[.pointer (some ⟨b, 0, none⟩), .int .i64 0, .int .u8 (v : Nat)] w fun e w' => e = .returned (.int .i64 0) ∧ RWent w b cv ov (U.send v) w' := by
  obtain ⟨-, -, -, -, k4, -, -, -, -, k9, k10, kf, kl⟩ := H.facts
  have hg := latch_no H.ok hl
  obtain ⟨i0, hi, hz0, hz1, hz2⟩ := info_parts info8
  have hown := H.out
  obtain ⟨a, c, rfl⟩ := row_len hown
  have HH := Lib.hid H
  have HB := Lib.hid H.bo
  have HOWN := Lib.hid hown
  have HL := Lib.hid hL
  have hc1 := Lib.hid (one_new w 5 (.int .u8 (v : Nat)))
  clear H hown hl hL
  go_enter Try.func14, Try.ntmps14
  go_wp2_with (at_builtin; (refine wpList_append_own_at _ rfl _ _ 27 rfl 0 5 i0 (.int .u8 0) 1 1 Try.underlying27 hi hz0 hz1 hz2 rfl (by decide) _ _ _ rfl (HOWN.out.alloc _) ⟨w.heap.size, 0, none⟩ 1 1 [.int .u8 (v : Nat)] rfl rfl hc1.out (fun u hu => by rw [List.mem_singleton.1 hu]; rfl) (by unfold maxLen; have := HL.out; omega) (by have := HL.out; omega) (Nat.zero_le _) ?_); intro v' w1' hown1 hgrow1 _ hat; obtain ⟨a', c', rfl⟩ := row_len hown1; have hcl := Lib.hid (rsend_end HH.out v hv hown1 hgrow1 hat); obtain ⟨f10, f9, f0, ff, fl⟩ := rgrow_facts HH.out HB.out hgrow1; clear hown1 hgrow1 hat)
  go_ret
  exact ⟨rfl, hcl.out⟩
set_option maxHeartbeats 2000000 in
theorem rwrite_1 (H : RfIn w b cv ov U) (v : Nat) (hv : v < 256) (hl : U.latch = false) :
    Calls Try.prog 14 #[.pointer (some ⟨b, 0, none⟩), .int .i64 1, .int .u8 (v : Nat)] w fun e w' => e = .returned (.int .i64 0) ∧ RWent w b cv ov (U.want v) w' := by
  obtain ⟨-, -, -, -, k4, -, -, k7, -, k9, -, kf, kl⟩ := H.facts
  have hg := latch_no H.ok hl
  have h1 : (U.wanted : Int) / 2 % 2 = 0 ∨ (U.wanted : Int) / 2 % 2 = 1 := by omega
  have h2 : (v : Int) / 2 % 2 = 0 ∨ (v : Int) / 2 % 2 = 1 := by omega
  have hwt := H.ok.wanted
  have hlcr := H.ok.lcr
  by_cases hc : (v : Int) / 2 % 2 = 1 ∧ (U.wanted : Int) / 2 % 2 = 0
  · have HE := Lib.hid (show (U.setEmpty true).setWanted (v % 16) = U.want v by
      have e1 : (v / 2 % 2 == 1) = true := by simp; omega
      have e2 : (U.wanted / 2 % 2 == 0) = true := by simp; omega
      unfold Ut.want Ut.setWanted Ut.setEmpty
      rw [e1, e2]; simp)
    have HH := Lib.hid ((H.setEmpty true).setWanted (v % 16) (by omega))
    rw [HE.out] at HH
    obtain ⟨g1, g2⟩ := hc
    clear H hl HE h1 h2
    go_enter Try.func14, Try.ntmps14
    go_wp2_with fail
    go_ret
    exact ⟨rfl, RWent.of HH.out ((rkeeps w b cv ov _ _).setCell (.inl (.inl rfl)) _)⟩
  · have HE := Lib.hid (show U.setWanted (v % 16) = U.want v by
      have e1 : (v / 2 % 2 == 1 && U.wanted / 2 % 2 == 0) = false := by
        rw [Bool.and_eq_false_iff]
        rcases h1 with h1 | h1 <;> rcases h2 with h2 | h2 <;> (simp only [beq_eq_false_iff_ne, ne_eq]; omega)
      unfold Ut.want Ut.setWanted
      rw [e1]; simp)
    have HH := Lib.hid (H.setWanted (v % 16) (by omega))
    rw [HE.out] at HH
    clear H hl HE
    rcases h1 with g2 | g2 <;> rcases h2 with g1 | g1
    all_goals (try (exfalso; omega))
    all_goals
      clear hc
      go_enter Try.func14, Try.ntmps14
      go_wp2_with fail
      go_ret
      exact ⟨rfl, RWent.of HH.out (rkeeps w b cv ov _ _)⟩
set_option maxHeartbeats 4000000 in
theorem rwrite_2 (H : RfIn w b cv ov U) (v : Nat) (hv : v < 256) :
    Calls Try.prog 14 #[.pointer (some ⟨b, 0, none⟩), .int .i64 2, .int .u8 (v : Nat)] w fun e w' => e = .returned (.int .i64 0) ∧ RWent w b cv ov (U.ctl v) w' := by
  obtain ⟨k0, -, -, -, k4, -, -, -, k8, -, -, kf, kl⟩ := H.facts
  obtain ⟨a, c, rfl⟩ := H.came.len
  have hU : U.ctl v = (if ((v % 2 == 1) != U.on || v / 2 % 2 == 1) = true then U.flow [] else U).setOn (v % 2 == 1) := by
    unfold Ut.ctl Ut.setOn Ut.flow; split <;> rfl
  have hlcr := H.ok.lcr
  have HHd := Lib.hid (fun x => H.drain.setOn x)
  have HHo := Lib.hid (fun x => H.setOn x)
  generalize U.ctl v = U' at *
  generalize ho : U.on = c0 at *
  have h1 : (v : Int) % 2 = 0 ∨ (v : Int) % 2 = 1 := by omega
  have h2 : (v : Int) / 2 % 2 = 0 ∨ (v : Int) / 2 % 2 = 1 := by omega
  have hg := lcr_or U
  generalize U.lcr = lc at *
  clear H ho
  have d1 : (v % 2 == 1) = decide ((v : Int) % 2 = 1) := by rw [Bool.eq_iff_iff]; simp; omega
  have d2 : (v / 2 % 2 == 1) = decide ((v : Int) / 2 % 2 = 1) := by rw [Bool.eq_iff_iff]; simp; omega
  rw [d1, d2] at hU
  clear d1 d2
  rcases hg with hg | hg <;> rcases h1 with h1 | h1 <;> rcases h2 with h2 | h2 <;> cases c0
  all_goals
    rw [h1, h2] at hU
    have HU := Lib.hid hU
    clear hU
    go_enter Try.func14, Try.ntmps14
    go_wp2_with fail
    go_ret
    refine ⟨rfl, ?_⟩
    rw [HU.out]
    first
      | exact ⟨_, _, HHd.out _, (rkeeps w b _ ov _ _).setCell (.inl (.inl rfl)) _, fun k hk => .inl (by rcases hk with hk | hk | hk; exact .inl hk; cases hk; exact .inr (.inr hk))⟩
      | exact RWent.of (HHo.out _) (rkeeps w b _ ov _ _)
set_option maxHeartbeats 2000000 in
theorem rwrite_3 (H : RfIn w b cv ov U) (v : Nat) (hv : v < 256) :
    Calls Try.prog 14 #[.pointer (some ⟨b, 0, none⟩), .int .i64 3, .int .u8 (v : Nat)] w fun e w' => e = .returned (.int .i64 0) ∧ RWent w b cv ov (U.setLcr v) w' := by
  obtain ⟨-, -, -, -, k4, -, -, -, -, -, -, kf, kl⟩ := H.facts
  have HH := Lib.hid (H.setLcr v hv)
  have hlcr := H.ok.lcr
  have hg := lcr_or U
  generalize U.lcr = lc at *
  clear H
  rcases hg with hg | hg
  all_goals
    go_enter Try.func14, Try.ntmps14
    go_wp2_with fail
    go_ret
    exact ⟨rfl, RWent.of HH.out (rkeeps w b cv ov _ _)⟩
set_option maxHeartbeats 2000000 in
theorem rwrite_4 (H : RfIn w b cv ov U) (v : Nat) (hv : v < 256) :
    Calls Try.prog 14 #[.pointer (some ⟨b, 0, none⟩), .int .i64 4, .int .u8 (v : Nat)] w fun e w' => e = .returned (.int .i64 0) ∧ RWent w b cv ov (U.setMcr (v % 32)) w' := by
  obtain ⟨-, -, -, -, k4, k5, -, -, -, -, -, kf, kl⟩ := H.facts
  have HH := Lib.hid (H.setMcr (v % 32) (by omega))
  have hlcr := H.ok.lcr
  have hg := lcr_or U
  generalize U.lcr = lc at *
  clear H
  rcases hg with hg | hg
  all_goals
    go_enter Try.func14, Try.ntmps14
    go_wp2_with fail
    go_ret
    exact ⟨rfl, RWent.of HH.out (rkeeps w b cv ov _ _)⟩
set_option maxHeartbeats 2000000 in
theorem rwrite_7 (H : RfIn w b cv ov U) (v : Nat) (hv : v < 256) :
    Calls Try.prog 14 #[.pointer (some ⟨b, 0, none⟩), .int .i64 7, .int .u8 (v : Nat)] w fun e w' => e = .returned (.int .i64 0) ∧ RWent w b cv ov (U.setScr v) w' := by
  obtain ⟨-, -, -, -, k4, -, k6, -, -, -, -, kf, kl⟩ := H.facts
  have HH := Lib.hid (H.setScr v hv)
  have hlcr := H.ok.lcr
  have hg := lcr_or U
  generalize U.lcr = lc at *
  clear H
  rcases hg with hg | hg
  all_goals
    go_enter Try.func14, Try.ntmps14
    go_wp2_with fail
    go_ret
    exact ⟨rfl, RWent.of HH.out (rkeeps w b cv ov _ _)⟩
set_option maxHeartbeats 2000000 in
theorem rwrite_else (H : RfIn w b cv ov U) (reg : Int) (n0 : ¬ reg = 0) (n1 : ¬ reg = 1) (n2 : ¬ reg = 2) (n3 : ¬ reg = 3) (n4 : ¬ reg = 4) (n7 : ¬ reg = 7) (v : Nat) :
    Calls Try.prog 14 #[.pointer (some ⟨b, 0, none⟩), .int .i64 reg, .int .u8 (v : Nat)] w fun e w' => e = .returned (.int .i64 (callErr reg)) ∧ w = w' := by
  obtain ⟨-, -, -, -, k4, -, -, -, -, -, -, kf, kl⟩ := H.facts
  have hlcr := H.ok.lcr
  have hg := lcr_or U
  generalize U.lcr = lc at *
  clear H
  unfold callErr
  by_cases n5 : reg = 5
  · subst n5
    rcases hg with hg | hg
    all_goals
      go_enter Try.func14, Try.ntmps14
      go_wp2_with fail
      go_ret
      exact ⟨rfl, rfl⟩
  by_cases n6 : reg = 6
  · subst n6
    rcases hg with hg | hg
    all_goals
      go_enter Try.func14, Try.ntmps14
      go_wp2_with fail
      go_ret
      exact ⟨rfl, rfl⟩
  rw [if_pos (by omega)]
  rcases hg with hg | hg
  all_goals
    go_enter Try.func14, Try.ntmps14
    go_wp2_with fail
    go_ret
    exact ⟨rfl, rfl⟩
theorem rwrite_any (H : RfIn w b cv ov U) (reg : Int) (v : Nat) (hv : v < 256) (hL : U.sent.length + 1 ≤ 140737488355328) :
    Calls Try.prog 14 #[.pointer (some ⟨b, 0, none⟩), .int .i64 reg, .int .u8 (v : Nat)] w fun e w' => e = .returned (.int .i64 (callErr reg)) ∧ RWent w b cv ov (U.out reg v) w' := by
  have els : ∀ {U' : Ut}, U' = U → ¬ reg = 0 → ¬ reg = 1 → ¬ reg = 2 → ¬ reg = 3 → ¬ reg = 4 → ¬ reg = 7 →
      Calls Try.prog 14 #[.pointer (some ⟨b, 0, none⟩), .int .i64 reg, .int .u8 (v : Nat)] w fun e w' => e = .returned (.int .i64 (callErr reg)) ∧ RWent w b cv ov U' w' := fun hU n0 n1 n2 n3 n4 n7 => by
    subst hU
    refine (rwrite_else H reg n0 n1 n2 n3 n4 n7 v).mono ?_
    rintro e w1 ⟨rfl, rfl⟩
    exact ⟨rfl, RWent.of H (Keeps.refl _ _)⟩
  unfold Ut.out
  by_cases h : reg < 0 ∨ 7 < reg
  · rw [if_pos h]
    exact els rfl (by omega) (by omega) (by omega) (by omega) (by omega) (by omega)
  · rw [if_neg h]
    by_cases h2 : reg < 2 ∧ U.latch = true
    · rw [if_pos h2]
      have := rwrite_d H reg.toNat v (by omega) hv h2.2
      rw [show ((reg.toNat : Nat) : Int) = reg by omega] at this
      unfold callErr
      rwa [if_neg h]
    · rw [if_neg h2]
      by_cases h0 : reg = 0
      · subst h0
        rw [if_pos rfl]
        exact rwrite_0 H v hv (by cases hl : U.latch; rfl; exact absurd ⟨by decide, hl⟩ h2) hL
      rw [if_neg h0]
      by_cases h1 : reg = 1
      · subst h1
        rw [if_pos rfl]
        exact rwrite_1 H v hv (by cases hl : U.latch; rfl; exact absurd ⟨by decide, hl⟩ h2)
      rw [if_neg h1]
      by_cases e2 : reg = 2
      · subst e2; rw [if_pos rfl]; exact rwrite_2 H v hv
      rw [if_neg e2]
      by_cases e3 : reg = 3
      · subst e3; rw [if_pos rfl]; exact rwrite_3 H v hv
      rw [if_neg e3]
      by_cases e4 : reg = 4
      · subst e4; rw [if_pos rfl]; exact rwrite_4 H v hv
      rw [if_neg e4]
      by_cases e7 : reg = 7
      · subst e7; rw [if_pos rfl]; exact rwrite_7 H v hv
      rw [if_neg e7]
      exact els rfl h0 h1 e2 e3 e4 e7
end
end Go.Proofs.Ytliiccmpfmgioaa
