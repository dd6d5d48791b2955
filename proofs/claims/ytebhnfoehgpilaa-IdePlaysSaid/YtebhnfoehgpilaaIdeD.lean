/- ide: reset, Line, check, a sector, begin. -/
import Derived.Test.YtebhnfoehgpilaaIdeC
import Derived.Laws.CopyRow
namespace Go.Proofs.Ytebhnfoehgpilaa
open Go.RowKit
set_option linter.unusedVariables false

theorem Dk.fresh_ok {S : Dk} (h : S.ok) : S.fresh.ok :=
  { h with r := (by unfold Dk.fresh; repeat (first | exact h.r | (refine upd_lt ?_ _ _ (by decide)))), done := (by show (0 : Nat) ≤ 512; decide), mode := (by show (0 : Nat) < 4; decide) }
theorem Dk.fresh_eq (S : Dk) : S.fresh = (((((((((((S.setR 0 0).setR 1 1).setR 2 1).setR 3 1).setR 4 0).setR 5 0).setR 6 0).setMode 0).setDone 0).setMark false).setFailed false) := by
  simp only [Dk.setR, Dk.setMode, Dk.setDone, Dk.setMark, Dk.setFailed, Dk.fresh]
set_option maxHeartbeats 1000000 in
theorem reset_in {w : World} {b : Nat} {ds lv : Value} {D : Dk} (H : IdeIn 56 w b ds lv D) :
    Calls Try.prog 25 #[.pointer (some ⟨b, 0, none⟩)] w fun e w' => e = .returned (.tuple #[]) ∧ IdeIn 56 w' b ds lv D.fresh ∧ Keeps (· = b) w w' := by
  obtain ⟨-, k1, k2, k3, k4, k5, k6, k7, -, k9, k10, k11, k12, -, kf, klt⟩ := H.facts
  have HH := Lib.hid H
  clear H
  go_enter Try.func25, Try.ntmps25
  go_wp2_with fail
  go_end0
  have B1 := Blk.reg (Blk.of HH.out) 0 0 0 rfl (by decide)
  have B2 := Blk.reg B1 1 1 1 rfl (by decide)
  have B3 := Blk.reg B2 2 1 1 rfl (by decide)
  have B4 := Blk.reg B3 3 1 1 rfl (by decide)
  have B5 := Blk.reg B4 4 0 0 rfl (by decide)
  have B6 := Blk.reg B5 5 0 0 rfl (by decide)
  have B7 := Blk.reg B6 6 0 0 rfl (by decide)
  have B8 := Blk.failed (Blk.mark (Blk.done (Blk.mode B7 0 0 rfl) 0 0 rfl) false) false
  rw [← Dk.fresh_eq] at B8
  refine ⟨rfl, turned HH.out B8 ?_ (Dk.fresh_ok HH.out.ok) rfl rfl rfl⟩
  (repeat' (first | (with_reducible exact Keeps.refl _ _) | (with_reducible refine Keeps.setOne ?_ _ _)))
def Dk.line (S : Dk) : Bool := S.mark && (S.c / 2 % 2 == 0)
set_option maxHeartbeats 1000000 in
theorem line_in {w : World} {b : Nat} {ds lv : Value} {D : Dk} (H : IdeIn 56 w b ds lv D) :
    Calls Try.prog 22 #[.pointer (some ⟨b, 0, none⟩)] w fun e w' => e = .returned (.bool D.line) ∧ w = w' := by
  obtain ⟨-, -, -, -, -, -, -, -, k8, -, -, k11, -⟩ := H.facts
  have hb := quiet_bits D.c H.ok.c
  cases hm : D.mark
  all_goals
    rw [hm] at k11
    have HM := Lib.hid hm
    clear hm
    go_enter Try.func22, Try.ntmps22
    go_wp2_with fail
    go_ret
    exact ⟨by unfold Dk.line; rw [HM.out]; rfl, rfl⟩
theorem line_nil (w : World) : Calls Try.prog 22 #[.pointer none] w fun e w' => e = .returned (.bool false) ∧ w = w' := by
  go_enter Try.func22, Try.ntmps22
  go_wp2_with fail
  go_ret
  exact ⟨rfl, rfl⟩
/-- What is wrong with a call. -/
def callErr (reg size : Int) : Int := if reg < 0 ∨ 8 < reg then 1 else if reg = 0 ∧ size ≠ 1 ∧ size ≠ 2 ∧ size ≠ 4 then 2 else 0
theorem check_in {w : World} {b : Nat} (reg size : Int) :
    Calls Try.prog 26 #[.pointer (some ⟨b, 0, none⟩), .int .i64 reg, .int .i64 size] w fun e w' => e = .returned (.int .i64 (callErr reg size)) ∧ w = w' := by
  unfold callErr
  by_cases h0 : reg < 0
  · rw [if_pos (.inl h0)]
    go_enter Try.func26, Try.ntmps26
    go_wp2_with fail
    go_ret
    exact ⟨rfl, rfl⟩
  · by_cases h8 : 8 < reg
    · rw [if_pos (.inr h8)]
      go_enter Try.func26, Try.ntmps26
      go_wp2_with fail
      go_ret
      exact ⟨rfl, rfl⟩
    · rw [if_neg (by omega)]
      by_cases hr : reg = 0
      · subst hr
        by_cases h1 : size = 1
        · subst h1
          rw [if_neg (by decide)]
          go_enter Try.func26, Try.ntmps26
          go_wp2_with fail
          go_ret
          exact ⟨rfl, rfl⟩
        · by_cases h2 : size = 2
          · subst h2
            rw [if_neg (by decide)]
            go_enter Try.func26, Try.ntmps26
            go_wp2_with fail
            go_ret
            exact ⟨rfl, rfl⟩
          · by_cases h4 : size = 4
            · subst h4
              rw [if_neg (by decide)]
              go_enter Try.func26, Try.ntmps26
              go_wp2_with fail
              go_ret
              exact ⟨rfl, rfl⟩
            · rw [if_pos ⟨rfl, h1, h2, h4⟩]
              have g1 : (size != 1) = true := by simpa using h1
              have g2 : (size != 2) = true := by simpa using h2
              have g4 : (size != 4) = true := by simpa using h4
              clear h1 h2 h4
              go_enter Try.func26, Try.ntmps26
              go_wp2_with fail
              go_ret
              exact ⟨rfl, rfl⟩
      · rw [if_neg (fun h => hr h.1)]
        have g1 : (reg == 0) = false := by simpa using hr
        clear hr
        go_enter Try.func26, Try.ntmps26
        go_wp2_with fail
        go_ret
        exact ⟨rfl, rfl⟩
theorem check_nil (w : World) (reg size : Int) :
    Calls Try.prog 26 #[.pointer none, .int .i64 reg, .int .i64 size] w fun e w' => e = .returned (.int .i64 1) ∧ w = w' := by
  go_enter Try.func26, Try.ntmps26
  go_wp2_with fail
  go_ret
  exact ⟨rfl, rfl⟩
theorem Dk.place_lt {S : Dk} (h : S.ok) : S.place < 268435456 := by
  have h3 := h.r 3
  have h4 := h.r 4
  have h5 := h.r 5
  unfold Dk.place; omega
set_option maxHeartbeats 1000000 in
theorem sector_no {w : World} {b : Nat} {ds lv : Value} {D : Dk} (H : IdeIn 56 w b ds lv D) (hp : ¬ D.place < D.n) :
    Calls Try.prog 35 #[.pointer (some ⟨b, 0, none⟩)] w fun e w' => e = .returned (.slice none 0 0) ∧ ∃ n, w' = w.drewN n := by
  have HP := Lib.hid (place_in H)
  have hlt := Dk.place_lt H.ok
  obtain ⟨a, cap, hds⟩ := H.disk.len
  obtain ⟨k0, -⟩ := H.facts
  rw [hds] at k0
  have hn := H.ok.n
  have HH := Lib.hid H
  clear H hds
  generalize D.place = p at *
  generalize D.n = n at *
  go_enter Try.func35, Try.ntmps35
  go_wp2_with fail
  refine HP.out.mono ?_
  rintro e w1 ⟨rfl, m, rfl⟩
  go_wp2_with fail
  go_ret
  exact ⟨rfl, m, rfl⟩
set_option maxHeartbeats 1000000 in
theorem sector_at {w : World} {b : Nat} {ds lv : Value} {D : Dk} (H : IdeIn 56 w b ds lv D) (g L cap o : Nat) (hds : ds = .slice (some ⟨g, 0, none⟩) L cap) (hc : L ≤ cap) (ho : o = D.place * 512) (hL : o + 512 ≤ L) :
    Calls Try.prog 35 #[.pointer (some ⟨b, 0, none⟩)] w fun e w' => e = .returned (.slice (some ⟨g, o, none⟩) (o + 512 - o) (o + 512 - o)) ∧ ∃ n, w' = w.drewN n := by
  have HP := Lib.hid (place_in H)
  have hlt := Dk.place_lt H.ok
  obtain ⟨k0, -⟩ := H.facts
  rw [hds] at k0
  clear H hds
  generalize D.place = p at *
  have hm : (p : Int) * 512 = (o : Int) := by omega
  have q0 : o < L := by omega
  have q1 : (o : Int) + 512 ≤ (cap : Int) := by omega
  have q2 : (o : Int) ≤ (cap : Int) := by omega
  have q3 : ¬ cap = o := by omega
  clear ho hL hc
  go_enter Try.func35, Try.ntmps35
  go_wp2_with fail
  refine HP.out.mono ?_
  rintro e w1 ⟨rfl, m, rfl⟩
  go_wp2_with fail
  go_ret
  exact ⟨rfl, m, rfl⟩
theorem sector_yes {w : World} {b : Nat} {ds lv : Value} {D : Dk} (H : IdeIn 56 w b ds lv D) (hp : D.place < D.n) (g cap : Nat) (hds : ds = .slice (some ⟨g, 0, none⟩) (D.n * 512) cap) (hc : D.n * 512 ≤ cap) :
    Calls Try.prog 35 #[.pointer (some ⟨b, 0, none⟩)] w fun e w' => e = .returned (.slice (some ⟨g, D.place * 512, none⟩) 512 512) ∧ ∃ n, w' = w.drewN n := by
  obtain ⟨o, ho⟩ : ∃ o, o = D.place * 512 := ⟨_, rfl⟩
  have h := sector_at H g (D.n * 512) cap o hds hc ho (by omega)
  rw [Nat.add_sub_cancel_left, ho] at h
  exact h
end Go.Proofs.Ytebhnfoehgpilaa
