/- uart: any write, any read; a port that a law has made. -/
import Derived.Test.YtliiccmpfmgioaaUartE
namespace Go.Proofs.Ytliiccmpfmgioaa
open Go.RowKit Go.Conc
set_option linter.unusedVariables false

def Ut.tail (U : Ut) : Ut := U.flow U.came.tail
def Ut.ask (U : Ut) : Ut := if U.why = 2 then U.setEmpty false else U
def Ut.setLost (U : Ut) (x : Bool) : Ut := { U with lost := x }
def Ut.stat (U : Ut) : Nat := 96 + (if U.came.isEmpty then 0 else 1) + (if U.lost then 2 else 0)
def Ut.inV (U : Ut) (reg : Int) : Nat :=
  if reg < 0 ∨ 7 < reg then 0
  else if reg < 2 ∧ U.latch = true then (if reg = 0 then U.d0 else U.d1)
  else if reg = 0 then U.came.headD 0
  else if reg = 1 then U.wanted
  else if reg = 2 then U.why + (if U.on then 192 else 0)
  else if reg = 3 then U.lcr
  else if reg = 4 then U.mcr
  else if reg = 5 then U.stat
  else if reg = 6 then 176
  else U.scr
def Ut.inS (U : Ut) (reg : Int) : Ut :=
  if reg < 0 ∨ 7 < reg then U
  else if reg < 2 ∧ U.latch = true then U
  else if reg = 0 then U.tail
  else if reg = 2 then U.ask
  else if reg = 5 then U.setLost false
  else U
section
variable {w w' : World} {b q : Nat} {sv : Value} {U : Ut}
theorem out_any (H : UtIn w b q sv U) (reg : Int) (v : Nat) (hv : v < 256) (hL : U.sent.length + 1 ≤ 140737488355328) :
    Calls Try.prog 10 #[.pointer (some ⟨b, 0, none⟩), .int .i64 reg, .int .u8 (v : Nat)] w fun e w' => e = .returned (.int .i64 (callErr reg)) ∧ Went w b q sv (U.out reg v) w' := by
  unfold callErr Ut.out
  by_cases h : reg < 0 ∨ 7 < reg
  · rw [if_pos h, if_pos h]
    refine (out_bad reg v h).mono ?_
    rintro e w1 ⟨rfl, rfl⟩
    exact ⟨rfl, Went.of H (Keeps.refl _ _)⟩
  · rw [if_neg h, if_neg h]
    by_cases h2 : reg < 2 ∧ U.latch = true
    · rw [if_pos h2]
      have := out_d H reg.toNat v (by omega) hv h2.2
      rwa [show ((reg.toNat : Nat) : Int) = reg by omega] at this
    · rw [if_neg h2]
      by_cases h0 : reg = 0
      · subst h0
        rw [if_pos rfl]
        exact out_0 H v hv (by cases hl : U.latch; rfl; exact absurd ⟨by decide, hl⟩ h2) hL
      rw [if_neg h0]
      by_cases h1 : reg = 1
      · subst h1
        rw [if_pos rfl]
        exact out_1 H v hv (by cases hl : U.latch; rfl; exact absurd ⟨by decide, hl⟩ h2)
      rw [if_neg h1]
      by_cases e2 : reg = 2
      · subst e2; rw [if_pos rfl]; exact out_2 H v hv
      rw [if_neg e2]
      by_cases e3 : reg = 3
      · subst e3; rw [if_pos rfl]; exact out_3 H v hv
      rw [if_neg e3]
      by_cases e4 : reg = 4
      · subst e4; rw [if_pos rfl]; exact out_4 H v hv
      rw [if_neg e4]
      by_cases e7 : reg = 7
      · subst e7; rw [if_pos rfl]; exact out_7 H v hv
      rw [if_neg e7]
      exact out_else H reg (by omega) v
theorem UtIn.setLost (H : UtIn w b q sv U) (x : Bool) : UtIn (w.setCell ⟨b, 1, none⟩ (.bool x)) b q sv (U.setLost x) := by
  have o := H.ok
  exact H.turn 1 _ rfl rfl rfl ⟨o.c1, o.c2, o.d0, o.d1, o.lcr, o.mcr, o.scr, o.wanted, o.s2⟩
set_option maxRecDepth 20000 in
theorem in_nil (w : World) (reg : Int) : Calls Try.prog 12 #[.pointer none, .int .i64 reg] w fun e w' => e = .returned (.tuple #[.int .u8 0, .int .i64 1]) ∧ w = w' := by
  go_enter Try.func12, Try.ntmps12
  go_wp2_with fail
  go_ret2
  exact ⟨rfl, rfl⟩
theorem in_bad (reg : Int) (h : reg < 0 ∨ 7 < reg) : Calls Try.prog 12 #[.pointer (some ⟨b, 0, none⟩), .int .i64 reg] w fun e w' => e = .returned (.tuple #[.int .u8 0, .int .i64 1]) ∧ w = w' := by
  by_cases h0 : reg < 0
  · clear h
    go_enter Try.func12, Try.ntmps12
    go_wp2_with fail
    go_ret2
    exact ⟨rfl, rfl⟩
  · have h7 : 7 < reg := by omega
    have g0 : ¬ reg < 0 := h0
    clear h
    go_enter Try.func12, Try.ntmps12
    go_wp2_with fail
    go_ret2
    exact ⟨rfl, rfl⟩
set_option maxHeartbeats 2000000 in
theorem in_d (H : UtIn w b q sv U) (k : Nat) (hk : k < 2) (hl : U.latch = true) :
    Calls Try.prog 12 #[.pointer (some ⟨b, 0, none⟩), .int .i64 (k : Nat)] w fun e w' => e = .returned (.tuple #[.int .u8 ((if k = 0 then U.d0 else U.d1 : Nat) : Int), .int .i64 0]) ∧ w = w' := by
  obtain ⟨-, -, -, -, k4, k5, k6, -, -, -, -, kf, kl⟩ := H.facts
  have hb := t128 U.lcr H.ok.lcr
  rw [show (U.lcr / 128 % 2 == 1) = true from hl] at hb
  clear H hl
  rcases (show k = 0 ∨ k = 1 by omega) with rfl | rfl
  · rw [if_pos rfl]
    go_enter Try.func12, Try.ntmps12
    go_wp2_with fail
    go_ret2
    exact ⟨rfl, rfl⟩
  · rw [if_neg (by decide)]
    go_enter Try.func12, Try.ntmps12
    go_wp2_with fail
    go_ret2
    exact ⟨rfl, rfl⟩
set_option maxHeartbeats 2000000 in
theorem in_0 (H : UtIn w b q sv U) (hl : U.latch = false) :
    Calls Try.prog 12 #[.pointer (some ⟨b, 0, none⟩), .int .i64 0] w fun e w' => e = .returned (.tuple #[.int .u8 (U.came.headD 0 : Nat), .int .i64 0]) ∧ Went w b q sv U.tail w' := by
  obtain ⟨-, -, -, -, -, -, k6, -, -, -, -, kf, kl⟩ := H.facts
  have hb := t128 U.lcr H.ok.lcr
  rw [show (U.lcr / 128 % 2 == 1) = false from hl] at hb
  cases hc : U.came with
  | nil =>
    have HU := Lib.hid (show U.tail = U by unfold Ut.tail Ut.flow; rw [hc]; cases U; simp_all)
    have HC := Lib.hid hc
    clear hc hl
    go_enter Try.func12, Try.ntmps12
    go_wp2_with fail
    refine (next_none H HC.out).mono ?_
    rintro e w1 ⟨rfl, rfl⟩
    go_wp2_with fail
    go_ret2
    exact ⟨rfl, Went.of (by rw [HU.out]; exact H) (Keeps.refl _ _)⟩
  | cons x l =>
    have HU := Lib.hid (show U.tail = U.flow l by unfold Ut.tail; rw [hc]; rfl)
    have HC := Lib.hid hc
    clear hc hl
    go_enter Try.func12, Try.ntmps12
    go_wp2_with fail
    refine (next_some H x l HC.out).mono ?_
    rintro e w1 ⟨rfl, H1, K1⟩
    have HH := Lib.hid H1
    go_wp2_with fail
    go_ret2
    exact ⟨rfl, Went.of (by rw [HU.out]; exact HH.out) (K1.mono fun k _ e => .inr (.inl e))⟩
set_option maxHeartbeats 2000000 in
theorem in_1 (H : UtIn w b q sv U) (hl : U.latch = false) :
    Calls Try.prog 12 #[.pointer (some ⟨b, 0, none⟩), .int .i64 1] w fun e w' => e = .returned (.tuple #[.int .u8 (U.wanted : Nat), .int .i64 0]) ∧ w = w' := by
  obtain ⟨-, -, -, -, -, -, k6, -, -, k9, -, kf, kl⟩ := H.facts
  have hb := t128 U.lcr H.ok.lcr
  rw [show (U.lcr / 128 % 2 == 1) = false from hl] at hb
  clear H hl
  go_enter Try.func12, Try.ntmps12
  go_wp2_with fail
  go_ret2
  exact ⟨rfl, rfl⟩
theorem or192 : bits .or .u8 4 192 = 196 ∧ bits .or .u8 2 192 = 194 ∧ bits .or .u8 1 192 = 193 ∧ bits .or .u8 96 1 = 97 ∧ bits .or .u8 96 2 = 98 ∧ bits .or .u8 97 2 = 99 := by decide +kernel
set_option maxHeartbeats 4000000 in
theorem in_2 (H : UtIn w b q sv U) :
    Calls Try.prog 12 #[.pointer (some ⟨b, 0, none⟩), .int .i64 2] w fun e w' => e = .returned (.tuple #[.int .u8 ((U.why + (if U.on then 192 else 0) : Nat) : Int), .int .i64 0]) ∧ Went w b q sv U.ask w' := by
  obtain ⟨-, -, k2, k3, -, -, -, -, -, -, -, kf, kl⟩ := H.facts
  obtain ⟨o1, o2, o3, -⟩ := or192
  have hw : U.why = 4 ∨ U.why = 2 ∨ U.why = 1 := by unfold Ut.why; cases U.rx <;> cases U.tx <;> simp
  have HA := Lib.hid (show U.ask = if U.why = 2 then U.setEmpty false else U from rfl)
  have HW := why_any H
  have HH := Lib.hid H
  clear H
  generalize U.ask = U' at *
  generalize U.why = y at *
  generalize U.on = on at *
  rcases hw with rfl | rfl | rfl
  all_goals
    cases on
    all_goals
      go_enter Try.func12, Try.ntmps12
      go_wp2_with fail
      refine HW.mono ?_
      rintro e w1 ⟨rfl, rfl⟩
      go_wp2_with fail
      go_ret2
      first
        | exact ⟨rfl, Went.of (by rw [HA.out, if_neg (by decide)]; exact HH.out) (Keeps.refl _ _)⟩
        | exact ⟨rfl, Went.of (by rw [HA.out, if_pos trivial]; exact HH.out.setEmpty false) (keeps_obj w b q sv _ _)⟩
set_option maxHeartbeats 2000000 in
theorem in_3 (H : UtIn w b q sv U) :
    Calls Try.prog 12 #[.pointer (some ⟨b, 0, none⟩), .int .i64 3] w fun e w' => e = .returned (.tuple #[.int .u8 (U.lcr : Nat), .int .i64 0]) ∧ w = w' := by
  obtain ⟨-, -, -, -, -, -, k6, -, -, -, -, kf, kl⟩ := H.facts
  clear H
  go_enter Try.func12, Try.ntmps12
  go_wp2_with fail
  go_ret2
  exact ⟨rfl, rfl⟩
set_option maxHeartbeats 2000000 in
theorem in_4 (H : UtIn w b q sv U) :
    Calls Try.prog 12 #[.pointer (some ⟨b, 0, none⟩), .int .i64 4] w fun e w' => e = .returned (.tuple #[.int .u8 (U.mcr : Nat), .int .i64 0]) ∧ w = w' := by
  obtain ⟨-, -, -, -, -, -, -, k7, -, -, -, kf, kl⟩ := H.facts
  clear H
  go_enter Try.func12, Try.ntmps12
  go_wp2_with fail
  go_ret2
  exact ⟨rfl, rfl⟩
set_option maxHeartbeats 2000000 in
theorem in_7 (H : UtIn w b q sv U) :
    Calls Try.prog 12 #[.pointer (some ⟨b, 0, none⟩), .int .i64 7] w fun e w' => e = .returned (.tuple #[.int .u8 (U.scr : Nat), .int .i64 0]) ∧ w = w' := by
  obtain ⟨-, -, -, -, -, -, -, -, k8, -, -, kf, kl⟩ := H.facts
  clear H
  go_enter Try.func12, Try.ntmps12
  go_wp2_with fail
  go_ret2
  exact ⟨rfl, rfl⟩
set_option maxHeartbeats 2000000 in
theorem in_6 (H : UtIn w b q sv U) :
    Calls Try.prog 12 #[.pointer (some ⟨b, 0, none⟩), .int .i64 6] w fun e w' => e = .returned (.tuple #[.int .u8 176, .int .i64 0]) ∧ w = w' := by
  obtain ⟨-, -, -, -, -, -, -, -, -, -, -, kf, kl⟩ := H.facts
  clear H
  go_enter Try.func12, Try.ntmps12
  go_wp2_with fail
  go_ret2
  exact ⟨rfl, rfl⟩
set_option maxHeartbeats 4000000 in
theorem in_5 (H : UtIn w b q sv U) :
    Calls Try.prog 12 #[.pointer (some ⟨b, 0, none⟩), .int .i64 5] w fun e w' => e = .returned (.tuple #[.int .u8 (U.stat : Nat), .int .i64 0]) ∧ Went w b q sv (U.setLost false) w' := by
  obtain ⟨k0, k1, -, -, -, -, -, -, -, -, -, kf, kl⟩ := H.facts
  obtain ⟨-, -, -, o1, o2, o3⟩ := or192
  obtain ⟨s, r, hq⟩ := H.chan
  have hlen := fun ty => run_len_chan (P := Try.prog) (w := w) 41 ty Try.underlying41 hq
  have hn : ((bytesV U.came).toArray.size : Int) = U.came.length := by simp [bytesV]
  have hw : U.stat = 96 + (if U.came.isEmpty then 0 else 1) + (if U.lost then 2 else 0) := rfl
  have HH := Lib.hid (H.setLost false)
  generalize (bytesV U.came).toArray.size = n at *
  generalize U.stat = y at *
  clear hq H
  cases hl : U.lost <;> cases hc : U.came
  all_goals
    rw [hl, hc] at hw
    rw [hl] at k1
    rw [hc] at hn
    simp at hw
    have HW := Lib.hid hw
    have hn0 : (n : Int) ≤ 0 ∨ (0 : Int) < (n : Int) := by omega
    clear hw hl hc
    rcases hn0 with hn0 | hn0
    all_goals (try (exfalso; simp at hn; omega))
    all_goals
      clear hn
      go_enter Try.func12, Try.ntmps12
      go_wp2_with fail
      go_ret2
      exact ⟨by rw [HW.out]; rfl, Went.of HH.out (keeps_obj w b q sv _ _)⟩
theorem in_any (H : UtIn w b q sv U) (reg : Int) :
    Calls Try.prog 12 #[.pointer (some ⟨b, 0, none⟩), .int .i64 reg] w fun e w' => e = .returned (.tuple #[.int .u8 (U.inV reg : Nat), .int .i64 (callErr reg)]) ∧ Went w b q sv (U.inS reg) w' := by
  have same : ∀ {v c : Int}, (Calls Try.prog 12 #[.pointer (some ⟨b, 0, none⟩), .int .i64 reg] w fun e w' => e = .returned (.tuple #[.int .u8 v, .int .i64 c]) ∧ w = w') →
      Calls Try.prog 12 #[.pointer (some ⟨b, 0, none⟩), .int .i64 reg] w fun e w' => e = .returned (.tuple #[.int .u8 v, .int .i64 c]) ∧ Went w b q sv U w' := fun h => by
    refine h.mono ?_
    rintro e w1 ⟨rfl, rfl⟩
    exact ⟨rfl, Went.of H (Keeps.refl _ _)⟩
  unfold callErr Ut.inV Ut.inS
  by_cases h : reg < 0 ∨ 7 < reg
  · rw [if_pos h, if_pos h, if_pos h]
    exact same (in_bad reg h)
  · rw [if_neg h, if_neg h, if_neg h]
    by_cases h2 : reg < 2 ∧ U.latch = true
    · rw [if_pos h2, if_pos h2]
      have := in_d H reg.toNat (by omega) h2.2
      rw [show ((reg.toNat : Nat) : Int) = reg by omega] at this
      by_cases h0 : reg = 0
      · rw [if_pos h0]; rw [if_pos (by omega)] at this; exact same this
      · rw [if_neg h0]; rw [if_neg (by omega)] at this; exact same this
    · rw [if_neg h2, if_neg h2]
      by_cases h0 : reg = 0
      · subst h0
        rw [if_pos rfl, if_pos rfl]
        exact in_0 H (by cases hl : U.latch; rfl; exact absurd ⟨by decide, hl⟩ h2)
      rw [if_neg h0, if_neg h0]
      by_cases h1 : reg = 1
      · subst h1
        rw [if_pos rfl, if_neg (by decide), if_neg (by decide)]
        exact same (in_1 H (by cases hl : U.latch; rfl; exact absurd ⟨by decide, hl⟩ h2))
      rw [if_neg h1]
      by_cases e2 : reg = 2
      · subst e2; rw [if_pos rfl, if_pos rfl]; exact in_2 H
      rw [if_neg e2, if_neg e2]
      by_cases e3 : reg = 3
      · subst e3; rw [if_pos rfl, if_neg (by decide)]; exact same (in_3 H)
      rw [if_neg e3]
      by_cases e4 : reg = 4
      · subst e4; rw [if_pos rfl, if_neg (by decide)]; exact same (in_4 H)
      rw [if_neg e4]
      by_cases e5 : reg = 5
      · subst e5; rw [if_pos rfl, if_pos rfl]; exact in_5 H
      rw [if_neg e5, if_neg e5]
      by_cases e6 : reg = 6
      · subst e6; rw [if_pos rfl]; exact same (in_6 H)
      rw [if_neg e6]
      have e7 : reg = 7 := by omega
      subst e7
      exact same (in_7 H)
end
end Go.Proofs.Ytliiccmpfmgioaa
