/- uart: the document's port: Read. -/
import Derived.Test.YtliiccmpfmgioaaUartT
namespace Go.Proofs.Ytliiccmpfmgioaa
open Go.RowKit Go.Conc
set_option linter.unusedVariables false

section
variable {w w' : World} {b : Nat} {cv ov : Value} {U : Ut}
/-- What came is another row, in the same block. -/
theorem RfIn.swap (H : RfIn w b cv ov U) {l : List Nat} {v' : Value} (hr : RowC w 5 1 v' l.length (bytesV l)) (hat : ∀ k, v'.ownBlock = some k → cv.ownBlock = some k) (h1 : l.length ≤ 16) (h2 : ∀ x ∈ l, x < 256) :
    RWent w b cv ov (U.flow l) (w.setCell ⟨b, 0, none⟩ v') := by
  have hne : ∀ j, j ≠ b → (w.setCell ⟨b, 0, none⟩ v').heap[j]? = w.heap[j]? := fun j h => heap_set_other _ h
  have o := H.ok
  refine ⟨v', ov, ⟨?_, ?_, ?_, ?_, ?_⟩, rkeeps w b cv ov _ _, fun k hk => .inl ?_⟩
  · rw [heap_set_map, H.obj]; rfl
  · exact hr.of_heap fun k hk => hne k fun e => H.bc (by rw [← e]; exact hat k hk)
  · exact row_of_heap H.out fun k hk => hne k fun e => H.bo (by rw [← e]; exact hk)
  · intro k hk; exact H.d k (hat k hk)
  · exact ⟨h1, h2, o.d0, o.d1, o.lcr, o.mcr, o.scr, o.wanted, o.s2⟩
  · rcases hk with hk | hk | hk
    · exact .inl hk
    · exact .inr (.inl (hat k hk))
    · exact .inr (.inr hk)
set_option maxHeartbeats 2000000 in
theorem rread_d (H : RfIn w b cv ov U) (k : Nat) (hk : k < 2) (hl : U.latch = true) :
    Calls Try.prog 15 #[.pointer (some ⟨b, 0, none⟩), .int .i64 (k : Nat)] w fun e w' => e = .returned (.tuple #[.int .u8 ((if k = 0 then U.d0 else U.d1 : Nat) : Int), .int .i64 0]) ∧ w = w' := by
  obtain ⟨-, -, k2, k3, k4, -, -, -, -, -, -, kf, kl⟩ := H.facts
  have hg := latch_yes H.ok hl
  clear H hl
  rcases (show k = 0 ∨ k = 1 by omega) with rfl | rfl
  · rw [if_pos rfl]
    go_enter Try.func15, Try.ntmps15
    go_wp2_with fail
    go_ret2
    exact ⟨rfl, rfl⟩
  · rw [if_neg (by decide)]
    go_enter Try.func15, Try.ntmps15
    go_wp2_with fail
    go_ret2
    exact ⟨rfl, rfl⟩
set_option maxHeartbeats 4000000 in
theorem rread_0 (H : RfIn w b cv ov U) (hl : U.latch = false) :
    Calls Try.prog 15 #[.pointer (some ⟨b, 0, none⟩), .int .i64 0] w fun e w' => e = .returned (.tuple #[.int .u8 (U.came.headD 0 : Nat), .int .i64 0]) ∧ RWent w b cv ov U.tail w' := by
  obtain ⟨k0, -, -, -, k4, -, -, -, -, -, -, kf, kl⟩ := H.facts
  have hg := latch_no H.ok hl
  have hlcr := H.ok.lcr
  cases hc : U.came with
  | nil =>
    have hk := H.came.len
    rw [hc] at hk
    obtain ⟨a, c, rfl⟩ := hk
    have HU := Lib.hid (show U.tail = U by unfold Ut.tail Ut.flow; rw [hc]; cases U; simp_all)
    have HH := Lib.hid H
    clear hc hl H
    go_enter Try.func15, Try.ntmps15
    go_wp2_with fail
    go_ret2
    exact ⟨rfl, RWent.of (by rw [HU.out]; exact HH.out) (Keeps.refl _ _)⟩
  | cons x l =>
    have HU := Lib.hid (show U.tail = U.flow l by unfold Ut.tail; rw [hc]; rfl)
    have hr := H.came
    rw [hc] at hr
    obtain ⟨g, o, cap, rfl, hcell, hgl⟩ := hr.cell (j := 0) (u := .int .u8 (x : Nat)) (by simp [bytesV])
    have hsz : (sizeOf 5).run Try.prog w = .ok 1 w := by rfl
    obtain ⟨v', hsl, hr', hat⟩ := run_tail_c (P := Try.prog) (n := l.length) 27 1 Try.underlying27 hsz hr
    obtain ⟨a', c', rfl⟩ := hr'.len
    have h16 : l.length ≤ 16 := by have := H.ok.c1; rw [hc] at this; simp at this; omega
    have h256 : ∀ y ∈ l, y < 256 := fun y hy => H.ok.c2 y (by rw [hc]; exact List.mem_cons_of_mem _ hy)
    have HE := Lib.hid (H.swap (l := l) (v' := .slice a' l.length c') (by simpa [bytesV] using hr') hat h16 h256)
    rw [← HU.out] at HE
    have hn : ∃ n, n = l.length := ⟨_, rfl⟩
    obtain ⟨n, hn⟩ := hn
    have k0' : w.cell? ⟨b, 0, none⟩ = some (.slice (some ⟨g, o, none⟩) (n + 1) cap) := by rw [k0, hn]; rfl
    have hsl' : (Instr.slice 27 (.slice (some ⟨g, o, none⟩) (n + 1) cap) (some (.int .i64 1)) none none).run Try.prog w = .ok (.slice a' n c') w := by rw [hn]; exact hsl
    have hcell' : w.cell? ⟨g, o, none⟩ = some (.int .u8 (x : Nat)) := hcell
    rw [← hn] at HE
    clear hr hr' hat k0 hsl hcell hn HU hc hl H hsz h16 h256
    go_enter Try.func15, Try.ntmps15
    go_wp2_with fail
    go_ret2
    exact ⟨rfl, HE.out⟩
set_option maxHeartbeats 2000000 in
theorem rread_1 (H : RfIn w b cv ov U) (hl : U.latch = false) :
    Calls Try.prog 15 #[.pointer (some ⟨b, 0, none⟩), .int .i64 1] w fun e w' => e = .returned (.tuple #[.int .u8 (U.wanted : Nat), .int .i64 0]) ∧ w = w' := by
  obtain ⟨-, -, -, -, k4, -, -, k7, -, -, -, kf, kl⟩ := H.facts
  have hg := latch_no H.ok hl
  clear H hl
  go_enter Try.func15, Try.ntmps15
  go_wp2_with fail
  go_ret2
  exact ⟨rfl, rfl⟩
set_option maxHeartbeats 4000000 in
theorem rread_2 (H : RfIn w b cv ov U) :
    Calls Try.prog 15 #[.pointer (some ⟨b, 0, none⟩), .int .i64 2] w fun e w' => e = .returned (.tuple #[.int .u8 ((U.why + (if U.on then 192 else 0) : Nat) : Int), .int .i64 0]) ∧ RWent w b cv ov U.ask w' := by
  obtain ⟨-, -, -, -, k4, -, -, -, k8, k9, -, kf, kl⟩ := H.facts
  have hg := lcr_or U
  have hw : U.why = 4 ∨ U.why = 2 ∨ U.why = 1 := by unfold Ut.why; cases U.rx <;> cases U.tx <;> simp
  have HA := Lib.hid (show U.ask = if U.why = 2 then U.setEmpty false else U from rfl)
  have HW := rwhy_any H
  have HH := Lib.hid H
  have hlcr := H.ok.lcr
  clear H
  generalize U.ask = U' at *
  generalize U.why = y at *
  generalize U.on = on at *
  generalize U.lcr = lc at *
  rcases hw with rfl | rfl | rfl
  all_goals
    cases on <;> rcases hg with hg | hg
    all_goals
      go_enter Try.func15, Try.ntmps15
      go_wp2_with fail
      refine HW.mono ?_
      rintro e w1 ⟨rfl, rfl⟩
      go_wp2_with fail
      go_ret2
      first
        | exact ⟨rfl, RWent.of (by rw [HA.out, if_neg (by decide)]; exact HH.out) (Keeps.refl _ _)⟩
        | exact ⟨rfl, RWent.of (by rw [HA.out, if_pos trivial]; exact HH.out.setEmpty false) (rkeeps w b cv ov _ _)⟩
set_option maxHeartbeats 2000000 in
theorem rread_3 (H : RfIn w b cv ov U) :
    Calls Try.prog 15 #[.pointer (some ⟨b, 0, none⟩), .int .i64 3] w fun e w' => e = .returned (.tuple #[.int .u8 (U.lcr : Nat), .int .i64 0]) ∧ w = w' := by
  obtain ⟨-, -, -, -, k4, -, -, -, -, -, -, kf, kl⟩ := H.facts
  have hg := lcr_or U
  clear H
  rcases hg with hg | hg
  all_goals
    go_enter Try.func15, Try.ntmps15
    go_wp2_with fail
    go_ret2
    exact ⟨rfl, rfl⟩
set_option maxHeartbeats 2000000 in
theorem rread_4 (H : RfIn w b cv ov U) :
    Calls Try.prog 15 #[.pointer (some ⟨b, 0, none⟩), .int .i64 4] w fun e w' => e = .returned (.tuple #[.int .u8 (U.mcr : Nat), .int .i64 0]) ∧ w = w' := by
  obtain ⟨-, -, -, -, k4, k5, -, -, -, -, -, kf, kl⟩ := H.facts
  have hg := lcr_or U
  clear H
  rcases hg with hg | hg
  all_goals
    go_enter Try.func15, Try.ntmps15
    go_wp2_with fail
    go_ret2
    exact ⟨rfl, rfl⟩
set_option maxHeartbeats 2000000 in
theorem rread_7 (H : RfIn w b cv ov U) :
    Calls Try.prog 15 #[.pointer (some ⟨b, 0, none⟩), .int .i64 7] w fun e w' => e = .returned (.tuple #[.int .u8 (U.scr : Nat), .int .i64 0]) ∧ w = w' := by
  obtain ⟨-, -, -, -, k4, -, k6, -, -, -, -, kf, kl⟩ := H.facts
  have hg := lcr_or U
  clear H
  rcases hg with hg | hg
  all_goals
    go_enter Try.func15, Try.ntmps15
    go_wp2_with fail
    go_ret2
    exact ⟨rfl, rfl⟩
set_option maxHeartbeats 2000000 in
theorem rread_6 (H : RfIn w b cv ov U) :
    Calls Try.prog 15 #[.pointer (some ⟨b, 0, none⟩), .int .i64 6] w fun e w' => e = .returned (.tuple #[.int .u8 176, .int .i64 0]) ∧ w = w' := by
  obtain ⟨-, -, -, -, k4, -, -, -, -, -, -, kf, kl⟩ := H.facts
  have hg := lcr_or U
  clear H
  rcases hg with hg | hg
  all_goals
    go_enter Try.func15, Try.ntmps15
    go_wp2_with fail
    go_ret2
    exact ⟨rfl, rfl⟩
set_option maxHeartbeats 2000000 in
theorem rread_bad (H : RfIn w b cv ov U) (reg : Int) (h : reg < 0 ∨ 7 < reg) :
    Calls Try.prog 15 #[.pointer (some ⟨b, 0, none⟩), .int .i64 reg] w fun e w' => e = .returned (.tuple #[.int .u8 0, .int .i64 1]) ∧ w = w' := by
  obtain ⟨-, -, -, -, k4, -, -, -, -, -, -, kf, kl⟩ := H.facts
  have hg := lcr_or U
  have n0 : ¬ reg = 0 := by omega
  have n1 : ¬ reg = 1 := by omega
  have n2 : ¬ reg = 2 := by omega
  have n3 : ¬ reg = 3 := by omega
  have n4 : ¬ reg = 4 := by omega
  have n5 : ¬ reg = 5 := by omega
  have n6 : ¬ reg = 6 := by omega
  have n7 : ¬ reg = 7 := by omega
  have b0 : (reg == 0) = false := by simpa using n0
  have b1 : (reg == 1) = false := by simpa using n1
  clear H h
  rcases hg with hg | hg
  all_goals
    go_enter Try.func15, Try.ntmps15
    go_wp2_with fail
    go_ret2
    exact ⟨rfl, rfl⟩
set_option maxHeartbeats 4000000 in
theorem rread_5 (H : RfIn w b cv ov U) :
    Calls Try.prog 15 #[.pointer (some ⟨b, 0, none⟩), .int .i64 5] w fun e w' => e = .returned (.tuple #[.int .u8 (U.stat : Nat), .int .i64 0]) ∧ RWent w b cv ov (U.setLost false) w' := by
  obtain ⟨k0, k1, -, -, k4, -, -, -, -, -, -, kf, kl⟩ := H.facts
  obtain ⟨a, c, rfl⟩ := H.came.len
  have hg := lcr_or U
  have hlcr := H.ok.lcr
  have hw : U.stat = 96 + (if U.came.isEmpty then 0 else 1) + (if U.lost then 2 else 0) := rfl
  have HH := Lib.hid (H.setLost false)
  have hn : ∃ n, n = U.came.length := ⟨_, rfl⟩
  obtain ⟨n, hn⟩ := hn
  rw [← hn] at k0
  have he : U.came.isEmpty = decide (n = 0) := by rw [hn]; cases U.came <;> simp
  rw [he] at hw
  generalize U.stat = y at *
  generalize U.lcr = lc at *
  clear he hn H
  have h3 : n = 0 ∨ 0 < n := by omega
  cases hl : U.lost <;> rcases h3 with h3 | h3 <;> rcases hg with hg | hg
  all_goals
    rw [hl] at hw k1
    first | subst h3 | rw [decide_eq_false (show ¬ n = 0 by omega)] at hw
    try (have h3i : (0 : Int) < (n : Int) := by omega)
    simp at hw
    have HW := Lib.hid hw
    clear hw hl
    go_enter Try.func15, Try.ntmps15
    go_wp2_with fail
    go_ret2
    exact ⟨by rw [HW.out]; rfl, RWent.of HH.out (rkeeps w b _ ov _ _)⟩
theorem rread_any (H : RfIn w b cv ov U) (reg : Int) :
    Calls Try.prog 15 #[.pointer (some ⟨b, 0, none⟩), .int .i64 reg] w fun e w' => e = .returned (.tuple #[.int .u8 (U.inV reg : Nat), .int .i64 (callErr reg)]) ∧ RWent w b cv ov (U.inS reg) w' := by
  have same : ∀ {v c : Int}, (Calls Try.prog 15 #[.pointer (some ⟨b, 0, none⟩), .int .i64 reg] w fun e w' => e = .returned (.tuple #[.int .u8 v, .int .i64 c]) ∧ w = w') →
      Calls Try.prog 15 #[.pointer (some ⟨b, 0, none⟩), .int .i64 reg] w fun e w' => e = .returned (.tuple #[.int .u8 v, .int .i64 c]) ∧ RWent w b cv ov U w' := fun h => by
    refine h.mono ?_
    rintro e w1 ⟨rfl, rfl⟩
    exact ⟨rfl, RWent.of H (Keeps.refl _ _)⟩
  unfold callErr Ut.inV Ut.inS
  by_cases h : reg < 0 ∨ 7 < reg
  · rw [if_pos h, if_pos h, if_pos h]
    exact same (rread_bad H reg h)
  · rw [if_neg h, if_neg h, if_neg h]
    by_cases h2 : reg < 2 ∧ U.latch = true
    · rw [if_pos h2, if_pos h2]
      have := rread_d H reg.toNat (by omega) h2.2
      rw [show ((reg.toNat : Nat) : Int) = reg by omega] at this
      by_cases h0 : reg = 0
      · rw [if_pos h0]; rw [if_pos (by omega)] at this; exact same this
      · rw [if_neg h0]; rw [if_neg (by omega)] at this; exact same this
    · rw [if_neg h2, if_neg h2]
      by_cases h0 : reg = 0
      · subst h0
        rw [if_pos rfl, if_pos rfl]
        exact rread_0 H (by cases hl : U.latch; rfl; exact absurd ⟨by decide, hl⟩ h2)
      rw [if_neg h0, if_neg h0]
      by_cases h1 : reg = 1
      · subst h1
        rw [if_pos rfl, if_neg (by decide), if_neg (by decide)]
        exact same (rread_1 H (by cases hl : U.latch; rfl; exact absurd ⟨by decide, hl⟩ h2))
      rw [if_neg h1]
      by_cases e2 : reg = 2
      · subst e2; rw [if_pos rfl, if_pos rfl]; exact rread_2 H
      rw [if_neg e2, if_neg e2]
      by_cases e3 : reg = 3
      · subst e3; rw [if_pos rfl, if_neg (by decide)]; exact same (rread_3 H)
      rw [if_neg e3]
      by_cases e4 : reg = 4
      · subst e4; rw [if_pos rfl, if_neg (by decide)]; exact same (rread_4 H)
      rw [if_neg e4]
      by_cases e5 : reg = 5
      · subst e5; rw [if_pos rfl, if_pos rfl]; exact rread_5 H
      rw [if_neg e5, if_neg e5]
      by_cases e6 : reg = 6
      · subst e6; rw [if_pos rfl]; exact same (rread_6 H)
      rw [if_neg e6]
      have e7 : reg = 7 := by omega
      subst e7
      exact same (rread_7 H)
end
end Go.Proofs.Ytliiccmpfmgioaa
