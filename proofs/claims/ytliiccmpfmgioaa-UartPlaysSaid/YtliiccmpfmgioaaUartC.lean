/- uart: what interrupts; what was sent; a new one. -/
import Derived.Test.YtliiccmpfmgioaaUartB
namespace Go.Proofs.Ytliiccmpfmgioaa
open Go.RowKit Go.Conc
set_option linter.unusedVariables false

theorem masks : ∀ x : Fin 256, (x.val &&& 1) = x.val % 2 ∧ (x.val &&& 2) = x.val / 2 % 2 * 2 ∧ (x.val &&& 128) = x.val / 128 % 2 * 128 ∧ (x.val &&& 15) = x.val % 16 ∧ (x.val &&& 31) = x.val % 32 := by decide +kernel
theorem m1 (x : Nat) (h : x < 256) : bits .and .u8 (x : Int) 1 = ((x % 2 : Nat) : Int) := by
  rw [← (masks ⟨x, h⟩).1]; exact u8_and_nat x 1 h (by decide)
theorem m2 (x : Nat) (h : x < 256) : bits .and .u8 (x : Int) 2 = ((x / 2 % 2 * 2 : Nat) : Int) := by
  rw [← (masks ⟨x, h⟩).2.1]; exact u8_and_nat x 2 h (by decide)
theorem m128 (x : Nat) (h : x < 256) : bits .and .u8 (x : Int) 128 = ((x / 128 % 2 * 128 : Nat) : Int) := by
  rw [← (masks ⟨x, h⟩).2.2.1]; exact u8_and_nat x 128 h (by decide)
theorem m15 (x : Nat) (h : x < 256) : bits .and .u8 (x : Int) 15 = ((x % 16 : Nat) : Int) := by
  rw [← (masks ⟨x, h⟩).2.2.2.1]; exact u8_and_nat x 15 h (by decide)
theorem m31 (x : Nat) (h : x < 256) : bits .and .u8 (x : Int) 31 = ((x % 32 : Nat) : Int) := by
  rw [← (masks ⟨x, h⟩).2.2.2.2]; exact u8_and_nat x 31 h (by decide)
theorem t1 (x : Nat) (h : x < 256) : (bits .and .u8 (x : Int) 1 != 0) = (x % 2 == 1) := by
  rw [m1 x h]
  rcases Nat.mod_two_eq_zero_or_one x with e | e <;> rw [e] <;> rfl
theorem t2 (x : Nat) (h : x < 256) : (bits .and .u8 (x : Int) 2 != 0) = (x / 2 % 2 == 1) := by
  rw [m2 x h]
  rcases Nat.mod_two_eq_zero_or_one (x / 2) with e | e <;> rw [e] <;> rfl
theorem t128 (x : Nat) (h : x < 256) : (bits .and .u8 (x : Int) 128 != 0) = (x / 128 % 2 == 1) := by
  rw [m128 x h]
  rcases Nat.mod_two_eq_zero_or_one (x / 128) with e | e <;> rw [e] <;> rfl
def Ut.rx (U : Ut) : Bool := !U.came.isEmpty && U.wanted % 2 == 1
def Ut.tx (U : Ut) : Bool := U.empty && U.wanted / 2 % 2 == 1
def Ut.why (U : Ut) : Nat := if U.rx then 4 else if U.tx then 2 else 1
section
variable {w : World} {b q : Nat} {sv : Value} {U : Ut}
set_option maxHeartbeats 2000000 in
theorem why_any (H : UtIn w b q sv U) : Calls Try.prog 22 #[.pointer (some ⟨b, 0, none⟩)] w fun e w' => e = .returned (.int .u8 (U.why : Nat)) ∧ w = w' := by
  obtain ⟨k0, -, -, k3, -, -, -, -, -, k9, -, kf, kl⟩ := H.facts
  obtain ⟨s, r, hq⟩ := H.chan
  have hlen := fun ty => run_len_chan (P := Try.prog) (w := w) 41 ty Try.underlying41 hq
  have b1 := t1 U.wanted H.ok.wanted
  have b2 := t2 U.wanted H.ok.wanted
  have hn : ((bytesV U.came).toArray.size : Int) = U.came.length := by simp [bytesV]
  have hw : U.why = if (!U.came.isEmpty && U.wanted % 2 == 1) then 4 else if (U.empty && U.wanted / 2 % 2 == 1) then 2 else 1 := rfl
  generalize (bytesV U.came).toArray.size = n at *
  generalize U.why = y at *
  generalize U.empty = e at *
  generalize U.wanted = wt at *
  generalize (wt % 2 == 1) = c1 at *
  generalize (wt / 2 % 2 == 1) = c2 at *
  clear hq H
  cases hc : U.came with
  | nil =>
    rw [hc] at hw hn
    have hn0 : (n : Int) ≤ 0 := by rw [hn]; simp
    clear hn hc
    cases e <;> cases c2
    all_goals
      simp at hw
      have HW := Lib.hid hw
      clear hw
      go_enter Try.func22, Try.ntmps22
      go_wp2_with fail
      go_ret
      exact ⟨by rw [HW.out]; rfl, rfl⟩
  | cons x l =>
    rw [hc] at hw hn
    have hn0 : (0 : Int) < (n : Int) := by rw [hn]; simp
    clear hn hc
    cases c1 <;> cases e <;> cases c2
    all_goals
      simp at hw
      have HW := Lib.hid hw
      clear hw
      go_enter Try.func22, Try.ntmps22
      go_wp2_with fail
      go_ret
      exact ⟨by rw [HW.out]; rfl, rfl⟩
def Ut.line (U : Ut) : Bool := U.rx || U.tx
theorem Ut.line_eq (U : Ut) : ((U.why : Int) != 1) = U.line := by
  unfold Ut.why Ut.line
  cases U.rx <;> cases U.tx <;> rfl
theorem line_any (H : UtIn w b q sv U) : Calls Try.prog 19 #[.pointer (some ⟨b, 0, none⟩)] w fun e w' => e = .returned (.bool U.line) ∧ w = w' := by
  have HL := Lib.hid (Ut.line_eq U)
  go_enter Try.func19, Try.ntmps19
  go_wp2_with fail
  refine (why_any H).mono ?_
  rintro e w1 ⟨rfl, rfl⟩
  go_wp2_with fail
  go_ret
  exact ⟨by rw [HL.out]; rfl, rfl⟩
theorem line_nil (w : World) : Calls Try.prog 19 #[.pointer none] w fun e w' => e = .returned (.bool false) ∧ w = w' := by
  go_enter Try.func19, Try.ntmps19
  go_wp2_with fail
  go_ret
  exact ⟨rfl, rfl⟩
def Ut.quit (U : Ut) : Ut := { U with sent := [] }
theorem Ut.quit_ok {U : Ut} (h : U.ok) : U.quit.ok := ⟨h.c1, h.c2, h.d0, h.d1, h.lcr, h.mcr, h.scr, h.wanted, fun x hx => by cases hx⟩
theorem sent_any (H : UtIn w b q sv U) : Calls Try.prog 11 #[.pointer (some ⟨b, 0, none⟩)] w fun e w' => e = .returned sv ∧ UtIn w' b q (.slice none 0 0) U.quit ∧ w'.ownsRow 0 5 1 sv U.sent.length (bytesV U.sent) ∧ Keeps (fun k => k = b ∨ k = q) w w' := by
  obtain ⟨-, -, -, -, -, -, -, -, -, -, k10, kf, kl⟩ := H.facts
  obtain ⟨a, c, rfl⟩ := row_len H.sent
  have hne : ∀ j, j ≠ b → (w.setCell ⟨b, 10, none⟩ (.slice none 0 0)).heap[j]? = w.heap[j]? := fun j h => heap_set_other _ h
  obtain ⟨s, r, hq⟩ := H.chan
  have H1 : UtIn (w.setCell ⟨b, 10, none⟩ (.slice none 0 0)) b q (.slice none 0 0) U.quit :=
    ⟨by rw [heap_set_map, H.obj]; rfl, ⟨s, r, by rw [hne q H.bq.symm]; exact hq⟩, World.ownsRow_nil _ _ _ _, Ut.quit_ok H.ok⟩
  have H2 := row_of_heap (w' := w.setCell ⟨b, 10, none⟩ (.slice none 0 0)) H.sent fun k hk => hne k fun e => H.bs (by rw [← e]; exact hk)
  have HH1 := Lib.hid H1
  have HH2 := Lib.hid H2
  clear H1 H2 hne hq H
  go_enter Try.func11, Try.ntmps11
  go_wp2_with fail
  go_ret
  exact ⟨rfl, HH1.out, HH2.out, (Keeps.refl _ _).setCell (.inl (.inl rfl)) _⟩
theorem sent_nil (w : World) : Calls Try.prog 11 #[.pointer none] w fun e w' => e = .returned (.slice none 0 0) ∧ w = w' := by
  go_enter Try.func11, Try.ntmps11
  go_wp2_with fail
  go_ret
  exact ⟨rfl, rfl⟩
end
end Go.Proofs.Ytliiccmpfmgioaa
