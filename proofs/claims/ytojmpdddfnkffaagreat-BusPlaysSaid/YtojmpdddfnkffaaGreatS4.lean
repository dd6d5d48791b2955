/- Steps of a proof: UartB, UartC, UartD, UartE, UartF, In, UartG, IdeA, IdeB, IdeC, IdeD, IdeE, together. -/
import Derived.Test.YtojmpdddfnkffaaGreatS3
import Derived.Deep.CutRange
import Derived.Maps.AppendAt
import Derived.Test.YtojmpdddfnkffaaGreatS0
import Derived.ChangeSlices
import Derived.Test.YtojmpdddfnkffaaGreatRows
import Derived.BigRegion
import Derived.Deep.RegionWith
import Derived.Deep.RegionHeld3
import Derived.Deep.Cut
import Derived.Lib.Hide
import Derived.Laws.BitsAll
import Derived.Deep.QuietTactic
import Derived.BigQuiet
import Derived.Lib.SliceRun
import Derived.Laws.CopyRow
/- uart: a byte that comes. -/
set_option maxHeartbeats 4000000
set_option maxRecDepth 20000
namespace Go.Proofs.YtojmpdddfnkffaaGreat.Uart
open Go.RowKit Go.Conc
set_option linter.unusedVariables false

theorem stepG_idle {P : Program} {main : Bool} {b : Frame} {a : Act} {k : List Item} {cs : List Frame} {w : World} {ops : Array Oper} {i : Nat} {rest : List Nat} {o : Oper} (ho : ops[i]? = some o) (hw : Region.wanted o (yielded ops a.tmps) = false) :
    stepG P main (G (b.at a (.inRegion ops (i :: rest) :: k)) cs) w = .go (G (b.at (a.put o.dst undef) (.inRegion ops rest :: k)) cs) w := by
 have hfin : (b.at a (.inRegion ops (i :: rest) :: k)).finish undef = b.at (a.put o.dst undef) (.inRegion ops rest :: k) := by rw [Frame.finish_at, ho]; rfl
 rw [← hfin]
 simp [G, stepG, stepG.exec, Frame.at, ho, hw]
def Ut.lose (U : Ut) : Ut := { U with lost := true }
def Ut.take (U : Ut) (x : Nat) : Ut := { U with came := U.came ++ [x] }
def Ut.push (U : Ut) (x : Nat) : Ut := if U.on = false ∧ U.came ≠ [] then U.lose else if U.came.length < 16 then U.take x else U.lose
theorem Ut.lose_ok {U : Ut} (h : U.ok) : U.lose.ok := ⟨h.c1, h.c2, h.d0, h.d1, h.lcr, h.mcr, h.scr, h.wanted, h.s2⟩
section
variable {w : World} {b q : Nat} {sv : Value} {U : Ut}
theorem UtIn.lose (H : UtIn w b q sv U) : UtIn (w.setCell ⟨b, 1, none⟩ (.bool true)) b q sv U.lose := H.turn 1 (.bool true) rfl rfl rfl (Ut.lose_ok H.ok)
theorem UtIn.take (H : UtIn w b q sv U) (x : Nat) (hx : x < 256) (h2 : U.came.length < 16) (s r : Nat) : UtIn (w.setChan q 16 (bytesV (U.came ++ [x])).toArray false s r false) b q sv (U.take x) :=
 H.flow s r (by simp; omega) fun y hy => by
  rcases List.mem_append.1 hy with h | h
  ·exact H.ok.c2 y h
  ·simp only [List.mem_singleton] at h; omega
theorem push_lost (H : UtIn w b q sv U) (x : Int) (h1 : U.on = false) (h2 : U.came ≠ []) :
    Calls Tryz.prog 87 #[.pointer (some ⟨b, 0, none⟩), .int .u8 x] w fun e w' => e = .returned (.tuple #[]) ∧ UtIn w' b q sv U.lose ∧ Keeps (fun k => k = b ∨ k = q) w w' := by
 obtain ⟨k0, k1, k2, -, -, -, -, -, -, -, -, kf, kl⟩ := H.facts
 obtain ⟨s, r, hq⟩ := H.chan
 have hlen := fun ty => run_len_chan (P := Tryz.prog) (w := w) 126 ty Tryz.underlying126 hq
 have hs : ((bytesV U.came).toArray.size : Int) > 0 := by
  have : 0 < U.came.length := List.length_pos_iff.2 h2
  simp [bytesV]; omega
 rw [h1] at k2
 have HL := Lib.hid H.lose
 generalize ((bytesV U.came).toArray.size) = n at *
 clear hq H h1 h2
 go_enter Tryz.func87, Tryz.ntmps87
 go_wp2_with fail
 go_returns
 exact ⟨rfl, HL.out, (Keeps.refl _ _).setCell (.inl (.inl rfl)) _⟩
set_option maxRecDepth 100000 in
theorem push_on (H : UtIn w b q sv U) (x : Nat) (h1 : U.on = true) (h2 : U.came.length < 16) (hx : x < 256) :
    Calls Tryz.prog 87 #[.pointer (some ⟨b, 0, none⟩), .int .u8 (x : Nat)] w fun e w' => e = .returned (.tuple #[]) ∧ UtIn w' b q sv (U.take x) ∧ Keeps (fun k => k = b ∨ k = q) w w' := by
 obtain ⟨k0, k1, k2, -, -, -, -, -, -, -, -, kf, kl⟩ := H.facts
 obtain ⟨s, r, hq⟩ := H.chan
 have e1 : ((bytesV U.came).toArray).push (.int .u8 (x : Nat)) = (bytesV (U.came ++ [x])).toArray := by rw [bytesV_snoc]; simp
 have e3 : ((bytesV U.came).toArray).size < 16 := by simp [bytesV]; exact h2
 rw [h1] at k2
 refine calls_of_loneTo fun cs => ?_
 have e : Frame.enter Tryz.prog 87 #[.pointer (some ⟨b, 0, none⟩), .int .u8 (x : Nat)] .normal = (base 87).at ⟨#[.pointer (some ⟨b, 0, none⟩), .int .u8 (x : Nat), undef, undef, undef, undef, undef, undef, undef, undef, undef, undef, undef, undef, undef, undef, undef, undef, undef, undef, undef, undef, undef, undef, undef, undef, undef, undef, undef, undef, undef, undef, undef], []⟩ [.code (Tryz.f87.body.getD .skip)] := by
  simp [Frame.enter, Frame.at, Tryz.func87, base, Tryz.f87]
 rw [e]
 refine LoneTo.goes (n := 80) ?_
 simp only [Tryz.f87, Option.getD_some]
 s_c stepG_seq
 s_c stepG_seq
 s_reg
 s_op
 s_op
 s_c stepG_region_end
 s_cond false
 s_c stepG_skip
 s_c stepG_seq
 s_c stepG_seq
 s_reg
 s_op
 s_op
 s_op
 s_op
 s_op
 s_op
 s_c (stepG_idle rfl rfl)
 walk_nrm
 s_c (stepG_idle rfl rfl)
 walk_nrm
 s_c (stepG_idle rfl rfl)
 walk_nrm
 s_c (stepG_idle rfl rfl)
 walk_nrm
 s_c (stepG_idle rfl rfl)
 walk_nrm
 s_c (stepG_idle rfl rfl)
 walk_nrm
 s_op
 s_c stepG_region_end
 s_cond false
 s_c stepG_skip
 s_c stepG_seq
 s_c stepG_seq
 s_reg
 s_op
 s_op
 s_op
 s_op
 s_c stepG_region_end
 s_reg
 s_op
 s_c stepG_region_end
 s_c stepG_seq
 s_reg
 s_stop
 refine LoneTo.step (step_lone_select_send_room (c := q) (cap := 16) (s := s) (r := r) (tm := false) (stepG_comm (cases := #[scase q (.int .u8 (x : Nat)) (.int .u8 0)]) (blocking := false) (shape := .select) (w' := w) rfl rfl (by decide) (by simp [go_sem, execOp, scase, Act.eval])) hq e3) ?_
 rw [e1, Frame.finish_at]
 walk_nrm
 refine LoneTo.goes (n := 40) ?_
 s_op
 s_op
 s_c stepG_region_end
 s_c stepG_block
 s_cond true
 s_c stepG_skip
 s_c stepG_inBlock
 s_c stepG_end
 s_stop
 exact LoneTo.done ⟨.returned (.tuple #[]), _, rfl, ⟨rfl, H.take x hx h2 (s + 1) r, (keeps_setChan _ _ _ _ _ _ _ _).mono fun k _ h => .inr h⟩, rfl, rfl, rfl, rfl, _, Tryz.func87, by simp [results, Tryz.f87, Frame.at]⟩
set_option maxRecDepth 100000 in
theorem push_full (H : UtIn w b q sv U) (x : Nat) (h1 : U.on = true) (h2 : ¬ U.came.length < 16) (hx : x < 256) :
    Calls Tryz.prog 87 #[.pointer (some ⟨b, 0, none⟩), .int .u8 (x : Nat)] w fun e w' => e = .returned (.tuple #[]) ∧ UtIn w' b q sv U.lose ∧ Keeps (fun k => k = b ∨ k = q) w w' := by
 obtain ⟨k0, k1, k2, -, -, -, -, -, -, -, -, kf, kl⟩ := H.facts
 obtain ⟨s, r, hq⟩ := H.chan
 have e3 : 16 ≤ ((bytesV U.came).toArray).size := by simp [bytesV]; omega
 rw [h1] at k2
 refine calls_of_loneTo fun cs => ?_
 have e : Frame.enter Tryz.prog 87 #[.pointer (some ⟨b, 0, none⟩), .int .u8 (x : Nat)] .normal = (base 87).at ⟨#[.pointer (some ⟨b, 0, none⟩), .int .u8 (x : Nat), undef, undef, undef, undef, undef, undef, undef, undef, undef, undef, undef, undef, undef, undef, undef, undef, undef, undef, undef, undef, undef, undef, undef, undef, undef, undef, undef, undef, undef, undef, undef], []⟩ [.code (Tryz.f87.body.getD .skip)] := by
  simp [Frame.enter, Frame.at, Tryz.func87, base, Tryz.f87]
 rw [e]
 refine LoneTo.goes (n := 80) ?_
 simp only [Tryz.f87, Option.getD_some]
 s_c stepG_seq
 s_c stepG_seq
 s_reg
 s_op
 s_op
 s_c stepG_region_end
 s_cond false
 s_c stepG_skip
 s_c stepG_seq
 s_c stepG_seq
 s_reg
 s_op
 s_op
 s_op
 s_op
 s_op
 s_op
 s_c (stepG_idle rfl rfl)
 walk_nrm
 s_c (stepG_idle rfl rfl)
 walk_nrm
 s_c (stepG_idle rfl rfl)
 walk_nrm
 s_c (stepG_idle rfl rfl)
 walk_nrm
 s_c (stepG_idle rfl rfl)
 walk_nrm
 s_c (stepG_idle rfl rfl)
 walk_nrm
 s_op
 s_c stepG_region_end
 s_cond false
 s_c stepG_skip
 s_c stepG_seq
 s_c stepG_seq
 s_reg
 s_op
 s_op
 s_op
 s_op
 s_c stepG_region_end
 s_reg
 s_op
 s_c stepG_region_end
 s_c stepG_seq
 s_reg
 s_stop
 refine LoneTo.step (step_lone_select_send_full (c := q) (cap := 16) (s := s) (r := r) (tm := false) (stepG_comm (cases := #[scase q (.int .u8 (x : Nat)) (.int .u8 0)]) (blocking := false) (shape := .select) (w' := w) rfl rfl (by decide) (by simp [go_sem, execOp, scase, Act.eval])) hq e3) ?_
 rw [Frame.finish_at]
 walk_nrm
 refine LoneTo.goes (n := 40) ?_
 s_op
 s_op
 s_c stepG_region_end
 s_c stepG_block
 s_cond false
 s_reg
 s_op
 s_op
 s_op
 s_op
 s_c stepG_region_end
 s_c stepG_inBlock
 s_c stepG_end
 s_stop
 exact LoneTo.done ⟨.returned (.tuple #[]), _, rfl, ⟨rfl, H.lose, (Keeps.refl _ _).setCell (.inl (.inl rfl)) _⟩, rfl, rfl, rfl, rfl, _, Tryz.func87, by simp [results, Tryz.f87, Frame.at]⟩
set_option maxRecDepth 100000 in
theorem push_first (H : UtIn w b q sv U) (x : Nat) (h1 : U.on = false) (h2 : U.came = []) (hx : x < 256) :
    Calls Tryz.prog 87 #[.pointer (some ⟨b, 0, none⟩), .int .u8 (x : Nat)] w fun e w' => e = .returned (.tuple #[]) ∧ UtIn w' b q sv (U.take x) ∧ Keeps (fun k => k = b ∨ k = q) w w' := by
 obtain ⟨k0, k1, k2, -, -, -, -, -, -, -, -, kf, kl⟩ := H.facts
 obtain ⟨s, r, hq⟩ := H.chan
 have e1 : ((bytesV U.came).toArray).push (.int .u8 (x : Nat)) = (bytesV (U.came ++ [x])).toArray := by rw [bytesV_snoc]; simp
 have e3 : ((bytesV U.came).toArray).size < 16 := by rw [h2]; decide
 have hlen := fun ty => run_len_chan (P := Tryz.prog) (w := w) 126 ty Tryz.underlying126 hq
 have e4 : ((bytesV U.came).toArray).size = 0 := by rw [h2]; rfl
 simp only [e4] at hlen
 have H16 : U.came.length < 16 := by rw [h2]; decide
 rw [h1] at k2
 clear h2 e4
 refine calls_of_loneTo fun cs => ?_
 have e : Frame.enter Tryz.prog 87 #[.pointer (some ⟨b, 0, none⟩), .int .u8 (x : Nat)] .normal = (base 87).at ⟨#[.pointer (some ⟨b, 0, none⟩), .int .u8 (x : Nat), undef, undef, undef, undef, undef, undef, undef, undef, undef, undef, undef, undef, undef, undef, undef, undef, undef, undef, undef, undef, undef, undef, undef, undef, undef, undef, undef, undef, undef, undef, undef], []⟩ [.code (Tryz.f87.body.getD .skip)] := by
  simp [Frame.enter, Frame.at, Tryz.func87, base, Tryz.f87]
 rw [e]
 refine LoneTo.goes (n := 80) ?_
 simp only [Tryz.f87, Option.getD_some]
 s_c stepG_seq
 s_c stepG_seq
 s_reg
 s_op
 s_op
 s_c stepG_region_end
 s_cond false
 s_c stepG_skip
 s_c stepG_seq
 s_c stepG_seq
 s_reg
 s_op
 s_op
 s_op
 s_op
 s_op
 s_op
 s_op
 s_op
 s_op
 s_op
 s_op
 s_op
 s_op
 s_c stepG_region_end
 s_cond false
 s_c stepG_skip
 s_c stepG_seq
 s_c stepG_seq
 s_reg
 s_op
 s_op
 s_op
 s_op
 s_c stepG_region_end
 s_reg
 s_op
 s_c stepG_region_end
 s_c stepG_seq
 s_reg
 s_stop
 refine LoneTo.step (step_lone_select_send_room (c := q) (cap := 16) (s := s) (r := r) (tm := false) (stepG_comm (cases := #[scase q (.int .u8 (x : Nat)) (.int .u8 0)]) (blocking := false) (shape := .select) (w' := w) rfl rfl (by decide) (by simp [go_sem, execOp, scase, Act.eval])) hq e3) ?_
 rw [e1, Frame.finish_at]
 walk_nrm
 refine LoneTo.goes (n := 40) ?_
 s_op
 s_op
 s_c stepG_region_end
 s_c stepG_block
 s_cond true
 s_c stepG_skip
 s_c stepG_inBlock
 s_c stepG_end
 s_stop
 exact LoneTo.done ⟨.returned (.tuple #[]), _, rfl, ⟨rfl, H.take x hx H16 (s + 1) r, (keeps_setChan _ _ _ _ _ _ _ _).mono fun k _ h => .inr h⟩, rfl, rfl, rfl, rfl, _, Tryz.func87, by simp [results, Tryz.f87, Frame.at]⟩
theorem push_any (H : UtIn w b q sv U) (x : Nat) (hx : x < 256) :
    Calls Tryz.prog 87 #[.pointer (some ⟨b, 0, none⟩), .int .u8 (x : Nat)] w fun e w' => e = .returned (.tuple #[]) ∧ UtIn w' b q sv (U.push x) ∧ Keeps (fun k => k = b ∨ k = q) w w' := by
 unfold Ut.push
 cases h1 : U.on
 ·by_cases h2 : U.came = []
  ·rw [if_neg (fun h => h.2 h2), if_pos (by rw [h2]; decide)]
   exact push_first H x h1 h2 hx
  ·rw [if_pos ⟨rfl, h2⟩]
   exact push_lost H x h1 h2
 ·rw [if_neg (fun h => by cases h.1)]
  by_cases h2 : U.came.length < 16
  ·rw [if_pos h2]; exact push_on H x h1 h2 hx
  ·rw [if_neg h2]; exact push_full H x h1 h2 hx
end
end Go.Proofs.YtojmpdddfnkffaaGreat.Uart

/- uart: what interrupts; what was sent; a new one. -/
namespace Go.Proofs.YtojmpdddfnkffaaGreat.Uart
open Go.RowKit Go.Conc
set_option linter.unusedVariables false

theorem masks : ∀ x : Fin 256, (x.val &&& 1) = x.val % 2 ∧ (x.val &&& 2) = x.val / 2 % 2 * 2 ∧ (x.val &&& 128) = x.val / 128 % 2 * 128 ∧ (x.val &&& 15) = x.val % 16 ∧ (x.val &&& 31) = x.val % 32 := by decide +kernel
theorem m1 (x : Nat) (h : x < 256) : bits .and .u8 (x : Int) 1 = ((x % 2 : Nat) : Int) := by
 rw [← (masks ⟨x, h⟩).1]; exact u8_and_nat x 1 h (by decide)
theorem m2 (x : Nat) (h : x < 256) : bits .and .u8 (x : Int) 2 = ((x / 2 % 2 * 2 : Nat) : Int) := by
 rw [← (masks ⟨x, h⟩).2.1]; exact u8_and_nat x 2 h (by decide)
theorem m128 (x : Nat) (h : x < 256) : bits .and .u8 (x : Int) 128 = ((x / 128 % 2 * 128 : Nat) : Int) := by
 rw [← (masks ⟨x, h⟩).2.2.1]; exact u8_and_nat x 128 h (by decide)
theorem m15 (x : Nat) (h : x < 256) : bits .and .u8 (x : Int) 15 = ((x % 16 : Nat) : Int) := by
 rw [← (masks ⟨x, h⟩).2.2.2.1]; exact u8_and_nat x 15 h (by decide)
theorem m31 (x : Nat) (h : x < 256) : bits .and .u8 (x : Int) 31 = ((x % 32 : Nat) : Int) := by
 rw [← (masks ⟨x, h⟩).2.2.2.2]; exact u8_and_nat x 31 h (by decide)
theorem t1 (x : Nat) (h : x < 256) : (bits .and .u8 (x : Int) 1 != 0) = (x % 2 == 1) := by
 rw [m1 x h]
 rcases Nat.mod_two_eq_zero_or_one x with e | e <;> rw [e] <;> rfl
theorem t2 (x : Nat) (h : x < 256) : (bits .and .u8 (x : Int) 2 != 0) = (x / 2 % 2 == 1) := by
 rw [m2 x h]
 rcases Nat.mod_two_eq_zero_or_one (x / 2) with e | e <;> rw [e] <;> rfl
theorem t128 (x : Nat) (h : x < 256) : (bits .and .u8 (x : Int) 128 != 0) = (x / 128 % 2 == 1) := by
 rw [m128 x h]
 rcases Nat.mod_two_eq_zero_or_one (x / 128) with e | e <;> rw [e] <;> rfl
def Ut.rx (U : Ut) : Bool := !U.came.isEmpty && U.wanted % 2 == 1
def Ut.tx (U : Ut) : Bool := U.empty && U.wanted / 2 % 2 == 1
def Ut.why (U : Ut) : Nat := if U.rx then 4 else if U.tx then 2 else 1
section
variable {w : World} {b q : Nat} {sv : Value} {U : Ut}
theorem why_any (H : UtIn w b q sv U) : Calls Tryz.prog 108 #[.pointer (some ⟨b, 0, none⟩)] w fun e w' => e = .returned (.int .u8 (U.why : Nat)) ∧ w = w' := by
 obtain ⟨k0, -, -, k3, -, -, -, -, -, k9, -, kf, kl⟩ := H.facts
 obtain ⟨s, r, hq⟩ := H.chan
 have hlen := fun ty => run_len_chan (P := Tryz.prog) (w := w) 126 ty Tryz.underlying126 hq
 have b1 := t1 U.wanted H.ok.wanted
 have b2 := t2 U.wanted H.ok.wanted
 have hn : ((bytesV U.came).toArray.size : Int) = U.came.length := by simp [bytesV]
 have hw : U.why = if (!U.came.isEmpty && U.wanted % 2 == 1) then 4 else if (U.empty && U.wanted / 2 % 2 == 1) then 2 else 1 := rfl
 generalize (bytesV U.came).toArray.size = n at *
 generalize U.why = y at *
 generalize U.empty = e at *
 generalize U.wanted = wt at *
 generalize (wt % 2 == 1) = c1 at *
 generalize (wt / 2 % 2 == 1) = c2 at *
 clear hq H
 cases hc : U.came with
 | nil =>
  rw [hc] at hw hn
  have hn0 : (n : Int) ≤ 0 := by rw [hn]; simp
  clear hn hc
  cases e <;> cases c2
  all_goals
   simp at hw
   have HW := Lib.hid hw
   clear hw
   go_enter Tryz.func108, Tryz.ntmps108
   go_wp2_with fail
   go_ret
   exact ⟨by rw [HW.out]; rfl, rfl⟩
 | cons x l =>
  rw [hc] at hw hn
  have hn0 : (0 : Int) < (n : Int) := by rw [hn]; simp
  clear hn hc
  cases c1 <;> cases e <;> cases c2
  all_goals
   simp at hw
   have HW := Lib.hid hw
   clear hw
   go_enter Tryz.func108, Tryz.ntmps108
   go_wp2_with fail
   go_ret
   exact ⟨by rw [HW.out]; rfl, rfl⟩
def Ut.line (U : Ut) : Bool := U.rx || U.tx
theorem Ut.line_eq (U : Ut) : ((U.why : Int) != 1) = U.line := by
 unfold Ut.why Ut.line
 cases U.rx <;> cases U.tx <;> rfl
theorem line_any (H : UtIn w b q sv U) : Calls Tryz.prog 76 #[.pointer (some ⟨b, 0, none⟩)] w fun e w' => e = .returned (.bool U.line) ∧ w = w' := by
 have HL := Lib.hid (Ut.line_eq U)
 go_enter Tryz.func76, Tryz.ntmps76
 go_wp2_with fail
 refine (why_any H).mono ?_
 rintro e w1 ⟨rfl, rfl⟩
 go_wp2_with fail
 go_ret
 exact ⟨by rw [HL.out]; rfl, rfl⟩
def Ut.quit (U : Ut) : Ut := { U with sent := [] }
theorem Ut.quit_ok {U : Ut} (h : U.ok) : U.quit.ok := ⟨h.c1, h.c2, h.d0, h.d1, h.lcr, h.mcr, h.scr, h.wanted, fun x hx => by cases hx⟩
theorem sent_any (H : UtIn w b q sv U) : Calls Tryz.prog 63 #[.pointer (some ⟨b, 0, none⟩)] w fun e w' => e = .returned sv ∧ UtIn w' b q (.slice none 0 0) U.quit ∧ w'.ownsRow 0 5 1 sv U.sent.length (bytesV U.sent) ∧ Keeps (fun k => k = b ∨ k = q) w w' := by
 obtain ⟨-, -, -, -, -, -, -, -, -, -, k10, kf, kl⟩ := H.facts
 obtain ⟨a, c, rfl⟩ := row_len H.sent
 have hne : ∀ j, j ≠ b → (w.setCell ⟨b, 10, none⟩ (.slice none 0 0)).heap[j]? = w.heap[j]? := fun j h => heap_set_other _ h
 obtain ⟨s, r, hq⟩ := H.chan
 have H1 : UtIn (w.setCell ⟨b, 10, none⟩ (.slice none 0 0)) b q (.slice none 0 0) U.quit :=
  ⟨by rw [heap_set_map, H.obj]; rfl, ⟨s, r, by rw [hne q H.bq.symm]; exact hq⟩, World.ownsRow_nil _ _ _ _, Ut.quit_ok H.ok⟩
 have H2 := row_of_heap (w' := w.setCell ⟨b, 10, none⟩ (.slice none 0 0)) H.sent fun k hk => hne k fun e => H.bs (by rw [← e]; exact hk)
 have HH1 := Lib.hid H1
 have HH2 := Lib.hid H2
 clear H1 H2 hne hq H
 go_enter Tryz.func63, Tryz.ntmps63
 go_wp2_with fail
 go_ret
 exact ⟨rfl, HH1.out, HH2.out, (Keeps.refl _ _).setCell (.inl (.inl rfl)) _⟩
end
end Go.Proofs.YtojmpdddfnkffaaGreat.Uart

/- uart: a new one; a register is written. -/
namespace Go.Proofs.YtojmpdddfnkffaaGreat.Uart
open Go.RowKit Go.Conc
set_option linter.unusedVariables false

def Ut.new : Ut := ⟨[], false, false, false, 0, 0, 0, 0, 0, 0, []⟩
theorem Ut.new_ok : Ut.new.ok := ⟨by decide, (fun x hx => by cases hx), by decide, by decide, by decide, by decide, by decide, by decide, (fun x hx => by cases hx)⟩
theorem bytes8 : ∃ i, Tryz.prog.info? 5 = some i ∧ i.bytes = 1 := by
 have h : (Tryz.prog.info? 5).map (·.bytes) = some 1 := by kernel_rfl
 obtain ⟨i, hi, hb⟩ := Option.map_eq_some_iff.1 h
 exact ⟨i, hi, hb⟩
theorem mk16 (w : World) : (Instr.makeChan 126 (.int .i64 16)).run Tryz.prog w = .ok (.chan (some w.heap.size)) (w.alloc (.chan 16 #[] false 0 0 false)) := by
 obtain ⟨i, hi, hb⟩ := bytes8
 simpa using run_makeChan (P := Tryz.prog) (w := w) Tryz.underlying126 hi .i64 16 (by omega) (by rw [hb]; omega)
theorem new_any (w : World) : Calls Tryz.prog 26 #[] w fun e w' => ∃ b q, e = .returned (.pointer (some ⟨b, 0, none⟩)) ∧ UtIn w' b q (.slice none 0 0) Ut.new ∧ w.heap.size ≤ b ∧ w.heap.size ≤ q ∧ Below w.heap.size w w' := by
 have hmk := mk16
 go_enter Tryz.func26, Tryz.ntmps26
 go_wp2_with fail
 go_ret
 refine ⟨w.heap.size + 1, w.heap.size, rfl, ⟨?_, ⟨0, 0, ?_⟩, World.ownsRow_nil _ _ _ _, Ut.new_ok⟩, by omega, Nat.le_refl _, ((Below.refl _ _).alloc (Nat.le_refl _) _).alloc (by simp) _⟩
 ·have := heap_new (w.alloc (.chan 16 #[] false 0 0 false)) (.cells (Ut.new.cells w.heap.size (.slice none 0 0)).toArray 129)
  rw [World.size_alloc] at this
  exact this
 ·exact heap_alloc_lt (heap_new w _)
end Go.Proofs.YtojmpdddfnkffaaGreat.Uart

/- uart: a register is written. -/
namespace Go.Proofs.YtojmpdddfnkffaaGreat.Uart
open Go.RowKit Go.Conc
set_option linter.unusedVariables false

def Ut.setD (U : Ut) (k v : Nat) : Ut := if k = 0 then { U with d0 := v } else { U with d1 := v }
def Ut.send (U : Ut) (v : Nat) : Ut := { U with sent := U.sent ++ [v], empty := true }
def Ut.want (U : Ut) (v : Nat) : Ut := { U with empty := U.empty || (v / 2 % 2 == 1 && U.wanted / 2 % 2 == 0), wanted := v % 16 }
def Ut.ctl (U : Ut) (v : Nat) : Ut := { U with on := v % 2 == 1, came := if ((v % 2 == 1) != U.on || v / 2 % 2 == 1) = true then [] else U.came }
def Ut.latch (U : Ut) : Bool := U.lcr / 128 % 2 == 1
def Ut.setLcr (U : Ut) (v : Nat) : Ut := { U with lcr := v }
def Ut.setMcr (U : Ut) (v : Nat) : Ut := { U with mcr := v }
def Ut.setScr (U : Ut) (v : Nat) : Ut := { U with scr := v }
def Ut.setOn (U : Ut) (x : Bool) : Ut := { U with on := x }
def Ut.setWanted (U : Ut) (v : Nat) : Ut := { U with wanted := v }
def Ut.setEmpty (U : Ut) (x : Bool) : Ut := { U with empty := x }
def Ut.flow (U : Ut) (L : List Nat) : Ut := { U with came := L }
def Ut.out (U : Ut) (reg : Int) (v : Nat) : Ut :=
 if reg < 0 ∨ 7 < reg then U
 else if reg < 2 ∧ U.latch = true then U.setD reg.toNat v
 else if reg = 0 then U.send v
 else if reg = 1 then U.want v
 else if reg = 2 then U.ctl v
 else if reg = 3 then U.setLcr v
 else if reg = 4 then U.setMcr (v % 32)
 else if reg = 7 then U.setScr v
 else U
def callErr (reg : Int) : Int := if reg < 0 ∨ 7 < reg then 1 else 0
def Went (w : World) (b q : Nat) (sv : Value) (U' : Ut) (w' : World) : Prop :=
 ∃ sv', UtIn w' b q sv' U' ∧ Keeps (Held b q sv) w w' ∧ ∀ k, sv'.ownBlock = some k → sv.ownBlock = some k ∨ w.heap.size ≤ k
section
variable {w w' : World} {b q : Nat} {sv : Value} {U : Ut}
theorem Went.of {U' : Ut} (H : UtIn w' b q sv U') (K : Keeps (Held b q sv) w w') : Went w b q sv U' w' := ⟨sv, H, K, fun k h => .inl h⟩
theorem UtIn.setD (H : UtIn w b q sv U) (k v : Nat) (hk : k < 2) (hv : v < 256) : UtIn (w.setCell ⟨b, 4 + k, none⟩ (.int .u8 (v : Nat))) b q sv (U.setD k v) := by
 have o := H.ok
 rcases (show k = 0 ∨ k = 1 by omega) with rfl | rfl
 ·exact H.turn 4 _ rfl rfl rfl ⟨o.c1, o.c2, hv, o.d1, o.lcr, o.mcr, o.scr, o.wanted, o.s2⟩
 ·exact H.turn 5 _ rfl rfl rfl ⟨o.c1, o.c2, o.d0, hv, o.lcr, o.mcr, o.scr, o.wanted, o.s2⟩
theorem UtIn.setLcr (H : UtIn w b q sv U) (v : Nat) (hv : v < 256) : UtIn (w.setCell ⟨b, 6, none⟩ (.int .u8 (v : Nat))) b q sv (U.setLcr v) := by
 have o := H.ok
 exact H.turn 6 _ rfl rfl rfl ⟨o.c1, o.c2, o.d0, o.d1, hv, o.mcr, o.scr, o.wanted, o.s2⟩
theorem UtIn.setMcr (H : UtIn w b q sv U) (v : Nat) (hv : v < 256) : UtIn (w.setCell ⟨b, 7, none⟩ (.int .u8 (v : Nat))) b q sv (U.setMcr v) := by
 have o := H.ok
 exact H.turn 7 _ rfl rfl rfl ⟨o.c1, o.c2, o.d0, o.d1, o.lcr, hv, o.scr, o.wanted, o.s2⟩
theorem UtIn.setScr (H : UtIn w b q sv U) (v : Nat) (hv : v < 256) : UtIn (w.setCell ⟨b, 8, none⟩ (.int .u8 (v : Nat))) b q sv (U.setScr v) := by
 have o := H.ok
 exact H.turn 8 _ rfl rfl rfl ⟨o.c1, o.c2, o.d0, o.d1, o.lcr, o.mcr, hv, o.wanted, o.s2⟩
theorem UtIn.setWanted (H : UtIn w b q sv U) (v : Nat) (hv : v < 256) : UtIn (w.setCell ⟨b, 9, none⟩ (.int .u8 (v : Nat))) b q sv (U.setWanted v) := by
 have o := H.ok
 exact H.turn 9 _ rfl rfl rfl ⟨o.c1, o.c2, o.d0, o.d1, o.lcr, o.mcr, o.scr, hv, o.s2⟩
theorem UtIn.setEmpty (H : UtIn w b q sv U) (x : Bool) : UtIn (w.setCell ⟨b, 3, none⟩ (.bool x)) b q sv (U.setEmpty x) := by
 have o := H.ok
 exact H.turn 3 _ rfl rfl rfl ⟨o.c1, o.c2, o.d0, o.d1, o.lcr, o.mcr, o.scr, o.wanted, o.s2⟩
theorem UtIn.setOn (H : UtIn w b q sv U) (x : Bool) : UtIn (w.setCell ⟨b, 2, none⟩ (.bool x)) b q sv (U.setOn x) := by
 have o := H.ok
 exact H.turn 2 _ rfl rfl rfl ⟨o.c1, o.c2, o.d0, o.d1, o.lcr, o.mcr, o.scr, o.wanted, o.s2⟩
theorem keeps_obj (w : World) (b q : Nat) (sv : Value) (k : Nat) (v : Value) : Keeps (Held b q sv) w (w.setCell ⟨b, k, none⟩ v) := (Keeps.refl _ _).setCell (.inl (.inl rfl)) _

theorem one_new (w : World) (T : TypeId) (x : Value) : ∀ (j : Nat) (u : Value), [x][j]? = some u → (w.alloc (.cells #[x] T)).cell? ((⟨w.heap.size, 0, none⟩ : Addr).add j) = some u := by
 intro j u h
 have hj : j = 0 := by
  have := (List.getElem?_eq_some_iff.1 h).1
  simp at this; exact this
 subst hj
 rw [Go.WideShapes.add_plain, Nat.add_zero, cell_at (heap_new w _)]
 simpa using h
theorem info8 : (Tryz.prog.info? 5).map (fun i => (i.zero, i.size, i.bytes)) = some (some (.int .u8 0), 1, 1) := by kernel_rfl
section
variable {w1 : World} {o : Obj} {v' : Value}
theorem send_keeps (H : UtIn w b q sv U) (hg : (w.alloc o).grownBy w1 sv.ownBlock) : Keeps (Held b q sv) w w1 :=
 ((Keeps.refl _ w).alloc o).trans ⟨hg.os, hg.tape, hg.output, hg.size, fun k hk hn => hg.block k hk fun e => hn (.inr (.inr e.symm))⟩
theorem send_block (H : UtIn w b q sv U) (hg : (w.alloc o).grownBy w1 sv.ownBlock) {k : Nat} (hk : k < w.heap.size) (hn : sv.ownBlock ≠ some k) : w1.heap[k]? = w.heap[k]? := by
 rw [hg.block k (by simp; omega) (fun e => hn e.symm), Below.heap_alloc _ _ _ hk]
theorem send_facts (H : UtIn w b q sv U) (hg : (w.alloc o).grownBy w1 sv.ownBlock) : w1.cell? ⟨b, 10, none⟩ = some sv ∧ w1.cell? ⟨b, 3, none⟩ = some (.bool U.empty) ∧ (∀ k, w1.frozen? ⟨b, k, none⟩ = false) ∧ b < w1.heap.size := by
 have h : w1.heap[b]? = some (.cells (U.cells q sv).toArray 129) := (send_block H hg (H.lt (.inl rfl)) H.bs).trans H.obj
 exact ⟨by rw [cell_at h]; rfl, by rw [cell_at h]; rfl, fun k => free_at h, heap_lt h⟩
theorem send_end (H : UtIn w b q sv U) (v : Nat) (hv : v < 256) (hown : w1.ownsRow 0 5 1 v' (U.sent.length + 1) (bytesV U.sent ++ [.int .u8 (v : Nat)])) (hg : (w.alloc o).grownBy w1 sv.ownBlock)
    (hat : v'.ownBlock = sv.ownBlock ∨ v'.ownBlock = some (w.alloc o).heap.size) : Went w b q sv (U.send v) ((w1.setCell ⟨b, 10, none⟩ v').setCell ⟨b, 3, none⟩ (.bool true)) := by
 have h : w1.heap[b]? = some (.cells (U.cells q sv).toArray 129) := (send_block H hg (H.lt (.inl rfl)) H.bs).trans H.obj
 obtain ⟨s, r, hq⟩ := H.chan
 have hne : ∀ j, j ≠ b → ((w1.setCell ⟨b, 10, none⟩ v').setCell ⟨b, 3, none⟩ (.bool true)).heap[j]? = w1.heap[j]? := fun j h => by rw [heap_set_other _ h, heap_set_other _ h]
 have hbl := H.lt (.inl rfl)
 have hvb : v'.ownBlock ≠ some b := by
  rcases hat with e | e
  ·rw [e]; exact H.bs
  ·rw [e]; intro e2; injection e2 with e2; simp at e2; omega
 refine ⟨v', ⟨?_, ⟨s, r, ?_⟩, ?_, ?_⟩, ((send_keeps H hg).setCell (.inl (.inl rfl)) _).setCell (.inl (.inl rfl)) _, fun k hk => ?_⟩
 ·rw [heap_set_map, heap_set_map, h]; rfl
 ·rw [hne q H.bq.symm, send_block H hg (H.lt (.inr (.inl rfl))) H.qs]; exact hq
 ·have hr : w1.ownsRow 0 5 1 v' (U.send v).sent.length (bytesV (U.send v).sent) := by
    show w1.ownsRow 0 5 1 v' (U.sent ++ [v]).length (bytesV (U.sent ++ [v]))
    rw [List.length_append, bytesV_snoc]; exact hown
  exact row_of_heap hr fun k hk => hne k fun e => hvb (by rw [← e]; exact hk)
 ·have o := H.ok
  exact ⟨o.c1, o.c2, o.d0, o.d1, o.lcr, o.mcr, o.scr, o.wanted, fun x hx => by
   rcases List.mem_append.1 hx with h | h
   ·exact o.s2 x h
   ·simp only [List.mem_singleton] at h; omega⟩
 ·rcases hat with e | e
  ·exact .inl (by rw [← e]; exact hk)
  ·right
   rw [e] at hk
   injection hk with hk
   simp at hk; omega
end
theorem out_bad (reg v : Int) (h : reg < 0 ∨ 7 < reg) : Calls Tryz.prog 72 #[.pointer (some ⟨b, 0, none⟩), .int .i64 reg, .int .u8 v] w fun e w' => e = .returned (.int .i64 1) ∧ w = w' := by
 by_cases h0 : reg < 0
 ·clear h
  go_enter Tryz.func72, Tryz.ntmps72
  go_wp2_with fail
  go_ret
  exact ⟨rfl, rfl⟩
 ·have h7 : 7 < reg := by omega
  have g0 : ¬ reg < 0 := h0
  clear h
  go_enter Tryz.func72, Tryz.ntmps72
  go_wp2_with fail
  go_ret
  exact ⟨rfl, rfl⟩
theorem out_d (H : UtIn w b q sv U) (k v : Nat) (hk : k < 2) (hv : v < 256) (hl : U.latch = true) :
    Calls Tryz.prog 72 #[.pointer (some ⟨b, 0, none⟩), .int .i64 (k : Nat), .int .u8 (v : Nat)] w fun e w' => e = .returned (.int .i64 0) ∧ Went w b q sv (U.setD k v) w' := by
 obtain ⟨-, -, -, -, k4, k5, k6, -, -, -, -, kf, kl⟩ := H.facts
 have hb := t128 U.lcr H.ok.lcr
 rw [show (U.lcr / 128 % 2 == 1) = true from hl] at hb
 have HH := Lib.hid (H.setD k v hk hv)
 clear H hl
 rcases (show k = 0 ∨ k = 1 by omega) with rfl | rfl
 all_goals
  go_enter Tryz.func72, Tryz.ntmps72
  go_wp2_with fail
  go_ret
  exact ⟨rfl, Went.of HH.out (keeps_obj w b q sv _ _)⟩
theorem not_bit : ∀ x : Fin 256, (255 - x.val).testBit 1 = (x.val / 2 % 2 == 0) := by decide +kernel
theorem two_bit : ∀ x : Fin 256, (x.val &&& 2 != 0) = x.val.testBit 1 := by decide +kernel
theorem new_want (v t : Nat) (hv : v < 256) (ht : t < 256) : (bits .and .u8 (bits .andNot .u8 (v : Int) (t : Int)) 2 != 0) = (v / 2 % 2 == 1 && t / 2 % 2 == 0) := by
 have e1 : bits .andNot .u8 (v : Int) (t : Int) = ((v &&& (255 - t) : Nat) : Int) := u8_andNot_nat v t hv ht
 have hlt : v &&& (255 - t) < 256 := Nat.lt_of_le_of_lt Nat.and_le_left hv
 have e2 : bits .and .u8 ((v &&& (255 - t) : Nat) : Int) 2 = (((v &&& (255 - t)) &&& 2 : Nat) : Int) := u8_and_nat _ 2 hlt (by decide)
 have e3 : ((((v &&& (255 - t)) &&& 2 : Nat) : Int) != 0) = (((v &&& (255 - t)) &&& 2) != 0) := by
  rw [Bool.eq_iff_iff]; simp
 rw [e1, e2, e3]
 have := two_bit ⟨_, hlt⟩
 simp only at this
 rw [this, Nat.testBit_and, not_bit ⟨t, ht⟩, Nat.testBit_eq_decide_div_mod_eq]
 simp
 rfl
theorem out_0 (H : UtIn w b q sv U) (v : Nat) (hv : v < 256) (hl : U.latch = false) (hL : U.sent.length + 1 ≤ 140737488355328) :
    Calls Tryz.prog 72 #[.pointer (some ⟨b, 0, none⟩), .int .i64 0, .int .u8 (v : Nat)] w fun e w' => e = .returned (.int .i64 0) ∧ Went w b q sv (U.send v) w' := by
 obtain ⟨-, -, -, k3, -, -, k6, -, -, -, k10, kf, kl⟩ := H.facts
 have hb := t128 U.lcr H.ok.lcr
 rw [show (U.lcr / 128 % 2 == 1) = false from hl] at hb
 obtain ⟨i0, hi, hz0, hz1, hz2⟩ := info_parts info8
 have hown := H.sent
 obtain ⟨a, c, rfl⟩ := row_len hown
 have HH := Lib.hid H
 have HOWN := Lib.hid hown
 have HL := Lib.hid hL
 have hc1 := Lib.hid (one_new w 5 (.int .u8 (v : Nat)))
 clear H hown hl hL
 go_enter Tryz.func72, Tryz.ntmps72
 go_wp2_with (at_builtin; (refine wpList_append_own_at _ rfl _ _ 22 rfl 0 5 i0 (.int .u8 0) 1 1 Tryz.underlying22 hi hz0 hz1 hz2 rfl (by decide) _ _ _ rfl (HOWN.out.alloc _) ⟨w.heap.size, 0, none⟩ 1 1 [.int .u8 (v : Nat)] rfl rfl hc1.out (fun u hu => by rw [List.mem_singleton.1 hu]; rfl) (by unfold maxLen; have := HL.out; omega) (by have := HL.out; omega) (Nat.zero_le _) ?_); intro v' w1' hown1 hgrow1 _ hat; obtain ⟨a', c', rfl⟩ := row_len hown1; have hcl := Lib.hid (send_end HH.out v hv hown1 hgrow1 hat); obtain ⟨f10, f3, ff, fl⟩ := send_facts HH.out hgrow1; clear hown1 hgrow1 hat)
 go_ret
 exact ⟨rfl, hcl.out⟩
theorem out_1 (H : UtIn w b q sv U) (v : Nat) (hv : v < 256) (hl : U.latch = false) :
    Calls Tryz.prog 72 #[.pointer (some ⟨b, 0, none⟩), .int .i64 1, .int .u8 (v : Nat)] w fun e w' => e = .returned (.int .i64 0) ∧ Went w b q sv (U.want v) w' := by
 obtain ⟨-, -, -, k3, -, -, k6, -, -, k9, -, kf, kl⟩ := H.facts
 have hb := t128 U.lcr H.ok.lcr
 rw [show (U.lcr / 128 % 2 == 1) = false from hl] at hb
 have hn := new_want v U.wanted hv H.ok.wanted
 have hm := m15 v hv
 have HH := Lib.hid ((H.setEmpty (U.empty || (v / 2 % 2 == 1 && U.wanted / 2 % 2 == 0))).setWanted (v % 16) (by omega))
 have HE := Lib.hid (show (U.setEmpty (U.empty || (v / 2 % 2 == 1 && U.wanted / 2 % 2 == 0))).setWanted (v % 16) = U.want v from rfl)
 rw [HE.out] at HH
 generalize (v / 2 % 2 == 1 && U.wanted / 2 % 2 == 0) = c at *
 generalize v % 16 = y at *
 generalize U.want v = U' at *
 clear H hl HE
 cases he : U.empty
 all_goals
  rw [he] at HH k3
  clear he
  go_enter Tryz.func72, Tryz.ntmps72
  go_wp2_with fail
  go_ret
  exact ⟨rfl, Went.of HH.out ((keeps_obj w b q sv _ _).setCell (.inl (.inl rfl)) _)⟩
def chanLen (w : World) (q : Nat) : Nat := match w.heap[q]? with | some (.chan _ buf _ _ _ _) => buf.size | _ => 0
theorem UtIn.len (H : UtIn w b q sv U) : chanLen w q = U.came.length := by
 obtain ⟨s, r, hq⟩ := H.chan
 unfold chanLen
 rw [hq]; simp [bytesV]
theorem out_2 (H : UtIn w b q sv U) (v : Nat) (hv : v < 256) :
    Calls Tryz.prog 72 #[.pointer (some ⟨b, 0, none⟩), .int .i64 2, .int .u8 (v : Nat)] w fun e w' => e = .returned (.int .i64 0) ∧ Went w b q sv (U.ctl v) w' := by
 obtain ⟨-, -, k2, -, -, -, k6, -, -, -, -, kf, kl⟩ := H.facts
 have hb := t128 U.lcr H.ok.lcr
 have h1 := t1 v hv
 have h2 := t2 v hv
 have hU : U.ctl v = (U.flow (if ((v % 2 == 1) != U.on || v / 2 % 2 == 1) = true then [] else U.came)).setOn (v % 2 == 1) := rfl
 generalize (U.lcr / 128 % 2 == 1) = c at hb
 generalize (v % 2 == 1) = c1 at *
 generalize (v / 2 % 2 == 1) = c2 at *
 generalize U.ctl v = U' at *
 generalize ho : U.on = c0 at *
 have HH := Lib.hid H
 have HO := Lib.hid ho
 clear H ho
 by_cases hc : ((c1 != c0) || c2) = true
 ·rw [if_pos hc] at hU
  have HU := Lib.hid hU
  clear hU
  cases c1 <;> cases c0 <;> cases c2
  all_goals (try (exfalso; simp at hc; done))
  all_goals
   clear hc
   have HL := Lib.hid (HH.out.len)
   go_enter Tryz.func72, Tryz.ntmps72
   go_wp2_with fail
   go_loopw [9] (fun m wr => ∃ (x : Bool) (L : List Nat), m = .bool x ∧ (x = false → L = []) ∧ UtIn wr b q sv (U.flow L) ∧ Keeps (Held b q sv) w wr) (fun m wr => 2 * chanLen wr q + (match m with | .bool true => 1 | _ => 0))
   case atStart => exact ⟨true, U.came, rfl, (fun h => by cases h), HH.out, Keeps.refl _ _⟩
   case round =>
    obtain ⟨x, L, rfl, hx, Hr, K⟩ := hrel
    cases x
    ·have hL := hx rfl
     subst hL
     obtain ⟨-, -, r2, -, -, -, -, -, -, -, -, rf, rl⟩ := Hr.facts
     have HR := Lib.hid Hr
     have HK := Lib.hid K
     clear Hr K hx
     go_wp2_with fail
     go_ret
     exact ⟨rfl, Went.of (by rw [HU.out]; exact HR.out.setOn _) (HK.out.setCell (.inl (.inl rfl)) _)⟩
    ·have HLn := Lib.hid Hr.len
     cases L with
     | nil =>
      have HK := Lib.hid K
      clear hx K
      go_wp2_with fail
      refine (next_none Hr rfl).mono ?_
      rintro e w1 ⟨rfl, rfl⟩
      go_wp2_with fail
      go_roundw
      case rel => exact ⟨false, [], rfl, fun _ => rfl, Hr, HK.out⟩
      case measure => simp
     | cons y l =>
      have HK := Lib.hid K
      clear hx K
      go_wp2_with fail
      refine (next_some Hr y l rfl).mono ?_
      rintro e w1 ⟨rfl, H1, K1⟩
      have e1 := HLn.out
      have e2 := H1.len
      have E1 := Lib.hid e1
      have E2 := Lib.hid e2
      clear e1 e2
      have H1 : UtIn w1 b q sv (U.flow l) := H1
      go_wp2_with fail
      go_roundw
      case rel => exact ⟨true, l, rfl, (fun h => by cases h), H1, HK.out.andThen K1 fun i _ e => by rw [e]; exact .inr (.inl rfl)⟩
      case measure =>
       rw [E1.out, E2.out]
       show 2 * l.length + 1 < 2 * (l.length + 1) + 1
       omega
 ·rw [if_neg hc] at hU
  have HU := Lib.hid hU
  have e1 : c1 = c0 ∧ c2 = false := by cases c1 <;> cases c0 <;> cases c2 <;> simp_all
  obtain ⟨rfl, rfl⟩ := e1
  clear hU hc
  cases c1
  all_goals
   go_enter Tryz.func72, Tryz.ntmps72
   go_wp2_with fail
   go_ret
   refine ⟨rfl, Went.of (by rw [HU.out]; exact HH.out.setOn _) (keeps_obj w b q sv _ _)⟩
theorem out_3 (H : UtIn w b q sv U) (v : Nat) (hv : v < 256) :
    Calls Tryz.prog 72 #[.pointer (some ⟨b, 0, none⟩), .int .i64 3, .int .u8 (v : Nat)] w fun e w' => e = .returned (.int .i64 0) ∧ Went w b q sv (U.setLcr v) w' := by
 obtain ⟨-, -, -, -, -, -, k6, -, -, -, -, kf, kl⟩ := H.facts
 have hb := t128 U.lcr H.ok.lcr
 have HH := Lib.hid (H.setLcr v hv)
 generalize (U.lcr / 128 % 2 == 1) = c at hb
 clear H
 go_enter Tryz.func72, Tryz.ntmps72
 go_wp2_with fail
 go_ret
 exact ⟨rfl, Went.of HH.out (keeps_obj w b q sv _ _)⟩
theorem out_4 (H : UtIn w b q sv U) (v : Nat) (hv : v < 256) :
    Calls Tryz.prog 72 #[.pointer (some ⟨b, 0, none⟩), .int .i64 4, .int .u8 (v : Nat)] w fun e w' => e = .returned (.int .i64 0) ∧ Went w b q sv (U.setMcr (v % 32)) w' := by
 obtain ⟨-, -, -, -, -, -, k6, k7, -, -, -, kf, kl⟩ := H.facts
 have hb := t128 U.lcr H.ok.lcr
 have hm := m31 v hv
 have HH := Lib.hid (H.setMcr (v % 32) (by omega))
 generalize (U.lcr / 128 % 2 == 1) = c at hb
 generalize v % 32 = y at *
 clear H
 go_enter Tryz.func72, Tryz.ntmps72
 go_wp2_with fail
 go_ret
 exact ⟨rfl, Went.of HH.out (keeps_obj w b q sv _ _)⟩
theorem out_7 (H : UtIn w b q sv U) (v : Nat) (hv : v < 256) :
    Calls Tryz.prog 72 #[.pointer (some ⟨b, 0, none⟩), .int .i64 7, .int .u8 (v : Nat)] w fun e w' => e = .returned (.int .i64 0) ∧ Went w b q sv (U.setScr v) w' := by
 obtain ⟨-, -, -, -, -, -, k6, -, k8, -, -, kf, kl⟩ := H.facts
 have hb := t128 U.lcr H.ok.lcr
 have HH := Lib.hid (H.setScr v hv)
 generalize (U.lcr / 128 % 2 == 1) = c at hb
 clear H
 go_enter Tryz.func72, Tryz.ntmps72
 go_wp2_with fail
 go_ret
 exact ⟨rfl, Went.of HH.out (keeps_obj w b q sv _ _)⟩
theorem out_else (H : UtIn w b q sv U) (reg : Int) (hr : reg = 5 ∨ reg = 6) (v : Nat) :
    Calls Tryz.prog 72 #[.pointer (some ⟨b, 0, none⟩), .int .i64 reg, .int .u8 (v : Nat)] w fun e w' => e = .returned (.int .i64 0) ∧ Went w b q sv U w' := by
 obtain ⟨-, -, -, -, -, -, k6, -, -, -, -, kf, kl⟩ := H.facts
 have hb := t128 U.lcr H.ok.lcr
 have HH := Lib.hid H
 generalize (U.lcr / 128 % 2 == 1) = c at hb
 clear H
 rcases hr with rfl | rfl
 all_goals
  go_enter Tryz.func72, Tryz.ntmps72
  go_wp2_with fail
  go_ret
  exact ⟨rfl, Went.of HH.out (Keeps.refl _ _)⟩
end
end Go.Proofs.YtojmpdddfnkffaaGreat.Uart

/- uart: any write, any read; a port that a law has made. -/
namespace Go.Proofs.YtojmpdddfnkffaaGreat.Uart
open Go.RowKit Go.Conc
set_option linter.unusedVariables false

def Ut.tail (U : Ut) : Ut := U.flow U.came.tail
def Ut.ask (U : Ut) : Ut := if U.why = 2 then U.setEmpty false else U
def Ut.setLost (U : Ut) (x : Bool) : Ut := { U with lost := x }
def Ut.stat (U : Ut) : Nat := 96 + (if U.came.isEmpty then 0 else 1) + (if U.lost then 2 else 0)
def Ut.inV (U : Ut) (reg : Int) : Nat :=
 if reg < 0 ∨ 7 < reg then 0
 else if reg < 2 ∧ U.latch = true then (if reg = 0 then U.d0 else U.d1)
 else if reg = 0 then U.came.headD 0
 else if reg = 1 then U.wanted
 else if reg = 2 then U.why + (if U.on then 192 else 0)
 else if reg = 3 then U.lcr
 else if reg = 4 then U.mcr
 else if reg = 5 then U.stat
 else if reg = 6 then 176
 else U.scr
def Ut.inS (U : Ut) (reg : Int) : Ut :=
 if reg < 0 ∨ 7 < reg then U
 else if reg < 2 ∧ U.latch = true then U
 else if reg = 0 then U.tail
 else if reg = 2 then U.ask
 else if reg = 5 then U.setLost false
 else U
section
variable {w w' : World} {b q : Nat} {sv : Value} {U : Ut}
theorem out_any (H : UtIn w b q sv U) (reg : Int) (v : Nat) (hv : v < 256) (hL : U.sent.length + 1 ≤ 140737488355328) :
    Calls Tryz.prog 72 #[.pointer (some ⟨b, 0, none⟩), .int .i64 reg, .int .u8 (v : Nat)] w fun e w' => e = .returned (.int .i64 (callErr reg)) ∧ Went w b q sv (U.out reg v) w' := by
 unfold callErr Ut.out
 by_cases h : reg < 0 ∨ 7 < reg
 ·rw [if_pos h, if_pos h]
  refine (out_bad reg v h).mono ?_
  rintro e w1 ⟨rfl, rfl⟩
  exact ⟨rfl, Went.of H (Keeps.refl _ _)⟩
 ·rw [if_neg h, if_neg h]
  by_cases h2 : reg < 2 ∧ U.latch = true
  ·rw [if_pos h2]
   have := out_d H reg.toNat v (by omega) hv h2.2
   rwa [show ((reg.toNat : Nat) : Int) = reg by omega] at this
  ·rw [if_neg h2]
   by_cases h0 : reg = 0
   ·subst h0
    rw [if_pos rfl]
    exact out_0 H v hv (by cases hl : U.latch; rfl; exact absurd ⟨by decide, hl⟩ h2) hL
   rw [if_neg h0]
   by_cases h1 : reg = 1
   ·subst h1
    rw [if_pos rfl]
    exact out_1 H v hv (by cases hl : U.latch; rfl; exact absurd ⟨by decide, hl⟩ h2)
   rw [if_neg h1]
   by_cases e2 : reg = 2
   ·subst e2; rw [if_pos rfl]; exact out_2 H v hv
   rw [if_neg e2]
   by_cases e3 : reg = 3
   ·subst e3; rw [if_pos rfl]; exact out_3 H v hv
   rw [if_neg e3]
   by_cases e4 : reg = 4
   ·subst e4; rw [if_pos rfl]; exact out_4 H v hv
   rw [if_neg e4]
   by_cases e7 : reg = 7
   ·subst e7; rw [if_pos rfl]; exact out_7 H v hv
   rw [if_neg e7]
   exact out_else H reg (by omega) v
theorem UtIn.setLost (H : UtIn w b q sv U) (x : Bool) : UtIn (w.setCell ⟨b, 1, none⟩ (.bool x)) b q sv (U.setLost x) := by
 have o := H.ok
 exact H.turn 1 _ rfl rfl rfl ⟨o.c1, o.c2, o.d0, o.d1, o.lcr, o.mcr, o.scr, o.wanted, o.s2⟩
theorem in_bad (reg : Int) (h : reg < 0 ∨ 7 < reg) : Calls Tryz.prog 73 #[.pointer (some ⟨b, 0, none⟩), .int .i64 reg] w fun e w' => e = .returned (.tuple #[.int .u8 0, .int .i64 1]) ∧ w = w' := by
 by_cases h0 : reg < 0
 ·clear h
  go_enter Tryz.func73, Tryz.ntmps73
  go_wp2_with fail
  go_ret2
  exact ⟨rfl, rfl⟩
 ·have h7 : 7 < reg := by omega
  have g0 : ¬ reg < 0 := h0
  clear h
  go_enter Tryz.func73, Tryz.ntmps73
  go_wp2_with fail
  go_ret2
  exact ⟨rfl, rfl⟩
theorem in_d (H : UtIn w b q sv U) (k : Nat) (hk : k < 2) (hl : U.latch = true) :
    Calls Tryz.prog 73 #[.pointer (some ⟨b, 0, none⟩), .int .i64 (k : Nat)] w fun e w' => e = .returned (.tuple #[.int .u8 ((if k = 0 then U.d0 else U.d1 : Nat) : Int), .int .i64 0]) ∧ w = w' := by
 obtain ⟨-, -, -, -, k4, k5, k6, -, -, -, -, kf, kl⟩ := H.facts
 have hb := t128 U.lcr H.ok.lcr
 rw [show (U.lcr / 128 % 2 == 1) = true from hl] at hb
 clear H hl
 rcases (show k = 0 ∨ k = 1 by omega) with rfl | rfl
 ·rw [if_pos rfl]
  go_enter Tryz.func73, Tryz.ntmps73
  go_wp2_with fail
  go_ret2
  exact ⟨rfl, rfl⟩
 ·rw [if_neg (by decide)]
  go_enter Tryz.func73, Tryz.ntmps73
  go_wp2_with fail
  go_ret2
  exact ⟨rfl, rfl⟩
theorem in_0 (H : UtIn w b q sv U) (hl : U.latch = false) :
    Calls Tryz.prog 73 #[.pointer (some ⟨b, 0, none⟩), .int .i64 0] w fun e w' => e = .returned (.tuple #[.int .u8 (U.came.headD 0 : Nat), .int .i64 0]) ∧ Went w b q sv U.tail w' := by
 obtain ⟨-, -, -, -, -, -, k6, -, -, -, -, kf, kl⟩ := H.facts
 have hb := t128 U.lcr H.ok.lcr
 rw [show (U.lcr / 128 % 2 == 1) = false from hl] at hb
 cases hc : U.came with
 | nil =>
  have HU := Lib.hid (show U.tail = U by unfold Ut.tail Ut.flow; rw [hc]; cases U; simp_all)
  have HC := Lib.hid hc
  clear hc hl
  go_enter Tryz.func73, Tryz.ntmps73
  go_wp2_with fail
  refine (next_none H HC.out).mono ?_
  rintro e w1 ⟨rfl, rfl⟩
  go_wp2_with fail
  go_ret2
  exact ⟨rfl, Went.of (by rw [HU.out]; exact H) (Keeps.refl _ _)⟩
 | cons x l =>
  have HU := Lib.hid (show U.tail = U.flow l by unfold Ut.tail; rw [hc]; rfl)
  have HC := Lib.hid hc
  clear hc hl
  go_enter Tryz.func73, Tryz.ntmps73
  go_wp2_with fail
  refine (next_some H x l HC.out).mono ?_
  rintro e w1 ⟨rfl, H1, K1⟩
  have HH := Lib.hid H1
  go_wp2_with fail
  go_ret2
  exact ⟨rfl, Went.of (by rw [HU.out]; exact HH.out) (K1.mono fun k _ e => .inr (.inl e))⟩
theorem in_1 (H : UtIn w b q sv U) (hl : U.latch = false) :
    Calls Tryz.prog 73 #[.pointer (some ⟨b, 0, none⟩), .int .i64 1] w fun e w' => e = .returned (.tuple #[.int .u8 (U.wanted : Nat), .int .i64 0]) ∧ w = w' := by
 obtain ⟨-, -, -, -, -, -, k6, -, -, k9, -, kf, kl⟩ := H.facts
 have hb := t128 U.lcr H.ok.lcr
 rw [show (U.lcr / 128 % 2 == 1) = false from hl] at hb
 clear H hl
 go_enter Tryz.func73, Tryz.ntmps73
 go_wp2_with fail
 go_ret2
 exact ⟨rfl, rfl⟩
theorem or192 : bits .or .u8 4 192 = 196 ∧ bits .or .u8 2 192 = 194 ∧ bits .or .u8 1 192 = 193 ∧ bits .or .u8 96 1 = 97 ∧ bits .or .u8 96 2 = 98 ∧ bits .or .u8 97 2 = 99 := by decide +kernel
theorem in_2 (H : UtIn w b q sv U) :
    Calls Tryz.prog 73 #[.pointer (some ⟨b, 0, none⟩), .int .i64 2] w fun e w' => e = .returned (.tuple #[.int .u8 ((U.why + (if U.on then 192 else 0) : Nat) : Int), .int .i64 0]) ∧ Went w b q sv U.ask w' := by
 obtain ⟨-, -, k2, k3, -, -, -, -, -, -, -, kf, kl⟩ := H.facts
 obtain ⟨o1, o2, o3, -⟩ := or192
 have hw : U.why = 4 ∨ U.why = 2 ∨ U.why = 1 := by unfold Ut.why; cases U.rx <;> cases U.tx <;> simp
 have HA := Lib.hid (show U.ask = if U.why = 2 then U.setEmpty false else U from rfl)
 have HW := why_any H
 have HH := Lib.hid H
 clear H
 generalize U.ask = U' at *
 generalize U.why = y at *
 generalize U.on = on at *
 rcases hw with rfl | rfl | rfl
 all_goals
  cases on
  all_goals
   go_enter Tryz.func73, Tryz.ntmps73
   go_wp2_with fail
   refine HW.mono ?_
   rintro e w1 ⟨rfl, rfl⟩
   go_wp2_with fail
   go_ret2
   first
    | exact ⟨rfl, Went.of (by rw [HA.out, if_neg (by decide)]; exact HH.out) (Keeps.refl _ _)⟩
    | exact ⟨rfl, Went.of (by rw [HA.out, if_pos trivial]; exact HH.out.setEmpty false) (keeps_obj w b q sv _ _)⟩
theorem in_3 (H : UtIn w b q sv U) :
    Calls Tryz.prog 73 #[.pointer (some ⟨b, 0, none⟩), .int .i64 3] w fun e w' => e = .returned (.tuple #[.int .u8 (U.lcr : Nat), .int .i64 0]) ∧ w = w' := by
 obtain ⟨-, -, -, -, -, -, k6, -, -, -, -, kf, kl⟩ := H.facts
 clear H
 go_enter Tryz.func73, Tryz.ntmps73
 go_wp2_with fail
 go_ret2
 exact ⟨rfl, rfl⟩
theorem in_4 (H : UtIn w b q sv U) :
    Calls Tryz.prog 73 #[.pointer (some ⟨b, 0, none⟩), .int .i64 4] w fun e w' => e = .returned (.tuple #[.int .u8 (U.mcr : Nat), .int .i64 0]) ∧ w = w' := by
 obtain ⟨-, -, -, -, -, -, -, k7, -, -, -, kf, kl⟩ := H.facts
 clear H
 go_enter Tryz.func73, Tryz.ntmps73
 go_wp2_with fail
 go_ret2
 exact ⟨rfl, rfl⟩
theorem in_7 (H : UtIn w b q sv U) :
    Calls Tryz.prog 73 #[.pointer (some ⟨b, 0, none⟩), .int .i64 7] w fun e w' => e = .returned (.tuple #[.int .u8 (U.scr : Nat), .int .i64 0]) ∧ w = w' := by
 obtain ⟨-, -, -, -, -, -, -, -, k8, -, -, kf, kl⟩ := H.facts
 clear H
 go_enter Tryz.func73, Tryz.ntmps73
 go_wp2_with fail
 go_ret2
 exact ⟨rfl, rfl⟩
theorem in_6 (H : UtIn w b q sv U) :
    Calls Tryz.prog 73 #[.pointer (some ⟨b, 0, none⟩), .int .i64 6] w fun e w' => e = .returned (.tuple #[.int .u8 176, .int .i64 0]) ∧ w = w' := by
 obtain ⟨-, -, -, -, -, -, -, -, -, -, -, kf, kl⟩ := H.facts
 clear H
 go_enter Tryz.func73, Tryz.ntmps73
 go_wp2_with fail
 go_ret2
 exact ⟨rfl, rfl⟩
theorem in_5 (H : UtIn w b q sv U) :
    Calls Tryz.prog 73 #[.pointer (some ⟨b, 0, none⟩), .int .i64 5] w fun e w' => e = .returned (.tuple #[.int .u8 (U.stat : Nat), .int .i64 0]) ∧ Went w b q sv (U.setLost false) w' := by
 obtain ⟨k0, k1, -, -, -, -, -, -, -, -, -, kf, kl⟩ := H.facts
 obtain ⟨-, -, -, o1, o2, o3⟩ := or192
 obtain ⟨s, r, hq⟩ := H.chan
 have hlen := fun ty => run_len_chan (P := Tryz.prog) (w := w) 126 ty Tryz.underlying126 hq
 have hn : ((bytesV U.came).toArray.size : Int) = U.came.length := by simp [bytesV]
 have hw : U.stat = 96 + (if U.came.isEmpty then 0 else 1) + (if U.lost then 2 else 0) := rfl
 have HH := Lib.hid (H.setLost false)
 generalize (bytesV U.came).toArray.size = n at *
 generalize U.stat = y at *
 clear hq H
 cases hl : U.lost <;> cases hc : U.came
 all_goals
  rw [hl, hc] at hw
  rw [hl] at k1
  rw [hc] at hn
  simp at hw
  have HW := Lib.hid hw
  have hn0 : (n : Int) ≤ 0 ∨ (0 : Int) < (n : Int) := by omega
  clear hw hl hc
  rcases hn0 with hn0 | hn0
  all_goals (try (exfalso; simp at hn; omega))
  all_goals
   clear hn
   go_enter Tryz.func73, Tryz.ntmps73
   go_wp2_with fail
   go_ret2
   exact ⟨by rw [HW.out]; rfl, Went.of HH.out (keeps_obj w b q sv _ _)⟩
theorem in_any (H : UtIn w b q sv U) (reg : Int) :
    Calls Tryz.prog 73 #[.pointer (some ⟨b, 0, none⟩), .int .i64 reg] w fun e w' => e = .returned (.tuple #[.int .u8 (U.inV reg : Nat), .int .i64 (callErr reg)]) ∧ Went w b q sv (U.inS reg) w' := by
 have same : ∀ {v c : Int}, (Calls Tryz.prog 73 #[.pointer (some ⟨b, 0, none⟩), .int .i64 reg] w fun e w' => e = .returned (.tuple #[.int .u8 v, .int .i64 c]) ∧ w = w') →
     Calls Tryz.prog 73 #[.pointer (some ⟨b, 0, none⟩), .int .i64 reg] w fun e w' => e = .returned (.tuple #[.int .u8 v, .int .i64 c]) ∧ Went w b q sv U w' := fun h => by
  refine h.mono ?_
  rintro e w1 ⟨rfl, rfl⟩
  exact ⟨rfl, Went.of H (Keeps.refl _ _)⟩
 unfold callErr Ut.inV Ut.inS
 by_cases h : reg < 0 ∨ 7 < reg
 ·rw [if_pos h, if_pos h, if_pos h]
  exact same (in_bad reg h)
 ·rw [if_neg h, if_neg h, if_neg h]
  by_cases h2 : reg < 2 ∧ U.latch = true
  ·rw [if_pos h2, if_pos h2]
   have := in_d H reg.toNat (by omega) h2.2
   rw [show ((reg.toNat : Nat) : Int) = reg by omega] at this
   by_cases h0 : reg = 0
   ·rw [if_pos h0]; rw [if_pos (by omega)] at this; exact same this
   ·rw [if_neg h0]; rw [if_neg (by omega)] at this; exact same this
  ·rw [if_neg h2, if_neg h2]
   by_cases h0 : reg = 0
   ·subst h0
    rw [if_pos rfl, if_pos rfl]
    exact in_0 H (by cases hl : U.latch; rfl; exact absurd ⟨by decide, hl⟩ h2)
   rw [if_neg h0, if_neg h0]
   by_cases h1 : reg = 1
   ·subst h1
    rw [if_pos rfl, if_neg (by decide), if_neg (by decide)]
    exact same (in_1 H (by cases hl : U.latch; rfl; exact absurd ⟨by decide, hl⟩ h2))
   rw [if_neg h1]
   by_cases e2 : reg = 2
   ·subst e2; rw [if_pos rfl, if_pos rfl]; exact in_2 H
   rw [if_neg e2, if_neg e2]
   by_cases e3 : reg = 3
   ·subst e3; rw [if_pos rfl, if_neg (by decide)]; exact same (in_3 H)
   rw [if_neg e3]
   by_cases e4 : reg = 4
   ·subst e4; rw [if_pos rfl, if_neg (by decide)]; exact same (in_4 H)
   rw [if_neg e4]
   by_cases e5 : reg = 5
   ·subst e5; rw [if_pos rfl, if_pos rfl]; exact in_5 H
   rw [if_neg e5, if_neg e5]
   by_cases e6 : reg = 6
   ·subst e6; rw [if_pos rfl]; exact same (in_6 H)
   rw [if_neg e6]
   have e7 : reg = 7 := by omega
   subst e7
   exact same (in_7 H)
end
end Go.Proofs.YtojmpdddfnkffaaGreat.Uart

/- Slices that came in, as the walk wants them. -/
namespace Go.Proofs.YtojmpdddfnkffaaGreat
open Go.RowKit Go.WideShapes Go.ChangeShapes

theorem cell_block_lt {w : World} {a : Addr} {v : Value} (h : w.cell? a = some v) : a.block < w.heap.size := by
 unfold World.cell? at h
 cases hb : w.heap[a.block]? with
 | none => rw [hb] at h; simp at h
 | some o => exact (Array.getElem?_eq_some_iff.1 hb).1

theorem arg_rows {H : Type} {enc : TypeId × Value → H} {P : Program} {w : World} {r : Reach} {base base' : Nat} {spare : Nat → Bool} {held : Bool} {t e : TypeId} {v : Value} {d : DataW H} {ps : List MemPlace}
    (ht : P.underlying t = some (.slice e)) (hpos : 0 < P.cellsOf e) (h : Value.okWide P w r base t v) (hd : DataW.Trod enc P w base' spare held t v d ps) :
    ∃ a len cap, v = .slice a len cap ∧ len ≤ 9223372036854775807 ∧ (len = 0 ∨ ∃ b off, a = some ⟨b, off, none⟩ ∧ b < w.heap.size ∧
     ∀ i, i < len → ∃ (cs : List Value) (y : DataW H × List MemPlace) (n : Nat), cs.length = P.cellsOf e ∧ (∀ j, j < P.cellsOf e → w.cell? ⟨b, off + (i * P.cellsOf e + j), none⟩ = cs[j]?) ∧ DataW.trod enc P w base' spare held n e cs = some y) := by
 obtain ⟨a0, len, cap, rfl⟩ := okWide_slice ht h
 obtain ⟨fuel, hf⟩ := hd
 rcases DataW.trod_slice ht hf with ⟨hcs, hx⟩ | ⟨a, len', cap', elems, rest, n, _, hcs, _, _, hl, hm, hel, hrow, _, _⟩
 ·have hcs' : Value.slice a0 len cap = Value.slice none 0 0 := by simpa [Value.cells] using hcs
  simp only [Value.slice.injEq] at hcs'
  obtain ⟨rfl, rfl, rfl⟩ := hcs'
  exact ⟨none, 0, 0, rfl, by omega, .inl rfl⟩
 ·have hcs' : Value.slice a0 len cap = Value.slice (some a) len' cap' := by simpa [Value.cells] using hcs
  simp only [Value.slice.injEq] at hcs'
  obtain ⟨rfl, rfl, rfl⟩ := hcs'
  unfold maxLen at hm
  refine ⟨some a, len, cap, rfl, by omega, ?_⟩
  by_cases h0 : len = 0
  ·exact .inl h0
  ·right
   have key : ∀ i, i < len → ∃ (cs : List Value) (y : DataW H × List MemPlace), cs.length = P.cellsOf e ∧ (∀ j, j < P.cellsOf e → w.cell? ((a.add (i * P.cellsOf e)).add j) = cs[j]?) ∧ DataW.trod enc P w base' spare held n e cs = some y := by
    intro i hi
    have h1 := hrow i hi
    have h2 : elems[i]? = some (elems[i]'(by omega)) := List.getElem?_eq_getElem (by omega)
    rw [h2] at h1
    obtain ⟨cs, hc, hy⟩ := Option.bind_eq_some_iff.1 h1
    obtain ⟨_, hcl, hat⟩ := World.cells?_some hc
    exact ⟨cs, _, hcl, hat, hy⟩
   obtain ⟨b, off, spot⟩ := a
   obtain ⟨cs0, y0, hl0, hc0, _⟩ := key 0 (by omega)
   have c0 := hc0 0 hpos
   have e0 : cs0[0]? = some (cs0[0]'(by omega)) := List.getElem?_eq_getElem (by omega)
   rw [e0] at c0
   have hspot : spot = none := by simpa [Addr.add] using World.cell?_spot c0
   subst hspot
   have blt := cell_block_lt c0
   rw [Go.WideShapes.add_plain, Go.WideShapes.add_plain] at blt
   refine ⟨b, off, rfl, blt, fun i hi => ?_⟩
   obtain ⟨cs, y, hcl, hat, hy⟩ := key i hi
   refine ⟨cs, y, n, hcl, fun j hj => ?_, hy⟩
   have := hat j hj
   rw [Go.WideShapes.add_plain, Go.WideShapes.add_plain, Nat.add_assoc] at this
   exact this
def numAt (w : World) (b k : Nat) : Int := match w.cell? ⟨b, k, none⟩ with | some (.int _ n) => n | _ => 0
theorem numAt_of {w : World} {b k : Nat} {q : IntKind} {n : Int} (h : w.cell? ⟨b, k, none⟩ = some (.int q n)) : numAt w b k = n := by unfold numAt; rw [h]
theorem wf_u32 {n : Int} (h : (Lit.int .u32 n).wf = true) : 0 ≤ n ∧ n < 4294967296 := by
 simp only [Lit.wf, Bool.and_eq_true, decide_eq_true_eq] at h
 exact ⟨h.1, Int.lt_of_le_of_lt h.2 (by decide)⟩
theorem wf_i64 {n : Int} (h : (Lit.int .i64 n).wf = true) : -9223372036854775808 ≤ n ∧ n ≤ 9223372036854775807 := by
 simp only [Lit.wf, Bool.and_eq_true, decide_eq_true_eq] at h
 exact h
theorem wf_u8 {n : Int} (h : (Lit.int .u8 n).wf = true) : 0 ≤ n ∧ n < 256 := by
 simp only [Lit.wf, Bool.and_eq_true, decide_eq_true_eq] at h
 exact ⟨h.1, Int.lt_of_le_of_lt h.2 (by decide)⟩
end Go.Proofs.YtojmpdddfnkffaaGreat

/- uart's laws: a port that a law has made, beside blocks that are the law's own; the calls at the head of all statements. -/
namespace Go.Proofs.YtojmpdddfnkffaaGreat.Uart
open Go.RowKit Go.Conc
set_option linter.unusedVariables false

def UAt (w0 w : World) (b : Nat) (U : Ut) (G : Nat → Prop) (wG : World) : Prop :=
 ∃ q sv, UtIn w b q sv U ∧ (∀ k, Held b q sv k → w0.heap.size ≤ k ∧ ¬ G k) ∧ (∀ g, G g → g < wG.heap.size ∧ w.heap[g]? = wG.heap[g]?) ∧ Below w0.heap.size w0 w ∧ wG.heap.size ≤ w.heap.size
section
variable {w0 w w' wG : World} {b : Nat} {U : Ut} {G : Nat → Prop}
theorem UAt.below (h : UAt w0 w b U G wG) : Below w0.heap.size w0 w := by obtain ⟨q, sv, H, N, g, B, s⟩ := h; exact B
theorem UAt.isok (h : UAt w0 w b U G wG) : U.ok := by obtain ⟨q, sv, H, N, g, B, s⟩ := h; exact H.ok
theorem UAt.kept (h : UAt w0 w b U G wG) {k : Nat} (hk : G k) : w.heap[k]? = wG.heap[k]? := by obtain ⟨q, sv, H, N, g, B, s⟩ := h; exact (g k hk).2
theorem UAt.row (h : UAt w0 w b U G wG) {B n : Nat} {E : TypeId} {v : Value} {xs : List Value} (hr : wG.ownsRow B E 1 v n xs) (hg : ∀ k, v.ownBlock = some k → G k) : w.ownsRow B E 1 v n xs := row_of_heap hr fun k hk => h.kept (hg k hk)
theorem UAt.move (h : UAt w0 w b U G wG) (hb : Below w.heap.size w w') : UAt w0 w' b U G wG := by
 obtain ⟨q, sv, H, N, g, B, s⟩ := h
 exact ⟨q, sv, H.of_heap fun k hk => hb.block k (H.lt hk), N, fun k hk => ⟨(g k hk).1, (hb.block k (Nat.lt_of_lt_of_le (g k hk).1 s)).trans (g k hk).2⟩, B.trans (hb.mono B.size), Nat.le_trans s hb.size⟩
theorem UAt.alloc (h : UAt w0 w b U G wG) (o : Obj) : UAt w0 (w.alloc o) b U G wG := h.move ((Below.refl _ _).alloc (Nat.le_refl _) _)
end
theorem byte_at {w : World} {B n : Nat} {v : Value} {L : List Nat} (h : w.ownsRow B 5 1 v n (bytesV L)) (i x : Nat) (hx : L[i]? = some x) : ∃ g c, v = .slice (some ⟨g, 0, none⟩) n c ∧ w.cell? ⟨g, i, none⟩ = some (.int .u8 (x : Nat)) ∧ g < w.heap.size := by
 have hL := h.1
 rw [bytesV_len, Nat.mul_one] at hL
 have hi : i < L.length := (List.getElem?_eq_some_iff.1 hx).1
 rcases h.2 with ⟨rfl, h0⟩ | ⟨g, cap, cur, rfl, _, hg, h1, h2, h3, h4⟩
 ·omega
 ·refine ⟨g, cap, rfl, ?_, heap_lt hg⟩
  rw [cell_at hg]
  rw [Nat.mul_one] at h4
  have := congrArg (fun l => l[i]?) h4
  simp only [List.getElem?_take, Array.getElem?_toList] at this
  rw [if_pos (by omega)] at this
  rw [this]
  unfold bytesV
  rw [List.getElem?_map, hx]; rfl
def aw1 : Ut := Ut.new.out 0 65
end Go.Proofs.YtojmpdddfnkffaaGreat.Uart

/- ide: a disk, as what it holds; what its calls do to it, in plain words. -/
namespace Go.Proofs.YtojmpdddfnkffaaGreat.Ide
open Go.RowKit
set_option linter.unusedVariables false

def upd (f : Nat → Nat) (k v : Nat) : Nat → Nat := fun i => if i = k then v else f i
theorem upd_same (f : Nat → Nat) (k v : Nat) : upd f k v k = v := if_pos rfl
theorem upd_ne (f : Nat → Nat) (k v i : Nat) (h : i ≠ k) : upd f k v i = f i := if_neg h

structure Dk where
 n : Nat
 d : Nat → Nat
 r : Nat → Nat
 c : Nat
 buf : Nat → Nat
 done : Nat
 mode : Nat
 mark : Bool
 failed : Bool
 log : List Nat
structure Dk.ok (S : Dk) : Prop where
 n : S.n ≤ 64
 d : ∀ i, S.d i < 256
 r : ∀ i, S.r i < 256
 c : S.c < 256
 buf : ∀ i, S.buf i < 256
 done : S.done ≤ 512
 mode : S.mode < 4
 log : ∀ x ∈ S.log, x < 64

def Dk.room (S : Dk) : Prop := S.mode ≠ 0 → S.done < 512

def Dk.setR (S : Dk) (k v : Nat) : Dk := { S with r := upd S.r k v }
def Dk.setC (S : Dk) (v : Nat) : Dk := { S with c := v }
def Dk.setBuf (S : Dk) (k v : Nat) : Dk := { S with buf := upd S.buf k v }
def Dk.setDone (S : Dk) (v : Nat) : Dk := { S with done := v }
def Dk.setMode (S : Dk) (v : Nat) : Dk := { S with mode := v }
def Dk.setMark (S : Dk) (v : Bool) : Dk := { S with mark := v }
def Dk.setFailed (S : Dk) (v : Bool) : Dk := { S with failed := v }

def Dk.cell (S : Dk) (ds ws : Value) (i : Nat) : Value :=
 if i = 0 then ds else if i < 8 then .int .u8 (S.r (i - 1) : Nat) else if i = 8 then .int .u8 (S.c : Nat) else if i < 521 then .int .u8 (S.buf (i - 9) : Nat)
 else if i = 521 then .int .i64 (S.done : Nat) else if i = 522 then .int .i64 (S.mode : Nat) else if i = 523 then .bool S.mark else if i = 524 then .bool S.failed else ws
def Dk.cells (S : Dk) (ds ws : Value) : Array Value := Array.ofFn (n := 526) fun i => S.cell ds ws i.val

theorem ofFn_ext {n : Nat} {f g : Nat → Value} (h : ∀ i, i < n → f i = g i) : (Array.ofFn (n := n) fun i => f i.val) = Array.ofFn (n := n) fun i => g i.val := by
 congr 1; funext i; exact h i.val i.isLt
theorem ofFn_set (n : Nat) (f : Nat → Value) (k : Nat) (v : Value) :
    (Array.ofFn (n := n) fun i => f i.val).setIfInBounds k v = Array.ofFn (n := n) fun i => if i.val = k then v else f i.val := by
 apply Array.ext_getElem?
 intro j
 rw [Array.getElem?_setIfInBounds, Array.getElem?_ofFn, Array.getElem?_ofFn]
 by_cases hj : j < n
 ·rw [dif_pos hj, dif_pos hj]
  by_cases e : k = j
  ·subst e; rw [if_pos rfl, if_pos (by simpa using hj)]; simp
  ·rw [if_neg e]; show _ = some (if j = k then v else f j); rw [if_neg (fun h => e h.symm)]
 ·rw [dif_neg hj, dif_neg hj]
  by_cases e : k = j
  ·rw [if_pos e, if_neg (by simp; omega)]
  ·rw [if_neg e]
theorem Dk.at (S : Dk) (ds ws : Value) (i : Nat) (h : i < 526) : (S.cells ds ws)[i]? = some (S.cell ds ws i) := by
 unfold Dk.cells; rw [Array.getElem?_ofFn, dif_pos h]
theorem Dk.size (S : Dk) (ds ws : Value) : (S.cells ds ws).size = 526 := by unfold Dk.cells; exact Array.size_ofFn
section
variable (S : Dk) (ds ws : Value)
theorem Dk.cell_r (k : Nat) (h : k < 7) : S.cell ds ws (1 + k) = .int .u8 (S.r k : Nat) := by
 unfold Dk.cell; rw [if_neg (by omega), if_pos (by omega), Nat.add_sub_cancel_left]
theorem Dk.cell_buf (k : Nat) (h : k < 512) : S.cell ds ws (9 + k) = .int .u8 (S.buf k : Nat) := by
 unfold Dk.cell; rw [if_neg (by omega), if_neg (by omega), if_neg (by omega), if_pos (by omega), Nat.add_sub_cancel_left]
theorem Dk.put (S' : Dk) (ds' ws' : Value) (k : Nat) (v : Value) (hv : S'.cell ds' ws' k = v) (h : ∀ i, i < 526 → i ≠ k → S'.cell ds' ws' i = S.cell ds ws i) :
    (S.cells ds ws).setIfInBounds k v = S'.cells ds' ws' := by
 unfold Dk.cells
 rw [ofFn_set]
 refine ofFn_ext (f := fun i => if i = k then v else S.cell ds ws i) fun i hi => ?_
 by_cases e : i = k
 ·subst e; rw [if_pos rfl, hv]
 ·rw [if_neg e, h i hi e]
theorem Dk.put_r (k v : Nat) (x : Int) (hx : x = (v : Nat)) (hk : k < 7) : (S.cells ds ws).setIfInBounds (k + 1) (.int .u8 x) = (S.setR k v).cells ds ws := by
 subst hx
 refine Dk.put S ds ws _ _ _ _ _ ?_ fun i hi hne => ?_
 ·rw [Nat.add_comm, Dk.cell_r _ _ _ k hk]; show Value.int .u8 ((upd S.r k v k : Nat) : Int) = _; rw [upd_same]
 ·unfold Dk.cell
  by_cases h : 1 ≤ i ∧ i < 8
  ·have e : (S.setR k v).r (i - 1) = S.r (i - 1) := upd_ne _ _ _ _ (by omega)
   rw [e]; rfl
  ·by_cases h0 : i = 0
   ·rw [if_pos h0, if_pos h0]
   ·rw [if_neg h0, if_neg h0, if_neg (show ¬ i < 8 by omega), if_neg (show ¬ i < 8 by omega)]; rfl
theorem Dk.put_c (v : Nat) (x : Int) (hx : x = (v : Nat)) : (S.cells ds ws).setIfInBounds 8 (.int .u8 x) = (S.setC v).cells ds ws := by
 subst hx
 refine Dk.put S ds ws _ _ _ _ _ rfl fun i hi hne => ?_
 unfold Dk.cell; simp only [hne, if_false]; rfl
theorem Dk.put_buf (k v : Nat) (x : Int) (hx : x = (v : Nat)) (hk : k < 512) : (S.cells ds ws).setIfInBounds (k + 9) (.int .u8 x) = (S.setBuf k v).cells ds ws := by
 subst hx
 refine Dk.put S ds ws _ _ _ _ _ ?_ fun i hi hne => ?_
 ·rw [Nat.add_comm, Dk.cell_buf _ _ _ k hk]; show Value.int .u8 ((upd S.buf k v k : Nat) : Int) = _; rw [upd_same]
 ·unfold Dk.cell
  by_cases h : 9 ≤ i ∧ i < 521
  ·have e : (S.setBuf k v).buf (i - 9) = S.buf (i - 9) := upd_ne _ _ _ _ (by omega)
   rw [e]; rfl
  ·by_cases h1 : i < 9
   ·by_cases h0 : i = 0
    ·rw [if_pos h0, if_pos h0]
    ·rw [if_neg h0, if_neg h0]
     by_cases h8 : i < 8
     ·rw [if_pos h8, if_pos h8]; rfl
     ·have : i = 8 := by omega
      rw [if_neg h8, if_neg h8, if_pos this, if_pos this]; rfl
   ·rw [if_neg (show ¬ i = 0 by omega), if_neg (show ¬ i = 0 by omega), if_neg (show ¬ i < 8 by omega), if_neg (show ¬ i < 8 by omega), if_neg (show ¬ i = 8 by omega), if_neg (show ¬ i = 8 by omega), if_neg (show ¬ i < 521 by omega), if_neg (show ¬ i < 521 by omega)]; rfl
theorem Dk.put_done (v : Nat) (x : Int) (hx : x = (v : Nat)) : (S.cells ds ws).setIfInBounds 521 (.int .i64 x) = (S.setDone v).cells ds ws := by
 subst hx
 refine Dk.put S ds ws _ _ _ _ _ rfl fun i hi hne => ?_
 unfold Dk.cell; simp only [hne, if_false]; rfl
theorem Dk.put_mode (v : Nat) (x : Int) (hx : x = (v : Nat)) : (S.cells ds ws).setIfInBounds 522 (.int .i64 x) = (S.setMode v).cells ds ws := by
 subst hx
 refine Dk.put S ds ws _ _ _ _ _ rfl fun i hi hne => ?_
 unfold Dk.cell; simp only [hne, if_false]; rfl
theorem Dk.put_mark (v : Bool) : (S.cells ds ws).setIfInBounds 523 (.bool v) = (S.setMark v).cells ds ws := by
 refine Dk.put S ds ws _ _ _ _ _ rfl fun i hi hne => ?_
 unfold Dk.cell; simp only [hne, if_false]; rfl
theorem Dk.put_failed (v : Bool) : (S.cells ds ws).setIfInBounds 524 (.bool v) = (S.setFailed v).cells ds ws := by
 refine Dk.put S ds ws _ _ _ _ _ rfl fun i hi hne => ?_
 unfold Dk.cell; simp only [hne, if_false]; rfl
theorem Dk.put_log (L : List Nat) (v : Value) : (S.cells ds ws).setIfInBounds 525 v = ({ S with log := L } : Dk).cells ds v := by
 refine Dk.put S ds ws _ _ _ _ _ rfl fun i hi hne => ?_
 unfold Dk.cell
 (repeat' split) <;> first | rfl | omega
end

-- WHAT THE CALLS DO
def Dk.fresh (S : Dk) : Dk := { S with r := upd (upd (upd (upd (upd (upd (upd S.r 0 0) 1 1) 2 1) 3 1) 4 0) 5 0) 6 0, mode := 0, done := 0, mark := false, failed := false }
def Dk.place (S : Dk) : Nat := S.r 3 + S.r 4 * 256 + S.r 5 * 65536 + S.r 6 % 16 * 16777216
def Dk.fail (S : Dk) (e : Nat) : Dk := { S with r := upd S.r 1 e, failed := true, mode := 0, mark := true }
def Dk.begin (S : Dk) (m : Nat) : Dk :=
 if S.place < S.n then (if m = 1 then { S with mode := 1, done := 0, buf := fun i => S.d (S.place * 512 + i), mark := true } else { S with mode := m, done := 0 }) else S.fail 16
def Dk.other (S : Dk) : Bool := S.r 6 / 16 % 2 == 1
def Dk.clean (S : Dk) : Dk := { S with mark := false, r := upd S.r 1 0, failed := false, mode := 0 }
def tellBuf (n : Nat) : Nat → Nat := fun i => if i = 0 then 64 else if i = 99 then 2 else if i = 120 then n else 0
def Dk.command (S : Dk) (c : Nat) : Dk :=
 if S.other then S
 else if c = 32 ∨ c = 33 then (if S.r 6 / 64 % 2 = 0 then S.clean.fail 4 else S.clean.begin 1)
 else if c = 48 ∨ c = 49 then (if S.r 6 / 64 % 2 = 0 then S.clean.fail 4 else S.clean.begin 2)
 else if c = 236 then { S.clean with buf := tellBuf S.n, mode := 3, done := 0, mark := true }
 else if c = 231 ∨ c = 145 then { S.clean with mark := true }
 else S.clean.fail 4
def Dk.step (S : Dk) : Dk :=
 {S with r := upd (upd (upd (upd (upd S.r 3 ((S.place + 1) % 256)) 4 ((S.place + 1) / 256 % 256)) 5 ((S.place + 1) / 65536 % 256)) 6 (S.r 6 / 16 * 16 + (S.place + 1) / 16777216 % 16)) 2 ((S.r 2 + 255) % 256), mode := 0 }
def Dk.next (S : Dk) : Dk := if S.step.r 2 = 0 then S.step else S.step.begin S.mode
def laid (d f : Nat → Nat) (o : Nat) : Nat → Nat := fun i => if o ≤ i ∧ i < o + 512 then f (i - o) else d i
def Dk.flushAt (S : Dk) (o : Nat) : Dk := { S with d := laid S.d S.buf o }
def Dk.logAt (S : Dk) (p : Nat) : Dk := { S with log := S.log ++ [p] }
def Dk.write (S : Dk) : Dk := (S.flushAt (S.place * 512)).logAt S.place
def Dk.put1 (S : Dk) (b : Nat) : Dk := { S with buf := upd S.buf S.done b, done := S.done + 1 }
def Dk.putB (S : Dk) (b : Nat) : Dk :=
 if S.mode = 2 then (if S.done + 1 < 512 then S.put1 b else if S.place < S.n then { (S.put1 b).write.next with mark := true } else (S.put1 b).fail 16) else S
def Dk.gets (S : Dk) : Nat := if S.mode = 1 ∨ S.mode = 3 then S.buf S.done else 255
def Dk.getB (S : Dk) : Dk :=
 if S.mode = 1 ∨ S.mode = 3 then (if S.done + 1 < 512 then { S with done := S.done + 1 } else if S.mode = 3 then { S with done := S.done + 1, mode := 0 } else ({ S with done := S.done + 1 } : Dk).next) else S
end Go.Proofs.YtojmpdddfnkffaaGreat.Ide

/- ide: the disk as an object; its small functions. -/
namespace Go.Proofs.YtojmpdddfnkffaaGreat.Ide
open Go.RowKit
set_option linter.unusedVariables false

def bytesL (n : Nat) (d : Nat → Nat) : List Value := (List.range n).map fun i => .int .u8 (d i : Nat)
theorem bytesL_len (n : Nat) (d : Nat → Nat) : (bytesL n d).length = n := by unfold bytesL; simp
theorem bytesL_at (n : Nat) (d : Nat → Nat) (i : Nat) (h : i < n) : (bytesL n d)[i]? = some (.int .u8 (d i : Nat)) := by unfold bytesL; simp [h]
theorem bytesL_no (n : Nat) (d : Nat → Nat) (i : Nat) (h : n ≤ i) : (bytesL n d)[i]? = none := by rw [List.getElem?_eq_none]; rw [bytesL_len]; exact h
theorem bytesL_one (n : Nat) (d : Nat → Nat) : ∀ v ∈ bytesL n d, v.oneCell' = true := by
 intro v hv
 unfold bytesL at hv
 obtain ⟨j, _, rfl⟩ := List.mem_map.1 hv
 rfl
theorem bytesL_some {n : Nat} {d : Nat → Nat} {j : Nat} {v : Value} (h : (bytesL n d)[j]? = some v) : j < n ∧ v = .int .u8 (d j : Nat) := by
 have hj : j < n := by have := (List.getElem?_eq_some_iff.1 h).1; rwa [bytesL_len] at this
 rw [bytesL_at n d j hj] at h
 exact ⟨hj, (Option.some.inj h).symm⟩
def Bytes (w : World) (ds : Value) (n : Nat) (d : Nat → Nat) : Prop := w.ownsRow 0 5 1 ds (n * 512) (bytesL (n * 512) d)
structure IdeIn (T : TypeId) (w : World) (b : Nat) (ds lv : Value) (D : Dk) : Prop where
 obj : w.heap[b]? = some (.cells (D.cells ds lv) T)
 disk : Bytes w ds D.n D.d
 log : w.ownsRow 0 3 1 lv D.log.length (D.log.map fun p => Value.int .i64 (p : Nat))
 d1 : ds.ownBlock ≠ some b
 d2 : lv.ownBlock ≠ some b
 d3 : ∀ k, ds.ownBlock = some k → lv.ownBlock ≠ some k
 ok : D.ok
def Held (b : Nat) (ds lv : Value) (k : Nat) : Prop := k = b ∨ ds.ownBlock = some k ∨ lv.ownBlock = some k
def Ide (T : TypeId) (w : World) (b : Nat) (S : Nat → Prop) (D : Dk) : Prop := ∃ ds lv, IdeIn T w b ds lv D ∧ ∀ k, S k ↔ Held b ds lv k

section
variable {T : TypeId} {w w' : World} {b : Nat} {ds lv : Value} {D : Dk}
theorem row_of_heap {B : Nat} {E : TypeId} {s n : Nat} {v : Value} {xs : List Value} (h : w.ownsRow B E s v n xs) (hh : ∀ k, v.ownBlock = some k → w'.heap[k]? = w.heap[k]?) : w'.ownsRow B E s v n xs := by
 refine ⟨h.1, ?_⟩
 rcases h.2 with h2 | ⟨g, cap, cur, rfl, hb, hg, r⟩
 ·exact .inl h2
 ·exact .inr ⟨g, cap, cur, rfl, hb, by rw [hh g rfl]; exact hg, r⟩
theorem row_base {B : Nat} {E : TypeId} {s n : Nat} {v : Value} {xs : List Value} (h : w.ownsRow B E s v n xs) : w.ownsRow 0 E s v n xs := by
 refine ⟨h.1, ?_⟩
 rcases h.2 with h2 | ⟨g, cap, cur, rfl, hb, r⟩
 ·exact .inl h2
 ·exact .inr ⟨g, cap, cur, rfl, Nat.zero_le _, r⟩
theorem Bytes.lt {n : Nat} {d : Nat → Nat} (h : Bytes w ds n d) {k : Nat} (hk : ds.ownBlock = some k) : k < w.heap.size := (World.ownsRow.lt h k hk).2
theorem Bytes.of_heap {n : Nat} {d : Nat → Nat} (h : Bytes w ds n d) (hh : ∀ k, ds.ownBlock = some k → w'.heap[k]? = w.heap[k]?) : Bytes w' ds n d := row_of_heap h hh
theorem Bytes.open {n : Nat} {d : Nat → Nat} (h : Bytes w ds n d) (h0 : 0 < n) : ∃ g cap cur, ds = .slice (some ⟨g, 0, none⟩) (n * 512) cap ∧ w.heap[g]? = some (.cells cur 5) ∧ n * 512 ≤ cap ∧ cap ≤ 9223372036854775807 ∧ cur.size = cap ∧ cur.toList.take (n * 512) = bytesL (n * 512) d := by
 rcases h.2 with ⟨_, h2⟩ | ⟨g, cap, cur, rfl, _, hg, h1, h2, h3, h4⟩
 ·omega
 ·unfold maxLen at h2
  exact ⟨g, cap, cur, rfl, hg, h1, h2, by omega, by simpa using h4⟩
theorem Bytes.len {n : Nat} {d : Nat → Nat} (h : Bytes w ds n d) : ∃ a cap, ds = .slice a (n * 512) cap := by
 rcases h.2 with ⟨h1, h2⟩ | ⟨g, cap, cur, rfl, _⟩
 ·exact ⟨none, 0, by rw [h1, h2]⟩
 ·exact ⟨_, _, rfl⟩
theorem take_at {cur : Array Value} {m : Nat} {d : Nat → Nat} (h : cur.toList.take m = bytesL m d) {i : Nat} (hi : i < m) : cur[i]? = some (.int .u8 (d i : Nat)) := by
 have e : cur.toList[i]? = (bytesL m d)[i]? := by rw [← h, List.getElem?_take_of_lt hi]
 rw [bytesL_at m d i hi] at e
 simpa using e
theorem Held.lt (H : IdeIn T w b ds lv D) {k : Nat} (h : Held b ds lv k) : k < w.heap.size := by
 rcases h with rfl | h | h
 ·exact heap_lt H.obj
 ·exact H.disk.lt h
 ·exact (H.log.lt k h).2
theorem IdeIn.of_heap (H : IdeIn T w b ds lv D) (h : ∀ k, Held b ds lv k → w'.heap[k]? = w.heap[k]?) : IdeIn T w' b ds lv D :=
 {H with
  obj := by rw [h b (.inl rfl)]; exact H.obj
  disk := H.disk.of_heap fun k hk => h k (.inr (.inl hk))
  log := row_of_heap H.log fun k hk => h k (.inr (.inr hk)) }
theorem IdeIn.keeps {S : Nat → Prop} (H : IdeIn T w b ds lv D) (hk : Keeps S w w') (hn : ∀ k, Held b ds lv k → ¬ S k) : IdeIn T w' b ds lv D := H.of_heap fun k h => hk.block k (h.lt H) (hn k h)
theorem IdeIn.drewN (H : IdeIn T w b ds lv D) (n : Nat) : IdeIn T (w.drewN n) b ds lv D := H.of_heap fun _ _ => rfl
theorem IdeIn.turn (H : IdeIn T w b ds lv D) {D' : Dk} (ho : w'.heap[b]? = some (.cells (D'.cells ds lv) T)) (hk : Keeps (· = b) w w') (ok : D'.ok) (h1 : D'.n = D.n) (h2 : D'.d = D.d) (h3 : D'.log = D.log) : IdeIn T w' b ds lv D' where
 obj := ho
 disk := by rw [h1, h2]; exact H.disk.of_heap fun k hk' => hk.block k (H.disk.lt hk') (fun e => H.d1 (by rw [← e]; exact hk'))
 log := by rw [h3]; exact row_of_heap H.log fun k hk' => hk.block k (H.log.lt k hk').2 (fun e => H.d2 (by rw [← e]; exact hk'))
 d1 := H.d1
 d2 := H.d2
 d3 := H.d3
 ok := ok
theorem IdeIn.cell (H : IdeIn T w b ds lv D) (i : Nat) (h : i < 526) : w.cell? ⟨b, i, none⟩ = some (D.cell ds lv i) := by rw [cell_at H.obj, D.at ds lv i h]
theorem IdeIn.reg (H : IdeIn T w b ds lv D) (k : Nat) (h : k < 7) : w.cell? ⟨b, 1 + k, none⟩ = some (.int .u8 (D.r k : Nat)) := by rw [H.cell _ (by omega), D.cell_r _ _ k h]
theorem IdeIn.buf (H : IdeIn T w b ds lv D) (k : Nat) (h : k < 512) : w.cell? ⟨b, 9 + k, none⟩ = some (.int .u8 (D.buf k : Nat)) := by rw [H.cell _ (by omega), D.cell_buf _ _ k h]
theorem IdeIn.facts (H : IdeIn T w b ds lv D) :
    w.cell? ⟨b, 0, none⟩ = some ds ∧ w.cell? ⟨b, 1, none⟩ = some (.int .u8 (D.r 0 : Nat)) ∧ w.cell? ⟨b, 2, none⟩ = some (.int .u8 (D.r 1 : Nat)) ∧ w.cell? ⟨b, 3, none⟩ = some (.int .u8 (D.r 2 : Nat)) ∧
    w.cell? ⟨b, 4, none⟩ = some (.int .u8 (D.r 3 : Nat)) ∧ w.cell? ⟨b, 5, none⟩ = some (.int .u8 (D.r 4 : Nat)) ∧ w.cell? ⟨b, 6, none⟩ = some (.int .u8 (D.r 5 : Nat)) ∧ w.cell? ⟨b, 7, none⟩ = some (.int .u8 (D.r 6 : Nat)) ∧
    w.cell? ⟨b, 8, none⟩ = some (.int .u8 (D.c : Nat)) ∧ w.cell? ⟨b, 521, none⟩ = some (.int .i64 (D.done : Nat)) ∧ w.cell? ⟨b, 522, none⟩ = some (.int .i64 (D.mode : Nat)) ∧
    w.cell? ⟨b, 523, none⟩ = some (.bool D.mark) ∧ w.cell? ⟨b, 524, none⟩ = some (.bool D.failed) ∧ w.cell? ⟨b, 525, none⟩ = some lv ∧ (∀ k, w.frozen? ⟨b, k, none⟩ = false) ∧ b < w.heap.size :=
 ⟨H.cell 0 (by decide), H.reg 0 (by decide), H.reg 1 (by decide), H.reg 2 (by decide), H.reg 3 (by decide), H.reg 4 (by decide), H.reg 5 (by decide), H.reg 6 (by decide), H.cell 8 (by decide), H.cell 521 (by decide), H.cell 522 (by decide),
  H.cell 523 (by decide), H.cell 524 (by decide), H.cell 525 (by decide), fun k => free_at H.obj, heap_lt H.obj⟩
end

def Blk (T : TypeId) (w : World) (b : Nat) (ds lv : Value) (D : Dk) : Prop := w.heap[b]? = some (.cells (D.cells ds lv) T)
section
variable {T : TypeId} {w : World} {b : Nat} {ds lv : Value} {D : Dk}
theorem Blk.reg (h : Blk T w b ds lv D) (k v : Nat) (x : Int) (hx : x = (v : Nat)) (hk : k < 7) : Blk T (w.setCell ⟨b, k + 1, none⟩ (.int .u8 x)) b ds lv (D.setR k v) := by
 unfold Blk at h ⊢; rw [heap_set_same _ h, D.put_r ds lv k v x hx hk]
theorem Blk.ctl (h : Blk T w b ds lv D) (v : Nat) (x : Int) (hx : x = (v : Nat)) : Blk T (w.setCell ⟨b, 8, none⟩ (.int .u8 x)) b ds lv (D.setC v) := by
 unfold Blk at h ⊢; rw [heap_set_same _ h, D.put_c ds lv v x hx]
theorem Blk.buf (h : Blk T w b ds lv D) (k v : Nat) (x : Int) (hx : x = (v : Nat)) (hk : k < 512) : Blk T (w.setCell ⟨b, 9 + k, none⟩ (.int .u8 x)) b ds lv (D.setBuf k v) := by
 unfold Blk at h ⊢; rw [heap_set_same _ h, Nat.add_comm 9 k, D.put_buf ds lv k v x hx hk]
theorem Blk.done (h : Blk T w b ds lv D) (v : Nat) (x : Int) (hx : x = (v : Nat)) : Blk T (w.setCell ⟨b, 521, none⟩ (.int .i64 x)) b ds lv (D.setDone v) := by
 unfold Blk at h ⊢; rw [heap_set_same _ h, D.put_done ds lv v x hx]
theorem Blk.mode (h : Blk T w b ds lv D) (v : Nat) (x : Int) (hx : x = (v : Nat)) : Blk T (w.setCell ⟨b, 522, none⟩ (.int .i64 x)) b ds lv (D.setMode v) := by
 unfold Blk at h ⊢; rw [heap_set_same _ h, D.put_mode ds lv v x hx]
theorem Blk.mark (h : Blk T w b ds lv D) (v : Bool) : Blk T (w.setCell ⟨b, 523, none⟩ (.bool v)) b ds lv (D.setMark v) := by
 unfold Blk at h ⊢; rw [heap_set_same _ h, D.put_mark ds lv v]
theorem Blk.failed (h : Blk T w b ds lv D) (v : Bool) : Blk T (w.setCell ⟨b, 524, none⟩ (.bool v)) b ds lv (D.setFailed v) := by
 unfold Blk at h ⊢; rw [heap_set_same _ h, D.put_failed ds lv v]
end

theorem Blk.of {T : TypeId} {w : World} {b : Nat} {ds lv : Value} {D : Dk} (H : IdeIn T w b ds lv D) : Blk T w b ds lv D := H.obj
theorem turned {T : TypeId} {w w' : World} {b : Nat} {ds lv : Value} {D D' : Dk} (H : IdeIn T w b ds lv D) (ho : Blk T w' b ds lv D') (hk : Keeps (· = b) w w') (ok : D'.ok) (h1 : D'.n = D.n) (h2 : D'.d = D.d) (h3 : D'.log = D.log) :
    IdeIn T w' b ds lv D' ∧ Keeps (· = b) w w' := ⟨H.turn ho hk ok h1 h2 h3, hk⟩
theorem upd_lt {f : Nat → Nat} {B : Nat} (h : ∀ i, f i < B) (k v : Nat) (hv : v < B) : ∀ i, upd f k v i < B := fun i => by
 unfold upd; split
 ·exact hv
 ·exact h i
theorem Dk.fail_ok {S : Dk} (h : S.ok) (e : Nat) (he : e < 256) : (S.fail e).ok :=
 {h with r := upd_lt h.r 1 e he, mode := (by show (0 : Nat) < 4; decide) }

theorem Blk.cell {T : TypeId} {w : World} {b : Nat} {ds lv : Value} {D : Dk} (H : Blk T w b ds lv D) (i : Nat) (h : i < 526) : w.cell? ⟨b, i, none⟩ = some (D.cell ds lv i) := by rw [cell_at H, D.at ds lv i h]
theorem Blk.rcell {T : TypeId} {w : World} {b : Nat} {ds lv : Value} {D : Dk} (H : Blk T w b ds lv D) (k : Nat) (h : k < 7) : w.cell? ⟨b, 1 + k, none⟩ = some (.int .u8 (D.r k : Nat)) := by rw [H.cell _ (by omega), D.cell_r _ _ k h]
theorem Blk.bcell {T : TypeId} {w : World} {b : Nat} {ds lv : Value} {D : Dk} (H : Blk T w b ds lv D) (k : Nat) (h : k < 512) : w.cell? ⟨b, 9 + k, none⟩ = some (.int .u8 (D.buf k : Nat)) := by rw [H.cell _ (by omega), D.cell_buf _ _ k h]
theorem Blk.facts {T : TypeId} {w : World} {b : Nat} {ds lv : Value} {D : Dk} (H : Blk T w b ds lv D) :
    w.cell? ⟨b, 0, none⟩ = some ds ∧ w.cell? ⟨b, 1, none⟩ = some (.int .u8 (D.r 0 : Nat)) ∧ w.cell? ⟨b, 2, none⟩ = some (.int .u8 (D.r 1 : Nat)) ∧ w.cell? ⟨b, 3, none⟩ = some (.int .u8 (D.r 2 : Nat)) ∧
    w.cell? ⟨b, 4, none⟩ = some (.int .u8 (D.r 3 : Nat)) ∧ w.cell? ⟨b, 5, none⟩ = some (.int .u8 (D.r 4 : Nat)) ∧ w.cell? ⟨b, 6, none⟩ = some (.int .u8 (D.r 5 : Nat)) ∧ w.cell? ⟨b, 7, none⟩ = some (.int .u8 (D.r 6 : Nat)) ∧
    w.cell? ⟨b, 8, none⟩ = some (.int .u8 (D.c : Nat)) ∧ w.cell? ⟨b, 521, none⟩ = some (.int .i64 (D.done : Nat)) ∧ w.cell? ⟨b, 522, none⟩ = some (.int .i64 (D.mode : Nat)) ∧
    w.cell? ⟨b, 523, none⟩ = some (.bool D.mark) ∧ w.cell? ⟨b, 524, none⟩ = some (.bool D.failed) ∧ w.cell? ⟨b, 525, none⟩ = some lv ∧ (∀ k, w.frozen? ⟨b, k, none⟩ = false) ∧ b < w.heap.size :=
 ⟨H.cell 0 (by decide), H.rcell 0 (by decide), H.rcell 1 (by decide), H.rcell 2 (by decide), H.rcell 3 (by decide), H.rcell 4 (by decide), H.rcell 5 (by decide), H.rcell 6 (by decide), H.cell 8 (by decide), H.cell 521 (by decide), H.cell 522 (by decide),
  H.cell 523 (by decide), H.cell 524 (by decide), H.cell 525 (by decide), fun k => free_at H, heap_lt H⟩
theorem Blk.drewN {T : TypeId} {w : World} {b : Nat} {ds lv : Value} {D : Dk} (H : Blk T w b ds lv D) (n : Nat) : Blk T (w.drewN n) b ds lv D := H

-- BITS
theorem wraps_i64 (n : Int) (h0 : 0 ≤ n) (h1 : n < 2 ^ 62) : IntKind.i64.wrap n = n := by rw [IntKind.wrap_i64]; omega
theorem or_i64 (x y : Int) (i : Nat) (h0 : 0 ≤ x) (h1 : x < 2 ^ i) (h2 : x < 2 ^ 62) (h3 : 0 ≤ y) (h4 : y % 2 ^ i = 0) (h5 : y < 2 ^ 62) : bits .or .i64 x y = x + y := by
 have hc : bits .or .i64 x y = bits .or .i64 y x := by simp only [bits, BitVec.or_comm]
 rw [hc, bits_join .i64 62 (by decide) wraps_i64 i y x h3 h4 h5 h0 h1 h2, Int.add_comm]
theorem place_bits (a b c d : Nat) (ha : a < 256) (hb : b < 256) (hc : c < 256) (hd : d < 256) :
    bits .or .i64 (bits .or .i64 (bits .or .i64 (a : Int) ((b : Int) * 256)) ((c : Int) * 65536)) ((d : Int) % 16 * 16777216) = ((a + b * 256 + c * 65536 + d % 16 * 16777216 : Nat) : Int) := by
 rw [or_i64 _ ((b : Int) * 256) 8 (by omega) (by simp only [Int.reducePow]; omega) (by simp only [Int.reducePow]; omega) (by omega) (by simp only [Int.reducePow]; omega) (by simp only [Int.reducePow]; omega),
  or_i64 _ ((c : Int) * 65536) 16 (by omega) (by simp only [Int.reducePow]; omega) (by simp only [Int.reducePow]; omega) (by omega) (by simp only [Int.reducePow]; omega) (by simp only [Int.reducePow]; omega),
  or_i64 _ ((d : Int) % 16 * 16777216) 24 (by omega) (by simp only [Int.reducePow]; omega) (by simp only [Int.reducePow]; omega) (by omega) (by simp only [Int.reducePow]; omega) (by simp only [Int.reducePow]; omega)]
 omega
theorem and_bit_u8 : ∀ x : Fin 256, (x.val &&& 16 != 0) = (x.val / 16 % 2 == 1) ∧ (x.val &&& 64 == 0) = (x.val / 64 % 2 == 0) ∧ (x.val &&& 2 == 0) = (x.val / 2 % 2 == 0) := by decide +kernel
theorem other_bits (x : Nat) (h : x < 256) : (bits .and .u8 (x : Int) 16 != 0) = (x / 16 % 2 == 1) := by
 have e : bits .and .u8 (x : Int) 16 = ((x &&& 16 : Nat) : Int) := u8_and_nat x 16 h (by decide)
 rw [e, ← (and_bit_u8 ⟨x, h⟩).1, Bool.eq_iff_iff]; simp
theorem meant_bits (x : Nat) (h : x < 256) : (bits .and .u8 (x : Int) 64 == 0) = (x / 64 % 2 == 0) := by
 have e : bits .and .u8 (x : Int) 64 = ((x &&& 64 : Nat) : Int) := u8_and_nat x 64 h (by decide)
 rw [e, ← (and_bit_u8 ⟨x, h⟩).2.1, Bool.eq_iff_iff]; simp; try omega
theorem quiet_bits (x : Nat) (h : x < 256) : (bits .and .u8 (x : Int) 2 == 0) = (x / 2 % 2 == 0) := by
 have e : bits .and .u8 (x : Int) 2 = ((x &&& 2 : Nat) : Int) := u8_and_nat x 2 h (by decide)
 rw [e, ← (and_bit_u8 ⟨x, h⟩).2.2, Bool.eq_iff_iff]; simp; try omega

theorem other_in {w : World} {b : Nat} {ds lv : Value} {D : Dk} (H : IdeIn 115 w b ds lv D) :
    Calls Tryz.prog 95 #[.pointer (some ⟨b, 0, none⟩)] w fun e w' => e = .returned (.bool D.other) ∧ w = w' := by
 obtain ⟨-, -, -, -, -, -, -, k7, -⟩ := H.facts
 have hb := other_bits (D.r 6) (H.ok.r 6)
 go_enter Tryz.func95, Tryz.ntmps95
 go_wp2_with fail
 go_ret
 exact ⟨rfl, rfl⟩
theorem place_in {w : World} {b : Nat} {ds lv : Value} {D : Dk} (H : IdeIn 115 w b ds lv D) :
    Calls Tryz.prog 126 #[.pointer (some ⟨b, 0, none⟩)] w fun e w' => e = .returned (.int .i64 (D.place : Nat)) ∧ ∃ n, w' = w.drewN n := by
 obtain ⟨-, -, -, -, k4, k5, k6, k7, -⟩ := H.facts
 have h3 := H.ok.r 3
 have h4 := H.ok.r 4
 have h5 := H.ok.r 5
 have h6 := H.ok.r 6
 have HP := Lib.hid (place_bits (D.r 3) (D.r 4) (D.r 5) (D.r 6) h3 h4 h5 h6)
 go_enter Tryz.func126, Tryz.ntmps126
 go_wp2_with fail
 go_quiet (fail)
 go_wp2_with fail
 go_ret
 exact ⟨by rw [HP.out]; rfl, _, rfl⟩
theorem fail_in {w : World} {b : Nat} {ds lv : Value} {D : Dk} (H : IdeIn 115 w b ds lv D) (x : Nat) (hx : x < 256) :
    Calls Tryz.prog 125 #[.pointer (some ⟨b, 0, none⟩), .int .u8 x] w fun e w' => e = .returned (.tuple #[]) ∧ IdeIn 115 w' b ds lv (D.fail x) ∧ Keeps (· = b) w w' := by
 obtain ⟨-, -, k2, -, -, -, -, -, -, -, k10, k11, k12, -, kf, klt⟩ := H.facts
 have HH := Lib.hid H
 clear H
 go_enter Tryz.func125, Tryz.ntmps125
 go_wp2_with fail
 go_end0
 refine ⟨rfl, turned HH.out (Blk.mark (Blk.mode (Blk.failed (Blk.reg (Blk.of HH.out) 1 x _ rfl (by decide)) true) 0 _ rfl) true) ?_ (Dk.fail_ok HH.out.ok x hx) rfl rfl rfl⟩
 (repeat' (first | (with_reducible exact Keeps.refl _ _) | (with_reducible refine Keeps.setOne ?_ _ _)))
end Go.Proofs.YtojmpdddfnkffaaGreat.Ide

/- ide: slices of bytes are cloned; a disk is made. -/
namespace Go.Proofs.YtojmpdddfnkffaaGreat.Ide
open Go.RowKit
set_option linter.unusedVariables false

def Reads (w : World) (v : Value) (n : Nat) (d : Nat → Nat) : Prop :=
 ∃ a c, v = .slice a n c ∧ ((n = 0 ∧ (a = none → c = 0)) ∨ ∃ b off, a = some ⟨b, off, none⟩ ∧ b < w.heap.size ∧ ∀ i, i < n → w.cell? ⟨b, off + i, none⟩ = some (.int .u8 (d i : Nat)))
theorem info8 : (Tryz.prog.info? 5).map (fun i => (i.zero, i.size, i.bytes)) = some (some (.int .u8 0), 1, 1) := by kernel_rfl

theorem clone_some (w : World) (ad : Addr) (n c : Nat) (d : Nat → Nat) (hn : n ≤ 140737488355328) (hc : ∀ i, i < n → w.cell? (ad.add i) = some (.int .u8 (d i : Nat))) :
    Calls Tryz.prog 66 #[.slice (some ad) n c] w fun e w' => ∃ v, e = .returned v ∧ w'.ownsRow w.heap.size 5 1 v n (bytesL n d) ∧ Below w.heap.size w w' := by
 obtain ⟨i0, hi, hz0, hz1, hz2⟩ := info_parts info8
 have hnil : ∀ w, (binOp .eql 22 (.slice (some ad) n c) (.slice none 0 0)).run Tryz.prog w = .ok (.bool false) w := fun w => Lib.run_eql_slice_nil w _ _ _ _ _ _ _ Tryz.underlying22
 have hown : (w.alloc (.cells #[] 5)).ownsRow w.heap.size 5 1 (.slice (some ⟨w.heap.size, 0, none⟩) 0 0) 0 [] := World.ownsRow_made w #[] 0 (Nat.le_refl _) (by decide) (by simp)
 have hnews : ∀ j u, (bytesL n d)[j]? = some u → (w.alloc (.cells #[] 5)).cell? (ad.add j) = some u := fun j u h => by
  obtain ⟨hj, rfl⟩ := bytesL_some h
  rw [World.cell?_alloc_lt _ _ _ (World.block_lt_of_cell? w _ (hc j hj))]
  exact hc j hj
 have HN := Lib.hid hnews
 clear hnews hc
 go_enter Tryz.func66, Tryz.ntmps66
 go_wp2_with (at_builtin; refine wpList_append_own _ rfl _ _ 22 rfl w.heap.size 5 i0 (.int .u8 0) 1 1 Tryz.underlying22 hi hz0 hz1 hz2 rfl (by decide) _ 0 [] rfl hown ad n c (bytesL n d) rfl (by rw [bytesL_len]; omega) HN.out (bytesL_one n d) (by unfold maxLen; omega) (by omega) (by simp) ?_; intro v' w1 hown1 hgrow1 _)
 go_ret
 simp only [Nat.zero_add, List.nil_append] at hown1
 have hg : (w.alloc (.cells #[] 5)).grownBy w1 (some w.heap.size) := hgrow1
 exact ⟨_, rfl, hown1, ((Below.refl _ _).alloc (Nat.le_refl _) _).grown hg (by simp) (by intro k hk; cases hk; exact Nat.le_refl _)⟩
theorem clone_nil (w : World) : Calls Tryz.prog 66 #[.slice none 0 0] w fun e w' => e = .returned (.slice none 0 0) ∧ w = w' := by
 have hnil : ∀ w, (binOp .eql 22 (.slice none 0 0) (.slice none 0 0)).run Tryz.prog w = .ok (.bool true) w := fun w => Lib.run_eql_slice_nil w _ _ _ _ _ _ _ Tryz.underlying22
 go_enter Tryz.func66, Tryz.ntmps66
 go_wp2_with fail
 go_ret
 exact ⟨rfl, rfl⟩
theorem clone_any {w : World} {v : Value} {n : Nat} {d : Nat → Nat} (H : Reads w v n d) (hn : n ≤ 140737488355328) :
    Calls Tryz.prog 66 #[v] w fun e w' => ∃ v', e = .returned v' ∧ w'.ownsRow w.heap.size 5 1 v' n (bytesL n d) ∧ Below w.heap.size w w' := by
 obtain ⟨a, c, rfl, h⟩ := H
 cases a with
 | none =>
  rcases h with ⟨rfl, h⟩ | ⟨b, off, h, _⟩
  ·rw [h rfl]
   refine (clone_nil w).mono ?_
   rintro e w' ⟨rfl, rfl⟩
   exact ⟨_, rfl, World.ownsRow_nil _ _ _ _, Below.refl _ _⟩
  ·cases h
 | some a =>
  rcases h with ⟨rfl, h⟩ | ⟨b, off, h, _, hc⟩
  ·exact clone_some w a 0 c d hn (fun i hi => by omega)
  ·cases h
   exact clone_some w ⟨b, off, none⟩ n c d hn (fun i hi => by rw [Go.WideShapes.add_plain]; exact hc i hi)
end Go.Proofs.YtojmpdddfnkffaaGreat.Ide

/- ide: reset, Line, check, a sector, begin. -/
namespace Go.Proofs.YtojmpdddfnkffaaGreat.Ide
open Go.RowKit
set_option linter.unusedVariables false

theorem Dk.fresh_ok {S : Dk} (h : S.ok) : S.fresh.ok :=
 {h with r := (by unfold Dk.fresh; repeat (first | exact h.r | (refine upd_lt ?_ _ _ (by decide)))), done := (by show (0 : Nat) ≤ 512; decide), mode := (by show (0 : Nat) < 4; decide) }
theorem Dk.fresh_eq (S : Dk) : S.fresh = (((((((((((S.setR 0 0).setR 1 1).setR 2 1).setR 3 1).setR 4 0).setR 5 0).setR 6 0).setMode 0).setDone 0).setMark false).setFailed false) := by
 simp only [Dk.setR, Dk.setMode, Dk.setDone, Dk.setMark, Dk.setFailed, Dk.fresh]
theorem reset_in {w : World} {b : Nat} {ds lv : Value} {D : Dk} (H : IdeIn 115 w b ds lv D) :
    Calls Tryz.prog 67 #[.pointer (some ⟨b, 0, none⟩)] w fun e w' => e = .returned (.tuple #[]) ∧ IdeIn 115 w' b ds lv D.fresh ∧ Keeps (· = b) w w' := by
 obtain ⟨-, k1, k2, k3, k4, k5, k6, k7, -, k9, k10, k11, k12, -, kf, klt⟩ := H.facts
 have HH := Lib.hid H
 clear H
 go_enter Tryz.func67, Tryz.ntmps67
 go_wp2_with fail
 go_end0
 have B1 := Blk.reg (Blk.of HH.out) 0 0 0 rfl (by decide)
 have B2 := Blk.reg B1 1 1 1 rfl (by decide)
 have B3 := Blk.reg B2 2 1 1 rfl (by decide)
 have B4 := Blk.reg B3 3 1 1 rfl (by decide)
 have B5 := Blk.reg B4 4 0 0 rfl (by decide)
 have B6 := Blk.reg B5 5 0 0 rfl (by decide)
 have B7 := Blk.reg B6 6 0 0 rfl (by decide)
 have B8 := Blk.failed (Blk.mark (Blk.done (Blk.mode B7 0 0 rfl) 0 0 rfl) false) false
 rw [← Dk.fresh_eq] at B8
 refine ⟨rfl, turned HH.out B8 ?_ (Dk.fresh_ok HH.out.ok) rfl rfl rfl⟩
 (repeat' (first | (with_reducible exact Keeps.refl _ _) | (with_reducible refine Keeps.setOne ?_ _ _)))
def Dk.line (S : Dk) : Bool := S.mark && (S.c / 2 % 2 == 0)
theorem line_in {w : World} {b : Nat} {ds lv : Value} {D : Dk} (H : IdeIn 115 w b ds lv D) :
    Calls Tryz.prog 77 #[.pointer (some ⟨b, 0, none⟩)] w fun e w' => e = .returned (.bool D.line) ∧ w = w' := by
 obtain ⟨-, -, -, -, -, -, -, -, k8, -, -, k11, -⟩ := H.facts
 have hb := quiet_bits D.c H.ok.c
 cases hm : D.mark
 all_goals
  rw [hm] at k11
  have HM := Lib.hid hm
  clear hm
  go_enter Tryz.func77, Tryz.ntmps77
  go_wp2_with fail
  go_ret
  exact ⟨by unfold Dk.line; rw [HM.out]; rfl, rfl⟩
def callErr (reg size : Int) : Int := if reg < 0 ∨ 8 < reg then 1 else if reg = 0 ∧ size ≠ 1 ∧ size ≠ 2 ∧ size ≠ 4 then 2 else 0
theorem check_in {w : World} {b : Nat} (reg size : Int) :
    Calls Tryz.prog 94 #[.pointer (some ⟨b, 0, none⟩), .int .i64 reg, .int .i64 size] w fun e w' => e = .returned (.int .i64 (callErr reg size)) ∧ w = w' := by
 unfold callErr
 by_cases h0 : reg < 0
 ·rw [if_pos (.inl h0)]
  go_enter Tryz.func94, Tryz.ntmps94
  go_wp2_with fail
  go_ret
  exact ⟨rfl, rfl⟩
 ·by_cases h8 : 8 < reg
  ·rw [if_pos (.inr h8)]
   go_enter Tryz.func94, Tryz.ntmps94
   go_wp2_with fail
   go_ret
   exact ⟨rfl, rfl⟩
  ·rw [if_neg (by omega)]
   by_cases hr : reg = 0
   ·subst hr
    by_cases h1 : size = 1
    ·subst h1
     rw [if_neg (by decide)]
     go_enter Tryz.func94, Tryz.ntmps94
     go_wp2_with fail
     go_ret
     exact ⟨rfl, rfl⟩
    ·by_cases h2 : size = 2
     ·subst h2
      rw [if_neg (by decide)]
      go_enter Tryz.func94, Tryz.ntmps94
      go_wp2_with fail
      go_ret
      exact ⟨rfl, rfl⟩
     ·by_cases h4 : size = 4
      ·subst h4
       rw [if_neg (by decide)]
       go_enter Tryz.func94, Tryz.ntmps94
       go_wp2_with fail
       go_ret
       exact ⟨rfl, rfl⟩
      ·rw [if_pos ⟨rfl, h1, h2, h4⟩]
       have g1 : (size != 1) = true := by simpa using h1
       have g2 : (size != 2) = true := by simpa using h2
       have g4 : (size != 4) = true := by simpa using h4
       clear h1 h2 h4
       go_enter Tryz.func94, Tryz.ntmps94
       go_wp2_with fail
       go_ret
       exact ⟨rfl, rfl⟩
   ·rw [if_neg (fun h => hr h.1)]
    have g1 : (reg == 0) = false := by simpa using hr
    clear hr
    go_enter Tryz.func94, Tryz.ntmps94
    go_wp2_with fail
    go_ret
    exact ⟨rfl, rfl⟩
theorem Dk.place_lt {S : Dk} (h : S.ok) : S.place < 268435456 := by
 have h3 := h.r 3
 have h4 := h.r 4
 have h5 := h.r 5
 unfold Dk.place; omega
theorem sector_no {w : World} {b : Nat} {ds lv : Value} {D : Dk} (H : IdeIn 115 w b ds lv D) (hp : ¬ D.place < D.n) :
    Calls Tryz.prog 124 #[.pointer (some ⟨b, 0, none⟩)] w fun e w' => e = .returned (.slice none 0 0) ∧ ∃ n, w' = w.drewN n := by
 have HP := Lib.hid (place_in H)
 have hlt := Dk.place_lt H.ok
 obtain ⟨a, cap, hds⟩ := H.disk.len
 obtain ⟨k0, -⟩ := H.facts
 rw [hds] at k0
 have hn := H.ok.n
 have HH := Lib.hid H
 clear H hds
 generalize D.place = p at *
 generalize D.n = n at *
 go_enter Tryz.func124, Tryz.ntmps124
 go_wp2_with fail
 refine HP.out.mono ?_
 rintro e w1 ⟨rfl, m, rfl⟩
 go_wp2_with fail
 go_ret
 exact ⟨rfl, m, rfl⟩
theorem sector_at {w : World} {b : Nat} {ds lv : Value} {D : Dk} (H : IdeIn 115 w b ds lv D) (g L cap o : Nat) (hds : ds = .slice (some ⟨g, 0, none⟩) L cap) (hc : L ≤ cap) (ho : o = D.place * 512) (hL : o + 512 ≤ L) :
    Calls Tryz.prog 124 #[.pointer (some ⟨b, 0, none⟩)] w fun e w' => e = .returned (.slice (some ⟨g, o, none⟩) (o + 512 - o) (o + 512 - o)) ∧ ∃ n, w' = w.drewN n := by
 have HP := Lib.hid (place_in H)
 have hlt := Dk.place_lt H.ok
 obtain ⟨k0, -⟩ := H.facts
 rw [hds] at k0
 clear H hds
 generalize D.place = p at *
 have hm : (p : Int) * 512 = (o : Int) := by omega
 have q0 : o < L := by omega
 have q1 : (o : Int) + 512 ≤ (cap : Int) := by omega
 have q2 : (o : Int) ≤ (cap : Int) := by omega
 have q3 : ¬ cap = o := by omega
 clear ho hL hc
 go_enter Tryz.func124, Tryz.ntmps124
 go_wp2_with fail
 refine HP.out.mono ?_
 rintro e w1 ⟨rfl, m, rfl⟩
 go_wp2_with fail
 go_ret
 exact ⟨rfl, m, rfl⟩
theorem sector_yes {w : World} {b : Nat} {ds lv : Value} {D : Dk} (H : IdeIn 115 w b ds lv D) (hp : D.place < D.n) (g cap : Nat) (hds : ds = .slice (some ⟨g, 0, none⟩) (D.n * 512) cap) (hc : D.n * 512 ≤ cap) :
    Calls Tryz.prog 124 #[.pointer (some ⟨b, 0, none⟩)] w fun e w' => e = .returned (.slice (some ⟨g, D.place * 512, none⟩) 512 512) ∧ ∃ n, w' = w.drewN n := by
 obtain ⟨o, ho⟩ : ∃ o, o = D.place * 512 := ⟨_, rfl⟩
 have h := sector_at H g (D.n * 512) cap o hds hc ho (by omega)
 rw [Nat.add_sub_cancel_left, ho] at h
 exact h
end Go.Proofs.YtojmpdddfnkffaaGreat.Ide

/- ide: begin. -/
namespace Go.Proofs.YtojmpdddfnkffaaGreat.Ide
open Go.RowKit
set_option linter.unusedVariables false

theorem size8 : (Tryz.prog.info? 5).map (·.size) = some 1 := by kernel_rfl
theorem Dk.over (S : Dk) (ds ws : Value) (f : Nat → Nat) : ((S.cells ds ws).toList.take 9 ++ bytesL 512 f ++ (S.cells ds ws).toList.drop (9 + 512)).toArray = ({ S with buf := f } : Dk).cells ds ws := by
 have hsz : (S.cells ds ws).toList.length = 526 := by rw [Array.length_toList, Dk.size]
 have hl : (bytesL 512 f).length = 512 := bytesL_len _ _
 apply Array.ext_getElem?
 intro j
 rw [List.getElem?_toArray]
 by_cases hj : j < 526
 ·rw [Dk.at _ _ _ j hj]
  by_cases h1 : j < 9
  ·rw [List.append_assoc, List.getElem?_append_left (by rw [List.length_take]; omega), List.getElem?_take_of_lt h1, Array.getElem?_toList, Dk.at _ _ _ j hj]
   refine congrArg some ?_
   unfold Dk.cell
   (repeat' split) <;> first | rfl | omega
  ·by_cases h2 : j < 521
   ·rw [List.append_assoc, List.getElem?_append_right (by rw [List.length_take]; omega), List.getElem?_append_left (by rw [hl, List.length_take]; omega), List.length_take, Nat.min_eq_left (by omega), bytesL_at _ _ _ (by omega)]
    refine congrArg some ?_
    unfold Dk.cell
    rw [if_neg (by omega), if_neg (by omega), if_neg (by omega), if_pos h2]
   ·rw [List.getElem?_append_right (by rw [List.length_append, hl, List.length_take]; omega), List.length_append, hl, List.length_take, Nat.min_eq_left (by omega), List.getElem?_drop, Array.getElem?_toList, show 9 + 512 + (j - (9 + 512)) = j by omega, Dk.at _ _ _ j hj]
    refine congrArg some ?_
    unfold Dk.cell
    (repeat' split) <;> first | rfl | omega
 ·rw [List.getElem?_eq_none, Array.getElem?_eq_none]
  ·rw [Dk.size]; omega
  ·simp only [List.length_append, List.length_take, List.length_drop, hsz, hl]; omega
theorem copy_buf {T : TypeId} {W : World} {b g o : Nat} {ds lv : Value} {D : Dk} (hB : Blk T W b ds lv D) (f : Nat → Nat) (hc : ∀ j, j < 512 → W.cell? ⟨g, o + j, none⟩ = some (.int .u8 (f j : Nat))) :
    ∃ W2, (∀ ty, (Builtin.copy_ #[22, 22] ty #[.slice (some ⟨b, 9, none⟩) 512 512, .slice (some ⟨g, o, none⟩) 512 512]).run Tryz.prog W = .ok (.int .i64 512) W2) ∧ Blk T W2 b ds lv { D with buf := f } ∧ Keeps (· = b) W W2 := by
 refine ⟨W.setRow b (({ D with buf := f } : Dk).cells ds lv), fun ty => ?_, setRow_heap _ _ _ _ _ _ hB, ⟨rfl, rfl, rfl, by simp [World.setRow], fun k hk hn => setRow_other W b k _ hn⟩⟩
 have h := run_copy_row (P := Tryz.prog) W 22 22 ty 5 b 9 512 512 ⟨g, o, none⟩ 512 512 (D.cells ds lv) T (bytesL 512 f) Tryz.underlying22 size8 hB (by rw [bytesL_len]; rfl)
  (fun j v hv => by obtain ⟨hj, rfl⟩ := bytesL_some hv; rw [Go.WideShapes.add_plain]; exact hc j hj) (by rw [bytesL_len, Dk.size]; decide) (bytesL_one _ _)
 rw [bytesL_len, Dk.over] at h
 exact h
theorem Dk.fill_ok {S : Dk} (h : S.ok) : ({ S with mode := 1, done := 0, buf := fun i => S.d (S.place * 512 + i), mark := true } : Dk).ok :=
 {h with buf := fun i => h.d _, done := (by show (0 : Nat) ≤ 512; decide), mode := (by show (1 : Nat) < 4; decide) }
theorem Dk.open_ok {S : Dk} (h : S.ok) (m : Nat) (hm : m < 4) : ({ S with mode := m, done := 0 } : Dk).ok :=
 {h with done := (by show (0 : Nat) ≤ 512; decide), mode := hm }
theorem begin_no {w : World} {b : Nat} {ds lv : Value} {D : Dk} (H : IdeIn 115 w b ds lv D) (m : Int) (hp : ¬ D.place < D.n) :
    Calls Tryz.prog 128 #[.pointer (some ⟨b, 0, none⟩), .int .i64 m] w fun e w' => e = .returned (.tuple #[]) ∧ IdeIn 115 w' b ds lv (D.fail 16) ∧ Keeps (· = b) w w' := by
 have HS := Lib.hid (sector_no H hp)
 have hnil : ∀ w, (binOp .eql 22 (.slice none 0 0) (.slice none 0 0)).run Tryz.prog w = .ok (.bool true) w := fun w => Lib.run_eql_slice_nil w _ _ _ _ _ _ _ Tryz.underlying22
 go_enter Tryz.func128, Tryz.ntmps128
 go_wp2_with fail
 refine HS.out.mono ?_
 rintro e w1 ⟨rfl, n, rfl⟩
 go_wp2_with fail
 refine (fail_in (H.drewN n) 16 (by decide)).mono ?_
 rintro e w2 ⟨rfl, H2, K2⟩
 go_wp2_with fail
 go_returns
 exact ⟨rfl, H2, ((Keeps.refl _ w).drewN n).trans K2⟩
theorem begin_two {w : World} {b : Nat} {ds lv : Value} {D : Dk} (H : IdeIn 115 w b ds lv D) (m : Nat) (hm : m < 4) (h1 : m ≠ 1) (hp : D.place < D.n) :
    Calls Tryz.prog 128 #[.pointer (some ⟨b, 0, none⟩), .int .i64 m] w fun e w' => e = .returned (.tuple #[]) ∧ IdeIn 115 w' b ds lv { D with mode := m, done := 0 } ∧ Keeps (· = b) w w' := by
 obtain ⟨g, cap, cur, hds, hg, hc, hcm, hsz, htk⟩ := H.disk.open (by omega)
 have HS := Lib.hid (sector_yes H hp g cap hds hc)
 have hnil : ∀ w o, (binOp .eql 22 (.slice (some ⟨g, o, none⟩) 512 512) (.slice none 0 0)).run Tryz.prog w = .ok (.bool false) w := fun w o => Lib.run_eql_slice_nil w _ _ _ _ _ _ _ Tryz.underlying22
 have hm1 : ((m : Int) == 1) = false := by simp; omega
 obtain ⟨-, -, -, -, -, -, -, -, -, k9, k10, -, -, -, kf, klt⟩ := H.facts
 have HH := Lib.hid H
 clear H hg hc hcm hsz htk hds hp
 generalize D.place * 512 = o at *
 go_enter Tryz.func128, Tryz.ntmps128
 go_wp2_with fail
 refine HS.out.mono ?_
 rintro e w1 ⟨rfl, n, rfl⟩
 go_wp2_with fail
 go_end0
 refine ⟨rfl, turned HH.out (Blk.done (Blk.mode (Blk.drewN (Blk.of HH.out) n) m _ rfl) 0 _ rfl) ?_ (Dk.open_ok HH.out.ok m hm) rfl rfl rfl⟩
 (repeat' (first | (with_reducible exact Keeps.refl _ _) | (with_reducible refine Keeps.setOne ?_ _ _) | (with_reducible refine Keeps.drewN ?_ _)))
theorem begin_one {w : World} {b : Nat} {ds lv : Value} {D : Dk} (H : IdeIn 115 w b ds lv D) (hp : D.place < D.n) :
    Calls Tryz.prog 128 #[.pointer (some ⟨b, 0, none⟩), .int .i64 1] w fun e w' => e = .returned (.tuple #[]) ∧ IdeIn 115 w' b ds lv { D with mode := 1, done := 0, buf := fun i => D.d (D.place * 512 + i), mark := true } ∧ Keeps (· = b) w w' := by
 obtain ⟨g, cap, cur, hds, hg, hc, hcm, hsz, htk⟩ := H.disk.open (by omega)
 have HS := Lib.hid (sector_yes H hp g cap hds hc)
 have hnil : ∀ w o, (binOp .eql 22 (.slice (some ⟨g, o, none⟩) 512 512) (.slice none 0 0)).run Tryz.prog w = .ok (.bool false) w := fun w o => Lib.run_eql_slice_nil w _ _ _ _ _ _ _ Tryz.underlying22
 have hgb : g ≠ b := fun e => H.d1 (by rw [hds, e]; rfl)
 have hcells : ∀ j, j < 512 → w.cell? ⟨g, D.place * 512 + j, none⟩ = some (.int .u8 (D.d (D.place * 512 + j) : Nat)) := fun j hj => by rw [cell_at hg]; exact take_at htk (by omega)
 obtain ⟨-, -, -, -, -, -, -, -, -, k9, k10, -, -, -, kf, klt⟩ := H.facts
 have HH := Lib.hid H
 have HC := Lib.hid hcells
 clear H hg hc hcm hsz htk hds hp hcells
 have ok := Lib.hid (Dk.fill_ok HH.out.ok)
 generalize D.place * 512 = o at *
 go_enter Tryz.func128, Tryz.ntmps128
 go_wp2_with fail
 refine HS.out.mono ?_
 rintro e w1 ⟨rfl, n, rfl⟩
 have B1 := Blk.done (Blk.mode (Blk.drewN (Blk.of HH.out) n) 1 1 rfl) 0 0 rfl
 have K1 : Keeps (· = b) w (((w.drewN n).setCell ⟨b, 522, none⟩ (.int .i64 1)).setCell ⟨b, 521, none⟩ (.int .i64 0)) := (((Keeps.refl _ w).drewN n).setOne _ _).setOne _ _
 obtain ⟨W2, hcp, B2, K2⟩ := copy_buf B1 (fun j => D.d (o + j)) (g := g) (o := o) (fun j hj => by rw [K1.cell (p := ⟨g, o + j, none⟩) (cell_block_lt (HC.out j hj)) hgb]; exact HC.out j hj)
 obtain ⟨-, -, -, -, -, -, -, -, -, -, -, j11, -, -, jf, jlt⟩ := B2.facts
 have HB := Lib.hid B2
 clear B1 B2
 go_wp2_with fail
 go_end0
 refine ⟨rfl, turned HH.out (Blk.mark HB.out true) ?_ ok.out rfl rfl rfl⟩
 exact (K1.trans K2).setOne _ _
theorem begin_in {w : World} {b : Nat} {ds lv : Value} {D : Dk} (H : IdeIn 115 w b ds lv D) (m : Nat) (hm : m < 4) (x : Int) (hx : x = (m : Nat)) :
    Calls Tryz.prog 128 #[.pointer (some ⟨b, 0, none⟩), .int .i64 x] w fun e w' => e = .returned (.tuple #[]) ∧ IdeIn 115 w' b ds lv (D.begin m) ∧ Keeps (· = b) w w' := by
 subst hx
 unfold Dk.begin
 by_cases hp : D.place < D.n
 ·rw [if_pos hp]
  by_cases h1 : m = 1
  ·subst h1; rw [if_pos rfl]; exact begin_one H hp
  ·rw [if_neg h1]; exact begin_two H m hm h1 hp
 ·rw [if_neg hp]; exact begin_no H m hp
end Go.Proofs.YtojmpdddfnkffaaGreat.Ide

