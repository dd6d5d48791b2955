/- uart: a byte that comes. -/
import Derived.Test.YtliiccmpfmgioaaUartA
namespace Go.Proofs.Ytliiccmpfmgioaa
open Go.RowKit Go.Conc
set_option linter.unusedVariables false

theorem stepG_idle {P : Program} {main : Bool} {b : Frame} {a : Act} {k : List Item} {cs : List Frame} {w : World} {ops : Array Oper} {i : Nat} {rest : List Nat} {o : Oper} (ho : ops[i]? = some o) (hw : Region.wanted o (yielded ops a.tmps) = false) :
    stepG P main (G (b.at a (.inRegion ops (i :: rest) :: k)) cs) w = .go (G (b.at (a.put o.dst undef) (.inRegion ops rest :: k)) cs) w := by
  have hfin : (b.at a (.inRegion ops (i :: rest) :: k)).finish undef = b.at (a.put o.dst undef) (.inRegion ops rest :: k) := by rw [Frame.finish_at, ho]; rfl
  rw [← hfin]
  simp [G, stepG, stepG.exec, Frame.at, ho, hw]
def Ut.lose (U : Ut) : Ut := { U with lost := true }
def Ut.take (U : Ut) (x : Nat) : Ut := { U with came := U.came ++ [x] }
def Ut.push (U : Ut) (x : Nat) : Ut := if U.on = false ∧ U.came ≠ [] then U.lose else if U.came.length < 16 then U.take x else U.lose
theorem Ut.lose_ok {U : Ut} (h : U.ok) : U.lose.ok := ⟨h.c1, h.c2, h.d0, h.d1, h.lcr, h.mcr, h.scr, h.wanted, h.s2⟩
section
variable {w : World} {b q : Nat} {sv : Value} {U : Ut}
theorem UtIn.lose (H : UtIn w b q sv U) : UtIn (w.setCell ⟨b, 1, none⟩ (.bool true)) b q sv U.lose := H.turn 1 (.bool true) rfl rfl rfl (Ut.lose_ok H.ok)
theorem UtIn.take (H : UtIn w b q sv U) (x : Nat) (hx : x < 256) (h2 : U.came.length < 16) (s r : Nat) : UtIn (w.setChan q 16 (bytesV (U.came ++ [x])).toArray false s r false) b q sv (U.take x) :=
  H.flow s r (by simp; omega) fun y hy => by
    rcases List.mem_append.1 hy with h | h
    · exact H.ok.c2 y h
    · simp only [List.mem_singleton] at h; omega
theorem push_nil (w : World) (x : Int) : Calls Try.prog 16 #[.pointer none, .int .u8 x] w fun e w' => e = .returned (.tuple #[]) ∧ w = w' := by
  go_enter Try.func16, Try.ntmps16
  go_wp2_with fail
  go_returns
  exact ⟨rfl, rfl⟩
theorem push_lost (H : UtIn w b q sv U) (x : Int) (h1 : U.on = false) (h2 : U.came ≠ []) :
    Calls Try.prog 16 #[.pointer (some ⟨b, 0, none⟩), .int .u8 x] w fun e w' => e = .returned (.tuple #[]) ∧ UtIn w' b q sv U.lose ∧ Keeps (fun k => k = b ∨ k = q) w w' := by
  obtain ⟨k0, k1, k2, -, -, -, -, -, -, -, -, kf, kl⟩ := H.facts
  obtain ⟨s, r, hq⟩ := H.chan
  have hlen := fun ty => run_len_chan (P := Try.prog) (w := w) 41 ty Try.underlying41 hq
  have hs : ((bytesV U.came).toArray.size : Int) > 0 := by
    have : 0 < U.came.length := List.length_pos_iff.2 h2
    simp [bytesV]; omega
  rw [h1] at k2
  have HL := Lib.hid H.lose
  generalize ((bytesV U.came).toArray.size) = n at *
  clear hq H h1 h2
  go_enter Try.func16, Try.ntmps16
  go_wp2_with fail
  go_returns
  exact ⟨rfl, HL.out, (Keeps.refl _ _).setCell (.inl (.inl rfl)) _⟩
set_option maxRecDepth 100000 in
theorem push_on (H : UtIn w b q sv U) (x : Nat) (h1 : U.on = true) (h2 : U.came.length < 16) (hx : x < 256) :
    Calls Try.prog 16 #[.pointer (some ⟨b, 0, none⟩), .int .u8 (x : Nat)] w fun e w' => e = .returned (.tuple #[]) ∧ UtIn w' b q sv (U.take x) ∧ Keeps (fun k => k = b ∨ k = q) w w' := by
  obtain ⟨k0, k1, k2, -, -, -, -, -, -, -, -, kf, kl⟩ := H.facts
  obtain ⟨s, r, hq⟩ := H.chan
  have e1 : ((bytesV U.came).toArray).push (.int .u8 (x : Nat)) = (bytesV (U.came ++ [x])).toArray := by rw [bytesV_snoc]; simp
  have e3 : ((bytesV U.came).toArray).size < 16 := by simp [bytesV]; exact h2
  rw [h1] at k2
  refine calls_of_loneTo fun cs => ?_
  have e : Frame.enter Try.prog 16 #[.pointer (some ⟨b, 0, none⟩), .int .u8 (x : Nat)] .normal = (base 16).at ⟨#[.pointer (some ⟨b, 0, none⟩), .int .u8 (x : Nat), undef, undef, undef, undef, undef, undef, undef, undef, undef, undef, undef, undef, undef, undef, undef, undef, undef, undef, undef, undef, undef, undef, undef, undef, undef, undef, undef, undef, undef, undef, undef], []⟩ [.code (Try.f16.body.getD .skip)] := by
    simp [Frame.enter, Frame.at, Try.func16, base, Try.f16]
  rw [e]
  refine LoneTo.goes (n := 80) ?_
  simp only [Try.f16, Option.getD_some]
  s_c stepG_seq
  s_c stepG_seq
  s_reg
  s_op
  s_op
  s_c stepG_region_end
  s_cond false
  s_c stepG_skip
  s_c stepG_seq
  s_c stepG_seq
  s_reg
  s_op
  s_op
  s_op
  s_op
  s_op
  s_op
  s_c (stepG_idle rfl rfl)
  walk_nrm
  s_c (stepG_idle rfl rfl)
  walk_nrm
  s_c (stepG_idle rfl rfl)
  walk_nrm
  s_c (stepG_idle rfl rfl)
  walk_nrm
  s_c (stepG_idle rfl rfl)
  walk_nrm
  s_c (stepG_idle rfl rfl)
  walk_nrm
  s_op
  s_c stepG_region_end
  s_cond false
  s_c stepG_skip
  s_c stepG_seq
  s_c stepG_seq
  s_reg
  s_op
  s_op
  s_op
  s_op
  s_c stepG_region_end
  s_reg
  s_op
  s_c stepG_region_end
  s_c stepG_seq
  s_reg
  s_stop
  refine LoneTo.step (step_lone_select_send_room (c := q) (cap := 16) (s := s) (r := r) (tm := false) (stepG_comm (cases := #[scase q (.int .u8 (x : Nat)) (.int .u8 0)]) (blocking := false) (shape := .select) (w' := w) rfl rfl (by decide) (by simp [go_sem, execOp, scase, Act.eval])) hq e3) ?_
  rw [e1, Frame.finish_at]
  walk_nrm
  refine LoneTo.goes (n := 40) ?_
  s_op
  s_op
  s_c stepG_region_end
  s_c stepG_block
  s_cond true
  s_c stepG_skip
  s_c stepG_inBlock
  s_c stepG_end
  s_stop
  exact LoneTo.done ⟨.returned (.tuple #[]), _, rfl, ⟨rfl, H.take x hx h2 (s + 1) r, (keeps_setChan _ _ _ _ _ _ _ _).mono fun k _ h => .inr h⟩, rfl, rfl, rfl, rfl, _, Try.func16, by simp [results, Try.f16, Frame.at]⟩
set_option maxRecDepth 100000 in
theorem push_full (H : UtIn w b q sv U) (x : Nat) (h1 : U.on = true) (h2 : ¬ U.came.length < 16) (hx : x < 256) :
    Calls Try.prog 16 #[.pointer (some ⟨b, 0, none⟩), .int .u8 (x : Nat)] w fun e w' => e = .returned (.tuple #[]) ∧ UtIn w' b q sv U.lose ∧ Keeps (fun k => k = b ∨ k = q) w w' := by
  obtain ⟨k0, k1, k2, -, -, -, -, -, -, -, -, kf, kl⟩ := H.facts
  obtain ⟨s, r, hq⟩ := H.chan
  have e3 : 16 ≤ ((bytesV U.came).toArray).size := by simp [bytesV]; omega
  rw [h1] at k2
  refine calls_of_loneTo fun cs => ?_
  have e : Frame.enter Try.prog 16 #[.pointer (some ⟨b, 0, none⟩), .int .u8 (x : Nat)] .normal = (base 16).at ⟨#[.pointer (some ⟨b, 0, none⟩), .int .u8 (x : Nat), undef, undef, undef, undef, undef, undef, undef, undef, undef, undef, undef, undef, undef, undef, undef, undef, undef, undef, undef, undef, undef, undef, undef, undef, undef, undef, undef, undef, undef, undef, undef], []⟩ [.code (Try.f16.body.getD .skip)] := by
    simp [Frame.enter, Frame.at, Try.func16, base, Try.f16]
  rw [e]
  refine LoneTo.goes (n := 80) ?_
  simp only [Try.f16, Option.getD_some]
  s_c stepG_seq
  s_c stepG_seq
  s_reg
  s_op
  s_op
  s_c stepG_region_end
  s_cond false
  s_c stepG_skip
  s_c stepG_seq
  s_c stepG_seq
  s_reg
  s_op
  s_op
  s_op
  s_op
  s_op
  s_op
  s_c (stepG_idle rfl rfl)
  walk_nrm
  s_c (stepG_idle rfl rfl)
  walk_nrm
  s_c (stepG_idle rfl rfl)
  walk_nrm
  s_c (stepG_idle rfl rfl)
  walk_nrm
  s_c (stepG_idle rfl rfl)
  walk_nrm
  s_c (stepG_idle rfl rfl)
  walk_nrm
  s_op
  s_c stepG_region_end
  s_cond false
  s_c stepG_skip
  s_c stepG_seq
  s_c stepG_seq
  s_reg
  s_op
  s_op
  s_op
  s_op
  s_c stepG_region_end
  s_reg
  s_op
  s_c stepG_region_end
  s_c stepG_seq
  s_reg
  s_stop
  refine LoneTo.step (step_lone_select_send_full (c := q) (cap := 16) (s := s) (r := r) (tm := false) (stepG_comm (cases := #[scase q (.int .u8 (x : Nat)) (.int .u8 0)]) (blocking := false) (shape := .select) (w' := w) rfl rfl (by decide) (by simp [go_sem, execOp, scase, Act.eval])) hq e3) ?_
  rw [Frame.finish_at]
  walk_nrm
  refine LoneTo.goes (n := 40) ?_
  s_op
  s_op
  s_c stepG_region_end
  s_c stepG_block
  s_cond false
  s_reg
  s_op
  s_op
  s_op
  s_op
  s_c stepG_region_end
  s_c stepG_inBlock
  s_c stepG_end
  s_stop
  exact LoneTo.done ⟨.returned (.tuple #[]), _, rfl, ⟨rfl, H.lose, (Keeps.refl _ _).setCell (.inl (.inl rfl)) _⟩, rfl, rfl, rfl, rfl, _, Try.func16, by simp [results, Try.f16, Frame.at]⟩
set_option maxRecDepth 100000 in
theorem push_first (H : UtIn w b q sv U) (x : Nat) (h1 : U.on = false) (h2 : U.came = []) (hx : x < 256) :
    Calls Try.prog 16 #[.pointer (some ⟨b, 0, none⟩), .int .u8 (x : Nat)] w fun e w' => e = .returned (.tuple #[]) ∧ UtIn w' b q sv (U.take x) ∧ Keeps (fun k => k = b ∨ k = q) w w' := by
  obtain ⟨k0, k1, k2, -, -, -, -, -, -, -, -, kf, kl⟩ := H.facts
  obtain ⟨s, r, hq⟩ := H.chan
  have e1 : ((bytesV U.came).toArray).push (.int .u8 (x : Nat)) = (bytesV (U.came ++ [x])).toArray := by rw [bytesV_snoc]; simp
  have e3 : ((bytesV U.came).toArray).size < 16 := by rw [h2]; decide
  have hlen := fun ty => run_len_chan (P := Try.prog) (w := w) 41 ty Try.underlying41 hq
  have e4 : ((bytesV U.came).toArray).size = 0 := by rw [h2]; rfl
  simp only [e4] at hlen
  have H16 : U.came.length < 16 := by rw [h2]; decide
  rw [h1] at k2
  clear h2 e4
  refine calls_of_loneTo fun cs => ?_
  have e : Frame.enter Try.prog 16 #[.pointer (some ⟨b, 0, none⟩), .int .u8 (x : Nat)] .normal = (base 16).at ⟨#[.pointer (some ⟨b, 0, none⟩), .int .u8 (x : Nat), undef, undef, undef, undef, undef, undef, undef, undef, undef, undef, undef, undef, undef, undef, undef, undef, undef, undef, undef, undef, undef, undef, undef, undef, undef, undef, undef, undef, undef, undef, undef], []⟩ [.code (Try.f16.body.getD .skip)] := by
    simp [Frame.enter, Frame.at, Try.func16, base, Try.f16]
  rw [e]
  refine LoneTo.goes (n := 80) ?_
  simp only [Try.f16, Option.getD_some]
  s_c stepG_seq
  s_c stepG_seq
  s_reg
  s_op
  s_op
  s_c stepG_region_end
  s_cond false
  s_c stepG_skip
  s_c stepG_seq
  s_c stepG_seq
  s_reg
  s_op
  s_op
  s_op
  s_op
  s_op
  s_op
  s_op
  s_op
  s_op
  s_op
  s_op
  s_op
  s_op
  s_c stepG_region_end
  s_cond false
  s_c stepG_skip
  s_c stepG_seq
  s_c stepG_seq
  s_reg
  s_op
  s_op
  s_op
  s_op
  s_c stepG_region_end
  s_reg
  s_op
  s_c stepG_region_end
  s_c stepG_seq
  s_reg
  s_stop
  refine LoneTo.step (step_lone_select_send_room (c := q) (cap := 16) (s := s) (r := r) (tm := false) (stepG_comm (cases := #[scase q (.int .u8 (x : Nat)) (.int .u8 0)]) (blocking := false) (shape := .select) (w' := w) rfl rfl (by decide) (by simp [go_sem, execOp, scase, Act.eval])) hq e3) ?_
  rw [e1, Frame.finish_at]
  walk_nrm
  refine LoneTo.goes (n := 40) ?_
  s_op
  s_op
  s_c stepG_region_end
  s_c stepG_block
  s_cond true
  s_c stepG_skip
  s_c stepG_inBlock
  s_c stepG_end
  s_stop
  exact LoneTo.done ⟨.returned (.tuple #[]), _, rfl, ⟨rfl, H.take x hx H16 (s + 1) r, (keeps_setChan _ _ _ _ _ _ _ _).mono fun k _ h => .inr h⟩, rfl, rfl, rfl, rfl, _, Try.func16, by simp [results, Try.f16, Frame.at]⟩
theorem push_any (H : UtIn w b q sv U) (x : Nat) (hx : x < 256) :
    Calls Try.prog 16 #[.pointer (some ⟨b, 0, none⟩), .int .u8 (x : Nat)] w fun e w' => e = .returned (.tuple #[]) ∧ UtIn w' b q sv (U.push x) ∧ Keeps (fun k => k = b ∨ k = q) w w' := by
  unfold Ut.push
  cases h1 : U.on
  · by_cases h2 : U.came = []
    · rw [if_neg (fun h => h.2 h2), if_pos (by rw [h2]; decide)]
      exact push_first H x h1 h2 hx
    · rw [if_pos ⟨rfl, h2⟩]
      exact push_lost H x h1 h2
  · rw [if_neg (fun h => by cases h.1)]
    by_cases h2 : U.came.length < 16
    · rw [if_pos h2]; exact push_on H x h1 h2 hx
    · rw [if_neg h2]; exact push_full H x h1 h2 hx
end
end Go.Proofs.Ytliiccmpfmgioaa
