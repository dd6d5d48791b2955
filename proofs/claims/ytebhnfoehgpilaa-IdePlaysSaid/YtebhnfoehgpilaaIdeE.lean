/- ide: begin. -/
import Derived.Test.YtebhnfoehgpilaaIdeD
namespace Go.Proofs.Ytebhnfoehgpilaa
open Go.RowKit
set_option linter.unusedVariables false

theorem size8 : (Try.prog.info? 5).map (·.size) = some 1 := by kernel_rfl
/-- Cells laid over the buffer. -/
theorem Dk.over (S : Dk) (ds ws : Value) (f : Nat → Nat) : ((S.cells ds ws).toList.take 9 ++ bytesL 512 f ++ (S.cells ds ws).toList.drop (9 + 512)).toArray = ({ S with buf := f } : Dk).cells ds ws := by
  have hsz : (S.cells ds ws).toList.length = 526 := by rw [Array.length_toList, Dk.size]
  have hl : (bytesL 512 f).length = 512 := bytesL_len _ _
  apply Array.ext_getElem?
  intro j
  rw [List.getElem?_toArray]
  by_cases hj : j < 526
  · rw [Dk.at _ _ _ j hj]
    by_cases h1 : j < 9
    · rw [List.append_assoc, List.getElem?_append_left (by rw [List.length_take]; omega), List.getElem?_take_of_lt h1, Array.getElem?_toList, Dk.at _ _ _ j hj]
      refine congrArg some ?_
      unfold Dk.cell
      (repeat' split) <;> first | rfl | omega
    · by_cases h2 : j < 521
      · rw [List.append_assoc, List.getElem?_append_right (by rw [List.length_take]; omega), List.getElem?_append_left (by rw [hl, List.length_take]; omega), List.length_take, Nat.min_eq_left (by omega), bytesL_at _ _ _ (by omega)]
        refine congrArg some ?_
        unfold Dk.cell
        rw [if_neg (by omega), if_neg (by omega), if_neg (by omega), if_pos h2]
      · rw [List.getElem?_append_right (by rw [List.length_append, hl, List.length_take]; omega), List.length_append, hl, List.length_take, Nat.min_eq_left (by omega), List.getElem?_drop, Array.getElem?_toList, show 9 + 512 + (j - (9 + 512)) = j by omega, Dk.at _ _ _ j hj]
        refine congrArg some ?_
        unfold Dk.cell
        (repeat' split) <;> first | rfl | omega
  · rw [List.getElem?_eq_none, Array.getElem?_eq_none]
    · rw [Dk.size]; omega
    · simp only [List.length_append, List.length_take, List.length_drop, hsz, hl]; omega
/-- A sector is copied into the buffer. -/
theorem copy_buf {T : TypeId} {W : World} {b g o : Nat} {ds lv : Value} {D : Dk} (hB : Blk T W b ds lv D) (f : Nat → Nat) (hc : ∀ j, j < 512 → W.cell? ⟨g, o + j, none⟩ = some (.int .u8 (f j : Nat))) :
    ∃ W2, (∀ ty, (Builtin.copy_ #[23, 23] ty #[.slice (some ⟨b, 9, none⟩) 512 512, .slice (some ⟨g, o, none⟩) 512 512]).run Try.prog W = .ok (.int .i64 512) W2) ∧ Blk T W2 b ds lv { D with buf := f } ∧ Keeps (· = b) W W2 := by
  refine ⟨W.setRow b (({ D with buf := f } : Dk).cells ds lv), fun ty => ?_, setRow_heap _ _ _ _ _ _ hB, ⟨rfl, rfl, rfl, by simp [World.setRow], fun k hk hn => setRow_other W b k _ hn⟩⟩
  have h := run_copy_row (P := Try.prog) W 23 23 ty 5 b 9 512 512 ⟨g, o, none⟩ 512 512 (D.cells ds lv) T (bytesL 512 f) Try.underlying23 size8 hB (by rw [bytesL_len]; rfl)
    (fun j v hv => by obtain ⟨hj, rfl⟩ := bytesL_some hv; rw [Go.WideShapes.add_plain]; exact hc j hj) (by rw [bytesL_len, Dk.size]; decide) (bytesL_one _ _)
  rw [bytesL_len, Dk.over] at h
  exact h
theorem Dk.fill_ok {S : Dk} (h : S.ok) : ({ S with mode := 1, done := 0, buf := fun i => S.d (S.place * 512 + i), mark := true } : Dk).ok :=
  { h with buf := fun i => h.d _, done := (by show (0 : Nat) ≤ 512; decide), mode := (by show (1 : Nat) < 4; decide) }
theorem Dk.open_ok {S : Dk} (h : S.ok) (m : Nat) (hm : m < 4) : ({ S with mode := m, done := 0 } : Dk).ok :=
  { h with done := (by show (0 : Nat) ≤ 512; decide), mode := hm }
set_option maxHeartbeats 1000000 in
theorem begin_no {w : World} {b : Nat} {ds lv : Value} {D : Dk} (H : IdeIn 56 w b ds lv D) (m : Int) (hp : ¬ D.place < D.n) :
    Calls Try.prog 39 #[.pointer (some ⟨b, 0, none⟩), .int .i64 m] w fun e w' => e = .returned (.tuple #[]) ∧ IdeIn 56 w' b ds lv (D.fail 16) ∧ Keeps (· = b) w w' := by
  have HS := Lib.hid (sector_no H hp)
  have hnil : ∀ w, (binOp .eql 23 (.slice none 0 0) (.slice none 0 0)).run Try.prog w = .ok (.bool true) w := fun w => Lib.run_eql_slice_nil w _ _ _ _ _ _ _ Try.underlying23
  go_enter Try.func39, Try.ntmps39
  go_wp2_with fail
  refine HS.out.mono ?_
  rintro e w1 ⟨rfl, n, rfl⟩
  go_wp2_with fail
  refine (fail_in (H.drewN n) 16 (by decide)).mono ?_
  rintro e w2 ⟨rfl, H2, K2⟩
  go_wp2_with fail
  go_returns
  exact ⟨rfl, H2, ((Keeps.refl _ w).drewN n).trans K2⟩
set_option maxHeartbeats 1000000 in
theorem begin_two {w : World} {b : Nat} {ds lv : Value} {D : Dk} (H : IdeIn 56 w b ds lv D) (m : Nat) (hm : m < 4) (h1 : m ≠ 1) (hp : D.place < D.n) :
    Calls Try.prog 39 #[.pointer (some ⟨b, 0, none⟩), .int .i64 m] w fun e w' => e = .returned (.tuple #[]) ∧ IdeIn 56 w' b ds lv { D with mode := m, done := 0 } ∧ Keeps (· = b) w w' := by
  obtain ⟨g, cap, cur, hds, hg, hc, hcm, hsz, htk⟩ := H.disk.open (by omega)
  have HS := Lib.hid (sector_yes H hp g cap hds hc)
  have hnil : ∀ w o, (binOp .eql 23 (.slice (some ⟨g, o, none⟩) 512 512) (.slice none 0 0)).run Try.prog w = .ok (.bool false) w := fun w o => Lib.run_eql_slice_nil w _ _ _ _ _ _ _ Try.underlying23
  have hm1 : ((m : Int) == 1) = false := by simp; omega
  obtain ⟨-, -, -, -, -, -, -, -, -, k9, k10, -, -, -, kf, klt⟩ := H.facts
  have HH := Lib.hid H
  clear H hg hc hcm hsz htk hds hp
  generalize D.place * 512 = o at *
  go_enter Try.func39, Try.ntmps39
  go_wp2_with fail
  refine HS.out.mono ?_
  rintro e w1 ⟨rfl, n, rfl⟩
  go_wp2_with fail
  go_end0
  refine ⟨rfl, turned HH.out (Blk.done (Blk.mode (Blk.drewN (Blk.of HH.out) n) m _ rfl) 0 _ rfl) ?_ (Dk.open_ok HH.out.ok m hm) rfl rfl rfl⟩
  (repeat' (first | (with_reducible exact Keeps.refl _ _) | (with_reducible refine Keeps.setOne ?_ _ _) | (with_reducible refine Keeps.drewN ?_ _)))
set_option maxHeartbeats 1000000 in
theorem begin_one {w : World} {b : Nat} {ds lv : Value} {D : Dk} (H : IdeIn 56 w b ds lv D) (hp : D.place < D.n) :
    Calls Try.prog 39 #[.pointer (some ⟨b, 0, none⟩), .int .i64 1] w fun e w' => e = .returned (.tuple #[]) ∧ IdeIn 56 w' b ds lv { D with mode := 1, done := 0, buf := fun i => D.d (D.place * 512 + i), mark := true } ∧ Keeps (· = b) w w' := by
  obtain ⟨g, cap, cur, hds, hg, hc, hcm, hsz, htk⟩ := H.disk.open (by omega)
  have HS := Lib.hid (sector_yes H hp g cap hds hc)
  have hnil : ∀ w o, (binOp .eql 23 (.slice (some ⟨g, o, none⟩) 512 512) (.slice none 0 0)).run Try.prog w = .ok (.bool false) w := fun w o => Lib.run_eql_slice_nil w _ _ _ _ _ _ _ Try.underlying23
  have hgb : g ≠ b := fun e => H.d1 (by rw [hds, e]; rfl)
  have hcells : ∀ j, j < 512 → w.cell? ⟨g, D.place * 512 + j, none⟩ = some (.int .u8 (D.d (D.place * 512 + j) : Nat)) := fun j hj => by rw [cell_at hg]; exact take_at htk (by omega)
  obtain ⟨-, -, -, -, -, -, -, -, -, k9, k10, -, -, -, kf, klt⟩ := H.facts
  have HH := Lib.hid H
  have HC := Lib.hid hcells
  clear H hg hc hcm hsz htk hds hp hcells
  have ok := Lib.hid (Dk.fill_ok HH.out.ok)
  generalize D.place * 512 = o at *
  go_enter Try.func39, Try.ntmps39
  go_wp2_with fail
  refine HS.out.mono ?_
  rintro e w1 ⟨rfl, n, rfl⟩
  have B1 := Blk.done (Blk.mode (Blk.drewN (Blk.of HH.out) n) 1 1 rfl) 0 0 rfl
  have K1 : Keeps (· = b) w (((w.drewN n).setCell ⟨b, 522, none⟩ (.int .i64 1)).setCell ⟨b, 521, none⟩ (.int .i64 0)) := (((Keeps.refl _ w).drewN n).setOne _ _).setOne _ _
  obtain ⟨W2, hcp, B2, K2⟩ := copy_buf B1 (fun j => D.d (o + j)) (g := g) (o := o) (fun j hj => by rw [K1.cell (p := ⟨g, o + j, none⟩) (cell_block_lt (HC.out j hj)) hgb]; exact HC.out j hj)
  obtain ⟨-, -, -, -, -, -, -, -, -, -, -, j11, -, -, jf, jlt⟩ := B2.facts
  have HB := Lib.hid B2
  clear B1 B2
  go_wp2_with fail
  go_end0
  refine ⟨rfl, turned HH.out (Blk.mark HB.out true) ?_ ok.out rfl rfl rfl⟩
  exact (K1.trans K2).setOne _ _
theorem Dk.begin_ok {S : Dk} (h : S.ok) (m : Nat) (hm : m < 4) : (S.begin m).ok := by
  unfold Dk.begin
  split
  · split
    · exact Dk.fill_ok h
    · exact Dk.open_ok h m hm
  · exact Dk.fail_ok h 16 (by decide)
theorem begin_in {w : World} {b : Nat} {ds lv : Value} {D : Dk} (H : IdeIn 56 w b ds lv D) (m : Nat) (hm : m < 4) (x : Int) (hx : x = (m : Nat)) :
    Calls Try.prog 39 #[.pointer (some ⟨b, 0, none⟩), .int .i64 x] w fun e w' => e = .returned (.tuple #[]) ∧ IdeIn 56 w' b ds lv (D.begin m) ∧ Keeps (· = b) w w' := by
  subst hx
  unfold Dk.begin
  by_cases hp : D.place < D.n
  · rw [if_pos hp]
    by_cases h1 : m = 1
    · subst h1; rw [if_pos rfl]; exact begin_one H hp
    · rw [if_neg h1]; exact begin_two H m hm h1 hp
  · rw [if_neg hp]; exact begin_no H m hp
end Go.Proofs.Ytebhnfoehgpilaa
