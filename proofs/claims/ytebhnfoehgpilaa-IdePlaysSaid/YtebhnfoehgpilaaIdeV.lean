/- ide: the document's disk: fresh, Line, place, there, fail, begin. -/
import Derived.Test.YtebhnfoehgpilaaIdeO
import Derived.Deep.CutRange
namespace Go.Proofs.Ytebhnfoehgpilaa
open Go.RowKit
set_option linter.unusedVariables false
set_option linter.unusedSimpArgs false

section
variable {w : World} {b : Nat} {ds lv : Value} {D : Dk}
set_option maxHeartbeats 1000000 in
theorem rfresh_in (H : IdeIn 51 w b ds lv D) :
    Calls Try.prog 31 #[.pointer (some ⟨b, 0, none⟩)] w fun e w' => e = .returned (.tuple #[]) ∧ IdeIn 51 w' b ds lv D.fresh ∧ Keeps (· = b) w w' := by
  obtain ⟨-, k1, k2, k3, k4, k5, k6, k7, -, k9, k10, k11, k12, -, kf, klt⟩ := H.facts
  have HH := Lib.hid H
  clear H
  go_enter Try.func31, Try.ntmps31
  go_wp2_with fail
  go_end0
  have B1 := Blk.reg (Blk.of HH.out) 0 0 0 rfl (by decide)
  have B2 := Blk.reg B1 1 1 1 rfl (by decide)
  have B3 := Blk.reg B2 2 1 1 rfl (by decide)
  have B4 := Blk.reg B3 3 1 1 rfl (by decide)
  have B5 := Blk.reg B4 4 0 0 rfl (by decide)
  have B6 := Blk.reg B5 5 0 0 rfl (by decide)
  have B7 := Blk.reg B6 6 0 0 rfl (by decide)
  have B8 := Blk.failed (Blk.mark (Blk.done (Blk.mode B7 0 0 rfl) 0 0 rfl) false) false
  rw [← Dk.fresh_eq] at B8
  refine ⟨rfl, turned HH.out B8 ?_ (Dk.fresh_ok HH.out.ok) rfl rfl rfl⟩
  (repeat' (first | (with_reducible exact Keeps.refl _ _) | (with_reducible refine Keeps.setOne ?_ _ _)))
set_option maxHeartbeats 1000000 in
theorem rline_in (H : IdeIn 51 w b ds lv D) :
    Calls Try.prog 23 #[.pointer (some ⟨b, 0, none⟩)] w fun e w' => e = .returned (.bool D.line) ∧ w = w' := by
  obtain ⟨-, -, -, -, -, -, -, -, k8, -, -, k11, -⟩ := H.facts
  have h1 := H.ok.c
  have hb : ((D.c : Int) / 2 % 2 == 0) = (D.c / 2 % 2 == 0) := by rw [Bool.eq_iff_iff]; simp; omega
  cases hm : D.mark
  all_goals
    rw [hm] at k11
    have HM := Lib.hid hm
    clear hm
    go_enter Try.func23, Try.ntmps23
    go_wp2_with fail
    go_ret
    exact ⟨by unfold Dk.line; rw [HM.out]; rfl, rfl⟩
set_option maxHeartbeats 2000000 in
theorem rplace_in (H : IdeIn 51 w b ds lv D) :
    Calls Try.prog 42 #[.pointer (some ⟨b, 0, none⟩)] w fun e w' => e = .returned (.int .i64 (D.place : Nat)) ∧ ∃ n, w' = w.drewN n := by
  obtain ⟨-, -, -, -, k4, k5, k6, k7, -⟩ := H.facts
  have h3 := H.ok.r 3
  have h4 := H.ok.r 4
  have h5 := H.ok.r 5
  have h6 := H.ok.r 6
  have HP := Lib.hid (show (D.r 3 : Int) + (D.r 4 : Int) * 256 + (D.r 5 : Int) * 65536 + (D.r 6 : Int) % 16 * 16777216 = ((D.place : Nat) : Int) from by unfold Dk.place; omega)
  have q1 : (D.r 6 : Int).tmod 16 = (D.r 6 : Int) % 16 := Int.tmod_eq_emod_of_nonneg (by omega)
  have s1 : IntKind.i64.wrap ((D.r 3 : Int) + (D.r 4 : Int) * 256) = (D.r 3 : Int) + (D.r 4 : Int) * 256 := wraps_i64 _ (by omega) (by omega)
  have s2 : IntKind.i64.wrap ((D.r 3 : Int) + (D.r 4 : Int) * 256 + (D.r 5 : Int) * 65536) = (D.r 3 : Int) + (D.r 4 : Int) * 256 + (D.r 5 : Int) * 65536 := wraps_i64 _ (by omega) (by omega)
  have s3 : IntKind.i64.wrap ((D.r 3 : Int) + (D.r 4 : Int) * 256 + (D.r 5 : Int) * 65536 + (D.r 6 : Int) % 16 * 16777216) = (D.r 3 : Int) + (D.r 4 : Int) * 256 + (D.r 5 : Int) * 65536 + (D.r 6 : Int) % 16 * 16777216 := wraps_i64 _ (by omega) (by omega)
  clear H
  go_enter Try.func42, Try.ntmps42
  go_wp2_with fail
  go_quiet (fail)
  go_wp2_with fail
  go_ret
  exact ⟨by rw [HP.out]; rfl, _, rfl⟩
set_option maxHeartbeats 1000000 in
theorem rthere_in (H : IdeIn 51 w b ds lv D) :
    Calls Try.prog 40 #[.pointer (some ⟨b, 0, none⟩)] w fun e w' => e = .returned (.bool (decide (D.place < D.n))) ∧ ∃ n, w' = w.drewN n := by
  obtain ⟨k0, -⟩ := H.facts
  obtain ⟨da, dc, hds⟩ := H.disk.len
  rw [hds] at k0
  have hp := Dk.place_lt H.ok
  have hn := H.ok.n
  have HP := Lib.hid (fun w1 (h : w1.heap = w.heap) => rplace_in (H.of_heap (w' := w1) (fun k _ => by rw [h])))
  have HD := Lib.hid (show decide (((D.place : Nat) : Int) + 1 ≤ ((D.n : Nat) : Int)) = decide (D.place < D.n) from decide_eq_decide.2 (by omega))
  clear H hds
  generalize D.place = p at *
  have s1 : IntKind.i64.wrap ((p : Int) + 1) = (p : Int) + 1 := wraps_i64 _ (by omega) (by omega)
  have s2 : IntKind.i64.wrap (((p : Int) + 1) * 512) = ((p : Int) + 1) * 512 := wraps_i64 _ (by omega) (by omega)
  have k0d : ∀ n, (w.drewN n).cell? ⟨b, 0, none⟩ = some (.slice da (D.n * 512) dc) := fun n => k0
  go_enter Try.func40, Try.ntmps40
  go_wp2_with fail
  go_quiet ((go_at_call 42; exact Calls.quiet_of (HP.out _ rfl)))
  go_wp2_with fail
  go_ret
  exact ⟨by rw [← HD.out]; rfl, _, rfl⟩
set_option maxHeartbeats 1000000 in
theorem rfail_in (H : IdeIn 51 w b ds lv D) (x : Nat) (hx : x < 256) :
    Calls Try.prog 41 #[.pointer (some ⟨b, 0, none⟩), .int .u8 x] w fun e w' => e = .returned (.tuple #[]) ∧ IdeIn 51 w' b ds lv (D.fail x) ∧ Keeps (· = b) w w' := by
  obtain ⟨-, -, k2, -, -, -, -, -, -, -, k10, k11, k12, -, kf, klt⟩ := H.facts
  have HH := Lib.hid H
  clear H
  go_enter Try.func41, Try.ntmps41
  go_wp2_with fail
  go_end0
  refine ⟨rfl, turned HH.out (Blk.mark (Blk.mode (Blk.failed (Blk.reg (Blk.of HH.out) 1 x _ rfl (by decide)) true) 0 _ rfl) true) ?_ (Dk.fail_ok HH.out.ok x hx) rfl rfl rfl⟩
  (repeat' (first | (with_reducible exact Keeps.refl _ _) | (with_reducible refine Keeps.setOne ?_ _ _)))
set_option maxHeartbeats 1000000 in
theorem rbegin_no (H : IdeIn 51 w b ds lv D) (m : Int) (hp : ¬ D.place < D.n) :
    Calls Try.prog 44 #[.pointer (some ⟨b, 0, none⟩), .int .i64 m] w fun e w' => e = .returned (.tuple #[]) ∧ IdeIn 51 w' b ds lv (D.fail 16) ∧ Keeps (· = b) w w' := by
  have HS := Lib.hid (rthere_in H)
  rw [decide_eq_false hp] at HS
  have HH := Lib.hid H
  clear H
  go_enter Try.func44, Try.ntmps44
  go_wp2_with fail
  refine HS.out.mono ?_
  rintro e w1 ⟨rfl, n, rfl⟩
  go_wp2_with fail
  refine (rfail_in (HH.out.drewN n) 16 (by decide)).mono ?_
  rintro e w2 ⟨rfl, H2, K2⟩
  have HX := Lib.hid (And.intro H2 K2)
  clear H2 K2
  go_wp2_with fail
  go_returns
  exact ⟨rfl, HX.out.1, ((Keeps.refl _ w).drewN n).trans HX.out.2⟩
set_option maxHeartbeats 1000000 in
theorem rbegin_two (H : IdeIn 51 w b ds lv D) (m : Nat) (hm : m < 4) (h1 : m ≠ 1) (hp : D.place < D.n) :
    Calls Try.prog 44 #[.pointer (some ⟨b, 0, none⟩), .int .i64 m] w fun e w' => e = .returned (.tuple #[]) ∧ IdeIn 51 w' b ds lv { D with mode := m, done := 0 } ∧ Keeps (· = b) w w' := by
  have HS := Lib.hid (rthere_in H)
  rw [decide_eq_true hp] at HS
  have hm1 : ((m : Int) == 1) = false := by simp; omega
  obtain ⟨-, -, -, -, -, -, -, -, -, k9, k10, -, -, -, kf, klt⟩ := H.facts
  have HH := Lib.hid H
  clear H hp
  go_enter Try.func44, Try.ntmps44
  go_wp2_with fail
  refine HS.out.mono ?_
  rintro e w1 ⟨rfl, n, rfl⟩
  go_wp2_with fail
  go_end0
  refine ⟨rfl, turned HH.out (Blk.done (Blk.mode (Blk.drewN (Blk.of HH.out) n) m _ rfl) 0 _ rfl) ?_ (Dk.open_ok HH.out.ok m hm) rfl rfl rfl⟩
  (repeat' (first | (with_reducible exact Keeps.refl _ _) | (with_reducible refine Keeps.setOne ?_ _ _) | (with_reducible refine Keeps.drewN ?_ _)))
theorem Dk.cells_buf (S : Dk) (ds ws : Value) (f : Nat → Nat) (h : ∀ i, i < 512 → S.buf i = f i) : S.cells ds ws = ({ S with buf := f } : Dk).cells ds ws := by
  unfold Dk.cells
  refine ofFn_ext (f := S.cell ds ws) fun i hi => ?_
  unfold Dk.cell
  by_cases h9 : 9 ≤ i ∧ i < 521
  · rw [if_neg (by omega), if_neg (by omega), if_neg (by omega), if_pos (by omega), if_neg (by omega), if_neg (by omega), if_neg (by omega), if_pos (by omega), h _ (by omega)]
  · (repeat' split) <;> first | rfl | omega
/-- The buffer while a sector is read: k bytes are. -/
def Dk.part (S : Dk) (o k : Nat) : Dk := { S with mode := 1, done := 0, buf := fun i => if i < k then S.d (o + i) else S.buf i }
theorem Dk.part_succ (S : Dk) (o k : Nat) : (S.part o k).setBuf k (S.d (o + k)) = S.part o (k + 1) := by
  have h : upd (S.part o k).buf k (S.d (o + k)) = (S.part o (k + 1)).buf := by
    funext i
    unfold upd
    show (if i = k then _ else if i < k then _ else _) = if i < k + 1 then _ else _
    by_cases e : i = k
    · rw [if_pos e, if_pos (by omega), e]
    · rw [if_neg e]
      by_cases h : i < k
      · rw [if_pos h, if_pos (by omega)]
      · rw [if_neg h, if_neg (by omega)]
  unfold Dk.setBuf
  rw [h]; rfl
theorem Dk.part_zero (S : Dk) (o : Nat) : S.part o 0 = (S.setMode 1).setDone 0 := by
  unfold Dk.part
  have h : (fun i => if i < 0 then S.d (o + i) else S.buf i) = S.buf := by funext i; rw [if_neg (by omega)]
  rw [h]; rfl
set_option maxRecDepth 20000 in
set_option maxHeartbeats 4000000 in
theorem rbegin_one (H : IdeIn 51 w b ds lv D) (hp : D.place < D.n) :
    Calls Try.prog 44 #[.pointer (some ⟨b, 0, none⟩), .int .i64 1] w fun e w' => e = .returned (.tuple #[]) ∧ IdeIn 51 w' b ds lv { D with mode := 1, done := 0, buf := fun i => D.d (D.place * 512 + i), mark := true } ∧ Keeps (· = b) w w' := by
  have HS := Lib.hid (rthere_in H)
  rw [decide_eq_true hp] at HS
  obtain ⟨g, cap, cur, hds, hg, hc, hcm, hsz, htk⟩ := H.disk.open (by omega)
  have hgb : g ≠ b := fun e => H.d1 (by rw [hds, e]; rfl)
  have hcells : ∀ j, j < 512 → w.cell? ⟨g, D.place * 512 + j, none⟩ = some (.int .u8 (D.d (D.place * 512 + j) : Nat)) := fun j hj => by rw [cell_at hg]; exact take_at htk (by omega)
  obtain ⟨-, -, -, -, -, -, -, -, -, k9, k10, -, -, -, kf, klt⟩ := H.facts
  have HH := Lib.hid H
  have HC := Lib.hid hcells
  have hn := H.ok.n
  have HDS := Lib.hid hds
  clear hcm hc htk
  have hL : D.place * 512 + 512 ≤ D.n * 512 := by omega
  have HPL := Lib.hid (fun (w1 : World) (h : IdeIn 51 w1 b ds lv ((D.setMode 1).setDone 0)) => rplace_in h)
  have ok := Lib.hid (Dk.fill_ok HH.out.ok)
  have okp := Lib.hid (show ((D.setMode 1).setDone 0).ok from Dk.open_ok HH.out.ok 1 (by decide))
  clear H hg hsz hds hp hcells
  have HPP := Lib.hid (show ((D.setMode 1).setDone 0).place = D.place from rfl)
  generalize hO : D.place = p at *
  have HO := Lib.hid hO
  have hL2 : D.n * 512 ≤ 32768 := by omega
  generalize hLL : D.n * 512 = L at *
  have HLL := Lib.hid hLL
  clear hO hLL
  go_enter Try.func44, Try.ntmps44
  go_wp2_with fail
  refine HS.out.mono ?_
  rintro e w1 ⟨rfl, n, rfl⟩
  go_upto_region 6 with (fail)
  have B1 := Blk.done (Blk.mode (Blk.drewN (Blk.of HH.out) n) 1 1 rfl) 0 0 rfl
  have K1 : Keeps (· = b) w (((w.drewN n).setCell ⟨b, 522, none⟩ (.int .i64 1)).setCell ⟨b, 521, none⟩ (.int .i64 0)) := (((Keeps.refl _ w).drewN n).setOne _ _).setOne _ _
  have E1 := turned HH.out B1 K1 okp.out rfl rfl rfl
  change Code.wp _ _ _ _ (((w.drewN n).setCell ⟨b, 522, none⟩ (.int .i64 1)).setCell ⟨b, 521, none⟩ (.int .i64 0))
  clear B1 K1 k9 k10 kf klt
  have HE := Lib.hid E1
  clear E1
  generalize ((w.drewN n).setCell ⟨b, 522, none⟩ (.int .i64 1)).setCell ⟨b, 521, none⟩ (.int .i64 0) = W at *
  go_wp2_with fail
  refine (HPL.out _ HE.out.1).mono ?_
  rw [HPP.out]
  rintro e w1 ⟨rfl, m, rfl⟩
  have q1 : (0 : Int) ≤ (p : Int) := by omega
  have q2 : (p : Int) < 64 := by omega
  go_wp2_with fail
  go_loopw [6] (fun i wc => ∃ k : Nat, k ≤ 512 ∧ i = .int .i64 k ∧ Blk 51 wc b ds lv (D.part (p * 512) k) ∧ Keeps (· = b) w wc) (fun i _ => 512 - (intOf i).toNat)
  case atStart => exact ⟨0, by omega, rfl, by rw [Dk.part_zero]; exact Blk.drewN (Blk.of HE.out.1) m, HE.out.2.drewN m⟩
  case round =>
    obtain ⟨k, hk, rfl, B, K⟩ := hrel
    obtain ⟨j0, -, -, -, -, -, -, -, -, -, -, -, -, -, kf, klt⟩ := B.facts
    have HB := Lib.hid B
    have HK := Lib.hid K
    clear B K
    by_cases h5 : k < 512
    · have r1 : (0 : Int) ≤ (k : Int) := by omega
      have r2 : (k : Int) < 512 := by omega
      have hcell : wr.cell? ⟨b, 9 + k, none⟩ = some (.int .u8 ((D.part (p * 512) k).buf k : Nat)) := HB.out.bcell k h5
      have hsrc : wr.cell? ⟨g, p * 512 + k, none⟩ = some (.int .u8 (D.d (p * 512 + k) : Nat)) := by rw [HK.out.cell (p := ⟨g, p * 512 + k, none⟩) (cell_block_lt (HC.out k h5)) hgb]; exact HC.out k h5
      rw [HDS.out] at j0
      have HN := Lib.hid (Blk.buf HB.out k (D.d (p * 512 + k)) _ rfl h5)
      rw [Dk.part_succ] at HN
      have s1 : IntKind.i64.wrap ((p : Int) * 512 + (k : Int)) = (p : Int) * 512 + (k : Int) := wraps_i64 _ (by omega) (by omega)
      have s2 : (0 : Int) ≤ (p : Int) * 512 + (k : Int) := by omega
      have s3 : (p : Int) * 512 + (k : Int) < L := by omega
      have s4 : ((p : Int) * 512 + (k : Int)).toNat = p * 512 + k := by omega
      have HSS := Lib.hid (show (wr.setCell ⟨b, 9 + k, none⟩ (.int .u8 (D.d (p * 512 + k) : Nat))).drew.cell? ⟨b, 0, none⟩ = some (.slice (some ⟨g, 0, none⟩) L cap) ∧ (wr.setCell ⟨b, 9 + k, none⟩ (.int .u8 (D.d (p * 512 + k) : Nat))).drew.cell? ⟨g, p * 512 + k, none⟩ = some (.int .u8 (D.d (p * 512 + k) : Nat)) from
        ⟨by have h := HN.out.facts.1; rw [HDS.out] at h; exact h, (Keeps.cell (S := (· = b)) (((Keeps.refl _ wr).setOne (9 + k) _).drew) (cell_block_lt hsrc) hgb).trans hsrc⟩)
      go_wp2_with fail
      go_region_held3 (fun w' => w'.cell? ⟨b, 0, none⟩ = some (.slice (some ⟨g, 0, none⟩) L cap) ∧ w'.cell? ⟨g, p * 512 + k, none⟩ = some (.int .u8 (D.d (p * 512 + k) : Nat))) (first | exact HSS.out | go_keep) (fail)
      all_goals
        clear s1 s2 s3 s4
        go_wp2_with fail
        go_roundw
        case rel => exact ⟨k + 1, by omega, by go_num, Blk.drewN HN.out 1, (HK.out.setOne _ _).drew⟩
        case measure => (simp [intOf]) <;> omega
    · have r2 : (512 : Int) ≤ (k : Int) := by omega
      have e5 : k = 512 := by omega
      have HF := Lib.hid (show Blk 51 wr b ds lv { D with mode := 1, done := 0, buf := fun i => D.d (p * 512 + i) } from by
        have h := HB.out
        rw [e5] at h
        unfold Blk at h ⊢
        rw [h, Dk.cells_buf _ ds lv (fun i => D.d (p * 512 + i)) (fun i hi => by show (if i < 512 then _ else _) = _; rw [if_pos hi])]
        rfl)
      clear HB e5
      obtain ⟨-, -, -, -, -, -, -, -, -, -, -, j11, -, -, jf, jlt⟩ := HF.out.facts
      go_wp2_with fail
      go_end0
      exact ⟨rfl, turned HH.out (Blk.mark HF.out true) (HK.out.setOne _ _) ok.out rfl rfl rfl⟩
theorem rbegin_in (H : IdeIn 51 w b ds lv D) (m : Nat) (hm : m < 4) (x : Int) (hx : x = (m : Nat)) :
    Calls Try.prog 44 #[.pointer (some ⟨b, 0, none⟩), .int .i64 x] w fun e w' => e = .returned (.tuple #[]) ∧ IdeIn 51 w' b ds lv (D.begin m) ∧ Keeps (· = b) w w' := by
  subst hx
  unfold Dk.begin
  by_cases hp : D.place < D.n
  · rw [if_pos hp]
    by_cases h1 : m = 1
    · subst h1; rw [if_pos rfl]; exact rbegin_one H hp
    · rw [if_neg h1]; exact rbegin_two H m hm h1 hp
  · rw [if_neg hp]; exact rbegin_no H m hp
end
end Go.Proofs.Ytebhnfoehgpilaa
