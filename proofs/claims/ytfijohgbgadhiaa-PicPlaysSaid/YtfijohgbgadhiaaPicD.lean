/- pic: onward. -/
import Derived.Test.YtfijohgbgadhiaaPicB
namespace Go.Proofs.Ytfijohgbgadhiaa
open Go.RowKit
set_option linter.unusedVariables false
set_option linter.unusedSimpArgs false

/-- The stage that is found from a stage on. -/
def scan (s : Nat) (second last : Bool) : Nat := if s = 2 ∧ second = true then 2 else if s < 4 ∧ last = true then 3 else 0
theorem scan_lt (s : Nat) (x y : Bool) : scan s x y < 4 := by
  unfold scan
  split
  · decide
  · split <;> decide
def onC (c : Chip) : Chip := { c with stage := scan (c.stage + 1) c.second c.last }
/-- What is left till the last stage. -/
def till (w : World) (p : Addr) : Nat := match w.cell? p with | some (.int _ n) => (4 - n).toNat | _ => 0
theorem till_of {w : World} {p : Addr} {k : IntKind} {n : Int} (h : w.cell? p = some (.int k n)) : till w p = (4 - n).toNat := by
  unfold till
  rw [h]

set_option maxHeartbeats 2000000 in
theorem onc_fields (b : Nat) (d : Chip) (a s m u bs : Nat) (t e : Bool) (st : Nat) (x y : Bool) (h1 : 1 ≤ st) (h4 : st < 4) (w : World) (H : Pair w b (Chip.mk a s m u bs t e st x y) d) :
    Calls Try.prog 24 #[.pointer (some ⟨b, 0, none⟩)] w fun r w' => r = .returned (.tuple #[]) ∧ Pair w' b (Chip.mk a s m u bs t e (scan (st + 1) x y) x y) d ∧ Keeps (· = b) w w' := by
  obtain ⟨k0, k1, k2, k3, k4, k5, k6, k7, k8, k9, k10, k11, k12, k13, k14, k15, k16, k17, k18, k19, kf, klt⟩ := H.facts
  dsimp only at k7 k8 k9
  go_enter Try.func24, Try.ntmps24
  go_wp2_with fail
  go_loopw [] (fun wr => ∃ st', 2 ≤ st' ∧ st' ≤ 4 ∧ scan st' x y = scan (st + 1) x y ∧ Pair wr b (Chip.mk a s m u bs t e st' x y) d ∧ Keeps (· = b) w wr) (fun wr => till wr ⟨b, 7, none⟩)
  case atStart =>
    refine ⟨st + 1, by omega, by omega, rfl, ?_, by (repeat' (first | (with_reducible exact Keeps.refl _ _) | (with_reducible assumption) | (with_reducible refine Keeps.setOne ?_ _ _) | (with_reducible refine Keeps.alloc ?_ _) | (with_reducible refine Keeps.drew ?_) | (with_reducible refine Keeps.drewN ?_ _)))⟩
    unfold Pair Chip.cells at H ⊢
    simp only [List.cons_append, List.nil_append] at H ⊢
    (first | (simp only [heap_set_map, putObj_cells, H, Option.map_some, List.set_cons_succ, List.set_cons_zero, heap_drewN, heap_drew]; done) | (simp only [heap_set_map, putObj_cells, H, Option.map_some, List.set_cons_succ, List.set_cons_zero, heap_drewN, heap_drew]; rfl))
  case round =>
    obtain ⟨st', h2, h5, hs, H1, hk⟩ := hrel
    have HS := Lib.hid hs
    have hT := till_of (H1.facts.2.2.2.2.2.2.2.1)
    have HT := Lib.hid hT
    clear hs hT kf klt H k0 k1 k2 k3 k4 k5 k6 k7 k8 k9 k10 k11 k12 k13 k14 k15 k16 k17 k18 k19
    have H := H1
    clear H1
    obtain ⟨k0, k1, k2, k3, k4, k5, k6, k7, k8, k9, k10, k11, k12, k13, k14, k15, k16, k17, k18, k19, kf, klt⟩ := H.facts
    obtain rfl | rfl | rfl : st' = 2 ∨ st' = 3 ∨ st' = 4 := by omega
    · replace k7 : wr.cell? ⟨b, 7, none⟩ = some (.int .i64 2) := k7
      dsimp only at k8 k9
      cases x <;> cases y
      all_goals
        go_wp2_with fail
        first
          | (go_returns
             refine ⟨rfl, ?_, hk⟩
             rw [← HS.out]
             exact H)
          | (go_roundw
             case rel =>
               refine ⟨3, by omega, by omega, HS.out, ?_, by (repeat' (first | (with_reducible exact Keeps.refl _ _) | (with_reducible assumption) | (with_reducible refine Keeps.setOne ?_ _ _) | (with_reducible refine Keeps.alloc ?_ _) | (with_reducible refine Keeps.drew ?_) | (with_reducible refine Keeps.drewN ?_ _)))⟩
               unfold Pair Chip.cells at H ⊢
               simp only [List.cons_append, List.nil_append] at H ⊢
               (first | (simp only [heap_set_map, putObj_cells, H, Option.map_some, List.set_cons_succ, List.set_cons_zero, heap_drewN, heap_drew]; done) | (simp only [heap_set_map, putObj_cells, H, Option.map_some, List.set_cons_succ, List.set_cons_zero, heap_drewN, heap_drew]; rfl))
             case measure =>
               rw [HT.out, till_of (World.cell?_setCell_same _ _ _ k7)]
               exact (by decide : (4 - 3 : Int).toNat < (4 - 2 : Int).toNat))
    · replace k7 : wr.cell? ⟨b, 7, none⟩ = some (.int .i64 3) := k7
      dsimp only at k8 k9
      cases y
      all_goals
        go_wp2_with fail
        first
          | (go_returns
             refine ⟨rfl, ?_, hk⟩
             rw [← HS.out]
             cases x <;> exact H)
          | (go_roundw
             case rel =>
               refine ⟨4, by omega, by omega, by rw [← HS.out]; cases x <;> rfl, ?_, by (repeat' (first | (with_reducible exact Keeps.refl _ _) | (with_reducible assumption) | (with_reducible refine Keeps.setOne ?_ _ _) | (with_reducible refine Keeps.alloc ?_ _) | (with_reducible refine Keeps.drew ?_) | (with_reducible refine Keeps.drewN ?_ _)))⟩
               unfold Pair Chip.cells at H ⊢
               simp only [List.cons_append, List.nil_append] at H ⊢
               (first | (simp only [heap_set_map, putObj_cells, H, Option.map_some, List.set_cons_succ, List.set_cons_zero, heap_drewN, heap_drew]; done) | (simp only [heap_set_map, putObj_cells, H, Option.map_some, List.set_cons_succ, List.set_cons_zero, heap_drewN, heap_drew]; rfl))
             case measure =>
               rw [HT.out, till_of (World.cell?_setCell_same _ _ _ k7)]
               exact (by decide : (4 - 4 : Int).toNat < (4 - 3 : Int).toNat))
    · replace k7 : wr.cell? ⟨b, 7, none⟩ = some (.int .i64 4) := k7
      dsimp only at k8 k9
      go_wp2_with fail
      go_returns
      have h0 : scan 4 x y = 0 := by cases x <;> cases y <;> rfl
      rw [← HS.out, h0]
      refine ⟨rfl, ?_, by (repeat' (first | (with_reducible exact Keeps.refl _ _) | (with_reducible assumption) | (with_reducible refine Keeps.setOne ?_ _ _) | (with_reducible refine Keeps.alloc ?_ _) | (with_reducible refine Keeps.drew ?_) | (with_reducible refine Keeps.drewN ?_ _)))⟩
      unfold Pair Chip.cells at H ⊢
      simp only [List.cons_append, List.nil_append] at H ⊢
      (first | (simp only [heap_set_map, putObj_cells, H, Option.map_some, List.set_cons_succ, List.set_cons_zero, heap_drewN, heap_drew]; done) | (simp only [heap_set_map, putObj_cells, H, Option.map_some, List.set_cons_succ, List.set_cons_zero, heap_drewN, heap_drew]; rfl))

set_option maxHeartbeats 2000000 in
theorem ond_fields (b : Nat) (c : Chip) (a s m u bs : Nat) (t e : Bool) (st : Nat) (x y : Bool) (h1 : 1 ≤ st) (h4 : st < 4) (w : World) (H : Pair w b c (Chip.mk a s m u bs t e st x y)) :
    Calls Try.prog 24 #[.pointer (some ⟨b, 10, none⟩)] w fun r w' => r = .returned (.tuple #[]) ∧ Pair w' b c (Chip.mk a s m u bs t e (scan (st + 1) x y) x y) ∧ Keeps (· = b) w w' := by
  obtain ⟨k0, k1, k2, k3, k4, k5, k6, k7, k8, k9, k10, k11, k12, k13, k14, k15, k16, k17, k18, k19, kf, klt⟩ := H.facts
  dsimp only at k17 k18 k19
  go_enter Try.func24, Try.ntmps24
  go_wp2_with fail
  go_loopw [] (fun wr => ∃ st', 2 ≤ st' ∧ st' ≤ 4 ∧ scan st' x y = scan (st + 1) x y ∧ Pair wr b c (Chip.mk a s m u bs t e st' x y) ∧ Keeps (· = b) w wr) (fun wr => till wr ⟨b, 17, none⟩)
  case atStart =>
    refine ⟨st + 1, by omega, by omega, rfl, ?_, by (repeat' (first | (with_reducible exact Keeps.refl _ _) | (with_reducible assumption) | (with_reducible refine Keeps.setOne ?_ _ _) | (with_reducible refine Keeps.alloc ?_ _) | (with_reducible refine Keeps.drew ?_) | (with_reducible refine Keeps.drewN ?_ _)))⟩
    unfold Pair Chip.cells at H ⊢
    simp only [List.cons_append, List.nil_append] at H ⊢
    (first | (simp only [heap_set_map, putObj_cells, H, Option.map_some, List.set_cons_succ, List.set_cons_zero, heap_drewN, heap_drew]; done) | (simp only [heap_set_map, putObj_cells, H, Option.map_some, List.set_cons_succ, List.set_cons_zero, heap_drewN, heap_drew]; rfl))
  case round =>
    obtain ⟨st', h2, h5, hs, H1, hk⟩ := hrel
    have HS := Lib.hid hs
    have hT := till_of (H1.facts.2.2.2.2.2.2.2.2.2.2.2.2.2.2.2.2.2.1)
    have HT := Lib.hid hT
    clear hs hT kf klt H k0 k1 k2 k3 k4 k5 k6 k7 k8 k9 k10 k11 k12 k13 k14 k15 k16 k17 k18 k19
    have H := H1
    clear H1
    obtain ⟨k0, k1, k2, k3, k4, k5, k6, k7, k8, k9, k10, k11, k12, k13, k14, k15, k16, k17, k18, k19, kf, klt⟩ := H.facts
    obtain rfl | rfl | rfl : st' = 2 ∨ st' = 3 ∨ st' = 4 := by omega
    · replace k17 : wr.cell? ⟨b, 17, none⟩ = some (.int .i64 2) := k17
      dsimp only at k18 k19
      cases x <;> cases y
      all_goals
        go_wp2_with fail
        first
          | (go_returns
             refine ⟨rfl, ?_, hk⟩
             rw [← HS.out]
             exact H)
          | (go_roundw
             case rel =>
               refine ⟨3, by omega, by omega, HS.out, ?_, by (repeat' (first | (with_reducible exact Keeps.refl _ _) | (with_reducible assumption) | (with_reducible refine Keeps.setOne ?_ _ _) | (with_reducible refine Keeps.alloc ?_ _) | (with_reducible refine Keeps.drew ?_) | (with_reducible refine Keeps.drewN ?_ _)))⟩
               unfold Pair Chip.cells at H ⊢
               simp only [List.cons_append, List.nil_append] at H ⊢
               (first | (simp only [heap_set_map, putObj_cells, H, Option.map_some, List.set_cons_succ, List.set_cons_zero, heap_drewN, heap_drew]; done) | (simp only [heap_set_map, putObj_cells, H, Option.map_some, List.set_cons_succ, List.set_cons_zero, heap_drewN, heap_drew]; rfl))
             case measure =>
               rw [HT.out, till_of (World.cell?_setCell_same _ _ _ k17)]
               exact (by decide : (4 - 3 : Int).toNat < (4 - 2 : Int).toNat))
    · replace k17 : wr.cell? ⟨b, 17, none⟩ = some (.int .i64 3) := k17
      dsimp only at k18 k19
      cases y
      all_goals
        go_wp2_with fail
        first
          | (go_returns
             refine ⟨rfl, ?_, hk⟩
             rw [← HS.out]
             cases x <;> exact H)
          | (go_roundw
             case rel =>
               refine ⟨4, by omega, by omega, by rw [← HS.out]; cases x <;> rfl, ?_, by (repeat' (first | (with_reducible exact Keeps.refl _ _) | (with_reducible assumption) | (with_reducible refine Keeps.setOne ?_ _ _) | (with_reducible refine Keeps.alloc ?_ _) | (with_reducible refine Keeps.drew ?_) | (with_reducible refine Keeps.drewN ?_ _)))⟩
               unfold Pair Chip.cells at H ⊢
               simp only [List.cons_append, List.nil_append] at H ⊢
               (first | (simp only [heap_set_map, putObj_cells, H, Option.map_some, List.set_cons_succ, List.set_cons_zero, heap_drewN, heap_drew]; done) | (simp only [heap_set_map, putObj_cells, H, Option.map_some, List.set_cons_succ, List.set_cons_zero, heap_drewN, heap_drew]; rfl))
             case measure =>
               rw [HT.out, till_of (World.cell?_setCell_same _ _ _ k17)]
               exact (by decide : (4 - 4 : Int).toNat < (4 - 3 : Int).toNat))
    · replace k17 : wr.cell? ⟨b, 17, none⟩ = some (.int .i64 4) := k17
      dsimp only at k18 k19
      go_wp2_with fail
      go_returns
      have h0 : scan 4 x y = 0 := by cases x <;> cases y <;> rfl
      rw [← HS.out, h0]
      refine ⟨rfl, ?_, by (repeat' (first | (with_reducible exact Keeps.refl _ _) | (with_reducible assumption) | (with_reducible refine Keeps.setOne ?_ _ _) | (with_reducible refine Keeps.alloc ?_ _) | (with_reducible refine Keeps.drew ?_) | (with_reducible refine Keeps.drewN ?_ _)))⟩
      unfold Pair Chip.cells at H ⊢
      simp only [List.cons_append, List.nil_append] at H ⊢
      (first | (simp only [heap_set_map, putObj_cells, H, Option.map_some, List.set_cons_succ, List.set_cons_zero, heap_drewN, heap_drew]; done) | (simp only [heap_set_map, putObj_cells, H, Option.map_some, List.set_cons_succ, List.set_cons_zero, heap_drewN, heap_drew]; rfl))

theorem onward_c (b : Nat) (c d : Chip) (h1 : c.stage ≠ 0) (h4 : c.stage < 4) (w : World) (H : Pair w b c d) :
    Calls Try.prog 24 #[.pointer (some ⟨b, 0, none⟩)] w fun r w' => r = .returned (.tuple #[]) ∧ Pair w' b (onC c) d ∧ Keeps (· = b) w w' := by
  obtain ⟨a, s, m, u, bs, t, e, st, x, y⟩ := c
  dsimp only at h1 h4
  exact onc_fields b d a s m u bs t e st x y (by omega) h4 w H

theorem onward_d (b : Nat) (c d : Chip) (h1 : d.stage ≠ 0) (h4 : d.stage < 4) (w : World) (H : Pair w b c d) :
    Calls Try.prog 24 #[.pointer (some ⟨b, 10, none⟩)] w fun r w' => r = .returned (.tuple #[]) ∧ Pair w' b c (onC d) ∧ Keeps (· = b) w w' := by
  obtain ⟨a, s, m, u, bs, t, e, st, x, y⟩ := d
  dsimp only at h1 h4
  exact ond_fields b c a s m u bs t e st x y (by omega) h4 w H
end Go.Proofs.Ytfijohgbgadhiaa
