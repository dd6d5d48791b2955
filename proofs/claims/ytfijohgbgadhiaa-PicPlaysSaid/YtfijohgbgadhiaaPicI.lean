/- pic: setup; awake. -/
import Derived.Test.YtfijohgbgadhiaaPicH
namespace Go.Proofs.Ytfijohgbgadhiaa
open Go.RowKit
set_option linter.unusedVariables false
set_option linter.unusedSimpArgs false

theorem below_drewN {B : Nat} {w a : World} (h : Below B w a) (n : Nat) : Below B w (a.drewN n) := ⟨h.os, h.tape, h.output, h.size, h.block⟩
def setC (b : Nat) : Chip := Chip.mk 0 0 0 0 b false false 0 true true
theorem setC_ok (b : Nat) (hb : b < 256) : (setC b).ok := ⟨by show (0:Nat) < 256; decide, by show (0:Nat) < 256; decide, by show (0:Nat) < 256; decide, by show (0:Nat) < 256; decide, hb, by show (0:Nat) < 4; decide⟩

theorem mk_ok (a s m u bs st : Nat) (t e x y : Bool) (h1 : a < 256) (h2 : s < 256) (h3 : m < 256) (h4 : u < 256) (h5 : bs < 256) (h6 : st < 4) : (Chip.mk a s m u bs t e st x y).ok := ⟨h1, h2, h3, h4, h5, h6⟩

set_option maxHeartbeats 2000000 in
theorem setup_any (w : World) : Calls Try.prog 9 #[.int .u8 32, .int .u8 40] w fun e w' => e = .returned (.pointer (some ⟨w.heap.size, 0, none⟩)) ∧ Pair w' w.heap.size (setC 32) (setC 40) ∧ Below w.heap.size w w' := by
  have B : ∀ k, k = w.heap.size → w.heap.size ≤ k := fun k hk => by omega
  go_enter Try.func9, Try.ntmps9
  go_wp2_with fail
  refine (new_any _).mono ?_
  rintro e w0 ⟨rfl, H0, b0⟩
  go_wp2_with fail
  refine (out_any _ (Chip.mk 0 0 0 0 0 false false 0 false false) (Chip.mk 0 0 0 0 0 false false 0 false false) (mk_ok _ _ _ _ _ _ _ _ _ _ (by decide) (by decide) (by decide) (by decide) (by decide) (by decide)) (mk_ok _ _ _ _ _ _ _ _ _ _ (by decide) (by decide) (by decide) (by decide) (by decide) (by decide)) 0 17 (by decide) _ H0).mono ?_
  rintro e w1 ⟨rfl, G1, k1⟩
  have H1 : Pair w1 w.heap.size (Chip.mk 0 0 0 0 0 false false 1 true true) (Chip.mk 0 0 0 0 0 false false 0 false false) := G1
  clear G1 H0
  have z0 := b0.size
  have b1 := Keeps.toBelow b0 k1 z0 B
  clear k1 b0
  go_wp2_with fail
  refine (out_any _ (Chip.mk 0 0 0 0 0 false false 1 true true) (Chip.mk 0 0 0 0 0 false false 0 false false) (mk_ok _ _ _ _ _ _ _ _ _ _ (by decide) (by decide) (by decide) (by decide) (by decide) (by decide)) (mk_ok _ _ _ _ _ _ _ _ _ _ (by decide) (by decide) (by decide) (by decide) (by decide) (by decide)) 1 32 (by decide) _ H1).mono ?_
  rintro e w2 ⟨rfl, G2, k2⟩
  have H2 : Pair w2 w.heap.size (Chip.mk 0 0 0 0 32 false false 2 true true) (Chip.mk 0 0 0 0 0 false false 0 false false) := G2
  clear G2 H1
  have z1 := b1.size
  have b2 := Keeps.toBelow b1 k2 z1 B
  clear k2 b1
  go_wp2_with fail
  refine (out_any _ (Chip.mk 0 0 0 0 32 false false 2 true true) (Chip.mk 0 0 0 0 0 false false 0 false false) (mk_ok _ _ _ _ _ _ _ _ _ _ (by decide) (by decide) (by decide) (by decide) (by decide) (by decide)) (mk_ok _ _ _ _ _ _ _ _ _ _ (by decide) (by decide) (by decide) (by decide) (by decide) (by decide)) 1 4 (by decide) _ H2).mono ?_
  rintro e w3 ⟨rfl, G3, k3⟩
  have H3 : Pair w3 w.heap.size (Chip.mk 0 0 0 0 32 false false 3 true true) (Chip.mk 0 0 0 0 0 false false 0 false false) := G3
  clear G3 H2
  have z2 := b2.size
  have b3 := Keeps.toBelow b2 k3 z2 B
  clear k3 b2
  go_wp2_with fail
  refine (out_any _ (Chip.mk 0 0 0 0 32 false false 3 true true) (Chip.mk 0 0 0 0 0 false false 0 false false) (mk_ok _ _ _ _ _ _ _ _ _ _ (by decide) (by decide) (by decide) (by decide) (by decide) (by decide)) (mk_ok _ _ _ _ _ _ _ _ _ _ (by decide) (by decide) (by decide) (by decide) (by decide) (by decide)) 1 1 (by decide) _ H3).mono ?_
  rintro e w4 ⟨rfl, G4, k4⟩
  have H4 : Pair w4 w.heap.size (Chip.mk 0 0 0 0 32 false false 0 true true) (Chip.mk 0 0 0 0 0 false false 0 false false) := G4
  clear G4 H3
  have z3 := b3.size
  have b4 := Keeps.toBelow b3 k4 z3 B
  clear k4 b3
  go_wp2_with fail
  refine (out_any _ (Chip.mk 0 0 0 0 32 false false 0 true true) (Chip.mk 0 0 0 0 0 false false 0 false false) (mk_ok _ _ _ _ _ _ _ _ _ _ (by decide) (by decide) (by decide) (by decide) (by decide) (by decide)) (mk_ok _ _ _ _ _ _ _ _ _ _ (by decide) (by decide) (by decide) (by decide) (by decide) (by decide)) 2 17 (by decide) _ H4).mono ?_
  rintro e w5 ⟨rfl, G5, k5⟩
  have H5 : Pair w5 w.heap.size (Chip.mk 0 0 0 0 32 false false 0 true true) (Chip.mk 0 0 0 0 0 false false 1 true true) := G5
  clear G5 H4
  have z4 := b4.size
  have b5 := Keeps.toBelow b4 k5 z4 B
  clear k5 b4
  go_wp2_with fail
  refine (out_any _ (Chip.mk 0 0 0 0 32 false false 0 true true) (Chip.mk 0 0 0 0 0 false false 1 true true) (mk_ok _ _ _ _ _ _ _ _ _ _ (by decide) (by decide) (by decide) (by decide) (by decide) (by decide)) (mk_ok _ _ _ _ _ _ _ _ _ _ (by decide) (by decide) (by decide) (by decide) (by decide) (by decide)) 3 40 (by decide) _ H5).mono ?_
  rintro e w6 ⟨rfl, G6, k6⟩
  have H6 : Pair w6 w.heap.size (Chip.mk 0 0 0 0 32 false false 0 true true) (Chip.mk 0 0 0 0 40 false false 2 true true) := G6
  clear G6 H5
  have z5 := b5.size
  have b6 := Keeps.toBelow b5 k6 z5 B
  clear k6 b5
  go_wp2_with fail
  refine (out_any _ (Chip.mk 0 0 0 0 32 false false 0 true true) (Chip.mk 0 0 0 0 40 false false 2 true true) (mk_ok _ _ _ _ _ _ _ _ _ _ (by decide) (by decide) (by decide) (by decide) (by decide) (by decide)) (mk_ok _ _ _ _ _ _ _ _ _ _ (by decide) (by decide) (by decide) (by decide) (by decide) (by decide)) 3 2 (by decide) _ H6).mono ?_
  rintro e w7 ⟨rfl, G7, k7⟩
  have H7 : Pair w7 w.heap.size (Chip.mk 0 0 0 0 32 false false 0 true true) (Chip.mk 0 0 0 0 40 false false 3 true true) := G7
  clear G7 H6
  have z6 := b6.size
  have b7 := Keeps.toBelow b6 k7 z6 B
  clear k7 b6
  go_wp2_with fail
  refine (out_any _ (Chip.mk 0 0 0 0 32 false false 0 true true) (Chip.mk 0 0 0 0 40 false false 3 true true) (mk_ok _ _ _ _ _ _ _ _ _ _ (by decide) (by decide) (by decide) (by decide) (by decide) (by decide)) (mk_ok _ _ _ _ _ _ _ _ _ _ (by decide) (by decide) (by decide) (by decide) (by decide) (by decide)) 3 1 (by decide) _ H7).mono ?_
  rintro e w8 ⟨rfl, G8, k8⟩
  have H8 : Pair w8 w.heap.size (Chip.mk 0 0 0 0 32 false false 0 true true) (Chip.mk 0 0 0 0 40 false false 0 true true) := G8
  clear G8 H7
  have z7 := b7.size
  have b8 := Keeps.toBelow b7 k8 z7 B
  clear k8 b7
  go_wp2_with fail
  go_returns
  exact ⟨rfl, H8, b8⟩

set_option maxHeartbeats 2000000 in
theorem awake_any (w : World) : Calls Try.prog 8 #[] w fun e w' => e = .returned (.bool true) ∧ Below w.heap.size w w' := by
  have B : ∀ k, k = w.heap.size → w.heap.size ≤ k := fun k hk => by omega
  go_enter Try.func8, Try.ntmps8
  go_wp2_with fail
  refine (setup_any _).mono ?_
  rintro e w0 ⟨rfl, H0, b0⟩
  have z0 := b0.size
  go_wp2_with fail
  refine (line_e _ _ _ (setC_ok _ (by decide)) (setC_ok _ (by decide)) 4 true _ H0).mono ?_
  rintro e w1 ⟨rfl, G1, k1⟩
  have H1 : Pair w1 w.heap.size (Chip.mk 16 0 0 16 32 false false 0 true true) (setC 40) := G1
  clear G1 H0
  have b1 := Keeps.toBelow b0 k1 z0 B
  have e1 : lerr 4 = 0 := rfl
  rw [e1]
  clear b0 k1 z0 e1
  go_wp2_with fail
  refine (pending_any _ _ _ (mk_ok _ _ _ _ _ _ _ _ _ _ (by decide) (by decide) (by decide) (by decide) (by decide) (by decide)) (setC_ok _ (by decide)) _ H1).mono ?_
  rintro e w2 ⟨rfl, n2, rfl⟩
  have e2 : isTold (ask0 (Chip.mk 16 0 0 16 32 false false 0 true true) (setC 40)) (0) (0) = true := by decide +kernel
  dsimp only
  rw [e2]
  clear e2
  go_wp2_with fail
  refine (ack_any _ _ _ (mk_ok _ _ _ _ _ _ _ _ _ _ (by decide) (by decide) (by decide) (by decide) (by decide) (by decide)) (setC_ok _ (by decide)) (w1.drewN n2) H1).mono ?_
  rintro e w3 ⟨rfl, G3, k3⟩
  have e3 : vec0 (Chip.mk 16 0 0 16 32 false false 0 true true) (setC 40) = 36 := by decide +kernel
  have x3 : tkc (Chip.mk 16 0 0 16 32 false false 0 true true) (setC 40) = Chip.mk 0 16 0 16 32 false false 0 true true := by kernel_rfl
  have y3 : tkd (Chip.mk 16 0 0 16 32 false false 0 true true) (setC 40) = setC 40 := by kernel_rfl
  rw [x3, y3] at G3
  rw [e3]
  have H3 := G3
  have z1 := b1.size
  have b3 := Keeps.toBelow (below_drewN b1 n2) k3 z1 B
  clear G3 e3 x3 y3 k3 b1 H1
  go_wp2_with fail
  refine (line_e _ _ _ (mk_ok _ _ _ _ _ _ _ _ _ _ (by decide) (by decide) (by decide) (by decide) (by decide) (by decide)) (setC_ok _ (by decide)) 5 true _ H3).mono ?_
  rintro e w4 ⟨rfl, G4, k4⟩
  have H4 : Pair w4 w.heap.size (Chip.mk 32 16 0 48 32 false false 0 true true) (setC 40) := G4
  have z3 := b3.size
  have b4 := Keeps.toBelow b3 k4 z3 B
  clear G4 H3 k4 b3
  go_wp2_with fail
  refine (pending_any _ _ _ (mk_ok _ _ _ _ _ _ _ _ _ _ (by decide) (by decide) (by decide) (by decide) (by decide) (by decide)) (setC_ok _ (by decide)) _ H4).mono ?_
  rintro e w5 ⟨rfl, n5, rfl⟩
  have e5 : isTold (ask0 (Chip.mk 32 16 0 48 32 false false 0 true true) (setC 40)) (0) (16) = false := by decide +kernel
  dsimp only
  rw [e5]
  clear e5
  go_wp2_with fail
  refine (out_any _ _ _ (mk_ok _ _ _ _ _ _ _ _ _ _ (by decide) (by decide) (by decide) (by decide) (by decide) (by decide)) (setC_ok _ (by decide)) 0 32 (by decide) (w4.drewN n5) H4).mono ?_
  rintro e w6 ⟨rfl, G6, k6⟩
  have H6 : Pair w6 w.heap.size (Chip.mk 32 0 0 48 32 false false 0 true true) (setC 40) := by
    have x : otc (Chip.mk 32 16 0 48 32 false false 0 true true) 0 32 = Chip.mk 32 0 0 48 32 false false 0 true true := by kernel_rfl
    rw [x] at G6
    exact G6
  have z4 := b4.size
  have b6 := Keeps.toBelow (below_drewN b4 n5) k6 z4 B
  have e6 : perr 0 = 0 := rfl
  rw [e6]
  clear G6 k6 b4 H4 e6
  go_wp2_with fail
  refine (pending_any _ _ _ (mk_ok _ _ _ _ _ _ _ _ _ _ (by decide) (by decide) (by decide) (by decide) (by decide) (by decide)) (setC_ok _ (by decide)) _ H6).mono ?_
  rintro e w7 ⟨rfl, n7, rfl⟩
  have e7 : isTold (ask0 (Chip.mk 32 0 0 48 32 false false 0 true true) (setC 40)) (0) (0) = true := by decide +kernel
  dsimp only
  rw [e7]
  clear e7
  go_wp2_with fail
  refine (line_bad w.heap.size 16 true (w6.drewN n7) (by omega)).mono ?_
  rintro e w8 ⟨rfl, rfl⟩
  go_wp2_with fail
  go_returns
  exact ⟨rfl, below_drewN b6 n7⟩
end Go.Proofs.Ytfijohgbgadhiaa
