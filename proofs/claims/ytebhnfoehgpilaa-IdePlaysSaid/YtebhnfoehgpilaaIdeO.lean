/- ide's laws: a command at a place; the calls at the head of all statements. -/
import Derived.Test.YtebhnfoehgpilaaIdeN
namespace Go.Proofs.Ytebhnfoehgpilaa
open Go.RowKit
set_option linter.unusedVariables false

theorem out_log0 (S : Dk) (reg size : Int) (v : Nat) (h0 : reg ≠ 0) : (S.out reg size v).log.length ≤ S.log.length := by
  by_cases h : callErr reg size = 0
  · have := out_log S reg size v h; rw [if_neg h0] at this; exact this
  · unfold Dk.out; rw [if_pos h]; exact Nat.le_refl _
def Dk.at1 (S : Dk) (p : Nat) : Dk := ((((S.out 6 1 64).out 5 1 0).out 4 1 0).out 3 1 p).out 2 1 1
def Dk.sect (S : Dk) (c p : Nat) : Dk := (S.at1 p).out 7 1 c
theorem sect_log (S : Dk) (c p : Nat) : (S.sect c p).log.length ≤ S.log.length := by
  unfold Dk.sect Dk.at1
  exact Nat.le_trans (out_log0 _ _ _ _ (by decide)) (Nat.le_trans (out_log0 _ _ _ _ (by decide)) (Nat.le_trans (out_log0 _ _ _ _ (by decide)) (Nat.le_trans (out_log0 _ _ _ _ (by decide)) (Nat.le_trans (out_log0 _ _ _ _ (by decide)) (out_log0 _ _ _ _ (by decide))))))
set_option maxHeartbeats 1000000 in
theorem sector_any {w0 w : World} {b : Nat} {D : Dk} (h : At w0 w b D) (c : Nat) (hc : c < 4294967296) (p : Int) (pn : Nat) (hp : p % 4294967296 = (pn : Int)) (hL : D.log.length + 4 < 17592186044416) :
    Calls Try.prog 14 #[.pointer (some ⟨b, 0, none⟩), .int .u32 c, .int .i64 p] w fun e w' => e = .returned (.tuple #[]) ∧ At w0 w' b (D.sect c pn) := by
  have hpn : pn < 4294967296 := by omega
  have HP := Lib.hid hp
  have HL := Lib.hid hL
  clear hp hL
  go_enter Try.func14, Try.ntmps14
  go_wp2_with fail
  refine (out_at h 6 1 64 (by decide) HL.out).mono ?_
  rintro e w1 ⟨rfl, h1⟩
  have L1 := Lib.hid (Nat.le_trans (Nat.add_le_add_right (out_log0 D 6 1 64 (by decide)) 4) (Nat.le_of_lt HL.out))
  go_wp2_with fail
  refine (out_at h1 5 1 0 (by decide) (by have := HL.out; have := out_log0 D 6 1 64 (by decide); omega)).mono ?_
  rintro e w2 ⟨rfl, h2⟩
  go_wp2_with fail
  refine (out_at h2 4 1 0 (by decide) (by have := HL.out; have := out_log0 D 6 1 64 (by decide); have := out_log0 (D.out 6 1 64) 5 1 0 (by decide); omega)).mono ?_
  rintro e w3 ⟨rfl, h3⟩
  go_wp2_with fail
  have hb3 : ((((D.out 6 1 64).out 5 1 0).out 4 1 0).log.length + 4 < 17592186044416) := by
    have := HL.out; have := out_log0 D 6 1 64 (by decide); have := out_log0 (D.out 6 1 64) 5 1 0 (by decide); have := out_log0 ((D.out 6 1 64).out 5 1 0) 4 1 0 (by decide); omega
  rw [HP.out]
  have HB3 := Lib.hid hb3
  clear hb3
  refine (out_at h3 3 1 pn hpn HB3.out).mono ?_
  rintro e w4 ⟨rfl, h4⟩
  go_wp2_with fail
  refine (out_at h4 2 1 1 (by decide) (by have := HB3.out; have := out_log0 (((D.out 6 1 64).out 5 1 0).out 4 1 0) 3 1 pn (by decide); omega)).mono ?_
  rintro e w5 ⟨rfl, h5⟩
  go_wp2_with fail
  refine (out_at h5 7 1 c hc (by have := HB3.out; have := out_log0 (((D.out 6 1 64).out 5 1 0).out 4 1 0) 3 1 pn (by decide); have := out_log0 ((((D.out 6 1 64).out 5 1 0).out 4 1 0).out 3 1 pn) 2 1 1 (by decide); omega)).mono ?_
  rintro e w6 ⟨rfl, h6⟩
  go_wp2_with fail
  go_end0
  exact ⟨rfl, h6⟩
def aw0 : Dk := Dk.new 2 (dsk 0)
def aw1 : Dk := ((aw0.out 6 1 64).out 3 1 1).out 7 1 32
set_option maxRecDepth 100000 in
theorem aw_a : aw1.inV 7 1 = 88 := by kernel_rfl
set_option maxRecDepth 100000 in
theorem aw_b : (aw1.inS 7 1).inV 0 2 = 8737 := by kernel_rfl
set_option maxRecDepth 100000 in
theorem aw_c : ((aw1.inS 7 1).inS 0 2).log.length = 0 := by kernel_rfl
theorem aw_l (S : Dk) (h : S.log.length + 4 < 17592186044416) (reg size : Int) (v : Nat) (h0 : reg ≠ 0) : (S.out reg size v).log.length + 4 < 17592186044416 := by
  have := out_log0 S reg size v h0; omega
set_option maxHeartbeats 1000000 in
theorem awake_any (w : World) : Calls Try.prog 9 #[] w fun e w' => e = .returned (.bool true) ∧ Below w.heap.size w w' := by
  have E1 := Lib.hid aw_a
  have E2 := Lib.hid aw_b
  go_enter Try.func9, Try.ntmps9
  go_wp2_with fail
  refine (lawdisk_any 2 (by decide) (by decide) 0 (by decide) w).mono ?_
  rintro e w1 ⟨v, rfl, D1, B1⟩
  have D1 : w1.ownsRow w.heap.size 5 1 v (2 * 512) (bytesL (2 * 512) (dsk 0)) := D1
  go_wp2_with fail
  refine (new_at (n := 2) (reads_row D1) (by decide) (dsk_lt 0)).mono ?_
  rintro e w2 ⟨b, rfl, A2⟩
  have A2 : At w1 w2 b aw0 := A2
  have hmk := make_bytes w2 511 (by decide) 511 511 rfl rfl
  go_wp2_with fail
  have A3 := A2.move (w' := w2.alloc (.cells (fresh 511 (.int .u8 0)) 5)) (Below.alloc (Below.refl _ _) (Nat.le_refl _) _)
  generalize hw3 : w2.alloc (.cells (fresh 511 (.int .u8 0)) 5) = w3 at A3 ⊢
  clear hmk hw3 A2
  refine (new_bad (w := w3) _ 511 511 (.inl (by decide))).mono ?_
  rintro e w4 ⟨rfl, rfl⟩
  go_wp2_with fail
  refine (out_at A3 6 1 64 (by decide) (by decide)).mono ?_
  rintro e w4 ⟨rfl, A4⟩
  go_wp2_with fail
  refine (out_at A4 3 1 1 (by decide) (by decide)).mono ?_
  rintro e w5 ⟨rfl, A5⟩
  go_wp2_with fail
  refine (out_at A5 7 1 32 (by decide) (by decide)).mono ?_
  rintro e w6 ⟨rfl, A6⟩
  have A6 : At w1 w6 b aw1 := A6
  go_wp2_with fail
  refine (in_at A6 7 1).mono ?_
  rintro e w7 ⟨rfl, A7⟩
  rw [E1.out]
  go_wp2_with fail
  refine (in_at A7 0 2).mono ?_
  rintro e w8 ⟨rfl, A8⟩
  rw [E2.out]
  go_wp2_with fail
  refine (out_at A8 9 1 0 (by decide) (by rw [aw_c]; decide)).mono ?_
  rintro e w9 ⟨rfl, A9⟩
  go_wp2_with fail
  go_ret
  exact ⟨rfl, B1.trans (A9.below.mono (by have := B1.size; omega))⟩
end Go.Proofs.Ytebhnfoehgpilaa
