/- Steps of a proof: RefC, Both, PMarks, KeyA, KeyB, together. -/
import Derived.Test.YtmpcafdgkbpneaaGreatS4
import Derived.StillTailTactics
import Derived.Test.YtmpcafdgkbpneaaGreatS0
import Derived.Maps.Keyed
import Derived.Test.YtmpcafdgkbpneaaGreatRows
import Derived.DeepKeys5
import Derived.KernelRfl
/- the document's memory: New. -/
set_option maxHeartbeats 8000000
set_option maxRecDepth 20000
namespace Go.Proofs.YtmpcafdgkbpneaaGreat
open Go.RowKit Go.MapKept
set_option linter.unusedVariables false

theorem make_bools (w : World) (n : Nat) (h : n ≤ 281474976710656) (x y : Int) (hx : x = (n : Int)) (hy : y = (n : Int)) :
    (Instr.makeSlice 171 (.int .i64 x) (.int .i64 y)).run Tryz.prog w = .ok (.slice (some ⟨w.heap.size, 0, .none⟩) n n) (w.alloc (.cells (fresh n (.bool false)) 4)) :=
 make_run w _ _ _ 1 n Tryz.underlying171 (by kernel_rfl) rfl (by omega) (by omega) x y hx hy
theorem alloc_heap (w : World) (o : Obj) : (w.alloc o).heap = w.heap.push o := rfl
theorem rnew_close {w w' : World} {n b g0 g1 g2 g3 : Nat} (h1 : 1 ≤ n) (h2 : n ≤ 256)
    (o : w'.heap[b]? = some (.cells #[.slice (some ⟨g0, 0, none⟩) (n * 4096) (n * 4096), .slice (some ⟨g1, 0, none⟩) n n, .slice (some ⟨g2, 0, none⟩) (n * 64) (n * 64), .slice (some ⟨g3, 0, none⟩) (n * 64) (n * 64), .bool false] 173))
    (r0 : w'.heap[g0]? = some (.cells (fresh (n * 4096) (.int .u8 0)) 5)) (r1 : w'.heap[g1]? = some (.cells (fresh n (.bool false)) 4)) (r2 : w'.heap[g2]? = some (.cells (fresh (n * 64) (.bool false)) 4)) (r3 : w'.heap[g3]? = some (.cells (fresh (n * 64) (.bool false)) 4))
    (d : g1 ≠ g2 ∧ g1 ≠ g3 ∧ g2 ≠ g3) (lo : w.heap.size ≤ b ∧ w.heap.size ≤ g0 ∧ w.heap.size ≤ g1 ∧ w.heap.size ≤ g2 ∧ w.heap.size ≤ g3) (hb : Below w.heap.size w w') :
    ∃ b' S, Ending.returned (.tuple #[.pointer (some ⟨b, 0, .none⟩), .int .i64 0]) = .returned (.tuple #[.pointer (some ⟨b', 0, .none⟩), .int .i64 0]) ∧ Ref w' b' S (RS.new n) ∧ (∀ k, S k → w.heap.size ≤ k) ∧ Below w.heap.size w w' := by
 refine ⟨b, RefOwned b g0 g1 g2 g3, rfl, ⟨g0, g1, g2, g3, { obj := o, r0 := ?_, r1 := ?_, r2 := ?_, r3 := ?_, d1 := d.1, d2 := d.2.1, d3 := d.2.2, ok := RS.new_ok h1 h2 }, fun k => Iff.rfl⟩, ?_, hb⟩
 ·rw [r0, byteCells_zero]; rfl
 ·rw [r1, boolCells_no]; rfl
 ·rw [r2, boolCells_no]; rfl
 ·rw [r3, boolCells_no]; rfl
 ·rintro k (rfl | rfl | rfl | rfl | rfl)
  ·exact lo.1
  ·exact lo.2.1
  ·exact lo.2.2.1
  ·exact lo.2.2.2.1
  ·exact lo.2.2.2.2
theorem rnew_any (w : World) (n : Nat) (h1 : 1 ≤ n) (h2 : n ≤ 256) :
    Calls Tryz.prog 68 #[.int .i64 n] w fun e w' => ∃ b S, e = .returned (.tuple #[.pointer (some ⟨b, 0, .none⟩), .int .i64 0]) ∧ Ref w' b S (RS.new n) ∧ (∀ k, S k → w.heap.size ≤ k) ∧ Below w.heap.size w w' := by
 have e64 : IntKind.i64.wrap (((n : Int) * 4096).tdiv 64) = ((n * 64 : Nat) : Int) := by rw [Int.tdiv_eq_ediv_of_nonneg (by omega), IntKind.wrap_i64]; omega
 have m0 := fun w => make_bytes w (n * 4096) (by omega) ((n : Int) * 4096) ((n : Int) * 4096) (by omega) (by omega)
 have m1 := fun w => make_bools w n (by omega) (n : Int) (n : Int) (by omega) (by omega)
 have m2 := fun w => make_bools w (n * 64) (by omega) (IntKind.i64.wrap (((n : Int) * 4096).tdiv 64)) (IntKind.i64.wrap (((n : Int) * 4096).tdiv 64)) e64 e64
 clear e64
 go_enter Tryz.func68, Tryz.ntmps68
 go_wp2_with fail
 go_region_held3 (fun w' => True) (trivial) (fail)
 all_goals
  clear m0 m1 m2
  go_wp2_with fail
  go_ret2
  refine rnew_close h1 h2 (by rw [heap_drew]; exact heap_at _ _ _ (by simp)) ?_ ?_ ?_ ?_ (by omega) (by omega) (by go_grown)
  all_goals simp only [heap_drew, alloc_heap, Array.getElem?_push, Array.size_push]
  all_goals (repeat (first | rw [if_neg (by omega)] | rw [if_pos (by omega)]))
end Go.Proofs.YtmpcafdgkbpneaaGreat

/- page's law: both memories, with some words in them. -/
namespace Go.Proofs.YtmpcafdgkbpneaaGreat
open Go.RowKit Go.MapKept
set_option linter.unusedVariables false

structure Two (w0 w : World) (b : Nat) (S : Nat → Prop) (R : RS) (b' : Nat) (S' : Nat → Prop) (R' : RS) : Prop where
 m : Ram w b S R
 r : Ref w b' S' R'
 d : ∀ k, S k → ¬ S' k
 l1 : ∀ k, S k → w0.heap.size ≤ k
 l2 : ∀ k, S' k → w0.heap.size ≤ k
 B : Below w0.heap.size w0 w
section
variable {w0 w w1 : World} {b : Nat} {S : Nat → Prop} {R R1 : RS} {b' : Nat} {S' : Nat → Prop} {R' : RS}
theorem Two.moveM (T : Two w0 w b S R b' S' R') {S1 : Nat → Prop} (H : Ram w1 b S1 R1) (M : Moves S S1 w w1) : Two w0 w1 b S1 R1 b' S' R' :=
 ⟨H, T.r.keeps M.1 fun k h1 h2 => T.d k h2 h1, fun k h1 h2 => by
  rcases M.2 k h1 with h | h
  ·exact T.d k h h2
  ·have := T.r.lt h2
   omega, fun k h1 => by
  rcases M.2 k h1 with h | h
  ·exact T.l1 k h
  ·exact Nat.le_trans T.B.size h, T.l2, Keeps.toBelow T.B M.1 T.B.size fun i h => T.l1 i h⟩
theorem Two.moveR (T : Two w0 w b S R b' S' R') (H : Ref w1 b' S' R1) (K : Keeps S' w w1) : Two w0 w1 b S R b' S' R1 :=
 ⟨T.m.keeps K fun k h1 h2 => T.d k h1 h2, H, T.d, T.l1, T.l2, Keeps.toBelow T.B K T.B.size fun i h => T.l2 i h⟩
theorem Two.keepM (T : Two w0 w b S R b' S' R') (H : Ram w1 b S R1) (K : Keeps S w w1) : Two w0 w1 b S R1 b' S' R' := T.moveM H ⟨K, fun k h => .inl h⟩
theorem Two.drewN (T : Two w0 w b S R b' S' R') (n : Nat) : Two w0 (w.drewN n) b S R b' S' R' := ⟨T.m.drewN n, T.r.drewN n, T.d, T.l1, T.l2, below_dn T.B n⟩
end

def RS.writes (R : RS) (at_ v : Nat → Nat) : Nat → RS
 | 0 => R
 | k + 1 => (R.writes at_ v k).write (at_ k) (v k) 4
def RS.roms (R : RS) (o : Nat → Int) : Nat → RS
 | 0 => R
 | k + 1 => (R.roms o k).romAt (o k) true
def bothPages (n : Int) : Nat := if 1 ≤ n ∧ n ≤ 16 then n.toNat else 16
def bothR (n : Int) (at_ v : Nat → Nat) (l : Nat) (o : Nat → Int) (k : Nat) : RS := ((RS.new (bothPages n)).writes at_ v l).roms o k

structure WordsAt (w : World) (b off len : Nat) (at_ v : Nat → Nat) : Prop where
 ca : ∀ i, i < len → w.cell? ⟨b, off + i * 2, none⟩ = some (.int .u32 (at_ i : Nat))
 cv : ∀ i, i < len → w.cell? ⟨b, off + i * 2 + 1, none⟩ = some (.int .u32 (v i : Nat))
 a32 : ∀ i, i < len → at_ i < 4294967296
 v32 : ∀ i, i < len → v i < 4294967296
 lt : b < w.heap.size
theorem WordsAt.below {w w1 : World} {b off len : Nat} {at_ v : Nat → Nat} (h : WordsAt w b off len at_ v) (hb : Below w.heap.size w w1) : WordsAt w1 b off len at_ v :=
 ⟨fun i hi => by rw [(bcell hb).1 _ _ h.lt]; exact h.ca i hi, fun i hi => by rw [(bcell hb).1 _ _ h.lt]; exact h.cv i hi, h.a32, h.v32, Nat.lt_of_lt_of_le h.lt hb.size⟩
structure IntsAt (w : World) (b off len : Nat) (o : Nat → Int) : Prop where
 c : ∀ i, i < len → w.cell? ⟨b, off + i, none⟩ = some (.int .i64 (o i))
 l : ∀ i, i < len → -9223372036854775808 ≤ o i ∧ o i ≤ 9223372036854775807
 lt : b < w.heap.size
def WordsIn (w : World) (a : Option Addr) (len : Nat) (at_ v : Nat → Nat) : Prop := len = 0 ∨ ∃ b off, a = some ⟨b, off, none⟩ ∧ WordsAt w b off len at_ v
def IntsOf (w : World) (a : Option Addr) (len : Nat) (o : Nat → Int) : Prop := len = 0 ∨ ∃ b off, a = some ⟨b, off, none⟩ ∧ IntsAt w b off len o

def BothEnd (w : World) (R : RS) (e : Ending) (w' : World) : Prop := ∃ b S b' S', e = .returned (.tuple #[.pointer (some ⟨b, 0, none⟩), .pointer (some ⟨b', 0, none⟩)]) ∧ Two w w' b S R b' S' R
def BothRel (w : World) (b b' : Nat) (R : RS) (wr : World) : Prop := ∃ S S', Two w wr b S R b' S' R
theorem bothPages_ok (n : Int) : 1 ≤ bothPages n ∧ bothPages n ≤ 16 := by unfold bothPages; split <;> omega

set_option maxRecDepth 100000 in
theorem both_any (w : World) (n : Int) (a1 : Option Addr) (l c1 : Nat) (at_ v : Nat → Nat) (W : WordsIn w a1 l at_ v) (a2 : Option Addr) (k c2 : Nat) (o : Nat → Int) (I : IntsOf w a2 k o)
    (hl : l ≤ 9223372036854775807) (hk : k ≤ 9223372036854775807) :
    Calls Tryz.prog 36 #[.int .i64 n, .slice a1 l c1, .slice a2 k c2] w (BothEnd w (bothR n at_ v l o k)) := by
 have hbp := bothPages_ok n
 rcases W with rfl | ⟨bl, ol, rfl, W⟩ <;> rcases I with rfl | ⟨bo, oo, rfl, I⟩
 ·go_enter Tryz.func36, Tryz.ntmps36
  go_upto_region 1 with (fail)
  go_cut [19] from 14 (fun x wc => (∃ y : Bool, x = .bool y ∧ y = (decide (n < 1) || decide (16 < n))) ∧ w = wc)
  case first =>
   by_cases h1 : n < 1
   ·go_wp2_with fail
    go_meet
    exact ⟨⟨_, rfl, by simp [h1]⟩, rfl⟩
   ·by_cases h2 : 16 < n
    all_goals
     go_wp2_with fail
     go_meet
     exact ⟨⟨_, rfl, by simp [h1, h2]⟩, rfl⟩
  case rest =>
  obtain ⟨⟨y, rfl, hy⟩, rfl⟩ := hcut
  have HY := Lib.hid hy
  clear hy
  go_upto_if 19 with (fail)
  go_cut [0] from 14 (fun x wc => x = .int .i64 (bothPages n : Nat) ∧ w = wc)
  case first =>
   cases y
   ·have h := HY.out
    have h1 : 1 ≤ n ∧ n ≤ 16 := by simp at h; omega
    clear h
    go_wp2_with fail
    go_meet
    exact ⟨by unfold bothPages; rw [if_pos h1]; congr 1; omega, rfl⟩
   ·have h := HY.out
    have h1 : ¬ (1 ≤ n ∧ n ≤ 16) := by simp at h; omega
    clear h
    go_wp2_with fail
    go_meet
    exact ⟨by unfold bothPages; rw [if_neg h1]; rfl, rfl⟩
  case rest =>
   obtain ⟨rfl, rfl⟩ := hcut
   go_wp2_with fail
   refine (new_any _ (bothPages n) (by omega) (by omega)).mono ?_
   rintro e w1 ⟨b, S, rfl, H1, L1, B1⟩
   go_wp2_with fail
   refine (rnew_any _ (bothPages n) (by omega) (by omega)).mono ?_
   rintro e w2 ⟨b', S', rfl, H2, L2, B2⟩
   have T : Two w w2 b S (RS.new (bothPages n)) b' S' (RS.new (bothPages n)) := ⟨H1.below B2, H2, fun i h1 h2 => by have := H1.lt h1; have := L2 i h2; omega, L1, fun i h => Nat.le_trans B1.size (L2 i h), step_below B1 B2 (Nat.le_refl _)⟩
   clear H1 L1 B1 H2 L2 B2
   go_wp2_with fail
   go_loopw [12] (fun i wr => ∃ j : Nat, j ≤ 0 ∧ i = .int .i64 j ∧ BothRel w b b' ((RS.new (bothPages n)).writes at_ v j) wr) (fun i _ => 0 - (intOf i).toNat)
   case atStart => exact ⟨0, by omega, rfl, S, S', T⟩
   case round =>
    clear T
    obtain ⟨j, hj, rfl, S1, S2, T⟩ := hrel
    have hj2 : j = 0 := by omega
    have HJ := Lib.hid hj2
    clear hj2
    rw [HJ.out] at T
    go_wp2_with fail
    go_loopw [13] (fun i wr => ∃ j : Nat, j ≤ 0 ∧ i = .int .i64 j ∧ BothRel w b b' (bothR n at_ v 0 o j) wr) (fun i _ => 0 - (intOf i).toNat)
    case atStart => exact ⟨0, by omega, rfl, S1, S2, T⟩
    case round =>
     clear T
     obtain ⟨i, hi, rfl, S5, S6, T5⟩ := hrel
     have hi2 : i = 0 := by omega
     have HI := Lib.hid hi2
     clear hi2
     rw [HI.out] at T5
     go_wp2_with fail
     go_ret2
     exact ⟨b, S5, b', S6, rfl, T5⟩
 ·go_enter Tryz.func36, Tryz.ntmps36
  go_upto_region 1 with (fail)
  go_cut [19] from 14 (fun x wc => (∃ y : Bool, x = .bool y ∧ y = (decide (n < 1) || decide (16 < n))) ∧ w = wc)
  case first =>
   by_cases h1 : n < 1
   ·go_wp2_with fail
    go_meet
    exact ⟨⟨_, rfl, by simp [h1]⟩, rfl⟩
   ·by_cases h2 : 16 < n
    all_goals
     go_wp2_with fail
     go_meet
     exact ⟨⟨_, rfl, by simp [h1, h2]⟩, rfl⟩
  case rest =>
  obtain ⟨⟨y, rfl, hy⟩, rfl⟩ := hcut
  have HY := Lib.hid hy
  clear hy
  go_upto_if 19 with (fail)
  go_cut [0] from 14 (fun x wc => x = .int .i64 (bothPages n : Nat) ∧ w = wc)
  case first =>
   cases y
   ·have h := HY.out
    have h1 : 1 ≤ n ∧ n ≤ 16 := by simp at h; omega
    clear h
    go_wp2_with fail
    go_meet
    exact ⟨by unfold bothPages; rw [if_pos h1]; congr 1; omega, rfl⟩
   ·have h := HY.out
    have h1 : ¬ (1 ≤ n ∧ n ≤ 16) := by simp at h; omega
    clear h
    go_wp2_with fail
    go_meet
    exact ⟨by unfold bothPages; rw [if_neg h1]; rfl, rfl⟩
  case rest =>
   obtain ⟨rfl, rfl⟩ := hcut
   go_wp2_with fail
   refine (new_any _ (bothPages n) (by omega) (by omega)).mono ?_
   rintro e w1 ⟨b, S, rfl, H1, L1, B1⟩
   go_wp2_with fail
   refine (rnew_any _ (bothPages n) (by omega) (by omega)).mono ?_
   rintro e w2 ⟨b', S', rfl, H2, L2, B2⟩
   have T : Two w w2 b S (RS.new (bothPages n)) b' S' (RS.new (bothPages n)) := ⟨H1.below B2, H2, fun i h1 h2 => by have := H1.lt h1; have := L2 i h2; omega, L1, fun i h => Nat.le_trans B1.size (L2 i h), step_below B1 B2 (Nat.le_refl _)⟩
   clear H1 L1 B1 H2 L2 B2
   go_wp2_with fail
   go_loopw [12] (fun i wr => ∃ j : Nat, j ≤ 0 ∧ i = .int .i64 j ∧ BothRel w b b' ((RS.new (bothPages n)).writes at_ v j) wr) (fun i _ => 0 - (intOf i).toNat)
   case atStart => exact ⟨0, by omega, rfl, S, S', T⟩
   case round =>
    clear T
    obtain ⟨j, hj, rfl, S1, S2, T⟩ := hrel
    have hj2 : j = 0 := by omega
    have HJ := Lib.hid hj2
    clear hj2
    rw [HJ.out] at T
    go_wp2_with fail
    go_loopw [13] (fun i wr => ∃ j : Nat, j ≤ k ∧ i = .int .i64 j ∧ BothRel w b b' (bothR n at_ v 0 o j) wr) (fun i _ => k - (intOf i).toNat)
    case atStart => exact ⟨0, by omega, rfl, S1, S2, T⟩
    case round =>
     clear T
     obtain ⟨i, hi, rfl, S5, S6, T5⟩ := hrel
     by_cases hlt2 : i < k
     ·have co := (bcellB T5.B).1 bo (oo + i) I.lt
      rw [I.c i hlt2] at co
      have ol1 := (I.l i hlt2).1
      have ol2 := (I.l i hlt2).2
      go_wp2_with fail
      refine (rom_any T5.m (o i) true).mono ?_
      rintro e w5 ⟨rfl, H6, K6⟩
      have T6 := T5.keepM H6 K6
      clear T5 H6 K6 co
      have co := (bcellB T6.B).1 bo (oo + i) I.lt
      rw [I.c i hlt2] at co
      go_wp2_with fail
      refine (rrom_any T6.r (o i) true).mono ?_
      rintro e w6 ⟨rfl, H7, K7⟩
      have T7 := T6.moveR H7 K7
      clear T6 H7 K7 co
      go_wp2_with fail
      go_roundw
      case rel => exact ⟨i + 1, by omega, by go_num, _, _, T7⟩
      case measure => (simp [intOf]) <;> omega
     ·
      have hi2 : i = k := by omega
      have HI := Lib.hid hi2
      clear hi2
      rw [HI.out] at T5
      go_wp2_with fail
      go_ret2
      exact ⟨b, S5, b', S6, rfl, T5⟩
 ·go_enter Tryz.func36, Tryz.ntmps36
  go_upto_region 1 with (fail)
  go_cut [19] from 14 (fun x wc => (∃ y : Bool, x = .bool y ∧ y = (decide (n < 1) || decide (16 < n))) ∧ w = wc)
  case first =>
   by_cases h1 : n < 1
   ·go_wp2_with fail
    go_meet
    exact ⟨⟨_, rfl, by simp [h1]⟩, rfl⟩
   ·by_cases h2 : 16 < n
    all_goals
     go_wp2_with fail
     go_meet
     exact ⟨⟨_, rfl, by simp [h1, h2]⟩, rfl⟩
  case rest =>
  obtain ⟨⟨y, rfl, hy⟩, rfl⟩ := hcut
  have HY := Lib.hid hy
  clear hy
  go_upto_if 19 with (fail)
  go_cut [0] from 14 (fun x wc => x = .int .i64 (bothPages n : Nat) ∧ w = wc)
  case first =>
   cases y
   ·have h := HY.out
    have h1 : 1 ≤ n ∧ n ≤ 16 := by simp at h; omega
    clear h
    go_wp2_with fail
    go_meet
    exact ⟨by unfold bothPages; rw [if_pos h1]; congr 1; omega, rfl⟩
   ·have h := HY.out
    have h1 : ¬ (1 ≤ n ∧ n ≤ 16) := by simp at h; omega
    clear h
    go_wp2_with fail
    go_meet
    exact ⟨by unfold bothPages; rw [if_neg h1]; rfl, rfl⟩
  case rest =>
   obtain ⟨rfl, rfl⟩ := hcut
   go_wp2_with fail
   refine (new_any _ (bothPages n) (by omega) (by omega)).mono ?_
   rintro e w1 ⟨b, S, rfl, H1, L1, B1⟩
   go_wp2_with fail
   refine (rnew_any _ (bothPages n) (by omega) (by omega)).mono ?_
   rintro e w2 ⟨b', S', rfl, H2, L2, B2⟩
   have T : Two w w2 b S (RS.new (bothPages n)) b' S' (RS.new (bothPages n)) := ⟨H1.below B2, H2, fun i h1 h2 => by have := H1.lt h1; have := L2 i h2; omega, L1, fun i h => Nat.le_trans B1.size (L2 i h), step_below B1 B2 (Nat.le_refl _)⟩
   clear H1 L1 B1 H2 L2 B2
   go_wp2_with fail
   go_loopw [12] (fun i wr => ∃ j : Nat, j ≤ l ∧ i = .int .i64 j ∧ BothRel w b b' ((RS.new (bothPages n)).writes at_ v j) wr) (fun i _ => l - (intOf i).toNat)
   case atStart => exact ⟨0, by omega, rfl, S, S', T⟩
   case round =>
    clear T
    obtain ⟨j, hj, rfl, S1, S2, T⟩ := hrel
    by_cases hlt : j < l
    ·have ca := (bcellB T.B).1 bl (ol + j * 2) W.lt
     rw [W.ca j hlt] at ca
     have cv := (bcellB T.B).1 bl (ol + j * 2 + 1) W.lt
     rw [W.cv j hlt] at cv
     have q1 : (0 : Int) ≤ (j : Int) := by omega
     have q2 : (j : Int) < (l : Int) := by omega
     go_upto_region 10 with (fail)
     go_still_tail 11, (by kernel_rfl)
     change wpList _ _ _ _ _ (wr.drewN 1)
     clear ca cv
     go_wp2_with fail
     refine (write_4 (T.drewN 1).m (at_ j) (v j) (W.a32 j hlt) (W.v32 j hlt)).mono ?_
     rintro e w3 ⟨rfl, S3, H3, M3⟩
     have T3 := (T.drewN 1).moveM H3 M3
     clear T H3 M3
     have ca := (bcellB T3.B).1 bl (ol + j * 2) W.lt
     rw [W.ca j hlt] at ca
     have cv := (bcellB T3.B).1 bl (ol + j * 2 + 1) W.lt
     rw [W.cv j hlt] at cv
     go_upto_region 11 with (fail)
     go_still_tail 11, (by kernel_rfl)
     change wpList _ _ _ _ _ (w3.drewN 1)
     clear ca cv
     go_wp2_with fail
     refine (rwrite_4 (T3.drewN 1).r (at_ j) (v j) (W.a32 j hlt) (W.v32 j hlt)).mono ?_
     rintro e w4 ⟨rfl, H4, K4⟩
     have T4 := (T3.drewN 1).moveR H4 K4
     clear T3 H4 K4
     go_wp2_with fail
     go_roundw
     case rel => exact ⟨j + 1, by omega, by go_num, _, _, T4⟩
     case measure => (simp [intOf]) <;> omega
    ·
     have hj2 : j = l := by omega
     have HJ := Lib.hid hj2
     clear hj2
     rw [HJ.out] at T
     go_wp2_with fail
     go_loopw [13] (fun i wr => ∃ j : Nat, j ≤ 0 ∧ i = .int .i64 j ∧ BothRel w b b' (bothR n at_ v l o j) wr) (fun i _ => 0 - (intOf i).toNat)
     case atStart => exact ⟨0, by omega, rfl, S1, S2, T⟩
     case round =>
      clear T
      obtain ⟨i, hi, rfl, S5, S6, T5⟩ := hrel
      have hi2 : i = 0 := by omega
      have HI := Lib.hid hi2
      clear hi2
      rw [HI.out] at T5
      go_wp2_with fail
      go_ret2
      exact ⟨b, S5, b', S6, rfl, T5⟩
 ·go_enter Tryz.func36, Tryz.ntmps36
  go_upto_region 1 with (fail)
  go_cut [19] from 14 (fun x wc => (∃ y : Bool, x = .bool y ∧ y = (decide (n < 1) || decide (16 < n))) ∧ w = wc)
  case first =>
   by_cases h1 : n < 1
   ·go_wp2_with fail
    go_meet
    exact ⟨⟨_, rfl, by simp [h1]⟩, rfl⟩
   ·by_cases h2 : 16 < n
    all_goals
     go_wp2_with fail
     go_meet
     exact ⟨⟨_, rfl, by simp [h1, h2]⟩, rfl⟩
  case rest =>
  obtain ⟨⟨y, rfl, hy⟩, rfl⟩ := hcut
  have HY := Lib.hid hy
  clear hy
  go_upto_if 19 with (fail)
  go_cut [0] from 14 (fun x wc => x = .int .i64 (bothPages n : Nat) ∧ w = wc)
  case first =>
   cases y
   ·have h := HY.out
    have h1 : 1 ≤ n ∧ n ≤ 16 := by simp at h; omega
    clear h
    go_wp2_with fail
    go_meet
    exact ⟨by unfold bothPages; rw [if_pos h1]; congr 1; omega, rfl⟩
   ·have h := HY.out
    have h1 : ¬ (1 ≤ n ∧ n ≤ 16) := by simp at h; omega
    clear h
    go_wp2_with fail
    go_meet
    exact ⟨by unfold bothPages; rw [if_neg h1]; rfl, rfl⟩
  case rest =>
   obtain ⟨rfl, rfl⟩ := hcut
   go_wp2_with fail
   refine (new_any _ (bothPages n) (by omega) (by omega)).mono ?_
   rintro e w1 ⟨b, S, rfl, H1, L1, B1⟩
   go_wp2_with fail
   refine (rnew_any _ (bothPages n) (by omega) (by omega)).mono ?_
   rintro e w2 ⟨b', S', rfl, H2, L2, B2⟩
   have T : Two w w2 b S (RS.new (bothPages n)) b' S' (RS.new (bothPages n)) := ⟨H1.below B2, H2, fun i h1 h2 => by have := H1.lt h1; have := L2 i h2; omega, L1, fun i h => Nat.le_trans B1.size (L2 i h), step_below B1 B2 (Nat.le_refl _)⟩
   clear H1 L1 B1 H2 L2 B2
   go_wp2_with fail
   go_loopw [12] (fun i wr => ∃ j : Nat, j ≤ l ∧ i = .int .i64 j ∧ BothRel w b b' ((RS.new (bothPages n)).writes at_ v j) wr) (fun i _ => l - (intOf i).toNat)
   case atStart => exact ⟨0, by omega, rfl, S, S', T⟩
   case round =>
    clear T
    obtain ⟨j, hj, rfl, S1, S2, T⟩ := hrel
    by_cases hlt : j < l
    ·have ca := (bcellB T.B).1 bl (ol + j * 2) W.lt
     rw [W.ca j hlt] at ca
     have cv := (bcellB T.B).1 bl (ol + j * 2 + 1) W.lt
     rw [W.cv j hlt] at cv
     have q1 : (0 : Int) ≤ (j : Int) := by omega
     have q2 : (j : Int) < (l : Int) := by omega
     go_upto_region 10 with (fail)
     go_still_tail 11, (by kernel_rfl)
     change wpList _ _ _ _ _ (wr.drewN 1)
     clear ca cv
     go_wp2_with fail
     refine (write_4 (T.drewN 1).m (at_ j) (v j) (W.a32 j hlt) (W.v32 j hlt)).mono ?_
     rintro e w3 ⟨rfl, S3, H3, M3⟩
     have T3 := (T.drewN 1).moveM H3 M3
     clear T H3 M3
     have ca := (bcellB T3.B).1 bl (ol + j * 2) W.lt
     rw [W.ca j hlt] at ca
     have cv := (bcellB T3.B).1 bl (ol + j * 2 + 1) W.lt
     rw [W.cv j hlt] at cv
     go_upto_region 11 with (fail)
     go_still_tail 11, (by kernel_rfl)
     change wpList _ _ _ _ _ (w3.drewN 1)
     clear ca cv
     go_wp2_with fail
     refine (rwrite_4 (T3.drewN 1).r (at_ j) (v j) (W.a32 j hlt) (W.v32 j hlt)).mono ?_
     rintro e w4 ⟨rfl, H4, K4⟩
     have T4 := (T3.drewN 1).moveR H4 K4
     clear T3 H4 K4
     go_wp2_with fail
     go_roundw
     case rel => exact ⟨j + 1, by omega, by go_num, _, _, T4⟩
     case measure => (simp [intOf]) <;> omega
    ·
     have hj2 : j = l := by omega
     have HJ := Lib.hid hj2
     clear hj2
     rw [HJ.out] at T
     go_wp2_with fail
     go_loopw [13] (fun i wr => ∃ j : Nat, j ≤ k ∧ i = .int .i64 j ∧ BothRel w b b' (bothR n at_ v l o j) wr) (fun i _ => k - (intOf i).toNat)
     case atStart => exact ⟨0, by omega, rfl, S1, S2, T⟩
     case round =>
      clear T
      obtain ⟨i, hi, rfl, S5, S6, T5⟩ := hrel
      by_cases hlt2 : i < k
      ·have co := (bcellB T5.B).1 bo (oo + i) I.lt
       rw [I.c i hlt2] at co
       have ol1 := (I.l i hlt2).1
       have ol2 := (I.l i hlt2).2
       go_wp2_with fail
       refine (rom_any T5.m (o i) true).mono ?_
       rintro e w5 ⟨rfl, H6, K6⟩
       have T6 := T5.keepM H6 K6
       clear T5 H6 K6 co
       have co := (bcellB T6.B).1 bo (oo + i) I.lt
       rw [I.c i hlt2] at co
       go_wp2_with fail
       refine (rrom_any T6.r (o i) true).mono ?_
       rintro e w6 ⟨rfl, H7, K7⟩
       have T7 := T6.moveR H7 K7
       clear T6 H7 K7 co
       go_wp2_with fail
       go_roundw
       case rel => exact ⟨i + 1, by omega, by go_num, _, _, T7⟩
       case measure => (simp [intOf]) <;> omega
      ·
       have hi2 : i = k := by omega
       have HI := Lib.hid hi2
       clear hi2
       rw [HI.out] at T5
       go_wp2_with fail
       go_ret2
       exact ⟨b, S5, b', S6, rfl, T5⟩
end Go.Proofs.YtmpcafdgkbpneaaGreat

/- memory as a plain thing: what is written is read; what a walk marks leaves the place that a word tells. -/
namespace Go.Proofs.YtmpcafdgkbpneaaGreat
open Go.RowKit
set_option linter.unusedVariables false

structure Plain (R : RS) : Prop where
 ok : R.ok
 c : R.closed = false
 o : ∀ k, R.only k = false
theorem Plain.place {R : RS} (h : Plain R) (a : Nat) : R.place a = a := by unfold RS.place; rw [h.c]; rfl
theorem Plain.get {R : RS} (h : Plain R) (a : Nat) : R.get a = if a < R.size then R.byte a else 255 := by unfold RS.get; rw [h.place]
theorem Plain.wr {R : RS} (h : Plain R) (a v : Nat) (hv : v < 256) : Plain (R.wr a v) ∧ (R.wr a v).size = R.size ∧ ∀ c, (R.wr a v).get c = if c = a ∧ a < R.size then v else R.get c := by
 unfold RS.wr
 rw [h.place]
 by_cases hs : a < R.size
 ·rw [if_pos ⟨hs, h.o _⟩]
  have hp : Plain (R.lay a v) := ⟨RS.lay_ok h.ok a v hv, h.c, h.o⟩
  refine ⟨hp, rfl, fun c => ?_⟩
  rw [hp.get, h.get]
  show (if c < R.size then (if c = a then v else R.byte c) else 255) = _
  by_cases e : c = a
  ·subst e; rw [if_pos hs, if_pos rfl, if_pos ⟨rfl, hs⟩]
  ·simp [e]
 ·rw [if_neg (fun x => hs x.1)]
  exact ⟨h, rfl, fun c => by rw [if_neg (fun x => hs x.2)]⟩
theorem at32_of {a i : Nat} (ha : a < 4294967296) (h4 : a % 4 = 0) (hi : i < 4) : at32 a i = a + i := by unfold at32; omega
theorem Plain.write4 {R : RS} (h : Plain R) (a v : Nat) (ha : a < 4294967296) (h4 : a % 4 = 0) :
    Plain (R.write a v 4) ∧ (R.write a v 4).size = R.size ∧ ∀ c, (R.write a v 4).get c = if a ≤ c ∧ c < a + 4 ∧ a < R.size then v / 256 ^ (c - a) % 256 else R.get c := by
 have hsz : R.size % 4 = 0 := by unfold RS.size; omega
 have key : ∀ k, k ≤ 4 → Plain (R.write a v k) ∧ (R.write a v k).size = R.size ∧ ∀ c, (R.write a v k).get c = if a ≤ c ∧ c < a + k ∧ a < R.size then v / 256 ^ (c - a) % 256 else R.get c := by
  intro k hk
  induction k with
  | zero =>
   refine ⟨h, rfl, fun c => ?_⟩
   rw [if_neg (by omega)]; rfl
  | succ k ih =>
   obtain ⟨i1, i2, i3⟩ := ih (by omega)
   obtain ⟨j1, j2, j3⟩ := i1.wr (at32 a k) (v / 256 ^ k % 256) (Nat.mod_lt _ (by decide))
   refine ⟨j1, j2.trans i2, fun c => ?_⟩
   show ((R.write a v k).wr (at32 a k) (v / 256 ^ k % 256)).get c = _
   rw [j3, i2, i3, at32_of ha h4 (by omega)]
   by_cases e : c = a + k
   ·subst e
    by_cases hs : a < R.size
    ·rw [if_pos ⟨rfl, by omega⟩, if_pos ⟨by omega, by omega, hs⟩, show a + k - a = k by omega]
    ·rw [if_neg (fun x => hs (by omega)), if_neg (fun x => hs x.2.2), if_neg (fun x => hs x.2.2)]
   ·rw [if_neg (fun x => e x.1)]
    by_cases hin : a ≤ c ∧ c < a + k ∧ a < R.size
    ·rw [if_pos hin, if_pos ⟨hin.1, by omega, hin.2.2⟩]
    ·rw [if_neg hin, if_neg (fun x => hin ⟨x.1, by omega, x.2.2⟩)]
 exact key 4 (Nat.le_refl _)
theorem read4 (R : RS) (a : Nat) (ha : a < 4294967296) (h4 : a % 4 = 0) : R.read a 4 = R.get a + R.get (a + 1) * 256 + R.get (a + 2) * 65536 + R.get (a + 3) * 16777216 := by
 show 0 + R.get (at32 a 0) * 256 ^ 0 + R.get (at32 a 1) * 256 ^ 1 + R.get (at32 a 2) * 256 ^ 2 + R.get (at32 a 3) * 256 ^ 3 = _
 rw [at32_of ha h4 (by decide), at32_of ha h4 (by decide), at32_of ha h4 (by decide), at32_of ha h4 (by decide)]
 simp
theorem Plain.read_same {R : RS} (h : Plain R) (a v : Nat) (ha : a < 4294967296) (h4 : a % 4 = 0) (hs : a < R.size) (hv : v < 4294967296) : (R.write a v 4).read a 4 = v := by
 obtain ⟨_, _, g⟩ := h.write4 a v ha h4
 rw [read4 _ a ha h4, g, g, g, g, if_pos ⟨by omega, by omega, hs⟩, if_pos ⟨by omega, by omega, hs⟩, if_pos ⟨by omega, by omega, hs⟩, if_pos ⟨by omega, by omega, hs⟩,
  show a - a = 0 by omega, show a + 1 - a = 1 by omega, show a + 2 - a = 2 by omega, show a + 3 - a = 3 by omega]
 simp only [Nat.pow_zero, Nat.pow_one, Nat.div_one]
 rw [show (256 : Nat) ^ 2 = 65536 from rfl, show (256 : Nat) ^ 3 = 16777216 from rfl]
 omega
theorem Plain.read_other {R : RS} (h : Plain R) (a b v : Nat) (ha : a < 4294967296) (h4 : a % 4 = 0) (hb : b < 4294967296) (hb4 : b % 4 = 0) (hne : a ≠ b) : (R.write a v 4).read b 4 = R.read b 4 := by
 obtain ⟨_, _, g⟩ := h.write4 a v ha h4
 rw [read4 _ b hb hb4, read4 _ b hb hb4, g, g, g, g, if_neg (by omega), if_neg (by omega), if_neg (by omega), if_neg (by omega)]
theorem or_page (n m : Nat) (hm : m < 4096) : (n ||| m) / 4096 = n / 4096 := by
 have h := Nat.shiftRight_or_distrib (a := n) (b := m) (i := 12)
 rw [Nat.shiftRight_eq_div_pow, Nat.shiftRight_eq_div_pow, Nat.shiftRight_eq_div_pow] at h
 rw [show (4096 : Nat) = 2 ^ 12 from rfl, h, show m / 2 ^ 12 = 0 from Nat.div_eq_of_lt hm]; simp
theorem pde_4 (cr3 lin : Nat) : pdeOf cr3 lin % 4 = 0 := by unfold pdeOf; omega
theorem pte_4 (one lin : Nat) : pteOf one lin % 4 = 0 := by unfold pteOf; omega
theorem Plain.new (n : Nat) (h1 : 1 ≤ n) (h2 : n ≤ 256) : Plain (RS.new n) := ⟨RS.new_ok h1 h2, rfl, fun _ => rfl⟩
theorem Plain.wrk {R : RS} (h : Plain R) (a v k : Nat) : Plain (R.write a v k) := by
 induction k with
 | zero => exact h
 | succ k ih => exact (ih.wr _ _ (Nat.mod_lt _ (by decide))).1
theorem Plain.writes {R : RS} (h : Plain R) (at_ v : Nat → Nat) (k : Nat) : Plain (R.writes at_ v k) := by
 induction k with
 | zero => exact h
 | succ k ih => exact ih.wrk _ _ _
theorem Plain.both (n : Int) (at_ v : Nat → Nat) (l : Nat) (o : Nat → Int) : Plain (bothR n at_ v l o 0) := by
 have := bothPages_ok n
 exact (Plain.new _ this.1 (by omega)).writes at_ v l
end Go.Proofs.YtmpcafdgkbpneaaGreat

/- Maps by keys that read as Go's own reader reads them (structs, too): what a map's block holds as a function of the key, and what the operations do to it. -/
namespace Go.Proofs.YtmpcafdgkbpneaaGreat
open Go.RowKit Go.MapKept Go.Maps
set_option linter.unusedVariables false
set_option linter.unusedSectionVars false

structure KeyT (P : Program) (k : TypeId) (κ : Type) (val : κ → Value) : Prop where
 law : Keyed P k
 reads : ∀ K, ∃ l, keyOf P k (val K) = some l
 inj : ∀ K L, val K = val L → K = L
def MapK {κ : Type} (w : World) (r : Nat) (val : κ → Value) (f : κ → Option Value) (n : Nat) : Prop :=
 ∃ es clock, w.heap[r]? = some (.map es clock) ∧ Stamped es clock ∧ (∀ x ∈ es.toList, ∃ K : κ, x.key = val K) ∧
  (∀ (K : κ) v, f K = some v ↔ ∃ x ∈ es.toList, x.key = val K ∧ x.val = v) ∧ es.size = n

section
variable {κ : Type} [DecidableEq κ] {P : Program} {w w' : World} {r n : Nat} {val : κ → Value} {f : κ → Option Value} {t k e : TypeId}

omit [DecidableEq κ] in
theorem MapK.lt (h : MapK w r val f n) : r < w.heap.size := by
 obtain ⟨es, clock, hb, _⟩ := h
 exact heap_lt hb
omit [DecidableEq κ] in
theorem MapK.of_heap (h : MapK w r val f n) (hh : w'.heap[r]? = w.heap[r]?) : MapK w' r val f n := by
 obtain ⟨es, clock, hb, h1, h2, h3, h4⟩ := h
 exact ⟨es, clock, by rw [hh]; exact hb, h1, h2, h3, h4⟩
omit [DecidableEq κ] in
theorem MapK.alloc (h : MapK w r val f n) (o : Obj) : MapK (w.alloc o) r val f n := h.of_heap (Below.heap_alloc _ _ _ h.lt)
omit [DecidableEq κ] in
theorem MapK.drewN (h : MapK w r val f n) (m : Nat) : MapK (w.drewN m) r val f n := h.of_heap rfl
omit [DecidableEq κ] in
theorem MapK.new (w : World) (val : κ → Value) : MapK (w.alloc (.map #[] 0)) w.heap.size val (fun _ => none) 0 :=
 ⟨#[], 0, heap_new w _, stamped_empty 0, by simp, by simp, rfl⟩
omit [DecidableEq κ] in
theorem MapK.size (h : MapK w r val f n) : ∃ es clock, w.heap[r]? = some (.map es clock) ∧ es.size = n := by
 obtain ⟨es, clock, hb, _, _, _, h4⟩ := h
 exact ⟨es, clock, hb, h4⟩
theorem MapK.find (T : KeyT P k κ val) (h : MapK w r val f n) (K : κ) : ∃ es clock, w.heap[r]? = some (.map es clock) ∧ Stamped es clock ∧ (∀ x ∈ es.toList, ∃ K : κ, x.key = val K) ∧ (∀ (K : κ) v, f K = some v ↔ ∃ x ∈ es.toList, x.key = val K ∧ x.val = v) ∧ es.size = n ∧
    (((Instr.findKey k (val K) es.toList).run P w = .ok none w ∧ f K = none ∧ ∀ x ∈ es.toList, x.key ≠ val K) ∨
     ∃ j x, (Instr.findKey k (val K) es.toList).run P w = .ok (some (j, x.val)) w ∧ es.toList[j]? = some x ∧ x.key = val K ∧ f K = some x.val) := by
 obtain ⟨es, clock, hb, h1, h2, h3, h4⟩ := h
 refine ⟨es, clock, hb, h1, h2, h3, h4, ?_⟩
 obtain ⟨l, hl⟩ := T.reads K
 rcases T.law.find w hl es.toList (fun x hx => by obtain ⟨L, hL⟩ := h2 x hx; rw [hL]; exact T.reads L) with ⟨g1, g2⟩ | ⟨j, x, g1, g2, g3⟩
 ·refine .inl ⟨g1, ?_, g2⟩
  cases hf : f K with
  | none => rfl
  | some v =>
   obtain ⟨x, hx, hk, _⟩ := (h3 K v).1 hf
   exact absurd hk (g2 x hx)
 ·exact .inr ⟨j, x, g1, g2, g3, (h3 K x.val).2 ⟨x, List.mem_of_getElem? g2, g3, rfl⟩⟩
theorem MapK.lookupOk (T : KeyT P k κ val) (h : MapK w r val f n) (ht : P.underlying t = some (.map k e)) {z : Value} (hz : (zeroValue e).run P w = .ok z w) (K : κ) :
    (Instr.lookup t (.map (some r)) (val K) true).run P w = .ok (.tuple #[(f K).getD z, .bool (f K).isSome]) w := by
 obtain ⟨l, hl⟩ := T.reads K
 obtain ⟨es, clock, hb, h1, h2, h3, h4, ⟨g, gf, _⟩ | ⟨j, x, g, _, _, gf⟩⟩ := h.find T K
 ·simp [Instr.lookup, run_underlying ht, MapKept.run_getObj_map hb, T.law.check w _ hl, g, hz, Result.andThen, gf]
 ·simp [Instr.lookup, run_underlying ht, MapKept.run_getObj_map hb, T.law.check w _ hl, g, Result.andThen, gf]
theorem MapK.update (T : KeyT P k κ val) (h : MapK w r val f n) (ht : P.underlying t = some (.map k e)) (K : κ) (v : Value) :
    ∃ w', (Instr.mapUpdate t (.map (some r)) (val K) v).run P w = .ok () w' ∧ MapK w' r val (fun m => if m = K then some v else f m) (if (f K).isSome then n else n + 1) ∧ Keeps (· = r) w w' := by
 obtain ⟨l, hl⟩ := T.reads K
 obtain ⟨es, clock, hb, h1, h2, h3, h4, ⟨g, gf, gn⟩ | ⟨j, x, g, gj, gk, gf⟩⟩ := h.find T K
 ·refine ⟨{ w with heap := w.heap.setIfInBounds r (.map (es.push { key := val K, val := v, born := clock }) (clock + 1)) }, ?_, ?_, keeps_set hb⟩
  ·simp [Instr.mapUpdate, run_underlying ht, MapKept.run_getObj_map hb, T.law.check w _ hl, g, MapKept.run_setObj_map _ hb, Result.andThen]
  ·refine ⟨_, _, (heap_set hb).1, stamped_push h1 gn, ?_, ?_, by rw [gf]; simp [h4]⟩
   ·intro y hy
    simp only [Array.toList_push, List.mem_append, List.mem_singleton] at hy
    rcases hy with hy | rfl
    ·exact h2 y hy
    ·exact ⟨K, rfl⟩
   ·intro m u
    simp only [Array.toList_push, List.mem_append, List.mem_singleton]
    by_cases e : m = K
    ·subst e
     rw [if_pos rfl]
     constructor
     ·intro hu
      simp only [Option.some.injEq] at hu
      exact ⟨_, .inr rfl, rfl, hu⟩
     ·rintro ⟨y, hy | rfl, hyk, hyv⟩
      ·exact absurd hyk (gn y hy)
      ·rw [← hyv]
    ·rw [if_neg e, h3 m u]
     constructor
     ·rintro ⟨y, hy, hyk, hyv⟩
      exact ⟨y, .inl hy, hyk, hyv⟩
     ·rintro ⟨y, hy | rfl, hyk, hyv⟩
      ·exact ⟨y, hy, hyk, hyv⟩
      ·exact absurd (T.inj _ _ hyk).symm e
 ·have hj : es[j]? = some x := by rw [← Array.getElem?_toList]; exact gj
  refine ⟨{ w with heap := w.heap.setIfInBounds r (.map (es.modify j fun e => { e with key := val K, val := v }) clock) }, ?_, ?_, keeps_set hb⟩
  ·simp [Instr.mapUpdate, run_underlying ht, MapKept.run_getObj_map hb, T.law.check w _ hl, g, hj, gk, T.law.stays w hl, MapKept.run_setObj_map _ hb, Result.andThen]
  ·have hkey' : ∀ e', es[j]? = some e' → ({ e' with key := val K, val := v } : MapEntry).key = e'.key := fun e' he' => by rw [hj] at he'; cases he'; exact gk.symm
   refine ⟨_, _, (heap_set hb).1, stamped_modify h1 _ _ (fun _ _ => rfl) (fun e' _ he' => hkey' e' he'), ?_, ?_, by rw [gf]; simp [h4]⟩
   ·intro y hy
    rcases modify_mem gj hy with rfl | ⟨hy, _⟩
    ·exact ⟨K, rfl⟩
    ·exact h2 y hy
   ·intro m u
    show (if m = K then some v else f m) = some u ↔ _
    by_cases e : m = K
    ·subst e
     rw [if_pos rfl]
     constructor
     ·intro hu
      simp only [Option.some.injEq] at hu
      exact ⟨_, modify_at gj, rfl, hu⟩
     ·rintro ⟨y, hy, hyk, hyv⟩
      rcases modify_mem gj hy with rfl | ⟨hy, i, hij, hi⟩
      ·rw [← hyv]
      ·have : y = x := unique h1 hy (List.mem_of_getElem? gj) (by rw [hyk, gk])
       subst this
       exfalso
       exact hij (idx_inj h1.2.2 hi gj)
    ·rw [if_neg e, h3 m u]
     constructor
     ·rintro ⟨y, hy, hyk, hyv⟩
      obtain ⟨i, hi⟩ := List.getElem?_of_mem hy
      have hij : i ≠ j := by
       rintro rfl
       rw [gj] at hi
       cases hi
       rw [gk] at hyk
       exact e (T.inj _ _ hyk).symm
      exact ⟨y, modify_other hi hij, hyk, hyv⟩
     ·rintro ⟨y, hy, hyk, hyv⟩
      rcases modify_mem gj hy with rfl | ⟨hy, _⟩
      ·exact absurd (T.inj _ _ hyk).symm e
      ·exact ⟨y, hy, hyk, hyv⟩

theorem MapK.delete (T : KeyT P k κ val) (h : MapK w r val f n) (ht : P.underlying t = some (.map k e)) (K : κ) (t' : TypeId) (ty : TypeId) :
    ∃ w', (Builtin.delete_ #[t, t'] ty #[.map (some r), val K]).run P w = .ok (.tuple #[]) w' ∧ MapK w' r val (fun m => if m = K then none else f m) (if (f K).isSome then n - 1 else n) ∧ Keeps (· = r) w w' := by
 obtain ⟨l, hl⟩ := T.reads K
 obtain ⟨es, clock, hb, h1, h2, h3, h4, ⟨g, gf, gn⟩ | ⟨j, x, g, gj, gk, gf⟩⟩ := h.find T K
 ·refine ⟨{ w with heap := w.heap.setIfInBounds r (.map es clock) }, ?_, ?_, keeps_set hb⟩
  ·simp [Builtin.delete_, run_underlying ht, MapKept.run_getObj_map hb, T.law.check w _ hl, g, MapKept.run_setObj_map _ hb, Result.andThen]
  ·refine ⟨_, _, (heap_set hb).1, h1, h2, ?_, by rw [gf]; simp [h4]⟩
   intro m u
   show (if m = K then none else f m) = some u ↔ _
   by_cases e : m = K
   ·subst e
    rw [if_pos rfl]
    constructor
    ·intro hu; cases hu
    ·rintro ⟨y, hy, hyk, _⟩
     exact absurd hyk (gn y hy)
   ·rw [if_neg e]; exact h3 m u
 ·have hjl : j < es.size := by
    obtain ⟨hj1, _⟩ := List.getElem?_eq_some_iff.1 gj
    simpa using hj1
  refine ⟨{ w with heap := w.heap.setIfInBounds r (.map (es.eraseIdxIfInBounds j) clock) }, ?_, ?_, keeps_set hb⟩
  ·simp [Builtin.delete_, run_underlying ht, MapKept.run_getObj_map hb, T.law.check w _ hl, g, MapKept.run_setObj_map _ hb, Result.andThen]
  ·have hl : (es.eraseIdxIfInBounds j).toList = es.toList.eraseIdx j := by
     unfold Array.eraseIdxIfInBounds
     rw [dif_pos hjl, Array.toList_eraseIdx]
   have hsub : ∀ y, y ∈ (es.eraseIdxIfInBounds j).toList → y ∈ es.toList ∧ y ≠ x := by
    intro y hy
    rw [hl] at hy
    refine ⟨List.mem_of_mem_eraseIdx hy, ?_⟩
    rintro rfl
    obtain ⟨i, hij, hi⟩ := List.mem_eraseIdx_iff_getElem?.1 hy
    exact hij (idx_inj h1.2.2 hi gj)
   refine ⟨_, _, (heap_set hb).1, stamped_erase h1 j, fun y hy => h2 y (hsub y hy).1, ?_, by rw [gf]; simp only [Option.isSome_some, if_true]; unfold Array.eraseIdxIfInBounds; rw [dif_pos hjl, Array.size_eraseIdx, h4]⟩
   intro m u
   show (if m = K then none else f m) = some u ↔ _
   by_cases e : m = K
   ·subst e
    rw [if_pos rfl]
    constructor
    ·intro hu; cases hu
    ·rintro ⟨y, hy, hyk, _⟩
     obtain ⟨y1, y2⟩ := hsub y hy
     exact absurd (unique h1 y1 (List.mem_of_getElem? gj) (by rw [hyk, gk])) y2
   ·rw [if_neg e, h3 m u]
    constructor
    ·rintro ⟨y, hy, hyk, hyv⟩
     obtain ⟨i, hi⟩ := List.getElem?_of_mem hy
     have hij : i ≠ j := by
      rintro rfl
      rw [gj] at hi
      cases hi
      rw [gk] at hyk
      exact e (T.inj _ _ hyk).symm
     exact ⟨y, by rw [hl]; exact List.mem_eraseIdx_iff_getElem?.2 ⟨i, hij, hi⟩, hyk, hyv⟩
    ·rintro ⟨y, hy, hyk, hyv⟩
     exact ⟨y, (hsub y hy).1, hyk, hyv⟩
end
end Go.Proofs.YtmpcafdgkbpneaaGreat

/- tlb's keys: structs of five cells. -/
namespace Go.Proofs.YtmpcafdgkbpneaaGreat
open Go.RowKit Go.MapKept Go.Maps
set_option linter.unusedVariables false

structure PKey where
 c : Nat
 p : Nat
 wr : Bool
 us : Bool
 wp : Bool
 hc : c < 4294967296
 hp : p < 4294967296
deriving DecidableEq
def PKey.val (K : PKey) : Value := .agg #[.int .u32 (K.c : Nat), .int .u32 (K.p : Nat), .bool K.wr, .bool K.us, .bool K.wp]
theorem PKey.inj {K L : PKey} (h : K.val = L.val) : K = L := by
 obtain ⟨c, p, a, b, d, _, _⟩ := K
 obtain ⟨c', p', a', b', d', _, _⟩ := L
 simp only [PKey.val, Value.agg.injEq, Array.mk.injEq, List.cons.injEq, Value.int.injEq, Value.bool.injEq, true_and, and_true] at h
 obtain ⟨h1, h2, h3, h4, h5⟩ := h
 have h1 : c = c' := by omega
 have h2 : p = p' := by omega
 subst h1 h2 h3 h4 h5
 rfl
theorem key_law : Keyed Tryz.prog 312 := Keyed.of_law (deep_law (m := 10) (by decide) (by kernel_rfl) (by kernel_rfl) (by kernel_rfl))
theorem wf32 (n : Nat) (h : n < 4294967296) : (Lit.int .u32 (n : Nat)).wf = true := by
 have e1 : IntKind.u32.min = 0 := rfl
 have e2 : IntKind.u32.max = 4294967295 := rfl
 simp [Lit.wf]
 omega
theorem PKey.reads (K : PKey) : ∃ l, keyOf Tryz.prog 312 K.val = some l := by
 obtain ⟨c, p, a, b, d, hc, hp⟩ := K
 have w1 := wf32 c hc
 have w2 := wf32 p hp
 have hu := Tryz.underlying312
 have hk : Tryz.prog.keyType 312 = true := by kernel_rfl
 have hf : (PKey.val ⟨c, p, a, b, d, hc, hp⟩).formed Tryz.prog 312 = true := by kernel_rfl
 have hl : Tryz.prog.keyLits (Tryz.prog.types.size + 1) 312 (PKey.val ⟨c, p, a, b, d, hc, hp⟩).cells.toList = some [.int .u32 (c : Nat), .int .u32 (p : Nat), .bool a, .bool b, .bool d] := by
  obtain ⟨m, hm⟩ : ∃ m, Tryz.prog.types.size = m + 2 := ⟨Tryz.prog.types.size - 2, by have : 2 ≤ Tryz.prog.types.size := of_decide_eq_true (by kernel_rfl); omega⟩
  rw [hm]
  have u1 := Tryz.underlying22
  have u2 := Tryz.underlying4
  have u3 := Tryz.underlying223
  have c1 : Tryz.prog.cellsOf 22 = 1 := by kernel_rfl
  have c2 : Tryz.prog.cellsOf 4 = 1 := by kernel_rfl
  have c3 : Tryz.prog.cellsOf 223 = 3 := by kernel_rfl
  have c4 : Tryz.prog.cellsOf 312 = 5 := by kernel_rfl
  simp [Program.keyLits, hu, u1, u2, u3, c1, c2, c3, c4, PKey.val, Value.cells, w1, w2]
  rw [if_pos (by intro i hi; rcases i with _ | _ | _ | i <;> first | (simp; done) | (exfalso; omega))]
  rfl
 exact ⟨_, by unfold keyOf; rw [hu]; simp only [hk, hf, hl]; rfl⟩
theorem PK : KeyT Tryz.prog 312 PKey PKey.val := ⟨key_law, PKey.reads, fun _ _ h => PKey.inj h⟩
end Go.Proofs.YtmpcafdgkbpneaaGreat

