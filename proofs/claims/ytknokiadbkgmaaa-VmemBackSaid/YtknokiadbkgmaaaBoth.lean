/- page's law: both memories, with some words in them. -/
import Derived.Test.YtknokiadbkgmaaaRefC
import Derived.StillTailTactics
namespace Go.Proofs.Ytknokiadbkgmaaa
open Go.RowKit Go.MapKept
set_option linter.unusedVariables false

/-- The project's memory of R and the document's of R', both made behind w0. -/
structure Two (w0 w : World) (b : Nat) (S : Nat → Prop) (R : RS) (b' : Nat) (S' : Nat → Prop) (R' : RS) : Prop where
  m : Ram w b S R
  r : Ref w b' S' R'
  d : ∀ k, S k → ¬ S' k
  l1 : ∀ k, S k → w0.heap.size ≤ k
  l2 : ∀ k, S' k → w0.heap.size ≤ k
  B : Below w0.heap.size w0 w
section
variable {w0 w w1 : World} {b : Nat} {S : Nat → Prop} {R R1 : RS} {b' : Nat} {S' : Nat → Prop} {R' : RS}
theorem Two.moveM (T : Two w0 w b S R b' S' R') {S1 : Nat → Prop} (H : Ram w1 b S1 R1) (M : Moves S S1 w w1) : Two w0 w1 b S1 R1 b' S' R' :=
  ⟨H, T.r.keeps M.1 fun k h1 h2 => T.d k h2 h1, fun k h1 h2 => by
    rcases M.2 k h1 with h | h
    · exact T.d k h h2
    · have := T.r.lt h2
      omega, fun k h1 => by
    rcases M.2 k h1 with h | h
    · exact T.l1 k h
    · exact Nat.le_trans T.B.size h, T.l2, Keeps.toBelow T.B M.1 T.B.size fun i h => T.l1 i h⟩
theorem Two.moveR (T : Two w0 w b S R b' S' R') (H : Ref w1 b' S' R1) (K : Keeps S' w w1) : Two w0 w1 b S R b' S' R1 :=
  ⟨T.m.keeps K fun k h1 h2 => T.d k h1 h2, H, T.d, T.l1, T.l2, Keeps.toBelow T.B K T.B.size fun i h => T.l2 i h⟩
theorem Two.keepM (T : Two w0 w b S R b' S' R') (H : Ram w1 b S R1) (K : Keeps S w w1) : Two w0 w1 b S R1 b' S' R' := T.moveM H ⟨K, fun k h => .inl h⟩
theorem Two.below (T : Two w0 w b S R b' S' R') (hb : Below w.heap.size w w1) : Two w0 w1 b S R b' S' R' :=
  ⟨T.m.below hb, T.r.below hb, T.d, T.l1, T.l2, step_below T.B hb (Nat.le_refl _)⟩
theorem Two.drewN (T : Two w0 w b S R b' S' R') (n : Nat) : Two w0 (w.drewN n) b S R b' S' R' := ⟨T.m.drewN n, T.r.drewN n, T.d, T.l1, T.l2, below_dn T.B n⟩
theorem Two.alloc (T : Two w0 w b S R b' S' R') (o : Obj) : Two w0 (w.alloc o) b S R b' S' R' := ⟨T.m.alloc o, T.r.alloc o, T.d, T.l1, T.l2, T.B.alloc T.B.size _⟩
end

/-- The first k words are written. -/
def RS.writes (R : RS) (at_ v : Nat → Nat) : Nat → RS
  | 0 => R
  | k + 1 => (R.writes at_ v k).write (at_ k) (v k) 4
/-- The first k pages of a list can only be read. -/
def RS.roms (R : RS) (o : Nat → Int) : Nat → RS
  | 0 => R
  | k + 1 => (R.roms o k).romAt (o k) true
def bothPages (n : Int) : Nat := if 1 ≤ n ∧ n ≤ 16 then n.toNat else 16
def bothR (n : Int) (at_ v : Nat → Nat) (l : Nat) (o : Nat → Int) (k : Nat) : RS := ((RS.new (bothPages n)).writes at_ v l).roms o k

/-- Words in a row. -/
structure WordsAt (w : World) (b off len : Nat) (at_ v : Nat → Nat) : Prop where
  ca : ∀ i, i < len → w.cell? ⟨b, off + i * 2, none⟩ = some (.int .u32 (at_ i : Nat))
  cv : ∀ i, i < len → w.cell? ⟨b, off + i * 2 + 1, none⟩ = some (.int .u32 (v i : Nat))
  a32 : ∀ i, i < len → at_ i < 4294967296
  v32 : ∀ i, i < len → v i < 4294967296
  lt : b < w.heap.size
theorem WordsAt.below {w w1 : World} {b off len : Nat} {at_ v : Nat → Nat} (h : WordsAt w b off len at_ v) (hb : Below w.heap.size w w1) : WordsAt w1 b off len at_ v :=
  ⟨fun i hi => by rw [(bcell hb).1 _ _ h.lt]; exact h.ca i hi, fun i hi => by rw [(bcell hb).1 _ _ h.lt]; exact h.cv i hi, h.a32, h.v32, Nat.lt_of_lt_of_le h.lt hb.size⟩
structure IntsAt (w : World) (b off len : Nat) (o : Nat → Int) : Prop where
  c : ∀ i, i < len → w.cell? ⟨b, off + i, none⟩ = some (.int .i64 (o i))
  l : ∀ i, i < len → -9223372036854775808 ≤ o i ∧ o i ≤ 9223372036854775807
  lt : b < w.heap.size
theorem IntsAt.below {w w1 : World} {b off len : Nat} {o : Nat → Int} (h : IntsAt w b off len o) (hb : Below w.heap.size w w1) : IntsAt w1 b off len o :=
  ⟨fun i hi => by rw [(bcell hb).1 _ _ h.lt]; exact h.c i hi, h.l, Nat.lt_of_lt_of_le h.lt hb.size⟩
/-- A slice of words; where it is empty its address is whatever it is. -/
def WordsIn (w : World) (a : Option Addr) (len : Nat) (at_ v : Nat → Nat) : Prop := len = 0 ∨ ∃ b off, a = some ⟨b, off, none⟩ ∧ WordsAt w b off len at_ v
def IntsOf (w : World) (a : Option Addr) (len : Nat) (o : Nat → Int) : Prop := len = 0 ∨ ∃ b off, a = some ⟨b, off, none⟩ ∧ IntsAt w b off len o

def BothEnd (w : World) (R : RS) (e : Ending) (w' : World) : Prop := ∃ b S b' S', e = .returned (.tuple #[.pointer (some ⟨b, 0, none⟩), .pointer (some ⟨b', 0, none⟩)]) ∧ Two w w' b S R b' S' R
def BothRel (w : World) (b b' : Nat) (R : RS) (wr : World) : Prop := ∃ S S', Two w wr b S R b' S' R
theorem bothPages_ok (n : Int) : 1 ≤ bothPages n ∧ bothPages n ≤ 16 := by unfold bothPages; split <;> omega

set_option maxRecDepth 100000 in
set_option maxHeartbeats 8000000 in
theorem both_any (w : World) (n : Int) (a1 : Option Addr) (l c1 : Nat) (at_ v : Nat → Nat) (W : WordsIn w a1 l at_ v) (a2 : Option Addr) (k c2 : Nat) (o : Nat → Int) (I : IntsOf w a2 k o)
    (hl : l ≤ 9223372036854775807) (hk : k ≤ 9223372036854775807) :
    Calls Try.prog 11 #[.int .i64 n, .slice a1 l c1, .slice a2 k c2] w (BothEnd w (bothR n at_ v l o k)) := by
  have hbp := bothPages_ok n
  rcases W with rfl | ⟨bl, ol, rfl, W⟩ <;> rcases I with rfl | ⟨bo, oo, rfl, I⟩
  · go_enter Try.func11, Try.ntmps11
    go_upto_region 1 with (fail)
    go_cut [19] from 14 (fun x wc => (∃ y : Bool, x = .bool y ∧ y = (decide (n < 1) || decide (16 < n))) ∧ w = wc)
    case first =>
      by_cases h1 : n < 1
      · go_wp2_with fail
        go_meet
        exact ⟨⟨_, rfl, by simp [h1]⟩, rfl⟩
      · by_cases h2 : 16 < n
        all_goals
          go_wp2_with fail
          go_meet
          exact ⟨⟨_, rfl, by simp [h1, h2]⟩, rfl⟩
    case rest =>
    obtain ⟨⟨y, rfl, hy⟩, rfl⟩ := hcut
    have HY := Lib.hid hy
    clear hy
    go_upto_if 19 with (fail)
    go_cut [0] from 14 (fun x wc => x = .int .i64 (bothPages n : Nat) ∧ w = wc)
    case first =>
      cases y
      · have h := HY.out
        have h1 : 1 ≤ n ∧ n ≤ 16 := by simp at h; omega
        clear h
        go_wp2_with fail
        go_meet
        exact ⟨by unfold bothPages; rw [if_pos h1]; congr 1; omega, rfl⟩
      · have h := HY.out
        have h1 : ¬ (1 ≤ n ∧ n ≤ 16) := by simp at h; omega
        clear h
        go_wp2_with fail
        go_meet
        exact ⟨by unfold bothPages; rw [if_neg h1]; rfl, rfl⟩
    case rest =>
      obtain ⟨rfl, rfl⟩ := hcut
      go_wp2_with fail
      refine (new_any _ (bothPages n) (by omega) (by omega)).mono ?_
      rintro e w1 ⟨b, S, rfl, H1, L1, B1⟩
      go_wp2_with fail
      refine (rnew_any _ (bothPages n) (by omega) (by omega)).mono ?_
      rintro e w2 ⟨b', S', rfl, H2, L2, B2⟩
      have T : Two w w2 b S (RS.new (bothPages n)) b' S' (RS.new (bothPages n)) := ⟨H1.below B2, H2, fun i h1 h2 => by have := H1.lt h1; have := L2 i h2; omega, L1, fun i h => Nat.le_trans B1.size (L2 i h), step_below B1 B2 (Nat.le_refl _)⟩
      clear H1 L1 B1 H2 L2 B2
      go_wp2_with fail
      go_loopw [12] (fun i wr => ∃ j : Nat, j ≤ 0 ∧ i = .int .i64 j ∧ BothRel w b b' ((RS.new (bothPages n)).writes at_ v j) wr) (fun i _ => 0 - (intOf i).toNat)
      case atStart => exact ⟨0, by omega, rfl, S, S', T⟩
      case round =>
        clear T
        obtain ⟨j, hj, rfl, S1, S2, T⟩ := hrel
        have hj2 : j = 0 := by omega
        have HJ := Lib.hid hj2
        clear hj2
        rw [HJ.out] at T
        go_wp2_with fail
        go_loopw [13] (fun i wr => ∃ j : Nat, j ≤ 0 ∧ i = .int .i64 j ∧ BothRel w b b' (bothR n at_ v 0 o j) wr) (fun i _ => 0 - (intOf i).toNat)
        case atStart => exact ⟨0, by omega, rfl, S1, S2, T⟩
        case round =>
          clear T
          obtain ⟨i, hi, rfl, S5, S6, T5⟩ := hrel
          have hi2 : i = 0 := by omega
          have HI := Lib.hid hi2
          clear hi2
          rw [HI.out] at T5
          go_wp2_with fail
          go_ret2
          exact ⟨b, S5, b', S6, rfl, T5⟩
  · go_enter Try.func11, Try.ntmps11
    go_upto_region 1 with (fail)
    go_cut [19] from 14 (fun x wc => (∃ y : Bool, x = .bool y ∧ y = (decide (n < 1) || decide (16 < n))) ∧ w = wc)
    case first =>
      by_cases h1 : n < 1
      · go_wp2_with fail
        go_meet
        exact ⟨⟨_, rfl, by simp [h1]⟩, rfl⟩
      · by_cases h2 : 16 < n
        all_goals
          go_wp2_with fail
          go_meet
          exact ⟨⟨_, rfl, by simp [h1, h2]⟩, rfl⟩
    case rest =>
    obtain ⟨⟨y, rfl, hy⟩, rfl⟩ := hcut
    have HY := Lib.hid hy
    clear hy
    go_upto_if 19 with (fail)
    go_cut [0] from 14 (fun x wc => x = .int .i64 (bothPages n : Nat) ∧ w = wc)
    case first =>
      cases y
      · have h := HY.out
        have h1 : 1 ≤ n ∧ n ≤ 16 := by simp at h; omega
        clear h
        go_wp2_with fail
        go_meet
        exact ⟨by unfold bothPages; rw [if_pos h1]; congr 1; omega, rfl⟩
      · have h := HY.out
        have h1 : ¬ (1 ≤ n ∧ n ≤ 16) := by simp at h; omega
        clear h
        go_wp2_with fail
        go_meet
        exact ⟨by unfold bothPages; rw [if_neg h1]; rfl, rfl⟩
    case rest =>
      obtain ⟨rfl, rfl⟩ := hcut
      go_wp2_with fail
      refine (new_any _ (bothPages n) (by omega) (by omega)).mono ?_
      rintro e w1 ⟨b, S, rfl, H1, L1, B1⟩
      go_wp2_with fail
      refine (rnew_any _ (bothPages n) (by omega) (by omega)).mono ?_
      rintro e w2 ⟨b', S', rfl, H2, L2, B2⟩
      have T : Two w w2 b S (RS.new (bothPages n)) b' S' (RS.new (bothPages n)) := ⟨H1.below B2, H2, fun i h1 h2 => by have := H1.lt h1; have := L2 i h2; omega, L1, fun i h => Nat.le_trans B1.size (L2 i h), step_below B1 B2 (Nat.le_refl _)⟩
      clear H1 L1 B1 H2 L2 B2
      go_wp2_with fail
      go_loopw [12] (fun i wr => ∃ j : Nat, j ≤ 0 ∧ i = .int .i64 j ∧ BothRel w b b' ((RS.new (bothPages n)).writes at_ v j) wr) (fun i _ => 0 - (intOf i).toNat)
      case atStart => exact ⟨0, by omega, rfl, S, S', T⟩
      case round =>
        clear T
        obtain ⟨j, hj, rfl, S1, S2, T⟩ := hrel
        have hj2 : j = 0 := by omega
        have HJ := Lib.hid hj2
        clear hj2
        rw [HJ.out] at T
        go_wp2_with fail
        go_loopw [13] (fun i wr => ∃ j : Nat, j ≤ k ∧ i = .int .i64 j ∧ BothRel w b b' (bothR n at_ v 0 o j) wr) (fun i _ => k - (intOf i).toNat)
        case atStart => exact ⟨0, by omega, rfl, S1, S2, T⟩
        case round =>
          clear T
          obtain ⟨i, hi, rfl, S5, S6, T5⟩ := hrel
          by_cases hlt2 : i < k
          · have co := (bcellB T5.B).1 bo (oo + i) I.lt
            rw [I.c i hlt2] at co
            have ol1 := (I.l i hlt2).1
            have ol2 := (I.l i hlt2).2
            go_wp2_with fail
            refine (rom_any T5.m (o i) true).mono ?_
            rintro e w5 ⟨rfl, H6, K6⟩
            have T6 := T5.keepM H6 K6
            clear T5 H6 K6 co
            have co := (bcellB T6.B).1 bo (oo + i) I.lt
            rw [I.c i hlt2] at co
            go_wp2_with fail
            refine (rrom_any T6.r (o i) true).mono ?_
            rintro e w6 ⟨rfl, H7, K7⟩
            have T7 := T6.moveR H7 K7
            clear T6 H7 K7 co
            go_wp2_with fail
            go_roundw
            case rel => exact ⟨i + 1, by omega, by go_num, _, _, T7⟩
            case measure => (simp [intOf]) <;> omega
          ·
            have hi2 : i = k := by omega
            have HI := Lib.hid hi2
            clear hi2
            rw [HI.out] at T5
            go_wp2_with fail
            go_ret2
            exact ⟨b, S5, b', S6, rfl, T5⟩
  · go_enter Try.func11, Try.ntmps11
    go_upto_region 1 with (fail)
    go_cut [19] from 14 (fun x wc => (∃ y : Bool, x = .bool y ∧ y = (decide (n < 1) || decide (16 < n))) ∧ w = wc)
    case first =>
      by_cases h1 : n < 1
      · go_wp2_with fail
        go_meet
        exact ⟨⟨_, rfl, by simp [h1]⟩, rfl⟩
      · by_cases h2 : 16 < n
        all_goals
          go_wp2_with fail
          go_meet
          exact ⟨⟨_, rfl, by simp [h1, h2]⟩, rfl⟩
    case rest =>
    obtain ⟨⟨y, rfl, hy⟩, rfl⟩ := hcut
    have HY := Lib.hid hy
    clear hy
    go_upto_if 19 with (fail)
    go_cut [0] from 14 (fun x wc => x = .int .i64 (bothPages n : Nat) ∧ w = wc)
    case first =>
      cases y
      · have h := HY.out
        have h1 : 1 ≤ n ∧ n ≤ 16 := by simp at h; omega
        clear h
        go_wp2_with fail
        go_meet
        exact ⟨by unfold bothPages; rw [if_pos h1]; congr 1; omega, rfl⟩
      · have h := HY.out
        have h1 : ¬ (1 ≤ n ∧ n ≤ 16) := by simp at h; omega
        clear h
        go_wp2_with fail
        go_meet
        exact ⟨by unfold bothPages; rw [if_neg h1]; rfl, rfl⟩
    case rest =>
      obtain ⟨rfl, rfl⟩ := hcut
      go_wp2_with fail
      refine (new_any _ (bothPages n) (by omega) (by omega)).mono ?_
      rintro e w1 ⟨b, S, rfl, H1, L1, B1⟩
      go_wp2_with fail
      refine (rnew_any _ (bothPages n) (by omega) (by omega)).mono ?_
      rintro e w2 ⟨b', S', rfl, H2, L2, B2⟩
      have T : Two w w2 b S (RS.new (bothPages n)) b' S' (RS.new (bothPages n)) := ⟨H1.below B2, H2, fun i h1 h2 => by have := H1.lt h1; have := L2 i h2; omega, L1, fun i h => Nat.le_trans B1.size (L2 i h), step_below B1 B2 (Nat.le_refl _)⟩
      clear H1 L1 B1 H2 L2 B2
      go_wp2_with fail
      go_loopw [12] (fun i wr => ∃ j : Nat, j ≤ l ∧ i = .int .i64 j ∧ BothRel w b b' ((RS.new (bothPages n)).writes at_ v j) wr) (fun i _ => l - (intOf i).toNat)
      case atStart => exact ⟨0, by omega, rfl, S, S', T⟩
      case round =>
        clear T
        obtain ⟨j, hj, rfl, S1, S2, T⟩ := hrel
        by_cases hlt : j < l
        · have ca := (bcellB T.B).1 bl (ol + j * 2) W.lt
          rw [W.ca j hlt] at ca
          have cv := (bcellB T.B).1 bl (ol + j * 2 + 1) W.lt
          rw [W.cv j hlt] at cv
          have q1 : (0 : Int) ≤ (j : Int) := by omega
          have q2 : (j : Int) < (l : Int) := by omega
          go_upto_region 10 with (fail)
          go_still_tail 11, (by kernel_rfl)
          change wpList _ _ _ _ _ (wr.drewN 1)
          clear ca cv
          go_wp2_with fail
          refine (write_4 (T.drewN 1).m (at_ j) (v j) (W.a32 j hlt) (W.v32 j hlt)).mono ?_
          rintro e w3 ⟨rfl, S3, H3, M3⟩
          have T3 := (T.drewN 1).moveM H3 M3
          clear T H3 M3
          have ca := (bcellB T3.B).1 bl (ol + j * 2) W.lt
          rw [W.ca j hlt] at ca
          have cv := (bcellB T3.B).1 bl (ol + j * 2 + 1) W.lt
          rw [W.cv j hlt] at cv
          go_upto_region 11 with (fail)
          go_still_tail 11, (by kernel_rfl)
          change wpList _ _ _ _ _ (w3.drewN 1)
          clear ca cv
          go_wp2_with fail
          refine (rwrite_4 (T3.drewN 1).r (at_ j) (v j) (W.a32 j hlt) (W.v32 j hlt)).mono ?_
          rintro e w4 ⟨rfl, H4, K4⟩
          have T4 := (T3.drewN 1).moveR H4 K4
          clear T3 H4 K4
          go_wp2_with fail
          go_roundw
          case rel => exact ⟨j + 1, by omega, by go_num, _, _, T4⟩
          case measure => (simp [intOf]) <;> omega
        ·
          have hj2 : j = l := by omega
          have HJ := Lib.hid hj2
          clear hj2
          rw [HJ.out] at T
          go_wp2_with fail
          go_loopw [13] (fun i wr => ∃ j : Nat, j ≤ 0 ∧ i = .int .i64 j ∧ BothRel w b b' (bothR n at_ v l o j) wr) (fun i _ => 0 - (intOf i).toNat)
          case atStart => exact ⟨0, by omega, rfl, S1, S2, T⟩
          case round =>
            clear T
            obtain ⟨i, hi, rfl, S5, S6, T5⟩ := hrel
            have hi2 : i = 0 := by omega
            have HI := Lib.hid hi2
            clear hi2
            rw [HI.out] at T5
            go_wp2_with fail
            go_ret2
            exact ⟨b, S5, b', S6, rfl, T5⟩
  · go_enter Try.func11, Try.ntmps11
    go_upto_region 1 with (fail)
    go_cut [19] from 14 (fun x wc => (∃ y : Bool, x = .bool y ∧ y = (decide (n < 1) || decide (16 < n))) ∧ w = wc)
    case first =>
      by_cases h1 : n < 1
      · go_wp2_with fail
        go_meet
        exact ⟨⟨_, rfl, by simp [h1]⟩, rfl⟩
      · by_cases h2 : 16 < n
        all_goals
          go_wp2_with fail
          go_meet
          exact ⟨⟨_, rfl, by simp [h1, h2]⟩, rfl⟩
    case rest =>
    obtain ⟨⟨y, rfl, hy⟩, rfl⟩ := hcut
    have HY := Lib.hid hy
    clear hy
    go_upto_if 19 with (fail)
    go_cut [0] from 14 (fun x wc => x = .int .i64 (bothPages n : Nat) ∧ w = wc)
    case first =>
      cases y
      · have h := HY.out
        have h1 : 1 ≤ n ∧ n ≤ 16 := by simp at h; omega
        clear h
        go_wp2_with fail
        go_meet
        exact ⟨by unfold bothPages; rw [if_pos h1]; congr 1; omega, rfl⟩
      · have h := HY.out
        have h1 : ¬ (1 ≤ n ∧ n ≤ 16) := by simp at h; omega
        clear h
        go_wp2_with fail
        go_meet
        exact ⟨by unfold bothPages; rw [if_neg h1]; rfl, rfl⟩
    case rest =>
      obtain ⟨rfl, rfl⟩ := hcut
      go_wp2_with fail
      refine (new_any _ (bothPages n) (by omega) (by omega)).mono ?_
      rintro e w1 ⟨b, S, rfl, H1, L1, B1⟩
      go_wp2_with fail
      refine (rnew_any _ (bothPages n) (by omega) (by omega)).mono ?_
      rintro e w2 ⟨b', S', rfl, H2, L2, B2⟩
      have T : Two w w2 b S (RS.new (bothPages n)) b' S' (RS.new (bothPages n)) := ⟨H1.below B2, H2, fun i h1 h2 => by have := H1.lt h1; have := L2 i h2; omega, L1, fun i h => Nat.le_trans B1.size (L2 i h), step_below B1 B2 (Nat.le_refl _)⟩
      clear H1 L1 B1 H2 L2 B2
      go_wp2_with fail
      go_loopw [12] (fun i wr => ∃ j : Nat, j ≤ l ∧ i = .int .i64 j ∧ BothRel w b b' ((RS.new (bothPages n)).writes at_ v j) wr) (fun i _ => l - (intOf i).toNat)
      case atStart => exact ⟨0, by omega, rfl, S, S', T⟩
      case round =>
        clear T
        obtain ⟨j, hj, rfl, S1, S2, T⟩ := hrel
        by_cases hlt : j < l
        · have ca := (bcellB T.B).1 bl (ol + j * 2) W.lt
          rw [W.ca j hlt] at ca
          have cv := (bcellB T.B).1 bl (ol + j * 2 + 1) W.lt
          rw [W.cv j hlt] at cv
          have q1 : (0 : Int) ≤ (j : Int) := by omega
          have q2 : (j : Int) < (l : Int) := by omega
          go_upto_region 10 with (fail)
          go_still_tail 11, (by kernel_rfl)
          change wpList _ _ _ _ _ (wr.drewN 1)
          clear ca cv
          go_wp2_with fail
          refine (write_4 (T.drewN 1).m (at_ j) (v j) (W.a32 j hlt) (W.v32 j hlt)).mono ?_
          rintro e w3 ⟨rfl, S3, H3, M3⟩
          have T3 := (T.drewN 1).moveM H3 M3
          clear T H3 M3
          have ca := (bcellB T3.B).1 bl (ol + j * 2) W.lt
          rw [W.ca j hlt] at ca
          have cv := (bcellB T3.B).1 bl (ol + j * 2 + 1) W.lt
          rw [W.cv j hlt] at cv
          go_upto_region 11 with (fail)
          go_still_tail 11, (by kernel_rfl)
          change wpList _ _ _ _ _ (w3.drewN 1)
          clear ca cv
          go_wp2_with fail
          refine (rwrite_4 (T3.drewN 1).r (at_ j) (v j) (W.a32 j hlt) (W.v32 j hlt)).mono ?_
          rintro e w4 ⟨rfl, H4, K4⟩
          have T4 := (T3.drewN 1).moveR H4 K4
          clear T3 H4 K4
          go_wp2_with fail
          go_roundw
          case rel => exact ⟨j + 1, by omega, by go_num, _, _, T4⟩
          case measure => (simp [intOf]) <;> omega
        ·
          have hj2 : j = l := by omega
          have HJ := Lib.hid hj2
          clear hj2
          rw [HJ.out] at T
          go_wp2_with fail
          go_loopw [13] (fun i wr => ∃ j : Nat, j ≤ k ∧ i = .int .i64 j ∧ BothRel w b b' (bothR n at_ v l o j) wr) (fun i _ => k - (intOf i).toNat)
          case atStart => exact ⟨0, by omega, rfl, S1, S2, T⟩
          case round =>
            clear T
            obtain ⟨i, hi, rfl, S5, S6, T5⟩ := hrel
            by_cases hlt2 : i < k
            · have co := (bcellB T5.B).1 bo (oo + i) I.lt
              rw [I.c i hlt2] at co
              have ol1 := (I.l i hlt2).1
              have ol2 := (I.l i hlt2).2
              go_wp2_with fail
              refine (rom_any T5.m (o i) true).mono ?_
              rintro e w5 ⟨rfl, H6, K6⟩
              have T6 := T5.keepM H6 K6
              clear T5 H6 K6 co
              have co := (bcellB T6.B).1 bo (oo + i) I.lt
              rw [I.c i hlt2] at co
              go_wp2_with fail
              refine (rrom_any T6.r (o i) true).mono ?_
              rintro e w6 ⟨rfl, H7, K7⟩
              have T7 := T6.moveR H7 K7
              clear T6 H7 K7 co
              go_wp2_with fail
              go_roundw
              case rel => exact ⟨i + 1, by omega, by go_num, _, _, T7⟩
              case measure => (simp [intOf]) <;> omega
            ·
              have hi2 : i = k := by omega
              have HI := Lib.hid hi2
              clear hi2
              rw [HI.out] at T5
              go_wp2_with fail
              go_ret2
              exact ⟨b, S5, b', S6, rfl, T5⟩
end Go.Proofs.Ytknokiadbkgmaaa
