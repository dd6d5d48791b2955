/- Steps of a proof: Reach, UartH, UartR, IdeO, IdeV, IdeW, IdeX, IdeY, IdeZ, IdeRa, IdeRb, BusR, together. -/
import Derived.Test.YtmpcafdgkbpneaaGreatS32
import Derived.SizedLaws
import Derived.Laws.BytesArg
import Derived.Test.YtmpcafdgkbpneaaGreatS6
import Derived.Test.YtmpcafdgkbpneaaGreatS33
import Derived.Deep.CutRange
import Derived.Laws.Tables
import Derived.Laws.Rows
import Derived.Deep.MidRow
import Derived.Laws.AppendOwnNone
import Derived.Test.YtmpcafdgkbpneaaGreatS34
import Derived.Test.YtmpcafdgkbpneaaGreatS5
import Derived.Test.YtmpcafdgkbpneaaGreatS36
/- How long a slice may be that came in: the form's own reach. -/
set_option maxHeartbeats 4000000
set_option maxRecDepth 20000
namespace Go.Proofs.YtmpcafdgkbpneaaGreat
open Go.RowKit Go.WideShapes Go.ChangeShapes

end Go.Proofs.YtmpcafdgkbpneaaGreat

/- uart's laws: what comes and what is sent keeps its order; in plain words; bytes as a string. -/
namespace Go.Proofs.YtmpcafdgkbpneaaGreat.Uart
open Go.RowKit Go.Conc
set_option linter.unusedVariables false

end Go.Proofs.YtmpcafdgkbpneaaGreat.Uart

/- uart: the document's port, over the same plain state. -/
namespace Go.Proofs.YtmpcafdgkbpneaaGreat.Uart
open Go.RowKit Go.Conc
set_option linter.unusedVariables false

def Ut.rcells (U : Ut) (cv ov : Value) : List Value :=
 [cv, .bool U.lost, .int .u8 (U.d0 : Nat), .int .u8 (U.d1 : Nat), .int .u8 (U.lcr : Nat), .int .u8 (U.mcr : Nat), .int .u8 (U.scr : Nat), .int .u8 (U.wanted : Nat), .bool U.on, .bool U.empty, ov]
structure RfIn (w : World) (b : Nat) (cv ov : Value) (U : Ut) : Prop where
 obj : w.heap[b]? = some (.cells (U.rcells cv ov).toArray 265)
 came : RowC w 5 1 cv U.came.length (bytesV U.came)
 out : w.ownsRow 0 5 1 ov U.sent.length (bytesV U.sent)
 d : ∀ k, cv.ownBlock = some k → ov.ownBlock ≠ some k
 ok : U.ok
def RHeld (b : Nat) (cv ov : Value) (k : Nat) : Prop := k = b ∨ cv.ownBlock = some k ∨ ov.ownBlock = some k
section
variable {w w' : World} {b : Nat} {cv ov : Value} {U : Ut}
theorem RfIn.lt (H : RfIn w b cv ov U) {k : Nat} (h : RHeld b cv ov k) : k < w.heap.size := by
 rcases h with rfl | h | h
 ·exact heap_lt H.obj
 ·exact H.came.lt h
 ·exact (World.ownsRow.lt H.out k h).2
theorem RfIn.of_heap (H : RfIn w b cv ov U) (h : ∀ k, RHeld b cv ov k → w'.heap[k]? = w.heap[k]?) : RfIn w' b cv ov U :=
 ⟨by rw [h b (.inl rfl)]; exact H.obj, H.came.of_heap fun k hk => h k (.inr (.inl hk)), row_of_heap H.out fun k hk => h k (.inr (.inr hk)), H.d, H.ok⟩
theorem RfIn.facts (H : RfIn w b cv ov U) :
    w.cell? ⟨b, 0, none⟩ = some cv ∧ w.cell? ⟨b, 1, none⟩ = some (.bool U.lost) ∧ w.cell? ⟨b, 2, none⟩ = some (.int .u8 (U.d0 : Nat)) ∧ w.cell? ⟨b, 3, none⟩ = some (.int .u8 (U.d1 : Nat)) ∧ w.cell? ⟨b, 4, none⟩ = some (.int .u8 (U.lcr : Nat)) ∧
    w.cell? ⟨b, 5, none⟩ = some (.int .u8 (U.mcr : Nat)) ∧ w.cell? ⟨b, 6, none⟩ = some (.int .u8 (U.scr : Nat)) ∧ w.cell? ⟨b, 7, none⟩ = some (.int .u8 (U.wanted : Nat)) ∧
    w.cell? ⟨b, 8, none⟩ = some (.bool U.on) ∧ w.cell? ⟨b, 9, none⟩ = some (.bool U.empty) ∧ w.cell? ⟨b, 10, none⟩ = some ov ∧ (∀ k, w.frozen? ⟨b, k, none⟩ = false) ∧ b < w.heap.size := by
 have h := H.obj
 refine ⟨?_, ?_, ?_, ?_, ?_, ?_, ?_, ?_, ?_, ?_, ?_, fun k => free_at h, heap_lt h⟩ <;> (rw [cell_at h]; rfl)
theorem rnew_any (w : World) : Calls Tryz.prog 93 #[] w fun e w' => e = .returned (.pointer (some ⟨w.heap.size, 0, none⟩)) ∧ RfIn w' w.heap.size (.slice none 0 0) (.slice none 0 0) Ut.new ∧ Below w.heap.size w w' := by
 go_enter Tryz.func93, Tryz.ntmps93
 go_wp2_with fail
 go_ret
 exact ⟨rfl, ⟨heap_new w _, RowC.nil _ _ _, World.ownsRow_nil _ _ _ _, (fun k hk => by cases hk), Ut.new_ok⟩, (Below.refl _ _).alloc (Nat.le_refl _) _⟩
theorem rwhy_any (H : RfIn w b cv ov U) : Calls Tryz.prog 187 #[.pointer (some ⟨b, 0, none⟩)] w fun e w' => e = .returned (.int .u8 (U.why : Nat)) ∧ w = w' := by
 obtain ⟨k0, -, -, -, -, -, -, k7, -, k9, -, kf, kl⟩ := H.facts
 obtain ⟨a, c, rfl⟩ := H.came.len
 have hw : U.why = if (!U.came.isEmpty && U.wanted % 2 == 1) then 4 else if (U.empty && U.wanted / 2 % 2 == 1) then 2 else 1 := rfl
 have hwt := H.ok.wanted
 clear H
 generalize U.why = y at *
 generalize U.empty = e at *
 generalize U.wanted = wt at *
 have hn : ∃ n, n = U.came.length := ⟨_, rfl⟩
 obtain ⟨n, hn⟩ := hn
 rw [← hn] at k0
 have he : U.came.isEmpty = decide (n = 0) := by rw [hn]; cases U.came <;> simp
 rw [he] at hw
 clear hn he
 have h1 : (wt : Int) % 2 = 0 ∨ (wt : Int) % 2 = 1 := by omega
 have h2 : (wt : Int) / 2 % 2 = 0 ∨ (wt : Int) / 2 % 2 = 1 := by omega
 have h3 : (n : Int) ≤ 0 ∨ (0 : Int) < n := by omega
 rcases h1 with h1 | h1 <;> rcases h2 with h2 | h2 <;> rcases h3 with h3 | h3 <;> cases e
 all_goals
  have d1 : (wt % 2 == 1) = decide ((wt : Int) % 2 = 1) := by rw [Bool.eq_iff_iff]; simp; omega
  have d2 : (wt / 2 % 2 == 1) = decide ((wt : Int) / 2 % 2 = 1) := by rw [Bool.eq_iff_iff]; simp; omega
  have d3 : decide (n = 0) = decide ((n : Int) ≤ 0) := by rw [Bool.eq_iff_iff]; simp
  rw [d1, d2, d3, h1, h2] at hw
  first | rw [decide_eq_true h3] at hw | rw [decide_eq_false (show ¬ (n : Int) ≤ 0 by omega)] at hw
  simp at hw
  have HW := Lib.hid hw
  clear hw d1 d2 d3
  go_enter Tryz.func187, Tryz.ntmps187
  go_wp2_with fail
  go_ret
  exact ⟨by rw [HW.out]; rfl, rfl⟩
theorem rline_any (H : RfIn w b cv ov U) : Calls Tryz.prog 153 #[.pointer (some ⟨b, 0, none⟩)] w fun e w' => e = .returned (.bool U.line) ∧ w = w' := by
 have HL := Lib.hid (Ut.line_eq U)
 go_enter Tryz.func153, Tryz.ntmps153
 go_wp2_with fail
 refine (rwhy_any H).mono ?_
 rintro e w1 ⟨rfl, rfl⟩
 go_wp2_with fail
 go_ret
 exact ⟨by rw [HL.out]; rfl, rfl⟩
end
end Go.Proofs.YtmpcafdgkbpneaaGreat.Uart

/- ide's laws: a command at a place; the calls at the head of all statements. -/
namespace Go.Proofs.YtmpcafdgkbpneaaGreat.Ide
open Go.RowKit
set_option linter.unusedVariables false

end Go.Proofs.YtmpcafdgkbpneaaGreat.Ide

/- ide: the document's disk: fresh, Line, place, there, fail, begin. -/
namespace Go.Proofs.YtmpcafdgkbpneaaGreat.Ide
open Go.RowKit
set_option linter.unusedVariables false
set_option linter.unusedSimpArgs false

section
variable {w : World} {b : Nat} {ds lv : Value} {D : Dk}
theorem rfresh_in (H : IdeIn 213 w b ds lv D) :
    Calls Tryz.prog 150 #[.pointer (some ⟨b, 0, none⟩)] w fun e w' => e = .returned (.tuple #[]) ∧ IdeIn 213 w' b ds lv D.fresh ∧ Keeps (· = b) w w' := by
 obtain ⟨-, k1, k2, k3, k4, k5, k6, k7, -, k9, k10, k11, k12, -, kf, klt⟩ := H.facts
 have HH := Lib.hid H
 clear H
 go_enter Tryz.func150, Tryz.ntmps150
 go_wp2_with fail
 go_end0
 have B1 := Blk.reg (Blk.of HH.out) 0 0 0 rfl (by decide)
 have B2 := Blk.reg B1 1 1 1 rfl (by decide)
 have B3 := Blk.reg B2 2 1 1 rfl (by decide)
 have B4 := Blk.reg B3 3 1 1 rfl (by decide)
 have B5 := Blk.reg B4 4 0 0 rfl (by decide)
 have B6 := Blk.reg B5 5 0 0 rfl (by decide)
 have B7 := Blk.reg B6 6 0 0 rfl (by decide)
 have B8 := Blk.failed (Blk.mark (Blk.done (Blk.mode B7 0 0 rfl) 0 0 rfl) false) false
 rw [← Dk.fresh_eq] at B8
 refine ⟨rfl, turned HH.out B8 ?_ (Dk.fresh_ok HH.out.ok) rfl rfl rfl⟩
 (repeat' (first | (with_reducible exact Keeps.refl _ _) | (with_reducible refine Keeps.setOne ?_ _ _)))
theorem rline_in (H : IdeIn 213 w b ds lv D) :
    Calls Tryz.prog 154 #[.pointer (some ⟨b, 0, none⟩)] w fun e w' => e = .returned (.bool D.line) ∧ w = w' := by
 obtain ⟨-, -, -, -, -, -, -, -, k8, -, -, k11, -⟩ := H.facts
 have h1 := H.ok.c
 have hb : ((D.c : Int) / 2 % 2 == 0) = (D.c / 2 % 2 == 0) := by rw [Bool.eq_iff_iff]; simp; omega
 cases hm : D.mark
 all_goals
  rw [hm] at k11
  have HM := Lib.hid hm
  clear hm
  go_enter Tryz.func154, Tryz.ntmps154
  go_wp2_with fail
  go_ret
  exact ⟨by unfold Dk.line; rw [HM.out]; rfl, rfl⟩
end
end Go.Proofs.YtmpcafdgkbpneaaGreat.Ide

/- ide: the document's disk: command. -/
namespace Go.Proofs.YtmpcafdgkbpneaaGreat.Ide
open Go.RowKit
set_option linter.unusedVariables false
set_option linter.unusedSimpArgs false

end Go.Proofs.YtmpcafdgkbpneaaGreat.Ide

/- ide: the document's disk: behind a sector; a byte is read. -/
namespace Go.Proofs.YtmpcafdgkbpneaaGreat.Ide
open Go.RowKit
set_option linter.unusedVariables false
set_option linter.unusedSimpArgs false

end Go.Proofs.YtmpcafdgkbpneaaGreat.Ide

/- ide: the document's disk: a byte is read, a byte is written. -/
namespace Go.Proofs.YtmpcafdgkbpneaaGreat.Ide
open Go.RowKit
set_option linter.unusedVariables false
set_option linter.unusedSimpArgs false

end Go.Proofs.YtmpcafdgkbpneaaGreat.Ide

/- ide: the document's disk: a byte is written. -/
namespace Go.Proofs.YtmpcafdgkbpneaaGreat.Ide
open Go.RowKit
set_option linter.unusedVariables false
set_option linter.unusedSimpArgs false

end Go.Proofs.YtmpcafdgkbpneaaGreat.Ide

/- ide: the document's disk: Out, In. -/
namespace Go.Proofs.YtmpcafdgkbpneaaGreat.Ide
open Go.RowKit
set_option linter.unusedVariables false
set_option linter.unusedSimpArgs false

end Go.Proofs.YtmpcafdgkbpneaaGreat.Ide

/- ide: the document's disk: New, Written. -/
namespace Go.Proofs.YtmpcafdgkbpneaaGreat.Ide
open Go.RowKit
set_option linter.unusedVariables false
set_option linter.unusedSimpArgs false

set_option maxRecDepth 100000 in
theorem rbuilt_new (a : Option Addr) (m c : Nat) : Tryz.prog.built 213 [(0, .slice a m c)] = some (blank.cells (.slice a m c) (.slice none 0 0)) := by kernel_rfl
theorem reads_news {w : World} {v : Value} {n : Nat} {d : Nat → Nat} (H : Reads w v n d) : (n = 0 ∧ v = .slice none 0 0) ∨ ∃ ad c, v = .slice (some ad) n c ∧ ∀ j u, (bytesL n d)[j]? = some u → w.cell? (ad.add j) = some u := by
 obtain ⟨a, c, rfl, h⟩ := H
 cases a with
 | none =>
  rcases h with ⟨rfl, h⟩ | ⟨b, off, h, _⟩
  ·obtain rfl := h rfl; exact .inl ⟨rfl, rfl⟩
  ·cases h
 | some a =>
  right
  rcases h with ⟨rfl, h⟩ | ⟨b, off, h, _, hc⟩
  ·exact ⟨a, c, rfl, fun j u hj => by rw [bytesL_no 0 d j (Nat.zero_le _)] at hj; cases hj⟩
  ·cases h
   exact ⟨_, c, rfl, fun j u hj => by obtain ⟨hj2, rfl⟩ := bytesL_some hj; rw [Go.WideShapes.add_plain]; exact hc j hj2⟩
section
variable {w : World} {b : Nat} {ds lv : Value} {D : Dk}
theorem rmade_in {w1 : World} {L n : Nat} {d : Nat → Nat} {a' : Option Addr} {c' : Nat} (hL : L = n * 512) (hn : n ≤ 64) (hd : ∀ i, d i < 256) (hown : w1.ownsRow w.heap.size 5 1 (.slice a' L c') L (bytesL L d)) :
    IdeIn 213 (w1.alloc (.cells (blank.cells (.slice a' L c') (.slice none 0 0)) 213)) w1.heap.size (.slice a' L c') (.slice none 0 0) (Dk.made n d) := by
 have hlt := World.ownsRow.lt hown
 refine { obj := heap_new w1 _, disk := ?_, log := World.ownsRow_nil _ _ _ _, d1 := fun e => ?_, d2 := (fun e => by cases e), d3 := (fun k _ e => by cases e), ok := Dk.made_ok hn hd }
 ·have hr := row_base hown
  rw [hL] at hr ⊢
  exact hr.alloc _
 ·exact Nat.lt_irrefl _ (hlt _ e).2
def NewAt (w : World) (n : Nat) (d : Nat → Nat) (e : Ending) (w' : World) : Prop :=
 ∃ b ds, e = .returned (.tuple #[.pointer (some ⟨b, 0, none⟩), .int .i64 0]) ∧ IdeIn 213 w' b ds (.slice none 0 0) (Dk.new n d) ∧ w.heap.size ≤ b ∧ (∀ k, ds.ownBlock = some k → w.heap.size ≤ k) ∧ Below w.heap.size w w'
theorem rrow_len {w : World} {B n : Nat} {E : TypeId} {v : Value} {xs : List Value} (h : w.ownsRow B E 1 v n xs) : ∃ a c, v = .slice a n c := by
 rcases h.2 with ⟨rfl, rfl⟩ | ⟨g, cap, cur, rfl, _⟩
 ·exact ⟨_, _, rfl⟩
 ·exact ⟨_, _, rfl⟩
theorem rnew_yes {v : Value} {n : Nat} {d : Nat → Nat} (H : Reads w v (n * 512) d) (hn : n ≤ 64) (hd : ∀ i, d i < 256) :
    Calls Tryz.prog 90 #[v] w (NewAt w n d) := by
 have hown : (w.alloc (.cells #[] 5)).ownsRow w.heap.size 5 1 (.slice (some ⟨w.heap.size, 0, none⟩) 0 0) 0 [] := World.ownsRow_made w #[] 0 (Nat.le_refl _) (by decide) (by simp)
 have HOWN := Lib.hid hown
 clear hown
 obtain ⟨i0, hi, hz0, hz1, hz2⟩ := info_parts info8
 have q1 : ((n * 512 : Nat) : Int) % 512 = 0 := by omega
 have q2 : ((n * 512 : Nat) : Int) ≤ 32768 := by omega
 have q3 : n * 512 ≤ 32768 := by omega
 rcases reads_news H with ⟨h0, rfl⟩ | ⟨ad, c, rfl, hnews⟩
 ·have hn0 : n = 0 := by omega
  subst hn0
  clear H h0 q1 q2 q3
  go_enter Tryz.func90, Tryz.ntmps90
  go_wp2_with (first | (at_builtin; (refine wpList_append_own_none rfl _ _ 97 rfl w.heap.size 5 i0 1 Tryz.underlying97 hi _ 0 [] rfl HOWN.out rfl ?_)) | ((refine wpList_build_eq (o := ⟨some 17, _, _, _, _, _⟩) ?hg0 213 ?pt0 ?ho0 (blank.cells (.slice (some ⟨w.heap.size, 0, none⟩) 0 0) (.slice none 0 0)) ?hb0 ?_); (case ho0 => rfl); (case hg0 => rfl); (case hb0 => (simp only [List.map_toArray, List.map_cons, List.map_nil]; exact rbuilt_new _ _ _))))
  have H0 := rmade_in (w := w) (n := 0) (L := 0) (d := d) (by omega) (by omega) hd HOWN.out
  simp only [World.size_alloc] at H0
  have H1 := Lib.hid H0
  clear H0
  refine (rfresh_in H1.out).mono ?_
  rintro e w2 ⟨rfl, H2, K2⟩
  have HX := Lib.hid (And.intro H2 K2)
  clear H2 K2
  go_wp2_with fail
  go_ret2
  refine ⟨_, _, rfl, HX.out.1, by simp, fun k hk => by cases hk; exact Nat.le_refl _, ?_⟩
  exact Keeps.toBelow (((Below.refl _ _).alloc (Nat.le_refl _) _).alloc (by simp) _) HX.out.2 (by simp; omega) (fun i h => by rw [h]; simp)
 ·have HNEWS := Lib.hid (show ∀ j u, (bytesL (n * 512) d)[j]? = some u → (w.alloc (.cells #[] 5)).cell? (ad.add j) = some u from fun j u h => by
    have := hnews j u h
    rw [World.cell?_alloc_lt _ _ _ (World.block_lt_of_cell? w _ this)]
    exact this)
  clear hnews H
  obtain ⟨L, hL⟩ : ∃ L, L = n * 512 := ⟨_, rfl⟩
  rw [← hL] at q1 q2 q3 HNEWS ⊢
  have HL := Lib.hid (And.intro hL hn)
  clear hL hn
  go_enter Tryz.func90, Tryz.ntmps90
  go_wp2_with (first | (at_builtin; refine wpList_append_own _ rfl _ _ 97 rfl w.heap.size 5 i0 (.int .u8 0) 1 1 Tryz.underlying97 hi hz0 hz1 hz2 rfl (by decide) _ 0 [] rfl HOWN.out ad L c (bytesL L d) rfl (by rw [bytesL_len]; omega) HNEWS.out (bytesL_one L d) (by unfold maxLen; omega) (by omega) (by simp) ?_; intro v' w1 hown1 hgrow1 _; have HB1 := Lib.hid (((Below.refl w.heap.size w).alloc (Nat.le_refl _) (.cells #[] 5)).grown hgrow1 (by simp) (by intro k hk; cases hk; exact Nat.le_refl _)); have HW1 := Lib.hid (show w1.ownsRow w.heap.size 5 1 v' L (bytesL L d) from by simpa using hown1); obtain ⟨a', c', hvv⟩ := rrow_len HW1.out; clear hown1 hgrow1; obtain rfl := hvv) | ((refine wpList_build_eq (o := ⟨some 17, _, _, _, _, _⟩) ?hg0 213 ?pt0 ?ho0 (blank.cells (.slice a' L c') (.slice none 0 0)) ?hb0 ?_); (case ho0 => rfl); (case hg0 => rfl); (case hb0 => (simp only [List.map_toArray, List.map_cons, List.map_nil]; exact rbuilt_new _ _ _))))
  have H1 := Lib.hid (rmade_in (w := w) HL.out.1 HL.out.2 hd HW1.out)
  refine (rfresh_in H1.out).mono ?_
  rintro e w2 ⟨rfl, H2, K2⟩
  have HX := Lib.hid (And.intro H2 K2)
  clear H2 K2
  go_wp2_with fail
  go_ret2
  refine ⟨_, _, rfl, HX.out.1, HB1.out.size, fun k hk => (World.ownsRow.lt HW1.out k hk).1, ?_⟩
  exact Keeps.toBelow (HB1.out.alloc HB1.out.size _) HX.out.2 (by simp; have := HB1.out.size; omega) (fun i h => by rw [h]; exact HB1.out.size)
end
end Go.Proofs.YtmpcafdgkbpneaaGreat.Ide

/- bus: the document's bus: its devices, its lines, New. -/
namespace Go.Proofs.YtmpcafdgkbpneaaGreat
open Go.RowKit Go.MapKept
set_option linter.unusedVariables false
set_option linter.unusedSimpArgs false

def rct (c : Pit.Ct) : List Value := [.int .i64 c.m, .int .i64 c.h, .int .u64 c.l, .int .u64 c.g, .bool c.st, .bool c.wn, .int .u8 c.f, .bool c.up, .bool c.hd, .int .u64 c.v]
def rcts (T : Tm3) : Array Value := (rct T.a ++ rct T.b ++ rct T.c).toArray
def oRTm (b : Nat) (T : Tm3) : Ob := Ob.box b (.cells (rcts T) 263)
def oRPic (b : Nat) (c d : Pic.Chip) : Ob := ⟨fun w H => ∃ v u, Pic.RP w b v u c d ∧ (c.ok ∧ d.ok) ∧ ∀ k, H k ↔ (k = b ∨ v.ownBlock = some k ∨ u.ownBlock = some k),
 fun ⟨v, u, h, ok, e⟩ g => ⟨v, u, ⟨(g b ((e b).2 (.inl rfl))).trans h.obj, h.cw.of_heap fun k hk => g k ((e k).2 (.inr (.inl hk))), h.dw.of_heap fun k hk => g k ((e k).2 (.inr (.inr hk)))⟩, ok, e⟩,
 fun ⟨v, u, h, ok, e⟩ k hk => by
  rcases (e k).1 hk with rfl | hk | hk
  ·exact h.lt
  ·exact h.cw.lt hk
  ·exact h.dw.lt hk⟩
def oRUart (b : Nat) (U : Uart.Ut) : Ob := ⟨fun w H => ∃ cv ov, Uart.RfIn w b cv ov U ∧ ∀ k, H k ↔ Uart.RHeld b cv ov k,
 fun ⟨q, sv, h, e⟩ g => ⟨q, sv, h.of_heap fun k hk => g k ((e k).2 hk), e⟩, fun ⟨q, sv, h, e⟩ k hk => h.lt ((e k).1 hk)⟩
def oRIde (b : Nat) (D : Ide.Dk) : Ob := ⟨fun w H => ∃ ds lv, Ide.IdeIn 213 w b ds lv D ∧ D.room ∧ ∀ k, H k ↔ Ide.Held b ds lv k,
 fun ⟨q, sv, h, r, e⟩ g => ⟨q, sv, h.of_heap fun k hk => g k ((e k).2 hk), r, e⟩, fun ⟨q, sv, h, r, e⟩ k hk => Ide.Held.lt h ((e k).1 hk)⟩
def oRef (b : Nat) (R : RS) : Ob := ⟨fun w H => Ref w b H R,
 fun {w w' H} h g => by
  obtain ⟨g0, g1, g2, g3, h, e⟩ := h
  exact ⟨g0, g1, g2, g3, { h with
   obj := (g b ((e b).2 (.inl rfl))).trans h.obj
   r0 := (g g0 ((e g0).2 (.inr (.inl rfl)))).trans h.r0
   r1 := (g g1 ((e g1).2 (.inr (.inr (.inl rfl))))).trans h.r1
   r2 := (g g2 ((e g2).2 (.inr (.inr (.inr (.inl rfl)))))).trans h.r2
   r3 := (g g3 ((e g3).2 (.inr (.inr (.inr (.inr rfl)))))).trans h.r3 }, e⟩,
 fun {w H} h k hk => by
  obtain ⟨g0, g1, g2, g3, h, e⟩ := h
  rcases (e k).1 hk with rfl | rfl | rfl | rfl | rfl
  ·exact heap_lt h.obj
  ·exact heap_lt h.r0
  ·exact heap_lt h.r1
  ·exact heap_lt h.r2
  ·exact heap_lt h.r3⟩
def rbusCells (pm pp pt pu pi : Nat) (t : Nat) : Array Value :=
 #[.pointer (some ⟨pm, 0, none⟩), .pointer (some ⟨pp, 0, none⟩), .pointer (some ⟨pt, 0, none⟩), .pointer (some ⟨pu, 0, none⟩), .pointer (some ⟨pi, 0, none⟩), .int .u64 (t : Nat)]
def rbusObs (b pm pp pt pu pi : Nat) (B : Bs) : List Ob := [Ob.box b (.cells (rbusCells pm pp pt pu pi B.t) 181), oRPic pp B.c B.d, oRTm pt B.T, oRUart pu B.u, oRIde pi B.k, oRef pm B.R]
theorem rbus_facts {w : World} {b pp pt pu pi pm : Nat} {t : Nat} (h : w.heap[b]? = some (.cells (rbusCells pm pp pt pu pi t) 181)) :
    w.cell? ⟨b, 0, none⟩ = some (.pointer (some ⟨pm, 0, none⟩)) ∧ w.cell? ⟨b, 1, none⟩ = some (.pointer (some ⟨pp, 0, none⟩)) ∧ w.cell? ⟨b, 2, none⟩ = some (.pointer (some ⟨pt, 0, none⟩)) ∧ w.cell? ⟨b, 3, none⟩ = some (.pointer (some ⟨pu, 0, none⟩)) ∧ w.cell? ⟨b, 4, none⟩ = some (.pointer (some ⟨pi, 0, none⟩)) ∧
    w.cell? ⟨b, 5, none⟩ = some (.int .u64 (t : Nat)) ∧ (∀ k, w.frozen? ⟨b, k, none⟩ = false) ∧ b < w.heap.size := by
 refine ⟨?_, ?_, ?_, ?_, ?_, ?_, fun k => free_at h, heap_lt h⟩ <;> (rw [cell_at h]; rfl)
section
variable {b : Nat} {c d : Pic.Chip} {U : Uart.Ut} {D : Ide.Dk} {R : RS}
theorem rpic_line3 (n : Int) (hn : n = 0 ∨ n = 4 ∨ n = 14) (up : Bool) : Acts 151 #[.pointer (some ⟨b, 0, none⟩), .int .i64 n, .bool up] (oRPic b c d) (.int .i64 (Pic.lerr n)) (oRPic b (Pic.lnc c n up) (Pic.lnd d n up)) := by
 rintro w A ⟨v, u, H, ok, e⟩
 refine (Pic.rline_three H ok.1 ok.2 n hn up).mono ?_
 rintro x w1 ⟨rfl, H1, K⟩
 exact ⟨rfl, A, ⟨v, u, H1, ⟨Pic.lnc_ok ok.1 n up, Pic.lnd_ok ok.2 n up⟩, e⟩, K.mono fun k _ h => (e k).2 (.inl h), fun k hk => .inl hk⟩
theorem ruart_line : Acts 153 #[.pointer (some ⟨b, 0, none⟩)] (oRUart b U) (.bool U.line) (oRUart b U) := by
 rintro w A ⟨v, u, H, e⟩
 refine (Uart.rline_any H).mono ?_
 rintro x w1 ⟨rfl, rfl⟩
 exact ⟨rfl, A, ⟨v, u, H, e⟩, Moves.refl _ _⟩
theorem ride_line : Acts 154 #[.pointer (some ⟨b, 0, none⟩)] (oRIde b D) (.bool D.line) (oRIde b D) := by
 rintro w A ⟨v, u, H, r, e⟩
 refine (Ide.rline_in H).mono ?_
 rintro x w1 ⟨rfl, rfl⟩
 exact ⟨rfl, A, ⟨v, u, H, r, e⟩, Moves.refl _ _⟩
def tm0 : Tm3 := ⟨Pit.ctNew, Pit.ctNew, Pit.ctNew⟩
theorem rtm_new (w : World) : Calls Tryz.prog 92 #[] w fun e w' => e = .returned (.pointer (some ⟨w.heap.size, 0, none⟩)) ∧ w'.heap[w.heap.size]? = some (.cells (rcts tm0) 263) ∧ Below w.heap.size w w' := by
 go_enter Tryz.func92, Tryz.ntmps92
 go_wp2
 go_rounds 4
 go_ret
 exact ⟨rfl, heap_new w _, by go_grown⟩
theorem rtm0_facts {w : World} (h : w.heap[b]? = some (.cells (rcts tm0) 263)) :
    w.cell? ⟨b, 0, none⟩ = some (.int .i64 3) ∧ w.cell? ⟨b, 1, none⟩ = some (.int .i64 3) ∧ w.cell? ⟨b, 2, none⟩ = some (.int .u64 65536) ∧ w.cell? ⟨b, 3, none⟩ = some (.int .u64 0) ∧ w.cell? ⟨b, 4, none⟩ = some (.bool false) ∧
    w.cell? ⟨b, 5, none⟩ = some (.bool false) ∧ w.cell? ⟨b, 6, none⟩ = some (.int .u8 0) ∧ w.cell? ⟨b, 7, none⟩ = some (.bool false) ∧ w.cell? ⟨b, 8, none⟩ = some (.bool false) ∧ w.cell? ⟨b, 9, none⟩ = some (.int .u64 0) ∧ b < w.heap.size := by
 refine ⟨?_, ?_, ?_, ?_, ?_, ?_, ?_, ?_, ?_, ?_, heap_lt h⟩ <;> (rw [cell_at h]; rfl)
theorem rtm_line0 : Acts 152 #[.pointer (some ⟨b, 0, none⟩), .int .u64 0] (oRTm b tm0) (.bool true) (oRTm b tm0) := by
 rintro w A ⟨H, e⟩
 have HH := Lib.hid H
 suffices hc : Calls Tryz.prog 152 #[.pointer (some ⟨b, 0, none⟩), .int .u64 0] w fun e w' => e = .returned (.bool true) ∧ Below w.heap.size w w' by
  refine hc.mono ?_
  rintro x w1 ⟨rfl, hb⟩
  exact ⟨rfl, A, ⟨heap_below hb HH.out, e⟩, moves_one e (Keeps.ofBelow hb)⟩
 obtain ⟨k0, k1, k2, k3, k4, k5, k6, k7, k8, k9, kl⟩ := rtm0_facts H
 clear H e
 go_enter Tryz.func152, Tryz.ntmps152
 go_wp2_with fail
 go_quiet (fail)
 go_wp2_with fail
 go_ret
 exact ⟨rfl, Pic.below_drewN ((Below.refl _ _).alloc (Nat.le_refl _) _) _⟩
end
section
variable {b pp pt pu pi pm : Nat} {B : Bs} {w0 w : World} {A0 : Nat → Prop}
theorem Hp.rbus (T : Hp w0 A0 w (rbusObs b pm pp pt pu pi B)) : w.heap[b]? = some (.cells (rbusCells pm pp pt pu pi B.t) 181) := T.box 0 rfl
theorem Hp.r125 (T : Hp w0 A0 w (rbusObs b pm pp pt pu pi B)) : w.cell? ⟨b, 1, none⟩ = some (.pointer (some ⟨pp, 0, none⟩)) ∧ w.cell? ⟨b, 2, none⟩ = some (.pointer (some ⟨pt, 0, none⟩)) ∧ w.cell? ⟨b, 5, none⟩ = some (.int .u64 (B.t : Nat)) :=
 have h := rbus_facts T.rbus
 ⟨h.2.1, h.2.2.1, h.2.2.2.2.2.1⟩
theorem Hp.r13 (T : Hp w0 A0 w (rbusObs b pm pp pt pu pi B)) : w.cell? ⟨b, 1, none⟩ = some (.pointer (some ⟨pp, 0, none⟩)) ∧ w.cell? ⟨b, 3, none⟩ = some (.pointer (some ⟨pu, 0, none⟩)) :=
 have h := rbus_facts T.rbus
 ⟨h.2.1, h.2.2.2.1⟩
theorem Hp.r14 (T : Hp w0 A0 w (rbusObs b pm pp pt pu pi B)) : w.cell? ⟨b, 1, none⟩ = some (.pointer (some ⟨pp, 0, none⟩)) ∧ w.cell? ⟨b, 4, none⟩ = some (.pointer (some ⟨pi, 0, none⟩)) :=
 have h := rbus_facts T.rbus
 ⟨h.2.1, h.2.2.2.2.1⟩
def RLine (T : Tm3) (t : Nat) : Prop := ∀ b, Acts 152 #[.pointer (some ⟨b, 0, none⟩), .int .u64 (t : Nat)] (oRTm b T) (.bool (T.a.line t)) (oRTm b T)
theorem rlines_hp (hl : RLine B.T B.t) (T : Hp w0 A0 w (rbusObs b pm pp pt pu pi B)) :
    Calls Tryz.prog 94 #[.pointer (some ⟨b, 0, none⟩)] w fun e w' => e = .returned (.tuple #[]) ∧ Hp w0 A0 w' (rbusObs b pm pp pt pu pi B.lines) := by
 have HL := Lib.hid hl
 clear hl
 go_enter Tryz.func94, Tryz.ntmps94
 go_wp2_with fail
 obtain ⟨k0, k1, k2, k3, k4, k5, kf, kl⟩ := rbus_facts T.rbus
 have T0 := Lib.hid T.drew
 clear T
 go_region_held3 (fun w' => w'.cell? ⟨b, 1, none⟩ = some (.pointer (some ⟨pp, 0, none⟩)) ∧ w'.cell? ⟨b, 2, none⟩ = some (.pointer (some ⟨pt, 0, none⟩)) ∧ w'.cell? ⟨b, 5, none⟩ = some (.int .u64 (B.t : Nat))) (first | exact Hp.r125 (B := B) T0.out | exact Hp.r125 (B := (B.line 0 (B.T.a.line B.t))) T2 | exact Hp.r125 (B := B) T1 | go_keep) (first | (go_at_call 152; refine (T0.out.act 2 rfl (HL.out _)).mono ?_; rintro e w1 ⟨rfl, T1⟩; replace T1 : Hp w0 A0 w1 (rbusObs b pm pp pt pu pi B) := T1) | (go_at_call 151; refine (T1.act 1 rfl (rpic_line3 _ (by decide) _)).mono ?_; rintro e w2 ⟨rfl, T2⟩; replace T2 : Hp w0 A0 w2 (rbusObs b pm pp pt pu pi (B.line 0 (B.T.a.line B.t))) := T2))
 clear k0 k1 k2 k3 k4 k5 kf kl T1 T0
 have S0 := T2
 clear T2
 go_wp2_with fail
 obtain ⟨k0, k1, k2, k3, k4, k5, kf, kl⟩ := rbus_facts S0.rbus
 have T0 := Lib.hid S0.drew
 clear S0
 go_region_held3 (fun w' => w'.cell? ⟨b, 1, none⟩ = some (.pointer (some ⟨pp, 0, none⟩)) ∧ w'.cell? ⟨b, 3, none⟩ = some (.pointer (some ⟨pu, 0, none⟩))) (first | exact Hp.r13 (B := (B.line 0 (B.T.a.line B.t))) T0.out | exact Hp.r13 (B := ((B.line 0 (B.T.a.line B.t)).line 4 B.u.line)) T2 | exact Hp.r13 (B := (B.line 0 (B.T.a.line B.t))) T1 | go_keep) (first | (go_at_call 153; refine (T0.out.act 3 rfl (ruart_line)).mono ?_; rintro e w1 ⟨rfl, T1⟩; replace T1 : Hp w0 A0 w1 (rbusObs b pm pp pt pu pi (B.line 0 (B.T.a.line B.t))) := T1) | (go_at_call 151; refine (T1.act 1 rfl (rpic_line3 _ (by decide) _)).mono ?_; rintro e w2 ⟨rfl, T2⟩; replace T2 : Hp w0 A0 w2 (rbusObs b pm pp pt pu pi ((B.line 0 (B.T.a.line B.t)).line 4 B.u.line)) := T2))
 clear k0 k1 k2 k3 k4 k5 kf kl T1 T0
 have S1 := T2
 clear T2
 go_wp2_with fail
 obtain ⟨k0, k1, k2, k3, k4, k5, kf, kl⟩ := rbus_facts S1.rbus
 have T0 := Lib.hid S1.drew
 clear S1
 go_region_held3 (fun w' => w'.cell? ⟨b, 1, none⟩ = some (.pointer (some ⟨pp, 0, none⟩)) ∧ w'.cell? ⟨b, 4, none⟩ = some (.pointer (some ⟨pi, 0, none⟩))) (first | exact Hp.r14 (B := ((B.line 0 (B.T.a.line B.t)).line 4 B.u.line)) T0.out | exact Hp.r14 (B := (((B.line 0 (B.T.a.line B.t)).line 4 B.u.line).line 14 B.k.line)) T2 | exact Hp.r14 (B := ((B.line 0 (B.T.a.line B.t)).line 4 B.u.line)) T1 | go_keep) (first | (go_at_call 154; refine (T0.out.act 4 rfl (ride_line)).mono ?_; rintro e w1 ⟨rfl, T1⟩; replace T1 : Hp w0 A0 w1 (rbusObs b pm pp pt pu pi ((B.line 0 (B.T.a.line B.t)).line 4 B.u.line)) := T1) | (go_at_call 151; refine (T1.act 1 rfl (rpic_line3 _ (by decide) _)).mono ?_; rintro e w2 ⟨rfl, T2⟩; replace T2 : Hp w0 A0 w2 (rbusObs b pm pp pt pu pi (((B.line 0 (B.T.a.line B.t)).line 4 B.u.line).line 14 B.k.line)) := T2))
 clear k0 k1 k2 k3 k4 k5 kf kl T1 T0
 have S2 := T2
 clear T2
 go_wp2_with fail
 go_returns
 exact ⟨rfl, S2⟩
theorem rline0 : RLine tm0 0 := fun b => by
 have e : Pit.Ct.line tm0.a ((0 : Nat) : Int) = true := by kernel_rfl
 rw [e]
 exact rtm_line0
def oRBus (b pm : Nat) (B : Bs) : Ob := Ob.any fun x : Nat × Nat × Nat × Nat => Ob.all (rbusObs b pm x.1 x.2.1 x.2.2.1 x.2.2.2 B)
theorem Hp.toRBus {os : List Ob} (T : Hp w0 A0 w (rbusObs b pm pp pt pu pi B ++ os)) : Hp w0 A0 w (oRBus b pm B :: os) :=
 T.pack fun A a => ⟨(pp, pt, pu, pi), a⟩
end
section
variable {pm : Nat} {R : RS} {n : Nat} {d : Nat → Nat} {v : Value} {w0 w : World} {A0 : Nat → Prop}
theorem RefIn.gate {w : World} {b g0 g1 g2 g3 : Nat} {R : RS} (H : RefIn w b g0 g1 g2 g3 R) (x : Bool) : RefIn (w.setCell ⟨b, 4, none⟩ (.bool !x)) b g0 g1 g2 g3 (R.gate x) :=
 have o : ∀ k, k ≠ b → (w.setCell ⟨b, 4, none⟩ (.bool !x)).heap[k]? = w.heap[k]? := fun k h => heap_set_other _ h
 {obj := by rw [heap_set_map, H.obj]; rfl
  r0 := (o _ H.e0.symm).trans H.r0
  r1 := (o _ H.e1.symm).trans H.r1
  r2 := (o _ H.e2.symm).trans H.r2
  r3 := (o _ H.e3.symm).trans H.r3
  d1 := H.d1
  d2 := H.d2
  d3 := H.d3
  ok := RS.gate_ok H.ok x }
theorem Hp.refgate {os : List Ob} (T : Hp w0 A0 w os) (i : Nat) (h : os[i]? = some (oRef pm R)) (x : Bool) : Hp w0 A0 (w.setCell ⟨pm, 4, none⟩ (.bool !x)) (os.set i (oRef pm (R.gate x))) := by
 obtain ⟨A, ⟨g0, g1, g2, g3, H, e⟩, g⟩ := T.turn i h
 exact g _ A (oRef pm (R.gate x)) ⟨g0, g1, g2, g3, H.gate x, e⟩ ⟨(Keeps.refl _ _).setCell (.inl ((e pm).2 (.inl rfl))) _, fun k hk => .inl hk⟩
theorem Hp.ref4 {os : List Ob} (T : Hp w0 A0 w os) (i : Nat) (h : os[i]? = some (oRef pm R)) : w.cell? ⟨pm, 4, none⟩ = some (.bool R.closed) ∧ (∀ k, w.frozen? ⟨pm, k, none⟩ = false) ∧ pm < w.heap.size := by
 obtain ⟨A, g0, g1, g2, g3, H, e⟩ := T.get i h
 exact ⟨by rw [cell_at H.obj]; rfl, fun k => free_at H.obj, heap_lt H.obj⟩
theorem rnew_hp (T : Hp w0 A0 w [oRef pm R]) (H : Ide.Reads w v (n * 512) d) (hn : n ≤ 64) (hd : ∀ i, d i < 256) :
    Calls Tryz.prog 40 #[.pointer (some ⟨pm, 0, none⟩), v] w fun e w' => ∃ b, e = .returned (.tuple #[.pointer (some ⟨b, 0, none⟩), .int .i64 0]) ∧ Hp w0 A0 w' [oRBus b pm (Bs.new R n d)] := by
 have HT := Lib.hid T
 have HH := Lib.hid (And.intro H (And.intro hn hd))
 obtain ⟨va, vc, rfl, -⟩ := H
 clear T hn hd
 go_enter Tryz.func40, Tryz.ntmps40
 go_wp2_with fail
 refine (Ide.rnew_yes HH.out.1 HH.out.2.1 HH.out.2.2).mono ?_
 rintro e w1 ⟨pi, ds, rfl, I1, i2, i3, hb1⟩
 have T1 := HT.out.new hb1 (o := oRIde pi (Ide.Dk.new n d)) (A := Ide.Held pi ds (.slice none 0 0)) ⟨ds, _, I1, Ide.room_fresh _, fun k => Iff.rfl⟩ (fun k hk => by
  rcases hk with rfl | hk | hk
  ·exact i2
  ·exact i3 k hk
  ·cases hk)
 obtain ⟨c4, cf, cl⟩ := T1.ref4 0 rfl
 have T1 := T1.refgate 0 rfl true
 have HT1 := Lib.hid T1
 clear I1 i2 i3 hb1 T1
 go_upto_region 7 with (fail)
 clear c4 cf cl
 change Code.wp _ _ _ _ (w1.setCell ⟨pm, 4, none⟩ (.bool !true))
 generalize w1.setCell ⟨pm, 4, none⟩ (.bool !true) = w1 at *
 go_wp2_with fail
 refine (Pic.rnew_any _).mono ?_
 rintro e w2 ⟨rfl, P2, hb2⟩
 have T2 := HT1.out.new hb2 (o := oRPic w1.heap.size Pic.chip0 Pic.chip0) (A := fun k => k = w1.heap.size) ⟨_, _, P2, ⟨Pic.chip0_ok, Pic.chip0_ok⟩, fun k => ⟨fun h => .inl h, fun h => h.elim id fun h => h.elim (fun h => by cases h) (fun h => by cases h)⟩⟩ (fun k hk => by omega)
 generalize w1.heap.size = pp at *
 have HT2 := Lib.hid T2
 clear T2 P2 hb2
 go_wp2_with fail
 refine (rtm_new _).mono ?_
 rintro e w3 ⟨rfl, P3, hb3⟩
 have T3 := HT2.out.new hb3 (o := oRTm w2.heap.size tm0) (A := fun k => k = w2.heap.size) ⟨P3, fun k => Iff.rfl⟩ (fun k hk => by omega)
 generalize w2.heap.size = pt at *
 have HT3 := Lib.hid T3
 clear T3 P3 hb3
 go_wp2_with fail
 refine (Uart.rnew_any _).mono ?_
 rintro e w4 ⟨rfl, U4, hb4⟩
 have T4 := HT3.out.new hb4 (o := oRUart w3.heap.size Uart.Ut.new) (A := Uart.RHeld w3.heap.size (.slice none 0 0) (.slice none 0 0)) ⟨_, _, U4, fun k => Iff.rfl⟩ (fun k hk => by
  rcases hk with rfl | hk | hk
  ·exact Nat.le_refl _
  ·cases hk
  ·cases hk)
 generalize w3.heap.size = pu at *
 have T5 := T4.make (.cells (rbusCells pm pp pt pu pi 0) 181)
 have HT5 := Lib.hid T5
 clear T4 T5 U4 hb4
 go_upto_region 8 with (fail)
 have T8 : Hp w0 A0 (w4.alloc (.cells #[.pointer (some ⟨pm, 0, none⟩), .pointer (some ⟨pp, 0, none⟩), .pointer (some ⟨pt, 0, none⟩), .pointer (some ⟨pu, 0, none⟩), .pointer (some ⟨pi, 0, none⟩), .int .u64 0] 181)) [oRef pm (R.gate true), oRIde pi (Ide.Dk.new n d), oRPic pp Pic.chip0 Pic.chip0, oRTm pt tm0, oRUart pu Uart.Ut.new, Ob.box w4.heap.size (.cells (rbusCells pm pp pt pu pi 0) 181)] := HT5.out
 clear HT5 HT1 HT2 HT3
 generalize w4.alloc (.cells #[.pointer (some ⟨pm, 0, none⟩), .pointer (some ⟨pp, 0, none⟩), .pointer (some ⟨pt, 0, none⟩), .pointer (some ⟨pu, 0, none⟩), .pointer (some ⟨pi, 0, none⟩), .int .u64 0] 181) = W at *
 generalize w4.heap.size = b at *
 have S1 := T8.front 1 rfl
 have S2 := S1.front 4 rfl
 have S3 := S2.front 4 rfl
 have S4 := S3.front 4 rfl
 have S5 : Hp w0 A0 W (rbusObs b pm pp pt pu pi (Bs.mk Pic.chip0 Pic.chip0 tm0 Uart.Ut.new (Ide.Dk.new n d) true (R.gate true) 0)) := S4.front 5 rfl
 have HS5 := Lib.hid S5
 clear T8 S1 S2 S3 S4 S5
 go_wp2_with fail
 refine (rlines_hp (B := Bs.mk Pic.chip0 Pic.chip0 tm0 Uart.Ut.new (Ide.Dk.new n d) true (R.gate true) 0) rline0 HS5.out).mono ?_
 rintro e v8 ⟨rfl, S8⟩
 go_wp2_with fail
 go_ret2
 exact ⟨b, rfl, S8.toRBus (os := [])⟩
end
end Go.Proofs.YtmpcafdgkbpneaaGreat

