/- Steps of a proof: Reach, UartH, UartR, IdeO, IdeV, IdeW, IdeX, IdeY, IdeZ, together. -/
import Derived.Test.YtojmpdddfnkffaaGreatS4
import Derived.SizedLaws
import Derived.Laws.BytesArg
import Derived.Test.YtojmpdddfnkffaaGreatS7
import Derived.Test.YtojmpdddfnkffaaGreatS5
import Derived.Deep.CutRange
import Derived.Laws.Tables
import Derived.Laws.Rows
import Derived.Deep.MidRow
/- How long a slice may be that came in: the form's own reach. -/
set_option maxHeartbeats 4000000
set_option maxRecDepth 20000
namespace Go.Proofs.YtojmpdddfnkffaaGreat
open Go.RowKit Go.WideShapes Go.ChangeShapes

end Go.Proofs.YtojmpdddfnkffaaGreat

/- uart's laws: what comes and what is sent keeps its order; in plain words; bytes as a string. -/
namespace Go.Proofs.YtojmpdddfnkffaaGreat.Uart
open Go.RowKit Go.Conc
set_option linter.unusedVariables false

def fst (f : Nat → Nat) (k : Nat) : List Nat := (List.range k).map f
def strL (L : List Nat) : ByteArray := strOfNums (L.map fun x => ((x : Nat) : Int))
theorem conv_row {w : World} {B n : Nat} {v : Value} {L : List Nat} (h : w.ownsRow B 5 1 v n (bytesV L)) :
    (convert 22 9 v).run Tryz.prog w = .ok (.string (strL L)) w := by
 have hL := h.1
 rw [bytesV_len, Nat.mul_one] at hL
 rcases h.2 with ⟨rfl, h0⟩ | ⟨g, cap, cur, rfl, _, hg, h1, h2, h3, h4⟩
 ·rw [h0] at hL
  rw [List.eq_nil_of_length_eq_zero hL]
  exact run_convert_bytes_nil _ _ _ Tryz.underlying22 Tryz.underlying5 0 0 _ Tryz.underlying9
 ·refine run_convert_bytes_arg w _ _ Tryz.underlying22 Tryz.underlying5 g 0 n cap (L.map fun x => ((x : Nat) : Int)) (by simp; exact hL) ?_ _ Tryz.underlying9
  intro i hi
  have hi2 : i < L.length := by omega
  obtain ⟨g', c', e, hx, _⟩ := byte_at h i _ (List.getElem?_eq_getElem hi2)
  injection e with e1 e2 e3
  injection e1 with e1
  injection e1 with e1
  subst e1
  rw [Nat.zero_add, hx]
  simp [List.getD, hi2]
structure Pushed (f : Nat → Nat) (room : Nat) (on : Bool) (k : Nat) (U : Ut) : Prop where
 on : U.on = on
 came : U.came = fst f (min k room)
 lost : U.lost = decide (room < k)
 sent : U.sent = fst f k
 wanted : U.wanted = 1
 lcr : U.lcr = 0
structure Taken (f : Nat → Nat) (room n i : Nat) (U : Ut) : Prop where
 came : U.came = (fst f (min n room)).drop i
 lost : U.lost = decide (room < n)
 sent : U.sent = fst f n
 wanted : U.wanted = 1
 lcr : U.lcr = 0
theorem Pushed.taken {f : Nat → Nat} {room : Nat} {on : Bool} {n : Nat} {U : Ut} (h : Pushed f room on n U) : Taken f room n 0 U := ⟨h.came, h.lost, h.sent, h.wanted, h.lcr⟩
end Go.Proofs.YtojmpdddfnkffaaGreat.Uart

/- uart: the document's port, over the same plain state. -/
namespace Go.Proofs.YtojmpdddfnkffaaGreat.Uart
open Go.RowKit Go.Conc
set_option linter.unusedVariables false

def Ut.rcells (U : Ut) (cv ov : Value) : List Value :=
 [cv, .bool U.lost, .int .u8 (U.d0 : Nat), .int .u8 (U.d1 : Nat), .int .u8 (U.lcr : Nat), .int .u8 (U.mcr : Nat), .int .u8 (U.scr : Nat), .int .u8 (U.wanted : Nat), .bool U.on, .bool U.empty, ov]
structure RfIn (w : World) (b : Nat) (cv ov : Value) (U : Ut) : Prop where
 obj : w.heap[b]? = some (.cells (U.rcells cv ov).toArray 149)
 came : RowC w 5 1 cv U.came.length (bytesV U.came)
 out : w.ownsRow 0 5 1 ov U.sent.length (bytesV U.sent)
 d : ∀ k, cv.ownBlock = some k → ov.ownBlock ≠ some k
 ok : U.ok
def RHeld (b : Nat) (cv ov : Value) (k : Nat) : Prop := k = b ∨ cv.ownBlock = some k ∨ ov.ownBlock = some k
section
variable {w w' : World} {b : Nat} {cv ov : Value} {U : Ut}
theorem RfIn.lt (H : RfIn w b cv ov U) {k : Nat} (h : RHeld b cv ov k) : k < w.heap.size := by
 rcases h with rfl | h | h
 ·exact heap_lt H.obj
 ·exact H.came.lt h
 ·exact (World.ownsRow.lt H.out k h).2
theorem RfIn.bc (H : RfIn w b cv ov U) : cv.ownBlock ≠ some b := by
 intro h
 obtain ⟨cur, hc⟩ := H.came.block h
 rw [H.obj] at hc
 simp at hc
theorem RfIn.bo (H : RfIn w b cv ov U) : ov.ownBlock ≠ some b := by
 intro h
 obtain ⟨cur, hc⟩ := row_block H.out h
 rw [H.obj] at hc
 simp at hc
theorem RfIn.of_heap (H : RfIn w b cv ov U) (h : ∀ k, RHeld b cv ov k → w'.heap[k]? = w.heap[k]?) : RfIn w' b cv ov U :=
 ⟨by rw [h b (.inl rfl)]; exact H.obj, H.came.of_heap fun k hk => h k (.inr (.inl hk)), row_of_heap H.out fun k hk => h k (.inr (.inr hk)), H.d, H.ok⟩
theorem RfIn.facts (H : RfIn w b cv ov U) :
    w.cell? ⟨b, 0, none⟩ = some cv ∧ w.cell? ⟨b, 1, none⟩ = some (.bool U.lost) ∧ w.cell? ⟨b, 2, none⟩ = some (.int .u8 (U.d0 : Nat)) ∧ w.cell? ⟨b, 3, none⟩ = some (.int .u8 (U.d1 : Nat)) ∧ w.cell? ⟨b, 4, none⟩ = some (.int .u8 (U.lcr : Nat)) ∧
    w.cell? ⟨b, 5, none⟩ = some (.int .u8 (U.mcr : Nat)) ∧ w.cell? ⟨b, 6, none⟩ = some (.int .u8 (U.scr : Nat)) ∧ w.cell? ⟨b, 7, none⟩ = some (.int .u8 (U.wanted : Nat)) ∧
    w.cell? ⟨b, 8, none⟩ = some (.bool U.on) ∧ w.cell? ⟨b, 9, none⟩ = some (.bool U.empty) ∧ w.cell? ⟨b, 10, none⟩ = some ov ∧ (∀ k, w.frozen? ⟨b, k, none⟩ = false) ∧ b < w.heap.size := by
 have h := H.obj
 refine ⟨?_, ?_, ?_, ?_, ?_, ?_, ?_, ?_, ?_, ?_, ?_, fun k => free_at h, heap_lt h⟩ <;> (rw [cell_at h]; rfl)
theorem RfIn.turn (H : RfIn w b cv ov U) {U' : Ut} (k : Nat) (v : Value) (hc : (U.rcells cv ov).set k v = U'.rcells cv ov) (h1 : U'.came = U.came) (h2 : U'.sent = U.sent) (ok : U'.ok) : RfIn (w.setCell ⟨b, k, none⟩ v) b cv ov U' := by
 have hne : ∀ j, j ≠ b → (w.setCell ⟨b, k, none⟩ v).heap[j]? = w.heap[j]? := fun j h => heap_set_other _ h
 refine ⟨by rw [heap_set_map, H.obj]; simp only [Option.map_some, putObj_cells]; rw [hc], ?_, ?_, H.d, ok⟩
 ·rw [h1]; exact H.came.of_heap fun j hj => hne j fun e => H.bc (by rw [← e]; exact hj)
 ·rw [h2]; exact row_of_heap H.out fun j hj => hne j fun e => H.bo (by rw [← e]; exact hj)
theorem RfIn.drain (H : RfIn w b cv ov U) : RfIn (w.setCell ⟨b, 0, none⟩ (.slice none 0 0)) b (.slice none 0 0) ov (U.flow []) := by
 have hne : ∀ j, j ≠ b → (w.setCell ⟨b, 0, none⟩ (.slice none 0 0)).heap[j]? = w.heap[j]? := fun j h => heap_set_other _ h
 have o := H.ok
 exact ⟨by rw [heap_set_map, H.obj]; rfl, RowC.nil _ _ _, row_of_heap H.out fun j hj => hne j fun e => H.bo (by rw [← e]; exact hj), (fun k hk => by cases hk),
  ⟨(by show 0 ≤ 16; decide), (fun x hx => by cases hx), o.d0, o.d1, o.lcr, o.mcr, o.scr, o.wanted, o.s2⟩⟩
theorem RfIn.quit (H : RfIn w b cv ov U) : RfIn (w.setCell ⟨b, 10, none⟩ (.slice none 0 0)) b cv (.slice none 0 0) U.quit := by
 have hne : ∀ j, j ≠ b → (w.setCell ⟨b, 10, none⟩ (.slice none 0 0)).heap[j]? = w.heap[j]? := fun j h => heap_set_other _ h
 exact ⟨by rw [heap_set_map, H.obj]; rfl, H.came.of_heap fun j hj => hne j fun e => H.bc (by rw [← e]; exact hj), World.ownsRow_nil _ _ _ _, (fun k _ hk => by cases hk), Ut.quit_ok H.ok⟩
theorem RfIn.setD (H : RfIn w b cv ov U) (k v : Nat) (hk : k < 2) (hv : v < 256) : RfIn (w.setCell ⟨b, 2 + k, none⟩ (.int .u8 (v : Nat))) b cv ov (U.setD k v) := by
 have o := H.ok
 rcases (show k = 0 ∨ k = 1 by omega) with rfl | rfl
 ·exact H.turn 2 _ rfl rfl rfl ⟨o.c1, o.c2, hv, o.d1, o.lcr, o.mcr, o.scr, o.wanted, o.s2⟩
 ·exact H.turn 3 _ rfl rfl rfl ⟨o.c1, o.c2, o.d0, hv, o.lcr, o.mcr, o.scr, o.wanted, o.s2⟩
theorem RfIn.setLcr (H : RfIn w b cv ov U) (v : Nat) (hv : v < 256) : RfIn (w.setCell ⟨b, 4, none⟩ (.int .u8 (v : Nat))) b cv ov (U.setLcr v) := by
 have o := H.ok
 exact H.turn 4 _ rfl rfl rfl ⟨o.c1, o.c2, o.d0, o.d1, hv, o.mcr, o.scr, o.wanted, o.s2⟩
theorem RfIn.setMcr (H : RfIn w b cv ov U) (v : Nat) (hv : v < 256) : RfIn (w.setCell ⟨b, 5, none⟩ (.int .u8 (v : Nat))) b cv ov (U.setMcr v) := by
 have o := H.ok
 exact H.turn 5 _ rfl rfl rfl ⟨o.c1, o.c2, o.d0, o.d1, o.lcr, hv, o.scr, o.wanted, o.s2⟩
theorem RfIn.setScr (H : RfIn w b cv ov U) (v : Nat) (hv : v < 256) : RfIn (w.setCell ⟨b, 6, none⟩ (.int .u8 (v : Nat))) b cv ov (U.setScr v) := by
 have o := H.ok
 exact H.turn 6 _ rfl rfl rfl ⟨o.c1, o.c2, o.d0, o.d1, o.lcr, o.mcr, hv, o.wanted, o.s2⟩
theorem RfIn.setWanted (H : RfIn w b cv ov U) (v : Nat) (hv : v < 256) : RfIn (w.setCell ⟨b, 7, none⟩ (.int .u8 (v : Nat))) b cv ov (U.setWanted v) := by
 have o := H.ok
 exact H.turn 7 _ rfl rfl rfl ⟨o.c1, o.c2, o.d0, o.d1, o.lcr, o.mcr, o.scr, hv, o.s2⟩
theorem RfIn.setOn (H : RfIn w b cv ov U) (x : Bool) : RfIn (w.setCell ⟨b, 8, none⟩ (.bool x)) b cv ov (U.setOn x) := by
 have o := H.ok
 exact H.turn 8 _ rfl rfl rfl ⟨o.c1, o.c2, o.d0, o.d1, o.lcr, o.mcr, o.scr, o.wanted, o.s2⟩
theorem RfIn.setEmpty (H : RfIn w b cv ov U) (x : Bool) : RfIn (w.setCell ⟨b, 9, none⟩ (.bool x)) b cv ov (U.setEmpty x) := by
 have o := H.ok
 exact H.turn 9 _ rfl rfl rfl ⟨o.c1, o.c2, o.d0, o.d1, o.lcr, o.mcr, o.scr, o.wanted, o.s2⟩
theorem RfIn.setLost (H : RfIn w b cv ov U) (x : Bool) : RfIn (w.setCell ⟨b, 1, none⟩ (.bool x)) b cv ov (U.setLost x) := by
 have o := H.ok
 exact H.turn 1 _ rfl rfl rfl ⟨o.c1, o.c2, o.d0, o.d1, o.lcr, o.mcr, o.scr, o.wanted, o.s2⟩
theorem rkeeps (w : World) (b : Nat) (cv ov : Value) (k : Nat) (v : Value) : Keeps (RHeld b cv ov) w (w.setCell ⟨b, k, none⟩ v) := (Keeps.refl _ _).setCell (.inl (.inl rfl)) _
def RWent (w : World) (b : Nat) (cv ov : Value) (U' : Ut) (w' : World) : Prop :=
 ∃ cv' ov', RfIn w' b cv' ov' U' ∧ Keeps (RHeld b cv ov) w w' ∧ ∀ k, RHeld b cv' ov' k → RHeld b cv ov k ∨ w.heap.size ≤ k
theorem RWent.of {U' : Ut} (H : RfIn w' b cv ov U') (K : Keeps (RHeld b cv ov) w w') : RWent w b cv ov U' w' := ⟨cv, ov, H, K, fun k h => .inl h⟩
theorem rnew_any (w : World) : Calls Tryz.prog 43 #[] w fun e w' => e = .returned (.pointer (some ⟨w.heap.size, 0, none⟩)) ∧ RfIn w' w.heap.size (.slice none 0 0) (.slice none 0 0) Ut.new ∧ Below w.heap.size w w' := by
 go_enter Tryz.func43, Tryz.ntmps43
 go_wp2_with fail
 go_ret
 exact ⟨rfl, ⟨heap_new w _, RowC.nil _ _ _, World.ownsRow_nil _ _ _ _, (fun k hk => by cases hk), Ut.new_ok⟩, (Below.refl _ _).alloc (Nat.le_refl _) _⟩
theorem rsent_any (H : RfIn w b cv ov U) : Calls Tryz.prog 59 #[.pointer (some ⟨b, 0, none⟩)] w fun e w' => e = .returned ov ∧ RfIn w' b cv (.slice none 0 0) U.quit ∧ w'.ownsRow 0 5 1 ov U.sent.length (bytesV U.sent) ∧ Keeps (· = b) w w' := by
 obtain ⟨-, -, -, -, -, -, -, -, -, -, k10, kf, kl⟩ := H.facts
 have HO := H.out
 obtain ⟨a, c, rfl⟩ := row_len HO
 have HH1 := Lib.hid H.quit
 have hne : ∀ j, j ≠ b → (w.setCell ⟨b, 10, none⟩ (.slice none 0 0)).heap[j]? = w.heap[j]? := fun j h => heap_set_other _ h
 have HH2 := Lib.hid (row_of_heap (w' := w.setCell ⟨b, 10, none⟩ (.slice none 0 0)) HO fun k hk => hne k fun e => H.bo (by rw [← e]; exact hk))
 clear HO hne H
 go_enter Tryz.func59, Tryz.ntmps59
 go_wp2_with fail
 go_ret
 exact ⟨rfl, HH1.out, HH2.out, (Keeps.refl _ _).setOne _ _⟩
theorem rwhy_any (H : RfIn w b cv ov U) : Calls Tryz.prog 110 #[.pointer (some ⟨b, 0, none⟩)] w fun e w' => e = .returned (.int .u8 (U.why : Nat)) ∧ w = w' := by
 obtain ⟨k0, -, -, -, -, -, -, k7, -, k9, -, kf, kl⟩ := H.facts
 obtain ⟨a, c, rfl⟩ := H.came.len
 have hw : U.why = if (!U.came.isEmpty && U.wanted % 2 == 1) then 4 else if (U.empty && U.wanted / 2 % 2 == 1) then 2 else 1 := rfl
 have hwt := H.ok.wanted
 clear H
 generalize U.why = y at *
 generalize U.empty = e at *
 generalize U.wanted = wt at *
 have hn : ∃ n, n = U.came.length := ⟨_, rfl⟩
 obtain ⟨n, hn⟩ := hn
 rw [← hn] at k0
 have he : U.came.isEmpty = decide (n = 0) := by rw [hn]; cases U.came <;> simp
 rw [he] at hw
 clear hn he
 have h1 : (wt : Int) % 2 = 0 ∨ (wt : Int) % 2 = 1 := by omega
 have h2 : (wt : Int) / 2 % 2 = 0 ∨ (wt : Int) / 2 % 2 = 1 := by omega
 have h3 : (n : Int) ≤ 0 ∨ (0 : Int) < n := by omega
 rcases h1 with h1 | h1 <;> rcases h2 with h2 | h2 <;> rcases h3 with h3 | h3 <;> cases e
 all_goals
  have d1 : (wt % 2 == 1) = decide ((wt : Int) % 2 = 1) := by rw [Bool.eq_iff_iff]; simp; omega
  have d2 : (wt / 2 % 2 == 1) = decide ((wt : Int) / 2 % 2 = 1) := by rw [Bool.eq_iff_iff]; simp; omega
  have d3 : decide (n = 0) = decide ((n : Int) ≤ 0) := by rw [Bool.eq_iff_iff]; simp
  rw [d1, d2, d3, h1, h2] at hw
  first | rw [decide_eq_true h3] at hw | rw [decide_eq_false (show ¬ (n : Int) ≤ 0 by omega)] at hw
  simp at hw
  have HW := Lib.hid hw
  clear hw d1 d2 d3
  go_enter Tryz.func110, Tryz.ntmps110
  go_wp2_with fail
  go_ret
  exact ⟨by rw [HW.out]; rfl, rfl⟩
theorem rline_any (H : RfIn w b cv ov U) : Calls Tryz.prog 81 #[.pointer (some ⟨b, 0, none⟩)] w fun e w' => e = .returned (.bool U.line) ∧ w = w' := by
 have HL := Lib.hid (Ut.line_eq U)
 go_enter Tryz.func81, Tryz.ntmps81
 go_wp2_with fail
 refine (rwhy_any H).mono ?_
 rintro e w1 ⟨rfl, rfl⟩
 go_wp2_with fail
 go_ret
 exact ⟨by rw [HL.out]; rfl, rfl⟩
end
end Go.Proofs.YtojmpdddfnkffaaGreat.Uart

/- ide's laws: a command at a place; the calls at the head of all statements. -/
namespace Go.Proofs.YtojmpdddfnkffaaGreat.Ide
open Go.RowKit
set_option linter.unusedVariables false

def aw0 : Dk := Dk.new 2 (dsk 0)
def aw1 : Dk := ((aw0.out 6 1 64).out 3 1 1).out 7 1 32
end Go.Proofs.YtojmpdddfnkffaaGreat.Ide

/- ide: the document's disk: fresh, Line, place, there, fail, begin. -/
namespace Go.Proofs.YtojmpdddfnkffaaGreat.Ide
open Go.RowKit
set_option linter.unusedVariables false
set_option linter.unusedSimpArgs false

section
variable {w : World} {b : Nat} {ds lv : Value} {D : Dk}
theorem rfresh_in (H : IdeIn 108 w b ds lv D) :
    Calls Tryz.prog 78 #[.pointer (some ⟨b, 0, none⟩)] w fun e w' => e = .returned (.tuple #[]) ∧ IdeIn 108 w' b ds lv D.fresh ∧ Keeps (· = b) w w' := by
 obtain ⟨-, k1, k2, k3, k4, k5, k6, k7, -, k9, k10, k11, k12, -, kf, klt⟩ := H.facts
 have HH := Lib.hid H
 clear H
 go_enter Tryz.func78, Tryz.ntmps78
 go_wp2_with fail
 go_end0
 have B1 := Blk.reg (Blk.of HH.out) 0 0 0 rfl (by decide)
 have B2 := Blk.reg B1 1 1 1 rfl (by decide)
 have B3 := Blk.reg B2 2 1 1 rfl (by decide)
 have B4 := Blk.reg B3 3 1 1 rfl (by decide)
 have B5 := Blk.reg B4 4 0 0 rfl (by decide)
 have B6 := Blk.reg B5 5 0 0 rfl (by decide)
 have B7 := Blk.reg B6 6 0 0 rfl (by decide)
 have B8 := Blk.failed (Blk.mark (Blk.done (Blk.mode B7 0 0 rfl) 0 0 rfl) false) false
 rw [← Dk.fresh_eq] at B8
 refine ⟨rfl, turned HH.out B8 ?_ (Dk.fresh_ok HH.out.ok) rfl rfl rfl⟩
 (repeat' (first | (with_reducible exact Keeps.refl _ _) | (with_reducible refine Keeps.setOne ?_ _ _)))
theorem rline_in (H : IdeIn 108 w b ds lv D) :
    Calls Tryz.prog 82 #[.pointer (some ⟨b, 0, none⟩)] w fun e w' => e = .returned (.bool D.line) ∧ w = w' := by
 obtain ⟨-, -, -, -, -, -, -, -, k8, -, -, k11, -⟩ := H.facts
 have h1 := H.ok.c
 have hb : ((D.c : Int) / 2 % 2 == 0) = (D.c / 2 % 2 == 0) := by rw [Bool.eq_iff_iff]; simp; omega
 cases hm : D.mark
 all_goals
  rw [hm] at k11
  have HM := Lib.hid hm
  clear hm
  go_enter Tryz.func82, Tryz.ntmps82
  go_wp2_with fail
  go_ret
  exact ⟨by unfold Dk.line; rw [HM.out]; rfl, rfl⟩
theorem rplace_in (H : IdeIn 108 w b ds lv D) :
    Calls Tryz.prog 136 #[.pointer (some ⟨b, 0, none⟩)] w fun e w' => e = .returned (.int .i64 (D.place : Nat)) ∧ ∃ n, w' = w.drewN n := by
 obtain ⟨-, -, -, -, k4, k5, k6, k7, -⟩ := H.facts
 have h3 := H.ok.r 3
 have h4 := H.ok.r 4
 have h5 := H.ok.r 5
 have h6 := H.ok.r 6
 have HP := Lib.hid (show (D.r 3 : Int) + (D.r 4 : Int) * 256 + (D.r 5 : Int) * 65536 + (D.r 6 : Int) % 16 * 16777216 = ((D.place : Nat) : Int) from by unfold Dk.place; omega)
 have q1 : (D.r 6 : Int).tmod 16 = (D.r 6 : Int) % 16 := Int.tmod_eq_emod_of_nonneg (by omega)
 have s1 : IntKind.i64.wrap ((D.r 3 : Int) + (D.r 4 : Int) * 256) = (D.r 3 : Int) + (D.r 4 : Int) * 256 := wraps_i64 _ (by omega) (by omega)
 have s2 : IntKind.i64.wrap ((D.r 3 : Int) + (D.r 4 : Int) * 256 + (D.r 5 : Int) * 65536) = (D.r 3 : Int) + (D.r 4 : Int) * 256 + (D.r 5 : Int) * 65536 := wraps_i64 _ (by omega) (by omega)
 have s3 : IntKind.i64.wrap ((D.r 3 : Int) + (D.r 4 : Int) * 256 + (D.r 5 : Int) * 65536 + (D.r 6 : Int) % 16 * 16777216) = (D.r 3 : Int) + (D.r 4 : Int) * 256 + (D.r 5 : Int) * 65536 + (D.r 6 : Int) % 16 * 16777216 := wraps_i64 _ (by omega) (by omega)
 clear H
 go_enter Tryz.func136, Tryz.ntmps136
 go_wp2_with fail
 go_quiet (fail)
 go_wp2_with fail
 go_ret
 exact ⟨by rw [HP.out]; rfl, _, rfl⟩
theorem rthere_in (H : IdeIn 108 w b ds lv D) :
    Calls Tryz.prog 134 #[.pointer (some ⟨b, 0, none⟩)] w fun e w' => e = .returned (.bool (decide (D.place < D.n))) ∧ ∃ n, w' = w.drewN n := by
 obtain ⟨k0, -⟩ := H.facts
 obtain ⟨da, dc, hds⟩ := H.disk.len
 rw [hds] at k0
 have hp := Dk.place_lt H.ok
 have hn := H.ok.n
 have HP := Lib.hid (fun w1 (h : w1.heap = w.heap) => rplace_in (H.of_heap (w' := w1) (fun k _ => by rw [h])))
 have HD := Lib.hid (show decide (((D.place : Nat) : Int) + 1 ≤ ((D.n : Nat) : Int)) = decide (D.place < D.n) from decide_eq_decide.2 (by omega))
 clear H hds
 generalize D.place = p at *
 have s1 : IntKind.i64.wrap ((p : Int) + 1) = (p : Int) + 1 := wraps_i64 _ (by omega) (by omega)
 have s2 : IntKind.i64.wrap (((p : Int) + 1) * 512) = ((p : Int) + 1) * 512 := wraps_i64 _ (by omega) (by omega)
 have k0d : ∀ n, (w.drewN n).cell? ⟨b, 0, none⟩ = some (.slice da (D.n * 512) dc) := fun n => k0
 go_enter Tryz.func134, Tryz.ntmps134
 go_wp2_with fail
 go_quiet ((go_at_call 136; exact Calls.quiet_of (HP.out _ rfl)))
 go_wp2_with fail
 go_ret
 exact ⟨by rw [← HD.out]; rfl, _, rfl⟩
theorem rfail_in (H : IdeIn 108 w b ds lv D) (x : Nat) (hx : x < 256) :
    Calls Tryz.prog 135 #[.pointer (some ⟨b, 0, none⟩), .int .u8 x] w fun e w' => e = .returned (.tuple #[]) ∧ IdeIn 108 w' b ds lv (D.fail x) ∧ Keeps (· = b) w w' := by
 obtain ⟨-, -, k2, -, -, -, -, -, -, -, k10, k11, k12, -, kf, klt⟩ := H.facts
 have HH := Lib.hid H
 clear H
 go_enter Tryz.func135, Tryz.ntmps135
 go_wp2_with fail
 go_end0
 refine ⟨rfl, turned HH.out (Blk.mark (Blk.mode (Blk.failed (Blk.reg (Blk.of HH.out) 1 x _ rfl (by decide)) true) 0 _ rfl) true) ?_ (Dk.fail_ok HH.out.ok x hx) rfl rfl rfl⟩
 (repeat' (first | (with_reducible exact Keeps.refl _ _) | (with_reducible refine Keeps.setOne ?_ _ _)))
theorem rbegin_no (H : IdeIn 108 w b ds lv D) (m : Int) (hp : ¬ D.place < D.n) :
    Calls Tryz.prog 138 #[.pointer (some ⟨b, 0, none⟩), .int .i64 m] w fun e w' => e = .returned (.tuple #[]) ∧ IdeIn 108 w' b ds lv (D.fail 16) ∧ Keeps (· = b) w w' := by
 have HS := Lib.hid (rthere_in H)
 rw [decide_eq_false hp] at HS
 have HH := Lib.hid H
 clear H
 go_enter Tryz.func138, Tryz.ntmps138
 go_wp2_with fail
 refine HS.out.mono ?_
 rintro e w1 ⟨rfl, n, rfl⟩
 go_wp2_with fail
 refine (rfail_in (HH.out.drewN n) 16 (by decide)).mono ?_
 rintro e w2 ⟨rfl, H2, K2⟩
 have HX := Lib.hid (And.intro H2 K2)
 clear H2 K2
 go_wp2_with fail
 go_returns
 exact ⟨rfl, HX.out.1, ((Keeps.refl _ w).drewN n).trans HX.out.2⟩
theorem rbegin_two (H : IdeIn 108 w b ds lv D) (m : Nat) (hm : m < 4) (h1 : m ≠ 1) (hp : D.place < D.n) :
    Calls Tryz.prog 138 #[.pointer (some ⟨b, 0, none⟩), .int .i64 m] w fun e w' => e = .returned (.tuple #[]) ∧ IdeIn 108 w' b ds lv { D with mode := m, done := 0 } ∧ Keeps (· = b) w w' := by
 have HS := Lib.hid (rthere_in H)
 rw [decide_eq_true hp] at HS
 have hm1 : ((m : Int) == 1) = false := by simp; omega
 obtain ⟨-, -, -, -, -, -, -, -, -, k9, k10, -, -, -, kf, klt⟩ := H.facts
 have HH := Lib.hid H
 clear H hp
 go_enter Tryz.func138, Tryz.ntmps138
 go_wp2_with fail
 refine HS.out.mono ?_
 rintro e w1 ⟨rfl, n, rfl⟩
 go_wp2_with fail
 go_end0
 refine ⟨rfl, turned HH.out (Blk.done (Blk.mode (Blk.drewN (Blk.of HH.out) n) m _ rfl) 0 _ rfl) ?_ (Dk.open_ok HH.out.ok m hm) rfl rfl rfl⟩
 (repeat' (first | (with_reducible exact Keeps.refl _ _) | (with_reducible refine Keeps.setOne ?_ _ _) | (with_reducible refine Keeps.drewN ?_ _)))
theorem Dk.cells_buf (S : Dk) (ds ws : Value) (f : Nat → Nat) (h : ∀ i, i < 512 → S.buf i = f i) : S.cells ds ws = ({ S with buf := f } : Dk).cells ds ws := by
 unfold Dk.cells
 refine ofFn_ext (f := S.cell ds ws) fun i hi => ?_
 unfold Dk.cell
 by_cases h9 : 9 ≤ i ∧ i < 521
 ·rw [if_neg (by omega), if_neg (by omega), if_neg (by omega), if_pos (by omega), if_neg (by omega), if_neg (by omega), if_neg (by omega), if_pos (by omega), h _ (by omega)]
 ·(repeat' split) <;> first | rfl | omega
def Dk.part (S : Dk) (o k : Nat) : Dk := { S with mode := 1, done := 0, buf := fun i => if i < k then S.d (o + i) else S.buf i }
theorem Dk.part_succ (S : Dk) (o k : Nat) : (S.part o k).setBuf k (S.d (o + k)) = S.part o (k + 1) := by
 have h : upd (S.part o k).buf k (S.d (o + k)) = (S.part o (k + 1)).buf := by
  funext i
  unfold upd
  show (if i = k then _ else if i < k then _ else _) = if i < k + 1 then _ else _
  by_cases e : i = k
  ·rw [if_pos e, if_pos (by omega), e]
  ·rw [if_neg e]
   by_cases h : i < k
   ·rw [if_pos h, if_pos (by omega)]
   ·rw [if_neg h, if_neg (by omega)]
 unfold Dk.setBuf
 rw [h]; rfl
theorem Dk.part_zero (S : Dk) (o : Nat) : S.part o 0 = (S.setMode 1).setDone 0 := by
 unfold Dk.part
 have h : (fun i => if i < 0 then S.d (o + i) else S.buf i) = S.buf := by funext i; rw [if_neg (by omega)]
 rw [h]; rfl
theorem rbegin_one (H : IdeIn 108 w b ds lv D) (hp : D.place < D.n) :
    Calls Tryz.prog 138 #[.pointer (some ⟨b, 0, none⟩), .int .i64 1] w fun e w' => e = .returned (.tuple #[]) ∧ IdeIn 108 w' b ds lv { D with mode := 1, done := 0, buf := fun i => D.d (D.place * 512 + i), mark := true } ∧ Keeps (· = b) w w' := by
 have HS := Lib.hid (rthere_in H)
 rw [decide_eq_true hp] at HS
 obtain ⟨g, cap, cur, hds, hg, hc, hcm, hsz, htk⟩ := H.disk.open (by omega)
 have hgb : g ≠ b := fun e => H.d1 (by rw [hds, e]; rfl)
 have hcells : ∀ j, j < 512 → w.cell? ⟨g, D.place * 512 + j, none⟩ = some (.int .u8 (D.d (D.place * 512 + j) : Nat)) := fun j hj => by rw [cell_at hg]; exact take_at htk (by omega)
 obtain ⟨-, -, -, -, -, -, -, -, -, k9, k10, -, -, -, kf, klt⟩ := H.facts
 have HH := Lib.hid H
 have HC := Lib.hid hcells
 have hn := H.ok.n
 have HDS := Lib.hid hds
 clear hcm hc htk
 have hL : D.place * 512 + 512 ≤ D.n * 512 := by omega
 have HPL := Lib.hid (fun (w1 : World) (h : IdeIn 108 w1 b ds lv ((D.setMode 1).setDone 0)) => rplace_in h)
 have ok := Lib.hid (Dk.fill_ok HH.out.ok)
 have okp := Lib.hid (show ((D.setMode 1).setDone 0).ok from Dk.open_ok HH.out.ok 1 (by decide))
 clear H hg hsz hds hp hcells
 have HPP := Lib.hid (show ((D.setMode 1).setDone 0).place = D.place from rfl)
 generalize hO : D.place = p at *
 have HO := Lib.hid hO
 have hL2 : D.n * 512 ≤ 32768 := by omega
 generalize hLL : D.n * 512 = L at *
 have HLL := Lib.hid hLL
 clear hO hLL
 go_enter Tryz.func138, Tryz.ntmps138
 go_wp2_with fail
 refine HS.out.mono ?_
 rintro e w1 ⟨rfl, n, rfl⟩
 go_upto_region 6 with (fail)
 have B1 := Blk.done (Blk.mode (Blk.drewN (Blk.of HH.out) n) 1 1 rfl) 0 0 rfl
 have K1 : Keeps (· = b) w (((w.drewN n).setCell ⟨b, 522, none⟩ (.int .i64 1)).setCell ⟨b, 521, none⟩ (.int .i64 0)) := (((Keeps.refl _ w).drewN n).setOne _ _).setOne _ _
 have E1 := turned HH.out B1 K1 okp.out rfl rfl rfl
 change Code.wp _ _ _ _ (((w.drewN n).setCell ⟨b, 522, none⟩ (.int .i64 1)).setCell ⟨b, 521, none⟩ (.int .i64 0))
 clear B1 K1 k9 k10 kf klt
 have HE := Lib.hid E1
 clear E1
 generalize ((w.drewN n).setCell ⟨b, 522, none⟩ (.int .i64 1)).setCell ⟨b, 521, none⟩ (.int .i64 0) = W at *
 go_wp2_with fail
 refine (HPL.out _ HE.out.1).mono ?_
 rw [HPP.out]
 rintro e w1 ⟨rfl, m, rfl⟩
 have q1 : (0 : Int) ≤ (p : Int) := by omega
 have q2 : (p : Int) < 64 := by omega
 go_wp2_with fail
 go_loopw [6] (fun i wc => ∃ k : Nat, k ≤ 512 ∧ i = .int .i64 k ∧ Blk 108 wc b ds lv (D.part (p * 512) k) ∧ Keeps (· = b) w wc) (fun i _ => 512 - (intOf i).toNat)
 case atStart => exact ⟨0, by omega, rfl, by rw [Dk.part_zero]; exact Blk.drewN (Blk.of HE.out.1) m, HE.out.2.drewN m⟩
 case round =>
  obtain ⟨k, hk, rfl, B, K⟩ := hrel
  obtain ⟨j0, -, -, -, -, -, -, -, -, -, -, -, -, -, kf, klt⟩ := B.facts
  have HB := Lib.hid B
  have HK := Lib.hid K
  clear B K
  by_cases h5 : k < 512
  ·have r1 : (0 : Int) ≤ (k : Int) := by omega
   have r2 : (k : Int) < 512 := by omega
   have hcell : wr.cell? ⟨b, 9 + k, none⟩ = some (.int .u8 ((D.part (p * 512) k).buf k : Nat)) := HB.out.bcell k h5
   have hsrc : wr.cell? ⟨g, p * 512 + k, none⟩ = some (.int .u8 (D.d (p * 512 + k) : Nat)) := by rw [HK.out.cell (p := ⟨g, p * 512 + k, none⟩) (cell_block_lt (HC.out k h5)) hgb]; exact HC.out k h5
   rw [HDS.out] at j0
   have HN := Lib.hid (Blk.buf HB.out k (D.d (p * 512 + k)) _ rfl h5)
   rw [Dk.part_succ] at HN
   have s1 : IntKind.i64.wrap ((p : Int) * 512 + (k : Int)) = (p : Int) * 512 + (k : Int) := wraps_i64 _ (by omega) (by omega)
   have s2 : (0 : Int) ≤ (p : Int) * 512 + (k : Int) := by omega
   have s3 : (p : Int) * 512 + (k : Int) < L := by omega
   have s4 : ((p : Int) * 512 + (k : Int)).toNat = p * 512 + k := by omega
   have HSS := Lib.hid (show (wr.setCell ⟨b, 9 + k, none⟩ (.int .u8 (D.d (p * 512 + k) : Nat))).drew.cell? ⟨b, 0, none⟩ = some (.slice (some ⟨g, 0, none⟩) L cap) ∧ (wr.setCell ⟨b, 9 + k, none⟩ (.int .u8 (D.d (p * 512 + k) : Nat))).drew.cell? ⟨g, p * 512 + k, none⟩ = some (.int .u8 (D.d (p * 512 + k) : Nat)) from
    ⟨by have h := HN.out.facts.1; rw [HDS.out] at h; exact h, (Keeps.cell (S := (· = b)) (((Keeps.refl _ wr).setOne (9 + k) _).drew) (cell_block_lt hsrc) hgb).trans hsrc⟩)
   go_wp2_with fail
   go_region_held3 (fun w' => w'.cell? ⟨b, 0, none⟩ = some (.slice (some ⟨g, 0, none⟩) L cap) ∧ w'.cell? ⟨g, p * 512 + k, none⟩ = some (.int .u8 (D.d (p * 512 + k) : Nat))) (first | exact HSS.out | go_keep) (fail)
   all_goals
    clear s1 s2 s3 s4
    go_wp2_with fail
    go_roundw
    case rel => exact ⟨k + 1, by omega, by go_num, Blk.drewN HN.out 1, (HK.out.setOne _ _).drew⟩
    case measure => (simp [intOf]) <;> omega
  ·have r2 : (512 : Int) ≤ (k : Int) := by omega
   have e5 : k = 512 := by omega
   have HF := Lib.hid (show Blk 108 wr b ds lv { D with mode := 1, done := 0, buf := fun i => D.d (p * 512 + i) } from by
    have h := HB.out
    rw [e5] at h
    unfold Blk at h ⊢
    rw [h, Dk.cells_buf _ ds lv (fun i => D.d (p * 512 + i)) (fun i hi => by show (if i < 512 then _ else _) = _; rw [if_pos hi])]
    rfl)
   clear HB e5
   obtain ⟨-, -, -, -, -, -, -, -, -, -, -, j11, -, -, jf, jlt⟩ := HF.out.facts
   go_wp2_with fail
   go_end0
   exact ⟨rfl, turned HH.out (Blk.mark HF.out true) (HK.out.setOne _ _) ok.out rfl rfl rfl⟩
theorem rbegin_in (H : IdeIn 108 w b ds lv D) (m : Nat) (hm : m < 4) (x : Int) (hx : x = (m : Nat)) :
    Calls Tryz.prog 138 #[.pointer (some ⟨b, 0, none⟩), .int .i64 x] w fun e w' => e = .returned (.tuple #[]) ∧ IdeIn 108 w' b ds lv (D.begin m) ∧ Keeps (· = b) w w' := by
 subst hx
 unfold Dk.begin
 by_cases hp : D.place < D.n
 ·rw [if_pos hp]
  by_cases h1 : m = 1
  ·subst h1; rw [if_pos rfl]; exact rbegin_one H hp
  ·rw [if_neg h1]; exact rbegin_two H m hm h1 hp
 ·rw [if_neg hp]; exact rbegin_no H m hp
end
end Go.Proofs.YtojmpdddfnkffaaGreat.Ide

/- ide: the document's disk: command. -/
namespace Go.Proofs.YtojmpdddfnkffaaGreat.Ide
open Go.RowKit
set_option linter.unusedVariables false
set_option linter.unusedSimpArgs false

section
variable {w : World} {b : Nat} {ds lv : Value} {D : Dk}
theorem Dk.clean_r6 (S : Dk) : S.clean.r 6 = S.r 6 := rfl
theorem rclean_in (H : IdeIn 108 w b ds lv D) :
    IdeIn 108 ((((w.setCell ⟨b, 523, none⟩ (.bool false)).setCell ⟨b, 2, none⟩ (.int .u8 0)).setCell ⟨b, 524, none⟩ (.bool false)).setCell ⟨b, 522, none⟩ (.int .i64 0)) b ds lv D.clean ∧ Keeps (· = b) w ((((w.setCell ⟨b, 523, none⟩ (.bool false)).setCell ⟨b, 2, none⟩ (.int .u8 0)).setCell ⟨b, 524, none⟩ (.bool false)).setCell ⟨b, 522, none⟩ (.int .i64 0)) :=
 turned H (Blk.mode (Blk.failed (Blk.reg (Blk.mark (Blk.of H) false) 1 0 0 rfl (by decide)) false) 0 0 rfl) ((((Keeps.refl _ w).setOne _ _).setOne _ _).setOne _ _ |>.setOne _ _) (Dk.clean_ok H.ok) rfl rfl rfl
def RCmd (w : World) (b : Nat) (ds lv : Value) (D : Dk) (e : Ending) (w' : World) : Prop := e = .returned (.tuple #[]) ∧ IdeIn 108 w' b ds lv D ∧ Keeps (· = b) w w'
theorem rcmd_other (H : IdeIn 108 w b ds lv D) (c : Nat) (ho : D.other = true) :
    Calls Tryz.prog 112 #[.pointer (some ⟨b, 0, none⟩), .int .u8 (c : Nat)] w (RCmd w b ds lv D) := by
 obtain ⟨-, -, -, -, -, -, -, k7, -, -, -, -, -, -, kf, klt⟩ := H.facts
 have h6 := H.ok.r 6
 have g : ((D.r 6 : Int) / 16 % 2 == 1) = true := by
  have : (D.r 6 / 16 % 2 == 1) = true := ho
  simp at this ⊢; omega
 have HH := Lib.hid H
 clear H ho
 go_enter Tryz.func112, Tryz.ntmps112
 go_wp2_with fail
 go_returns
 exact ⟨rfl, HH.out, Keeps.refl _ _⟩
theorem rcmd_32f (H : IdeIn 108 w b ds lv D) (hm : D.r 6 / 64 % 2 = 0) (ho : D.other = false) :
    Calls Tryz.prog 112 #[.pointer (some ⟨b, 0, none⟩), .int .u8 32] w (RCmd w b ds lv (D.clean.fail 4)) := by
 obtain ⟨-, -, k2, -, -, -, -, k7, -, -, k10, k11, k12, -, kf, klt⟩ := H.facts
 have h6 := H.ok.r 6
 have g : ((D.r 6 : Int) / 16 % 2 == 1) = false := by
  have : (D.r 6 / 16 % 2 == 1) = false := ho
  simp at this ⊢; omega
 have gm : ((D.r 6 : Int) / 64 % 2 == 1) = false := by
  simp; omega
 have HX := Lib.hid (rclean_in H)
 have HN := Lib.hid H.ok.n
 have HOK := Lib.hid (Dk.tell_ok H.ok)
 clear H ho
 go_enter Tryz.func112, Tryz.ntmps112
 go_upto_region 5 with (fail)
 have E := HX.out
 change Code.wp _ _ _ _ ((((w.setCell ⟨b, 523, none⟩ (.bool false)).setCell ⟨b, 2, none⟩ (.int .u8 0)).setCell ⟨b, 524, none⟩ (.bool false)).setCell ⟨b, 522, none⟩ (.int .i64 0))
 clear HX k2 k7 k10 k11 k12 kf klt
 have HE := Lib.hid E
 clear E
 generalize (((w.setCell ⟨b, 523, none⟩ (.bool false)).setCell ⟨b, 2, none⟩ (.int .u8 0)).setCell ⟨b, 524, none⟩ (.bool false)).setCell ⟨b, 522, none⟩ (.int .i64 0) = W at *
 obtain ⟨k0, -, -, -, -, -, -, k7, -, k9, k10, k11, -, -, kf, klt⟩ := HE.out.1.facts
 rw [Dk.clean_r6] at k7
 go_wp2_with fail
 refine (rfail_in HE.out.1 4 (by decide)).mono ?_
 rintro e w2 ⟨rfl, H2, K2⟩
 have HR := Lib.hid (And.intro H2 (HE.out.2.trans K2))
 clear H2 K2 k0 k7 k9 k10 k11 kf klt
 go_wp2_with fail
 go_returns
 exact ⟨rfl, HR.out.1, HR.out.2⟩
theorem rcmd_32b (H : IdeIn 108 w b ds lv D) (hm : ¬ D.r 6 / 64 % 2 = 0) (ho : D.other = false) :
    Calls Tryz.prog 112 #[.pointer (some ⟨b, 0, none⟩), .int .u8 32] w (RCmd w b ds lv (D.clean.begin 1)) := by
 obtain ⟨-, -, k2, -, -, -, -, k7, -, -, k10, k11, k12, -, kf, klt⟩ := H.facts
 have h6 := H.ok.r 6
 have g : ((D.r 6 : Int) / 16 % 2 == 1) = false := by
  have : (D.r 6 / 16 % 2 == 1) = false := ho
  simp at this ⊢; omega
 have gm : ((D.r 6 : Int) / 64 % 2 == 1) = true := by
  simp; omega
 have HX := Lib.hid (rclean_in H)
 have HN := Lib.hid H.ok.n
 have HOK := Lib.hid (Dk.tell_ok H.ok)
 clear H ho
 go_enter Tryz.func112, Tryz.ntmps112
 go_upto_region 5 with (fail)
 have E := HX.out
 change Code.wp _ _ _ _ ((((w.setCell ⟨b, 523, none⟩ (.bool false)).setCell ⟨b, 2, none⟩ (.int .u8 0)).setCell ⟨b, 524, none⟩ (.bool false)).setCell ⟨b, 522, none⟩ (.int .i64 0))
 clear HX k2 k7 k10 k11 k12 kf klt
 have HE := Lib.hid E
 clear E
 generalize (((w.setCell ⟨b, 523, none⟩ (.bool false)).setCell ⟨b, 2, none⟩ (.int .u8 0)).setCell ⟨b, 524, none⟩ (.bool false)).setCell ⟨b, 522, none⟩ (.int .i64 0) = W at *
 obtain ⟨k0, -, -, -, -, -, -, k7, -, k9, k10, k11, -, -, kf, klt⟩ := HE.out.1.facts
 rw [Dk.clean_r6] at k7
 go_wp2_with fail
 refine (rbegin_in HE.out.1 1 (by decide) _ rfl).mono ?_
 rintro e w2 ⟨rfl, H2, K2⟩
 have HR := Lib.hid (And.intro H2 (HE.out.2.trans K2))
 clear H2 K2 k0 k7 k9 k10 k11 kf klt
 go_wp2_with fail
 go_returns
 exact ⟨rfl, HR.out.1, HR.out.2⟩
theorem rcmd_33f (H : IdeIn 108 w b ds lv D) (hm : D.r 6 / 64 % 2 = 0) (ho : D.other = false) :
    Calls Tryz.prog 112 #[.pointer (some ⟨b, 0, none⟩), .int .u8 33] w (RCmd w b ds lv (D.clean.fail 4)) := by
 obtain ⟨-, -, k2, -, -, -, -, k7, -, -, k10, k11, k12, -, kf, klt⟩ := H.facts
 have h6 := H.ok.r 6
 have g : ((D.r 6 : Int) / 16 % 2 == 1) = false := by
  have : (D.r 6 / 16 % 2 == 1) = false := ho
  simp at this ⊢; omega
 have gm : ((D.r 6 : Int) / 64 % 2 == 1) = false := by
  simp; omega
 have HX := Lib.hid (rclean_in H)
 have HN := Lib.hid H.ok.n
 have HOK := Lib.hid (Dk.tell_ok H.ok)
 clear H ho
 go_enter Tryz.func112, Tryz.ntmps112
 go_upto_region 5 with (fail)
 have E := HX.out
 change Code.wp _ _ _ _ ((((w.setCell ⟨b, 523, none⟩ (.bool false)).setCell ⟨b, 2, none⟩ (.int .u8 0)).setCell ⟨b, 524, none⟩ (.bool false)).setCell ⟨b, 522, none⟩ (.int .i64 0))
 clear HX k2 k7 k10 k11 k12 kf klt
 have HE := Lib.hid E
 clear E
 generalize (((w.setCell ⟨b, 523, none⟩ (.bool false)).setCell ⟨b, 2, none⟩ (.int .u8 0)).setCell ⟨b, 524, none⟩ (.bool false)).setCell ⟨b, 522, none⟩ (.int .i64 0) = W at *
 obtain ⟨k0, -, -, -, -, -, -, k7, -, k9, k10, k11, -, -, kf, klt⟩ := HE.out.1.facts
 rw [Dk.clean_r6] at k7
 go_wp2_with fail
 refine (rfail_in HE.out.1 4 (by decide)).mono ?_
 rintro e w2 ⟨rfl, H2, K2⟩
 have HR := Lib.hid (And.intro H2 (HE.out.2.trans K2))
 clear H2 K2 k0 k7 k9 k10 k11 kf klt
 go_wp2_with fail
 go_returns
 exact ⟨rfl, HR.out.1, HR.out.2⟩
theorem rcmd_33b (H : IdeIn 108 w b ds lv D) (hm : ¬ D.r 6 / 64 % 2 = 0) (ho : D.other = false) :
    Calls Tryz.prog 112 #[.pointer (some ⟨b, 0, none⟩), .int .u8 33] w (RCmd w b ds lv (D.clean.begin 1)) := by
 obtain ⟨-, -, k2, -, -, -, -, k7, -, -, k10, k11, k12, -, kf, klt⟩ := H.facts
 have h6 := H.ok.r 6
 have g : ((D.r 6 : Int) / 16 % 2 == 1) = false := by
  have : (D.r 6 / 16 % 2 == 1) = false := ho
  simp at this ⊢; omega
 have gm : ((D.r 6 : Int) / 64 % 2 == 1) = true := by
  simp; omega
 have HX := Lib.hid (rclean_in H)
 have HN := Lib.hid H.ok.n
 have HOK := Lib.hid (Dk.tell_ok H.ok)
 clear H ho
 go_enter Tryz.func112, Tryz.ntmps112
 go_upto_region 5 with (fail)
 have E := HX.out
 change Code.wp _ _ _ _ ((((w.setCell ⟨b, 523, none⟩ (.bool false)).setCell ⟨b, 2, none⟩ (.int .u8 0)).setCell ⟨b, 524, none⟩ (.bool false)).setCell ⟨b, 522, none⟩ (.int .i64 0))
 clear HX k2 k7 k10 k11 k12 kf klt
 have HE := Lib.hid E
 clear E
 generalize (((w.setCell ⟨b, 523, none⟩ (.bool false)).setCell ⟨b, 2, none⟩ (.int .u8 0)).setCell ⟨b, 524, none⟩ (.bool false)).setCell ⟨b, 522, none⟩ (.int .i64 0) = W at *
 obtain ⟨k0, -, -, -, -, -, -, k7, -, k9, k10, k11, -, -, kf, klt⟩ := HE.out.1.facts
 rw [Dk.clean_r6] at k7
 go_wp2_with fail
 refine (rbegin_in HE.out.1 1 (by decide) _ rfl).mono ?_
 rintro e w2 ⟨rfl, H2, K2⟩
 have HR := Lib.hid (And.intro H2 (HE.out.2.trans K2))
 clear H2 K2 k0 k7 k9 k10 k11 kf klt
 go_wp2_with fail
 go_returns
 exact ⟨rfl, HR.out.1, HR.out.2⟩
theorem rcmd_48f (H : IdeIn 108 w b ds lv D) (hm : D.r 6 / 64 % 2 = 0) (ho : D.other = false) :
    Calls Tryz.prog 112 #[.pointer (some ⟨b, 0, none⟩), .int .u8 48] w (RCmd w b ds lv (D.clean.fail 4)) := by
 obtain ⟨-, -, k2, -, -, -, -, k7, -, -, k10, k11, k12, -, kf, klt⟩ := H.facts
 have h6 := H.ok.r 6
 have g : ((D.r 6 : Int) / 16 % 2 == 1) = false := by
  have : (D.r 6 / 16 % 2 == 1) = false := ho
  simp at this ⊢; omega
 have gm : ((D.r 6 : Int) / 64 % 2 == 1) = false := by
  simp; omega
 have HX := Lib.hid (rclean_in H)
 have HN := Lib.hid H.ok.n
 have HOK := Lib.hid (Dk.tell_ok H.ok)
 clear H ho
 go_enter Tryz.func112, Tryz.ntmps112
 go_upto_region 5 with (fail)
 have E := HX.out
 change Code.wp _ _ _ _ ((((w.setCell ⟨b, 523, none⟩ (.bool false)).setCell ⟨b, 2, none⟩ (.int .u8 0)).setCell ⟨b, 524, none⟩ (.bool false)).setCell ⟨b, 522, none⟩ (.int .i64 0))
 clear HX k2 k7 k10 k11 k12 kf klt
 have HE := Lib.hid E
 clear E
 generalize (((w.setCell ⟨b, 523, none⟩ (.bool false)).setCell ⟨b, 2, none⟩ (.int .u8 0)).setCell ⟨b, 524, none⟩ (.bool false)).setCell ⟨b, 522, none⟩ (.int .i64 0) = W at *
 obtain ⟨k0, -, -, -, -, -, -, k7, -, k9, k10, k11, -, -, kf, klt⟩ := HE.out.1.facts
 rw [Dk.clean_r6] at k7
 go_wp2_with fail
 refine (rfail_in HE.out.1 4 (by decide)).mono ?_
 rintro e w2 ⟨rfl, H2, K2⟩
 have HR := Lib.hid (And.intro H2 (HE.out.2.trans K2))
 clear H2 K2 k0 k7 k9 k10 k11 kf klt
 go_wp2_with fail
 go_returns
 exact ⟨rfl, HR.out.1, HR.out.2⟩
theorem rcmd_48b (H : IdeIn 108 w b ds lv D) (hm : ¬ D.r 6 / 64 % 2 = 0) (ho : D.other = false) :
    Calls Tryz.prog 112 #[.pointer (some ⟨b, 0, none⟩), .int .u8 48] w (RCmd w b ds lv (D.clean.begin 2)) := by
 obtain ⟨-, -, k2, -, -, -, -, k7, -, -, k10, k11, k12, -, kf, klt⟩ := H.facts
 have h6 := H.ok.r 6
 have g : ((D.r 6 : Int) / 16 % 2 == 1) = false := by
  have : (D.r 6 / 16 % 2 == 1) = false := ho
  simp at this ⊢; omega
 have gm : ((D.r 6 : Int) / 64 % 2 == 1) = true := by
  simp; omega
 have HX := Lib.hid (rclean_in H)
 have HN := Lib.hid H.ok.n
 have HOK := Lib.hid (Dk.tell_ok H.ok)
 clear H ho
 go_enter Tryz.func112, Tryz.ntmps112
 go_upto_region 5 with (fail)
 have E := HX.out
 change Code.wp _ _ _ _ ((((w.setCell ⟨b, 523, none⟩ (.bool false)).setCell ⟨b, 2, none⟩ (.int .u8 0)).setCell ⟨b, 524, none⟩ (.bool false)).setCell ⟨b, 522, none⟩ (.int .i64 0))
 clear HX k2 k7 k10 k11 k12 kf klt
 have HE := Lib.hid E
 clear E
 generalize (((w.setCell ⟨b, 523, none⟩ (.bool false)).setCell ⟨b, 2, none⟩ (.int .u8 0)).setCell ⟨b, 524, none⟩ (.bool false)).setCell ⟨b, 522, none⟩ (.int .i64 0) = W at *
 obtain ⟨k0, -, -, -, -, -, -, k7, -, k9, k10, k11, -, -, kf, klt⟩ := HE.out.1.facts
 rw [Dk.clean_r6] at k7
 go_wp2_with fail
 refine (rbegin_in HE.out.1 2 (by decide) _ rfl).mono ?_
 rintro e w2 ⟨rfl, H2, K2⟩
 have HR := Lib.hid (And.intro H2 (HE.out.2.trans K2))
 clear H2 K2 k0 k7 k9 k10 k11 kf klt
 go_wp2_with fail
 go_returns
 exact ⟨rfl, HR.out.1, HR.out.2⟩
theorem rcmd_49f (H : IdeIn 108 w b ds lv D) (hm : D.r 6 / 64 % 2 = 0) (ho : D.other = false) :
    Calls Tryz.prog 112 #[.pointer (some ⟨b, 0, none⟩), .int .u8 49] w (RCmd w b ds lv (D.clean.fail 4)) := by
 obtain ⟨-, -, k2, -, -, -, -, k7, -, -, k10, k11, k12, -, kf, klt⟩ := H.facts
 have h6 := H.ok.r 6
 have g : ((D.r 6 : Int) / 16 % 2 == 1) = false := by
  have : (D.r 6 / 16 % 2 == 1) = false := ho
  simp at this ⊢; omega
 have gm : ((D.r 6 : Int) / 64 % 2 == 1) = false := by
  simp; omega
 have HX := Lib.hid (rclean_in H)
 have HN := Lib.hid H.ok.n
 have HOK := Lib.hid (Dk.tell_ok H.ok)
 clear H ho
 go_enter Tryz.func112, Tryz.ntmps112
 go_upto_region 5 with (fail)
 have E := HX.out
 change Code.wp _ _ _ _ ((((w.setCell ⟨b, 523, none⟩ (.bool false)).setCell ⟨b, 2, none⟩ (.int .u8 0)).setCell ⟨b, 524, none⟩ (.bool false)).setCell ⟨b, 522, none⟩ (.int .i64 0))
 clear HX k2 k7 k10 k11 k12 kf klt
 have HE := Lib.hid E
 clear E
 generalize (((w.setCell ⟨b, 523, none⟩ (.bool false)).setCell ⟨b, 2, none⟩ (.int .u8 0)).setCell ⟨b, 524, none⟩ (.bool false)).setCell ⟨b, 522, none⟩ (.int .i64 0) = W at *
 obtain ⟨k0, -, -, -, -, -, -, k7, -, k9, k10, k11, -, -, kf, klt⟩ := HE.out.1.facts
 rw [Dk.clean_r6] at k7
 go_wp2_with fail
 refine (rfail_in HE.out.1 4 (by decide)).mono ?_
 rintro e w2 ⟨rfl, H2, K2⟩
 have HR := Lib.hid (And.intro H2 (HE.out.2.trans K2))
 clear H2 K2 k0 k7 k9 k10 k11 kf klt
 go_wp2_with fail
 go_returns
 exact ⟨rfl, HR.out.1, HR.out.2⟩
theorem rcmd_49b (H : IdeIn 108 w b ds lv D) (hm : ¬ D.r 6 / 64 % 2 = 0) (ho : D.other = false) :
    Calls Tryz.prog 112 #[.pointer (some ⟨b, 0, none⟩), .int .u8 49] w (RCmd w b ds lv (D.clean.begin 2)) := by
 obtain ⟨-, -, k2, -, -, -, -, k7, -, -, k10, k11, k12, -, kf, klt⟩ := H.facts
 have h6 := H.ok.r 6
 have g : ((D.r 6 : Int) / 16 % 2 == 1) = false := by
  have : (D.r 6 / 16 % 2 == 1) = false := ho
  simp at this ⊢; omega
 have gm : ((D.r 6 : Int) / 64 % 2 == 1) = true := by
  simp; omega
 have HX := Lib.hid (rclean_in H)
 have HN := Lib.hid H.ok.n
 have HOK := Lib.hid (Dk.tell_ok H.ok)
 clear H ho
 go_enter Tryz.func112, Tryz.ntmps112
 go_upto_region 5 with (fail)
 have E := HX.out
 change Code.wp _ _ _ _ ((((w.setCell ⟨b, 523, none⟩ (.bool false)).setCell ⟨b, 2, none⟩ (.int .u8 0)).setCell ⟨b, 524, none⟩ (.bool false)).setCell ⟨b, 522, none⟩ (.int .i64 0))
 clear HX k2 k7 k10 k11 k12 kf klt
 have HE := Lib.hid E
 clear E
 generalize (((w.setCell ⟨b, 523, none⟩ (.bool false)).setCell ⟨b, 2, none⟩ (.int .u8 0)).setCell ⟨b, 524, none⟩ (.bool false)).setCell ⟨b, 522, none⟩ (.int .i64 0) = W at *
 obtain ⟨k0, -, -, -, -, -, -, k7, -, k9, k10, k11, -, -, kf, klt⟩ := HE.out.1.facts
 rw [Dk.clean_r6] at k7
 go_wp2_with fail
 refine (rbegin_in HE.out.1 2 (by decide) _ rfl).mono ?_
 rintro e w2 ⟨rfl, H2, K2⟩
 have HR := Lib.hid (And.intro H2 (HE.out.2.trans K2))
 clear H2 K2 k0 k7 k9 k10 k11 kf klt
 go_wp2_with fail
 go_returns
 exact ⟨rfl, HR.out.1, HR.out.2⟩
theorem rcmd_231 (H : IdeIn 108 w b ds lv D) (ho : D.other = false) :
    Calls Tryz.prog 112 #[.pointer (some ⟨b, 0, none⟩), .int .u8 231] w (RCmd w b ds lv { D.clean with mark := true }) := by
 obtain ⟨-, -, k2, -, -, -, -, k7, -, -, k10, k11, k12, -, kf, klt⟩ := H.facts
 have h6 := H.ok.r 6
 have g : ((D.r 6 : Int) / 16 % 2 == 1) = false := by
  have : (D.r 6 / 16 % 2 == 1) = false := ho
  simp at this ⊢; omega
 have HX := Lib.hid (rclean_in H)
 have HN := Lib.hid H.ok.n
 have HOK := Lib.hid (Dk.tell_ok H.ok)
 clear H ho
 go_enter Tryz.func112, Tryz.ntmps112
 go_upto_region 5 with (fail)
 have E := HX.out
 change Code.wp _ _ _ _ ((((w.setCell ⟨b, 523, none⟩ (.bool false)).setCell ⟨b, 2, none⟩ (.int .u8 0)).setCell ⟨b, 524, none⟩ (.bool false)).setCell ⟨b, 522, none⟩ (.int .i64 0))
 clear HX k2 k7 k10 k11 k12 kf klt
 have HE := Lib.hid E
 clear E
 generalize (((w.setCell ⟨b, 523, none⟩ (.bool false)).setCell ⟨b, 2, none⟩ (.int .u8 0)).setCell ⟨b, 524, none⟩ (.bool false)).setCell ⟨b, 522, none⟩ (.int .i64 0) = W at *
 obtain ⟨k0, -, -, -, -, -, -, k7, -, k9, k10, k11, -, -, kf, klt⟩ := HE.out.1.facts
 rw [Dk.clean_r6] at k7
 have HB := Lib.hid (turned HE.out.1 (Blk.mark (Blk.of HE.out.1) true) ((Keeps.refl _ W).setOne 523 (.bool true)) (Dk.marked_ok HE.out.1.ok) rfl rfl rfl)
 go_wp2_with fail
 go_returns
 exact ⟨rfl, HB.out.1, HE.out.2.trans HB.out.2⟩
theorem rcmd_145 (H : IdeIn 108 w b ds lv D) (ho : D.other = false) :
    Calls Tryz.prog 112 #[.pointer (some ⟨b, 0, none⟩), .int .u8 145] w (RCmd w b ds lv { D.clean with mark := true }) := by
 obtain ⟨-, -, k2, -, -, -, -, k7, -, -, k10, k11, k12, -, kf, klt⟩ := H.facts
 have h6 := H.ok.r 6
 have g : ((D.r 6 : Int) / 16 % 2 == 1) = false := by
  have : (D.r 6 / 16 % 2 == 1) = false := ho
  simp at this ⊢; omega
 have HX := Lib.hid (rclean_in H)
 have HN := Lib.hid H.ok.n
 have HOK := Lib.hid (Dk.tell_ok H.ok)
 clear H ho
 go_enter Tryz.func112, Tryz.ntmps112
 go_upto_region 5 with (fail)
 have E := HX.out
 change Code.wp _ _ _ _ ((((w.setCell ⟨b, 523, none⟩ (.bool false)).setCell ⟨b, 2, none⟩ (.int .u8 0)).setCell ⟨b, 524, none⟩ (.bool false)).setCell ⟨b, 522, none⟩ (.int .i64 0))
 clear HX k2 k7 k10 k11 k12 kf klt
 have HE := Lib.hid E
 clear E
 generalize (((w.setCell ⟨b, 523, none⟩ (.bool false)).setCell ⟨b, 2, none⟩ (.int .u8 0)).setCell ⟨b, 524, none⟩ (.bool false)).setCell ⟨b, 522, none⟩ (.int .i64 0) = W at *
 obtain ⟨k0, -, -, -, -, -, -, k7, -, k9, k10, k11, -, -, kf, klt⟩ := HE.out.1.facts
 rw [Dk.clean_r6] at k7
 have HB := Lib.hid (turned HE.out.1 (Blk.mark (Blk.of HE.out.1) true) ((Keeps.refl _ W).setOne 523 (.bool true)) (Dk.marked_ok HE.out.1.ok) rfl rfl rfl)
 go_wp2_with fail
 go_returns
 exact ⟨rfl, HB.out.1, HE.out.2.trans HB.out.2⟩
theorem rcmd_no (H : IdeIn 108 w b ds lv D) (c : Nat) (hc : c < 256) (h : c ≠ 32 ∧ c ≠ 33 ∧ c ≠ 48 ∧ c ≠ 49 ∧ c ≠ 236 ∧ c ≠ 231 ∧ c ≠ 145) (ho : D.other = false) :
    Calls Tryz.prog 112 #[.pointer (some ⟨b, 0, none⟩), .int .u8 (c : Nat)] w (RCmd w b ds lv (D.clean.fail 4)) := by
 obtain ⟨-, -, k2, -, -, -, -, k7, -, -, k10, k11, k12, -, kf, klt⟩ := H.facts
 have h6 := H.ok.r 6
 have g : ((D.r 6 : Int) / 16 % 2 == 1) = false := by
  have : (D.r 6 / 16 % 2 == 1) = false := ho
  simp at this ⊢; omega
 have g32 : ((c : Int) == 32) = false := by simp; omega
 have g33 : ((c : Int) == 33) = false := by simp; omega
 have g48 : ((c : Int) == 48) = false := by simp; omega
 have g49 : ((c : Int) == 49) = false := by simp; omega
 have g236 : ((c : Int) == 236) = false := by simp; omega
 have g231 : ((c : Int) == 231) = false := by simp; omega
 have g145 : ((c : Int) == 145) = false := by simp; omega
 clear h
 have HX := Lib.hid (rclean_in H)
 have HN := Lib.hid H.ok.n
 have HOK := Lib.hid (Dk.tell_ok H.ok)
 clear H ho
 go_enter Tryz.func112, Tryz.ntmps112
 go_upto_region 5 with (fail)
 have E := HX.out
 change Code.wp _ _ _ _ ((((w.setCell ⟨b, 523, none⟩ (.bool false)).setCell ⟨b, 2, none⟩ (.int .u8 0)).setCell ⟨b, 524, none⟩ (.bool false)).setCell ⟨b, 522, none⟩ (.int .i64 0))
 clear HX k2 k7 k10 k11 k12 kf klt
 have HE := Lib.hid E
 clear E
 generalize (((w.setCell ⟨b, 523, none⟩ (.bool false)).setCell ⟨b, 2, none⟩ (.int .u8 0)).setCell ⟨b, 524, none⟩ (.bool false)).setCell ⟨b, 522, none⟩ (.int .i64 0) = W at *
 obtain ⟨k0, -, -, -, -, -, -, k7, -, k9, k10, k11, -, -, kf, klt⟩ := HE.out.1.facts
 rw [Dk.clean_r6] at k7
 go_wp2_with fail
 refine (rfail_in HE.out.1 4 (by decide)).mono ?_
 rintro e w2 ⟨rfl, H2, K2⟩
 have HR := Lib.hid (And.intro H2 (HE.out.2.trans K2))
 clear H2 K2 k0 k7 k9 k10 k11 kf klt
 go_wp2_with fail
 go_returns
 exact ⟨rfl, HR.out.1, HR.out.2⟩
set_option maxRecDepth 100000 in
theorem zero512 (w : World) : (zeroValue 106).run Tryz.prog w = .ok (.agg (bytesL 512 (fun _ => 0)).toArray) w := by kernel_rfl
theorem bytes_one (n : Nat) (f : Nat → Nat) : (bytesL n f).toArray.all (·.oneCell') = true := all_oneCell_toArray (bytesL_one n f)
set_option maxRecDepth 100000 in
theorem told_cells (n : Nat) : (((bytesL 512 (fun _ => 0)).toArray.setIfInBounds 0 (.int .u8 64)).setIfInBounds 99 (.int .u8 2)).setIfInBounds 120 (.int .u8 (n : Nat)) = (bytesL 512 (tellBuf n)).toArray := by kernel_rfl
theorem rcmd_tell (H : IdeIn 108 w b ds lv D) (ho : D.other = false) :
    Calls Tryz.prog 112 #[.pointer (some ⟨b, 0, none⟩), .int .u8 236] w (RCmd w b ds lv { D.clean with buf := tellBuf D.n, mode := 3, done := 0, mark := true }) := by
 obtain ⟨-, -, k2, -, -, -, -, k7, -, -, k10, k11, k12, -, kf, klt⟩ := H.facts
 have h6 := H.ok.r 6
 have g : ((D.r 6 : Int) / 16 % 2 == 1) = false := by
  have : (D.r 6 / 16 % 2 == 1) = false := ho
  simp at this ⊢; omega
 have hz := fun w => zero512 w
 have HX := Lib.hid (rclean_in H)
 have HN := Lib.hid H.ok.n
 have HOK := Lib.hid (Dk.tell_ok H.ok)
 clear H ho
 go_enter Tryz.func112, Tryz.ntmps112
 go_upto_region 5 with (fail)
 have E := HX.out
 change Code.wp _ _ _ _ ((((w.setCell ⟨b, 523, none⟩ (.bool false)).setCell ⟨b, 2, none⟩ (.int .u8 0)).setCell ⟨b, 524, none⟩ (.bool false)).setCell ⟨b, 522, none⟩ (.int .i64 0))
 clear HX k2 k7 k10 k11 k12 kf klt
 have HE := Lib.hid E
 clear E
 generalize (((w.setCell ⟨b, 523, none⟩ (.bool false)).setCell ⟨b, 2, none⟩ (.int .u8 0)).setCell ⟨b, 524, none⟩ (.bool false)).setCell ⟨b, 522, none⟩ (.int .i64 0) = W at *
 obtain ⟨k0, -, -, -, -, -, -, k7, -, k9, k10, k11, -, -, kf, klt⟩ := HE.out.1.facts
 rw [Dk.clean_r6] at k7
 obtain ⟨da, dc, hds⟩ := HE.out.1.disk.len
 have hds' : ds = .slice da (D.n * 512) dc := hds
 rw [hds'] at k0
 have HDS := Lib.hid hds
 clear hds hds'
 have hn64 := HN.out
 have q1 : (D.n : Int) * 512 / 512 = (D.n : Int) := by omega
 go_upto_region 20 with (fail)
 have hq := heap_new W (.cells (bytesL 512 (fun _ => 0)).toArray 106)
 have HE1 := Lib.hid (HE.out.1.of_heap (w' := W.alloc (.cells (bytesL 512 (fun _ => 0)).toArray 106)) (fun k hk => Below.heap_alloc _ _ _ (hk.lt HE.out.1)))
 have HK1 := Lib.hid (HE.out.2.alloc (.cells (bytesL 512 (fun _ => 0)).toArray 106))
 change Code.wp _ _ _ _ (W.alloc (.cells (bytesL 512 (fun _ => 0)).toArray 106))
 have hqb : b < W.heap.size := HE.out.1.facts.2.2.2.2.2.2.2.2.2.2.2.2.2.2.2
 have hK : Keeps (· = W.heap.size) (W.alloc (.cells (bytesL 512 (fun _ => 0)).toArray 106)) ((((W.alloc (.cells (bytesL 512 (fun _ => 0)).toArray 106)).setCell ⟨W.heap.size, 0, none⟩ (.int .u8 64)).setCell ⟨W.heap.size, 99, none⟩ (.int .u8 2)).setCell ⟨W.heap.size, 120, none⟩ (.int .u8 (D.n : Nat))) := (((Keeps.refl _ _).setOne _ _).setOne _ _).setOne _ _
 have hlow : ∀ k, Held b ds lv k → k < W.heap.size := fun k hk => hk.lt HE.out.1
 have hwb : w.heap.size ≤ W.heap.size := HE.out.2.size
 clear HE k0 k7 k9 k10 k11 kf klt hz
 generalize W.heap.size = q at *
 generalize W.alloc (.cells (bytesL 512 (fun _ => 0)).toArray 106) = W1 at *
 have z0 : W1.cell? ⟨q, 0, none⟩ = some (.int .u8 0) := by rw [cell_at hq, List.getElem?_toArray, bytesL_at 512 _ 0 (by decide)]; rfl
 have z99 : W1.cell? ⟨q, 99, none⟩ = some (.int .u8 0) := by rw [cell_at hq, List.getElem?_toArray, bytesL_at 512 _ 99 (by decide)]; rfl
 have z120 : W1.cell? ⟨q, 120, none⟩ = some (.int .u8 0) := by rw [cell_at hq, List.getElem?_toArray, bytesL_at 512 _ 120 (by decide)]; rfl
 have zf : ∀ k, W1.frozen? ⟨q, k, none⟩ = false := fun k => free_at hq
 have zl := heap_lt hq
 have HT : (((W1.setCell ⟨q, 0, none⟩ (.int .u8 64)).setCell ⟨q, 99, none⟩ (.int .u8 2)).setCell ⟨q, 120, none⟩ (.int .u8 (D.n : Nat))).heap[q]? = some (.cells (bytesL 512 (tellBuf D.n)).toArray 106) := by
  rw [heap_set_same _ (heap_set_same _ (heap_set_same _ hq)), told_cells]
 have HT1 := Lib.hid HT
 have HW := Lib.hid (And.intro hK hlow)
 clear HT hK hlow hq
 go_upto_region 23 with (fail)
 change Code.wp _ _ _ _ (((W1.setCell ⟨q, 0, none⟩ (.int .u8 64)).setCell ⟨q, 99, none⟩ (.int .u8 2)).setCell ⟨q, 120, none⟩ (.int .u8 (D.n : Nat)))
 have HE2 := Lib.hid (HE1.out.keeps HW.out.1 (fun k hk e => by have := HW.out.2 k hk; omega))
 have HK2 := Lib.hid (HK1.out.andThen (HW.out.1.mono (S' := fun k => q ≤ k) (fun k _ e => by omega)) (fun i hi h => by omega))
 clear z0 z99 z120 zf zl HE1 HK1 HW
 generalize ((W1.setCell ⟨q, 0, none⟩ (.int .u8 64)).setCell ⟨q, 99, none⟩ (.int .u8 2)).setCell ⟨q, 120, none⟩ (.int .u8 (D.n : Nat)) = W2 at *
 have ht : W2.there b 9 512 := fun j hj => ⟨by rw [HE2.out.cell _ (by omega), Option.isSome_some], free_at HE2.out.obj⟩
 have HTH := Lib.hid ht
 clear ht
 go_upto_region 24 with (first | (refine wpList_load_row rfl _ _ rfl q rfl _ _ _ _ HT1.out Tryz.underlying106 rfl size512 ?_) | (refine wpList_store_mid rfl _ _ _ rfl b 9 (bytesL 512 (tellBuf D.n)).toArray rfl rfl HTH.out size512 (bytes_one _ _) ?_))
 change Code.wp _ _ _ _ (W2.setCells b 9 (bytesL 512 (tellBuf D.n)))
 have B3 : Blk 108 (W2.setCells b 9 (bytesL 512 (tellBuf D.n))) b ds lv { D.clean with buf := tellBuf D.n } := by
  unfold Blk
  rw [heap_setCells b _ 9 W2 _ _ (Blk.of HE2.out) (by rw [bytesL_len, Dk.size]; decide), bytesL_len, Dk.over]
 have K3 := keeps_setCells b (bytesL 512 (tellBuf D.n)) 9 W2 W2 (Keeps.refl _ _)
 have HB3 := Lib.hid (And.intro B3 K3)
 clear B3 K3
 generalize W2.setCells b 9 (bytesL 512 (tellBuf D.n)) = W3 at *
 obtain ⟨-, -, -, -, -, -, -, -, -, j9, j10, j11, -, -, jf, jlt⟩ := HB3.out.1.facts
 go_wp2_with fail
 go_returns
 have E := turned HE2.out (Blk.mark (Blk.done (Blk.mode HB3.out.1 3 3 rfl) 0 0 rfl) true) (((HB3.out.2.setOne _ _).setOne _ _).setOne _ _) HOK.out rfl rfl rfl
 exact ⟨rfl, E.1, HK2.out.trans E.2⟩
theorem rcommand_in (H : IdeIn 108 w b ds lv D) (c : Nat) (hc : c < 256) :
    Calls Tryz.prog 112 #[.pointer (some ⟨b, 0, none⟩), .int .u8 (c : Nat)] w (RCmd w b ds lv (D.command c)) := by
 unfold Dk.command
 cases ho : D.other
 ·rw [if_neg (by decide)]
  by_cases h1 : c = 32 ∨ c = 33
  ·rw [if_pos h1]
   by_cases hm : D.r 6 / 64 % 2 = 0
   ·rw [if_pos hm]; rcases h1 with rfl | rfl
    ·exact rcmd_32f H hm ho
    ·exact rcmd_33f H hm ho
   ·rw [if_neg hm]; rcases h1 with rfl | rfl
    ·exact rcmd_32b H hm ho
    ·exact rcmd_33b H hm ho
  ·rw [if_neg h1]
   by_cases h2 : c = 48 ∨ c = 49
   ·rw [if_pos h2]
    by_cases hm : D.r 6 / 64 % 2 = 0
    ·rw [if_pos hm]; rcases h2 with rfl | rfl
     ·exact rcmd_48f H hm ho
     ·exact rcmd_49f H hm ho
    ·rw [if_neg hm]; rcases h2 with rfl | rfl
     ·exact rcmd_48b H hm ho
     ·exact rcmd_49b H hm ho
   ·rw [if_neg h2]
    by_cases h3 : c = 236
    ·rw [if_pos h3, h3]; exact rcmd_tell H ho
    ·rw [if_neg h3]
     by_cases h4 : c = 231 ∨ c = 145
     ·rw [if_pos h4]; rcases h4 with rfl | rfl
      ·exact rcmd_231 H ho
      ·exact rcmd_145 H ho
     ·rw [if_neg h4]; exact rcmd_no H c hc ⟨by omega, by omega, by omega, by omega, by omega, by omega, by omega⟩ ho
 ·rw [if_pos rfl]; exact rcmd_other H c ho
end
end Go.Proofs.YtojmpdddfnkffaaGreat.Ide

/- ide: the document's disk: behind a sector; a byte is read. -/
namespace Go.Proofs.YtojmpdddfnkffaaGreat.Ide
open Go.RowKit
set_option linter.unusedVariables false
set_option linter.unusedSimpArgs false

theorem Dk.setR_ok' {S : Dk} (h : S.ok) (k v : Nat) (hv : v < 256) : (S.setR k v).ok := { h with r := upd_lt h.r k v hv }
def Dk.pre (S : Dk) : Dk := ((((S.setR 3 ((S.place + 1) % 256)).setR 4 ((S.place + 1) / 256 % 256)).setR 5 ((S.place + 1) / 65536 % 256)).setR 6 (S.r 6 / 16 * 16 + (S.place + 1) / 16777216 % 16)).setR 2 ((S.r 2 + 255) % 256)
theorem Dk.setR_n (S : Dk) (k v : Nat) : (S.setR k v).n = S.n := rfl
theorem Dk.setR_d (S : Dk) (k v : Nat) : (S.setR k v).d = S.d := rfl
theorem Dk.setR_log (S : Dk) (k v : Nat) : (S.setR k v).log = S.log := rfl
theorem Dk.setR_mode (S : Dk) (k v : Nat) : (S.setR k v).mode = S.mode := rfl
theorem Dk.setR_same (S : Dk) (k v : Nat) : (S.setR k v).r k = v := upd_same _ _ _
theorem Dk.setMode_r (S : Dk) (m : Nat) : (S.setMode m).r = S.r := rfl
theorem Dk.pre_step (S : Dk) : S.pre.setMode 0 = S.step := by unfold Dk.pre; exact (Dk.step_eq S).symm
theorem Dk.pre_ok {S : Dk} (h : S.ok) : S.pre.ok := by
 unfold Dk.pre
 exact Dk.setR_ok' (Dk.setR_ok' (Dk.setR_ok' (Dk.setR_ok' (Dk.setR_ok' h _ _ (Nat.mod_lt _ (by decide))) _ _ (Nat.mod_lt _ (by decide))) _ _ (Nat.mod_lt _ (by decide))) _ _ (by have := h.r 6; omega)) _ _ (Nat.mod_lt _ (by decide))
theorem Dk.pre_mode (S : Dk) : S.pre.mode = S.mode := by unfold Dk.pre; rw [Dk.setR_mode, Dk.setR_mode, Dk.setR_mode, Dk.setR_mode, Dk.setR_mode]
theorem Dk.pre_n (S : Dk) : S.pre.n = S.n := by unfold Dk.pre; rw [Dk.setR_n, Dk.setR_n, Dk.setR_n, Dk.setR_n, Dk.setR_n]
theorem Dk.pre_d (S : Dk) : S.pre.d = S.d := by unfold Dk.pre; rw [Dk.setR_d, Dk.setR_d, Dk.setR_d, Dk.setR_d, Dk.setR_d]
theorem Dk.pre_log (S : Dk) : S.pre.log = S.log := by unfold Dk.pre; rw [Dk.setR_log, Dk.setR_log, Dk.setR_log, Dk.setR_log, Dk.setR_log]
theorem Dk.pre_r2 (S : Dk) : S.pre.r 2 = (S.r 2 + 255) % 256 := by unfold Dk.pre; exact Dk.setR_same _ _ _
theorem Dk.step_r2 (S : Dk) : S.step.r 2 = (S.r 2 + 255) % 256 := by rw [← Dk.pre_step, Dk.setMode_r, Dk.pre_r2]
theorem Dk.setMode_fail (S : Dk) (x e : Nat) : (S.setMode x).fail e = S.fail e := by simp only [Dk.fail, Dk.setMode]
theorem Dk.setMode_place (S : Dk) (x : Nat) : (S.setMode x).place = S.place := by unfold Dk.place; rw [Dk.setMode_r]
theorem Dk.setMode_n (S : Dk) (x : Nat) : (S.setMode x).n = S.n := rfl
theorem Dk.begin_mode (S : Dk) (x m : Nat) : (S.setMode x).begin m = S.begin m := by
 unfold Dk.begin
 rw [Dk.setMode_place, Dk.setMode_n, Dk.setMode_fail]
 simp only [Dk.setMode]
theorem Dk.setMode_d (S : Dk) (x : Nat) : (S.setMode x).d = S.d := rfl
theorem Dk.setMode_log (S : Dk) (x : Nat) : (S.setMode x).log = S.log := rfl
theorem Dk.next_zero (S : Dk) (h : S.step.r 2 = 0) : S.next = S.step := by unfold Dk.next; rw [if_pos h]
theorem Dk.next_more (S : Dk) (h : ¬ S.step.r 2 = 0) : S.next = S.pre.begin S.mode := by
 have e : S.next = S.step.begin S.mode := by unfold Dk.next; rw [if_neg h]
 rw [e, ← Dk.pre_step, Dk.begin_mode]
section
variable {w : World} {b : Nat} {ds lv : Value} {D : Dk}
theorem rone_in (H : IdeIn 108 w b ds lv D) :
    Calls Tryz.prog 137 #[.pointer (some ⟨b, 0, none⟩)] w (RCmd w b ds lv D.next) := by
 have HP := Lib.hid (rplace_in H)
 have hp := Dk.place_lt H.ok
 obtain ⟨-, -, -, k3, k4, k5, k6, k7, -, -, k10, -, -, -, kf, klt⟩ := H.facts
 have HH := Lib.hid H
 have h2 := H.ok.r 2
 have h6 := H.ok.r 6
 have HPL := Lib.hid (show D.place = D.place from rfl)
 clear H
 obtain ⟨p, hpp⟩ : ∃ p, p = D.place := ⟨_, rfl⟩
 have HPP := Lib.hid hpp
 rw [← hpp] at HP hp
 clear hpp HPL
 go_enter Tryz.func137, Tryz.ntmps137
 go_wp2_with fail
 refine HP.out.mono ?_
 rintro e w1 ⟨rfl, n, rfl⟩
 go_upto_region 4 with (fail)
 go_region
 go_wp2_with fail
 go_region
 go_upto_region 7 with (fail)
 have v1 : ((p : Int) + 1) % 256 = (((p + 1) % 256 : Nat) : Int) := by omega
 have v2 : ((p : Int) + 1) / 256 % 256 = (((p + 1) / 256 % 256 : Nat) : Int) := by omega
 have v3 : ((p : Int) + 1) / 65536 % 256 = (((p + 1) / 65536 % 256 : Nat) : Int) := by omega
 have v4 : (D.r 6 : Int) - (D.r 6 : Int) % 16 + ((p : Int) + 1) / 16777216 % 16 = ((D.r 6 / 16 * 16 + (p + 1) / 16777216 % 16 : Nat) : Int) := by omega
 have v5 : ((D.r 2 : Int) - 1) % 256 = (((D.r 2 + 255) % 256 : Nat) : Int) := by omega
 have B := Blk.drew (Blk.drew (Blk.reg (Blk.reg (Blk.reg (Blk.reg (Blk.reg (Blk.drewN (Blk.of HH.out) n) 3 _ _ v1 (by decide)) 4 _ _ v2 (by decide)) 5 _ _ v3 (by decide)) 6 _ _ v4 (by decide)) 2 _ _ v5 (by decide)))
 have K : Keeps (· = b) w ((((((w.drewN n).setCell ⟨b, 4, none⟩ (.int .u8 (((p : Int) + 1) % 256))).setCell ⟨b, 5, none⟩ (.int .u8 (((p : Int) + 1) / 256 % 256))).setCell ⟨b, 6, none⟩ (.int .u8 (((p : Int) + 1) / 65536 % 256))).setCell ⟨b, 7, none⟩ (.int .u8 ((D.r 6 : Int) - (D.r 6 : Int) % 16 + ((p : Int) + 1) / 16777216 % 16))).setCell ⟨b, 3, none⟩ (.int .u8 (((D.r 2 : Int) - 1) % 256))).drew.drew :=
  ((((((((Keeps.refl _ w).drewN n).setOne _ _).setOne _ _).setOne _ _).setOne _ _).setOne _ _).drew).drew
 have E := turned HH.out (D' := D.pre) (by unfold Dk.pre; rw [← HPP.out]; exact B) K (Dk.pre_ok HH.out.ok) (Dk.pre_n D) (Dk.pre_d D) (Dk.pre_log D)
 change Code.wp _ _ _ _ ((((((w.drewN n).setCell ⟨b, 4, none⟩ (.int .u8 (((p : Int) + 1) % 256))).setCell ⟨b, 5, none⟩ (.int .u8 (((p : Int) + 1) / 256 % 256))).setCell ⟨b, 6, none⟩ (.int .u8 (((p : Int) + 1) / 65536 % 256))).setCell ⟨b, 7, none⟩ (.int .u8 ((D.r 6 : Int) - (D.r 6 : Int) % 16 + ((p : Int) + 1) / 16777216 % 16))).setCell ⟨b, 3, none⟩ (.int .u8 (((D.r 2 : Int) - 1) % 256))).drew.drew
 have HE := Lib.hid E
 clear E K B v1 v2 v3 v4 v5 k3 k4 k5 k6 k7 k10 kf klt
 generalize ((((((w.drewN n).setCell ⟨b, 4, none⟩ (.int .u8 (((p : Int) + 1) % 256))).setCell ⟨b, 5, none⟩ (.int .u8 (((p : Int) + 1) / 256 % 256))).setCell ⟨b, 6, none⟩ (.int .u8 (((p : Int) + 1) / 65536 % 256))).setCell ⟨b, 7, none⟩ (.int .u8 ((D.r 6 : Int) - (D.r 6 : Int) % 16 + ((p : Int) + 1) / 16777216 % 16))).setCell ⟨b, 3, none⟩ (.int .u8 (((D.r 2 : Int) - 1) % 256))).drew.drew = W at *
 obtain ⟨-, -, -, k3, -, -, -, -, -, -, k10, -, -, -, kf, klt⟩ := HE.out.1.facts
 rw [Dk.pre_r2] at k3
 rw [Dk.pre_mode] at k10
 by_cases hz : (D.r 2 + 255) % 256 = 0
 ·have HZ := Lib.hid (Dk.next_zero D (by rw [Dk.step_r2]; exact hz))
  rw [hz] at k3
  clear hz
  go_wp2_with fail
  go_returns
  have E := turned HE.out.1 (Blk.mode (Blk.of HE.out.1) 0 0 rfl) ((Keeps.refl _ W).setOne 522 (.int .i64 0)) (D' := D.pre.setMode 0) (by rw [Dk.pre_step]; exact Dk.step_ok HH.out.ok) (Dk.setMode_n _ _) (Dk.setMode_d _ _) (Dk.setMode_log _ _)
  rw [Dk.pre_step] at E
  exact ⟨rfl, by rw [HZ.out]; exact E.1, HE.out.2.trans E.2⟩
 ·have HZ := Lib.hid (Dk.next_more D (by rw [Dk.step_r2]; exact hz))
  have g : ((((D.r 2 + 255) % 256 : Nat) : Int) == 0) = false := by simp; omega
  have hm4 := HH.out.ok.mode
  clear hz
  go_wp2_with fail
  refine (rbegin_in HE.out.1 D.mode hm4 _ rfl).mono ?_
  rintro e w2 ⟨rfl, H2, K2⟩
  have HR := Lib.hid (And.intro H2 (HE.out.2.trans K2))
  clear H2 K2 k3 k10 kf klt
  go_wp2_with fail
  go_returns
  exact ⟨rfl, by rw [HZ.out]; exact HR.out.1, HR.out.2⟩
end
end Go.Proofs.YtojmpdddfnkffaaGreat.Ide

/- ide: the document's disk: a byte is read, a byte is written. -/
namespace Go.Proofs.YtojmpdddfnkffaaGreat.Ide
open Go.RowKit
set_option linter.unusedVariables false
set_option linter.unusedSimpArgs false

section
variable {w : World} {b : Nat} {ds lv : Value} {D : Dk}
theorem rget_idle (H : IdeIn 108 w b ds lv D) (h1 : D.mode ≠ 1) (h3 : D.mode ≠ 3) :
    Calls Tryz.prog 118 #[.pointer (some ⟨b, 0, none⟩)] w fun e w' => e = .returned (.int .u8 255) ∧ w = w' := by
 obtain ⟨-, -, -, -, -, -, -, -, -, -, k10, -⟩ := H.facts
 have g1 : ((D.mode : Int) == 1) = false := by simp; omega
 have g3 : ((D.mode : Int) == 3) = false := by simp; omega
 have g1' : ((D.mode : Int) != 1) = true := by simp; omega
 have g3' : ((D.mode : Int) != 3) = true := by simp; omega
 clear H h1 h3
 go_enter Tryz.func118, Tryz.ntmps118
 go_wp2_with fail
 go_ret
 exact ⟨rfl, rfl⟩
theorem rgot_in (H : IdeIn 108 w b ds lv D) (hd : D.done < 512) (n : Nat) (x : Int) (hx : x = (D.done : Int) + 1) : IdeIn 108 ((w.drewN n).setCell ⟨b, 521, none⟩ (.int .i64 x)) b ds lv (D.setDone (D.done + 1)) ∧ Keeps (· = b) w ((w.drewN n).setCell ⟨b, 521, none⟩ (.int .i64 x)) :=
 turned H (Blk.done (Blk.drewN (Blk.of H) n) (D.done + 1) x (by omega)) (((Keeps.refl _ w).drewN n).setOne _ _) (Dk.step1_ok H.ok hd) rfl rfl rfl
theorem rget_live (H : IdeIn 108 w b ds lv D) (hm : D.mode = 1 ∨ D.mode = 3) (hd : D.done < 512) :
    Calls Tryz.prog 118 #[.pointer (some ⟨b, 0, none⟩)] w fun e w' => e = .returned (.int .u8 (D.buf D.done : Nat)) ∧ IdeIn 108 w' b ds lv (gotTo D) ∧ Keeps (· = b) w w' := by
 obtain ⟨-, -, -, -, -, -, -, -, -, k9, k10, -, -, -, kf, klt⟩ := H.facts
 have kb := H.buf D.done hd
 have q0 : (0 : Int) ≤ (D.done : Int) := by omega
 have q1 : (D.done : Int) < 512 := by omega
 have HD := Lib.hid hd
 clear hd
 obtain ⟨u, hu⟩ : ∃ u, u = D.buf D.done := ⟨_, rfl⟩
 rw [← hu] at kb
 have HU := Lib.hid hu
 obtain ⟨dn, hdn⟩ : ∃ dn, dn = D.done := ⟨_, rfl⟩
 rw [← hdn] at k9 kb q0 q1
 have HDN := Lib.hid hdn
 have HH := Lib.hid H
 clear hdn hu H
 have HM := Lib.hid hm
 rcases hm with hm | hm
 all_goals
  rw [hm] at k10
  have HM1 := Lib.hid hm
  clear hm
  by_cases hlt : dn + 1 < 512
  ·have g : ((dn : Int) + 1 == 512) = false := by simp; omega
   have HL := Lib.hid hlt
   clear hlt
   go_enter Tryz.func118, Tryz.ntmps118
   go_wp2_with fail
   go_quiet (fail)
   go_wp2_with fail
   go_ret
   have e : gotTo D = D.setDone (dn + 1) := by unfold gotTo; rw [if_pos (by rw [← HDN.out]; exact HL.out), HDN.out]
   rw [e]
   have E := rgot_in HH.out HD.out nq ((dn : Int) + 1) (by rw [HDN.out])
   rw [← HDN.out] at E
   refine ⟨?_, E⟩
   rw [← HU.out]; rfl
  ·have hd2 : dn = 511 := by omega
   have HD2 := Lib.hid hd2
   clear hd2 hlt
   go_enter Tryz.func118, Tryz.ntmps118
   go_wp2_with fail
   go_quiet (fail)
   go_upto_region 5 with (fail)
   have E := rgot_in HH.out HD.out nq ((dn : Int) + 1) (by rw [HDN.out])
   clear k9 k10 kf klt kb
   generalize (w.drewN nq).setCell ⟨b, 521, none⟩ (.int .i64 ((dn : Int) + 1)) = w1 at *
   obtain ⟨H1, K1⟩ := E
   obtain ⟨-, -, -, -, -, -, -, -, -, k9, k10, -, -, -, kf, klt⟩ := H1.facts
   have e9 : (D.setDone (D.done + 1)).done = 512 := by show D.done + 1 = 512; rw [← HDN.out, HD2.out]
   have e10 : (D.setDone (D.done + 1)).mode = D.mode := rfl
   rw [e9] at k9
   rw [e10, HM1.out] at k10
   have k9' : w1.cell? ⟨b, 521, none⟩ = some (.int .i64 512) := k9
   have HH1 := Lib.hid H1
   have HK1 := Lib.hid K1
   clear e9 e10 k9 H1 K1
   have HNL := Lib.hid (show ¬ D.done + 1 < 512 by rw [← HDN.out, HD2.out]; decide)
   go_wp2_with fail
   first
    | (refine (rone_in HH1.out).mono ?_
       rintro e w2 ⟨rfl, H2, K2⟩
       go_wp2_with fail
       go_ret
       have e : gotTo D = (D.setDone (D.done + 1)).next := by unfold gotTo; rw [if_neg HNL.out, if_neg (by rw [HM1.out]; decide)]
       rw [e]
       refine ⟨?_, H2, HK1.out.trans K2⟩
       rw [← HU.out]; rfl)
    | (go_ret
       have e : gotTo D = (D.setDone (D.done + 1)).setMode 0 := by unfold gotTo; rw [if_neg HNL.out, if_pos HM1.out]
       rw [e]
       have E := turned HH1.out (Blk.mode (Blk.of HH1.out) 0 0 rfl) ((Keeps.refl _ w1).setOne _ _) (Dk.idle_ok HH1.out.ok) rfl rfl rfl
       refine ⟨?_, E.1, HK1.out.trans E.2⟩
       rw [← HU.out]; rfl)
theorem rget_in (H : IdeIn 108 w b ds lv D) (hr : D.room) :
    Calls Tryz.prog 118 #[.pointer (some ⟨b, 0, none⟩)] w fun e w' => e = .returned (.int .u8 (D.gets : Nat)) ∧ IdeIn 108 w' b ds lv D.getB ∧ Keeps (· = b) w w' := by
 by_cases hm : D.mode = 1 ∨ D.mode = 3
 ·have e : D.gets = D.buf D.done := by unfold Dk.gets; rw [if_pos hm]
  rw [e, Dk.getB_eq D hm]
  exact rget_live H hm (hr (by omega))
 ·have e : D.gets = 255 := by unfold Dk.gets; rw [if_neg hm]
  have e2 : D.getB = D := by unfold Dk.getB; rw [if_neg hm]
  rw [e, e2]
  refine (rget_idle H (by omega) (by omega)).mono ?_
  rintro e w' ⟨rfl, rfl⟩
  exact ⟨rfl, H, Keeps.refl _ _⟩
end
end Go.Proofs.YtojmpdddfnkffaaGreat.Ide

/- ide: the document's disk: a byte is written. -/
namespace Go.Proofs.YtojmpdddfnkffaaGreat.Ide
open Go.RowKit
set_option linter.unusedVariables false
set_option linter.unusedSimpArgs false

def Dk.flushK (S : Dk) (o k : Nat) : Dk := { S with d := fun i => if o ≤ i ∧ i < o + k then S.buf (i - o) else S.d i }
theorem Dk.flushK_zero (S : Dk) (o : Nat) : S.flushK o 0 = S := by
 have h : (fun i => if o ≤ i ∧ i < o + 0 then S.buf (i - o) else S.d i) = S.d := by funext i; rw [if_neg (by omega)]
 unfold Dk.flushK; rw [h]
theorem Dk.flushK_succ (S : Dk) (o k : Nat) : S.flushK o (k + 1) = { S.flushK o k with d := upd (S.flushK o k).d (o + k) (S.buf k) } := by
 have h : (fun i => if o ≤ i ∧ i < o + (k + 1) then S.buf (i - o) else S.d i) = upd (S.flushK o k).d (o + k) (S.buf k) := by
  funext i
  unfold upd
  show _ = if i = o + k then _ else if o ≤ i ∧ i < o + k then _ else _
  by_cases e : i = o + k
  ·rw [if_pos e, if_pos (by omega), show i - o = k by omega]
  ·rw [if_neg e]
   by_cases h : o ≤ i ∧ i < o + k
   ·rw [if_pos h, if_pos (by omega)]
   ·rw [if_neg h, if_neg (by omega)]
 have e : S.flushK o (k + 1) = ({ S with d := fun i => if o ≤ i ∧ i < o + (k + 1) then S.buf (i - o) else S.d i } : Dk) := rfl
 rw [e, h]; rfl
section
variable {w : World} {b : Nat} {ds lv : Value} {D : Dk}
theorem bytesL_set (n : Nat) (d : Nat → Nat) (i v : Nat) : (bytesL n d).set i (.int .u8 (v : Nat)) = bytesL n (upd d i v) := by
 refine List.ext_getElem? fun j => ?_
 rw [List.getElem?_set, bytesL_len]
 by_cases hj : j < n
 ·rw [bytesL_at n d j hj, bytesL_at n _ j hj]
  by_cases e : i = j
  ·subst e; rw [if_pos rfl, if_pos hj, upd_same]
  ·rw [if_neg e, upd_ne _ _ _ _ (fun h => e h.symm)]
 ·rw [bytesL_no n d j (by omega), bytesL_no n _ j (by omega)]
  by_cases e : i = j
  ·subst e; rw [if_pos rfl, if_neg hj]
  ·rw [if_neg e]
theorem IdeIn.poke {T : TypeId} (H : IdeIn T w b ds lv D) {g cap i : Nat} (hds : ds = .slice (some ⟨g, 0, none⟩) (D.n * 512) cap) (hi : i < D.n * 512) (v : Nat) (hv : v < 256) :
    ∃ u, w.cell? ⟨g, i, none⟩ = some u ∧ (∀ k, w.frozen? ⟨g, k, none⟩ = false) ∧ g < w.heap.size ∧ IdeIn T (w.setCell ⟨g, i, none⟩ (.int .u8 (v : Nat))) b ds lv { D with d := upd D.d i v } := by
 obtain ⟨g', cap', cur, hds', hg, hc, hcm, hsz, htk⟩ := H.disk.open (by omega)
 rw [hds] at hds'
 simp only [Value.slice.injEq, Option.some.injEq, Addr.mk.injEq, and_true, true_and] at hds'
 obtain ⟨rfl, rfl⟩ := hds'
 have hgb : b ≠ g := fun e => H.d1 (by rw [hds, ← e]; rfl)
 have K : Keeps (· = g) w (w.setCell ⟨g, i, none⟩ (.int .u8 (v : Nat))) := (Keeps.refl _ _).setOne _ _
 have hd : Bytes (w.setCell ⟨g, i, none⟩ (.int .u8 (v : Nat))) ds D.n (upd D.d i v) := by
  refine ⟨by rw [bytesL_len]; omega, .inr ⟨g, cap, cur.setIfInBounds i (.int .u8 (v : Nat)), hds, Nat.zero_le _, heap_set_same _ hg, hc, by unfold maxLen; omega, ?_, ?_⟩⟩
  ·rw [Array.size_setIfInBounds]; omega
  ·rw [Nat.mul_one, Array.toList_setIfInBounds, List.take_set, htk, bytesL_set]
 refine ⟨_, by rw [cell_at hg]; exact Array.getElem?_eq_getElem (by omega), fun k => free_at hg, heap_lt hg, { obj := ?_, disk := hd, log := row_of_heap H.log fun k hk => K.block k (H.log.lt k hk).2 (fun e => H.d3 g (by rw [hds]; rfl) (by rw [← e]; exact hk)), d1 := H.d1, d2 := H.d2, d3 := H.d3, ok := { H.ok with d := upd_lt H.ok.d i v hv } }⟩
 rw [K.block b (heap_lt H.obj) hgb]; exact H.obj
theorem rput_idle (H : IdeIn 108 w b ds lv D) (v : Int) (hm : D.mode ≠ 2) :
    Calls Tryz.prog 111 #[.pointer (some ⟨b, 0, none⟩), .int .u8 v] w fun e w' => e = .returned (.tuple #[]) ∧ w = w' := by
 obtain ⟨-, -, -, -, -, -, -, -, -, -, k10, -⟩ := H.facts
 have g : ((D.mode : Int) != 2) = true := by simp; omega
 clear H hm
 go_enter Tryz.func111, Tryz.ntmps111
 go_wp2_with fail
 go_returns
 exact ⟨rfl, rfl⟩
theorem rput_live (H : IdeIn 108 w b ds lv D) (v : Nat) (hv : v < 256) (hm : D.mode = 2) (hd : D.done < 512) (hL : D.log.length < 17592186044416) :
    Calls Tryz.prog 111 #[.pointer (some ⟨b, 0, none⟩), .int .u8 v] w fun e w' => e = .returned (.tuple #[]) ∧ ∃ lv', IdeIn 108 w' b ds lv' (D.putB v) ∧ Keeps (Held b ds lv) w w' ∧ ∀ k, lv'.ownBlock = some k → lv.ownBlock = some k ∨ w.heap.size ≤ k := by
 obtain ⟨-, -, -, -, -, -, -, -, -, k9, k10, -, -, -, kf, klt⟩ := H.facts
 have kb := H.buf D.done hd
 rw [hm] at k10
 have q0 : (0 : Int) ≤ (D.done : Int) := by omega
 have q1 : (D.done : Int) < 512 := by omega
 have E0 := turned H (Blk.drew (Blk.buf (Blk.of H) D.done v _ rfl hd)) ((Keeps.refl _ w).setOne _ _).drew (Dk.buf_ok H.ok _ v hv) rfl rfl rfl
 have HE := Lib.hid E0
 clear E0
 have HM := Lib.hid hm
 have HOK := Lib.hid H.ok
 have HLL := Lib.hid hL
 clear hL
 clear H hm
 generalize D.buf D.done = u at *
 obtain ⟨dn, hdn⟩ : ∃ dn, dn = D.done := ⟨_, rfl⟩
 rw [← hdn] at k9 kb q0 q1 HE
 have HDN := Lib.hid hdn
 clear hdn hd
 go_enter Tryz.func111, Tryz.ntmps111
 go_wp2_with fail
 go_region
 have E := HE.out
 clear HE k9 k10 kf klt kb
 generalize (w.setCell ⟨b, 9 + dn, none⟩ (.int .u8 (v : Nat))).drew = w1 at *
 obtain ⟨H1, K1⟩ := E
 have B2 := Blk.done (Blk.of H1) (dn + 1) ((dn : Int) + 1) (by omega)
 obtain ⟨-, -, -, -, -, -, -, -, -, k9, k10, -, -, -, kf, klt⟩ := H1.facts
 have k9' : w1.cell? ⟨b, 521, none⟩ = some (.int .i64 (dn : Nat)) := by rw [k9, HDN.out]; rfl
 have K2 : Keeps (· = b) w (w1.setCell ⟨b, 521, none⟩ (.int .i64 ((dn : Int) + 1))) := K1.setOne _ _
 have e1 : (D.setBuf dn v).setDone (dn + 1) = D.put1 v := by rw [HDN.out]; rfl
 rw [e1] at B2
 have HH1 := Lib.hid H1
 have HB2 := Lib.hid B2
 clear H1 B2 k9 k10 K1 e1
 by_cases hlt : dn + 1 < 512
 ·have g : (dn : Int) + 1 < 512 := by omega
  go_wp2_with fail
  go_returns
  have e : D.putB v = D.put1 v := by unfold Dk.putB; rw [if_pos HM.out, if_pos (by rw [← HDN.out]; exact hlt)]
  rw [e]
  have E := turned HH1.out HB2.out ((Keeps.refl _ w1).setOne _ _) (Dk.put1_ok HOK.out v hv (by rw [← HDN.out]; omega)) rfl rfl rfl
  exact ⟨rfl, lv, E.1, K2.mono fun k _ h => .inl h, fun k h => .inl h⟩
 ·have hd2 : dn = 511 := by omega
  have E2 := turned HH1.out HB2.out ((Keeps.refl _ w1).setOne _ _) (Dk.put1_ok HOK.out v hv (by rw [← HDN.out]; omega)) rfl rfl rfl
  have HD2 := Lib.hid hd2
  clear hd2
  go_upto_region 3 with (fail)
  clear HH1 HB2 k9' kf klt hlt
  have HK2 := Lib.hid K2
  clear K2
  generalize w1.setCell ⟨b, 521, none⟩ (.int .i64 ((dn : Int) + 1)) = w2 at *
  obtain ⟨H2, -⟩ := E2
  obtain ⟨-, -, -, -, -, -, -, -, -, k9, k10, k11, -, k13, kf, klt⟩ := H2.facts
  have e9 : (D.put1 v).done = 512 := by show D.done + 1 = 512; rw [← HDN.out, HD2.out]
  rw [e9] at k9
  have k9' : w2.cell? ⟨b, 521, none⟩ = some (.int .i64 512) := k9
  clear e9 k9
  have HH2 := Lib.hid H2
  clear H2
  by_cases hp : (D.put1 v).place < (D.put1 v).n
  ·have hn64 := HH2.out.ok.n
   obtain ⟨g, cap, cur, hds, hg, hc, hcm, hsz, htk⟩ := HH2.out.disk.open (by omega)
   have HS := Lib.hid (rthere_in HH2.out)
   rw [decide_eq_true hp] at HS
   have HDS := Lib.hid hds
   have HPP := Lib.hid hp
   have HPL0 := Lib.hid (fun (w1 : World) (h : w1.heap = w2.heap) => rplace_in (HH2.out.of_heap (w' := w1) (fun k _ => by rw [h])))
   have HCAP := Lib.hid (And.intro hc hcm)
   have hL : (D.put1 v).place * 512 + 512 ≤ (D.put1 v).n * 512 := by omega
   have hpl64 : (D.put1 v).place < 64 := by omega
   clear hp hds hg hsz htk hc hcm
   go_wp2_with fail
   refine HS.out.mono ?_
   rintro e w3 ⟨rfl, m0, rfl⟩
   go_wp2_with fail
   refine (HPL0.out (w2.drewN m0) rfl).mono ?_
   rintro e w3 ⟨rfl, m1, rfl⟩
   obtain ⟨p, hpe⟩ : ∃ p, p = (D.put1 v).place := ⟨_, rfl⟩
   have HPE := Lib.hid hpe
   rw [← hpe] at hpl64 hL ⊢
   have HNN := Lib.hid hn64
   obtain ⟨L, hLe⟩ : ∃ L, L = (D.put1 v).n * 512 := ⟨_, rfl⟩
   rw [← hLe] at hL
   have hL2 : L ≤ 32768 := by rw [hLe]; omega
   have HLE := Lib.hid hLe
   clear hpe hLe hn64
   go_wp2_with fail
   go_loopw [6] (fun i wc => ∃ k : Nat, k ≤ 512 ∧ i = .int .i64 k ∧ IdeIn 108 wc b ds lv ((D.put1 v).flushK (p * 512) k) ∧ Keeps (· = g) w2 wc) (fun i _ => 512 - (intOf i).toNat)
   case atStart => exact ⟨0, by omega, rfl, by rw [Dk.flushK_zero]; exact HH2.out.drewN (m0 + m1), (Keeps.refl _ w2).drewN (m0 + m1)⟩
   case round =>
    clear k9' k10 k11 k13 kf klt
    obtain ⟨k, hk, rfl, HI, KI⟩ := hrel
    obtain ⟨j0, -, -, -, -, -, -, -, -, j9, j10, j11, -, j13, jf, jlt⟩ := HI.facts
    have HHI := Lib.hid HI
    have HKI := Lib.hid KI
    clear HI KI
    rw [HDS.out, ← HLE.out] at j0
    by_cases h5 : k < 512
    ·have r1 : (0 : Int) ≤ (k : Int) := by omega
     have r2 : (k : Int) < 512 := by omega
     have hcell : wr.cell? ⟨b, 9 + k, none⟩ = some (.int .u8 ((D.put1 v).buf k : Nat)) := HHI.out.buf k h5
     obtain ⟨y, hy⟩ : ∃ y, y = (D.put1 v).buf k := ⟨_, rfl⟩
     have HY := Lib.hid hy
     rw [← hy] at hcell
     clear hy
     have hoff : p * 512 + k < ((D.put1 v).flushK (p * 512) k).n * 512 := by show p * 512 + k < (D.put1 v).n * 512; rw [← HLE.out]; omega
     obtain ⟨u0, hu0, hfu, hgl, HPK⟩ := HHI.out.poke (g := g) (cap := cap) HDS.out hoff y (by rw [HY.out]; exact HHI.out.ok.buf k)
     have HN := Lib.hid (show IdeIn 108 (wr.setCell ⟨g, p * 512 + k, none⟩ (.int .u8 (y : Nat))) b ds lv ((D.put1 v).flushK (p * 512) (k + 1)) from by rw [Dk.flushK_succ, ← HY.out]; exact HPK)
     have hgb : g ≠ b := fun e => HHI.out.d1 (by rw [HDS.out, e]; rfl)
     have HSS := Lib.hid (show (wr.setCell ⟨g, p * 512 + k, none⟩ (.int .u8 (y : Nat))).drew.cell? ⟨b, 0, none⟩ = some (.slice (some ⟨g, 0, none⟩) L cap) ∧ (wr.setCell ⟨g, p * 512 + k, none⟩ (.int .u8 (y : Nat))).drew.cell? ⟨b, 9 + k, none⟩ = some (.int .u8 (y : Nat)) from
      ⟨(Keeps.cell (S := (· = g)) (((Keeps.refl _ wr).setOne (p * 512 + k) _).drew) (cell_block_lt j0) (fun e => hgb e.symm)).trans j0, (Keeps.cell (S := (· = g)) (((Keeps.refl _ wr).setOne (p * 512 + k) _).drew) (cell_block_lt hcell) (fun e => hgb e.symm)).trans hcell⟩)
     have s1 : IntKind.i64.wrap ((p : Int) * 512 + (k : Int)) = (p : Int) * 512 + (k : Int) := wraps_i64 _ (by omega) (by omega)
     have s2 : (0 : Int) ≤ (p : Int) * 512 + (k : Int) := by omega
     have s3 : (p : Int) * 512 + (k : Int) < L := by omega
     have s4 : ((p : Int) * 512 + (k : Int)).toNat = p * 512 + k := by omega
     clear HPK hoff
     go_wp2_with fail
     go_region_held3 (fun w' => w'.cell? ⟨b, 0, none⟩ = some (.slice (some ⟨g, 0, none⟩) L cap) ∧ w'.cell? ⟨b, 9 + k, none⟩ = some (.int .u8 (y : Nat))) (first | exact HSS.out | go_keep) (fail)
     all_goals
      clear s1 s2 s3 s4
      go_wp2_with fail
      go_roundw
      case rel => exact ⟨k + 1, by omega, by go_num, HN.out.drewN 1, (HKI.out.setOne _ _).drew⟩
      case measure => (simp [intOf]) <;> omega
    ·have r2 : (512 : Int) ≤ (k : Int) := by omega
     have e5 : k = 512 := by omega
     have HH3 := Lib.hid (show IdeIn 108 wr b ds lv ((D.put1 v).flushAt (p * 512)) from by have h := HHI.out; rw [e5] at h; exact h)
     have K3 := HKI.out
     clear HHI HKI e5 j0 j9 j10 j11 j13 jf jlt h5 hk
     go_upto_region 12 with (fail)
     generalize hWr : wr = W3 at *
     clear hWr
     obtain ⟨o, ho⟩ : ∃ o, o = p * 512 := ⟨_, rfl⟩
     rw [← ho] at HH3
     have HO := Lib.hid (show o = (D.put1 v).place * 512 by rw [ho, HPE.out])
     clear ho
     have hpl : ((D.put1 v).flushAt o).place = (D.put1 v).place := Dk.flushAt_place _ _
     have hplt : (D.put1 v).place < 64 := by have := HPP.out; have := HH2.out.ok.n; omega
     have HPL := Lib.hid hpl
     have HPT := Lib.hid hplt
     have hll : ((D.put1 v).flushAt o).log.length < 17592186044416 := by rw [Dk.flushAt_log, Dk.put1_log]; exact HLL.out
     have HL2 := Lib.hid hll
     clear hll
     have c3 := HH3.out.facts.2.2.2.2.2.2.2.2.2.2.2.2.2.1
     clear hpl hplt
     go_region_law (first
      | (go_simp; refine (rplace_in (w := W3.drew) (HH3.out.drewN 1)).mono ?_; rintro e w4 ⟨rfl, m4, hw4⟩; have HH4 := Lib.hid (show IdeIn 108 w4 b ds lv ((D.put1 v).flushAt o) from by rw [hw4]; exact (HH3.out.drewN 1).drewN m4); have c4 := HH4.out.facts.2.2.2.2.2.2.2.2.2.2.2.2.2.1; have hb4 : b < w4.heap.size := HH4.out.facts.2.2.2.2.2.2.2.2.2.2.2.2.2.2.2; rw [HPL.out]; have HW4 := Lib.hid (show Keeps (Held b ds lv) W3 w4 from by rw [hw4]; exact ((Keeps.refl _ W3).drewN 1).drewN m4); clear hw4; dsimp only)
      | (refine step_append_log HH4.out (D.put1 v).place HPT.out HL2.out (by rfl) _ _ (by rfl) (by rfl) (by rfl) ?_; intro a6 n6 q6 w6 c6 f6 l6 H6 X6))
     all_goals
      have e6 : ((D.put1 v).flushAt o).logAt (D.put1 v).place = (D.put1 v).write := by rw [HO.out]; rfl
      have K5 : Keeps (Held b ds lv) w (w6.setCell ⟨b, 525, none⟩ (.slice a6 n6 q6)) := (((HK2.out.mono fun k _ h => Or.inl h).trans (K3.mono fun k _ h => Or.inr (Or.inl (by rw [h, HDS.out]; rfl)))).trans HW4.out).trans X6.out.1
      have N5 : ∀ k, (Value.slice a6 n6 q6).ownBlock = some k → lv.ownBlock = some k ∨ w.heap.size ≤ k := fun k h => (X6.out.2 k h).imp id (fun h => Nat.le_trans (Nat.le_trans HK2.out.size (Nat.le_trans K3.size HW4.out.size)) h)
      rw [e6] at H6
      have HK5 := Lib.hid K5
      have HN5 := Lib.hid N5
      clear X6 c6 f6 l6 c4 hb4 K5 N5 e6
      generalize w6.setCell ⟨b, 525, none⟩ (.slice a6 n6 q6) = w7 at *
      go_wp2_with fail
      refine (rone_in H6.out).mono ?_
      rintro e w8 ⟨rfl, H8, K8⟩
      obtain ⟨-, -, -, -, -, -, -, -, -, -, -, j11, -, -, jf, jlt⟩ := H8.facts
      have HH8 := Lib.hid H8
      clear H8
      go_wp2_with fail
      go_end0
      have e : D.putB v = ({ (D.put1 v).write.next with mark := true } : Dk) := Dk.putB_full D v HM.out (by rw [← HDN.out, HD2.out]; decide) HPP.out
      rw [e]
      have E := turned HH8.out (Blk.mark (Blk.of HH8.out) true) ((Keeps.refl _ w8).setOne _ _) (Dk.marked_ok HH8.out.ok) rfl rfl rfl
      exact ⟨rfl, .slice a6 n6 q6, E.1, HK5.out.trans ((K8.trans E.2).mono fun k _ h => .inl h), HN5.out⟩
  ·have HS := Lib.hid (rthere_in HH2.out)
   rw [decide_eq_false hp] at HS
   have HPP := Lib.hid hp
   clear hp
   go_wp2_with fail
   refine HS.out.mono ?_
   rintro e w3 ⟨rfl, m, rfl⟩
   go_wp2_with fail
   refine (rfail_in (HH2.out.drewN m) 16 (by decide)).mono ?_
   rintro e w4 ⟨rfl, H4, K4⟩
   go_wp2_with fail
   go_returns
   have e : D.putB v = (D.put1 v).fail 16 := Dk.putB_gone D v HM.out (by rw [← HDN.out, HD2.out]; decide) HPP.out
   rw [e]
   exact ⟨rfl, lv, H4, ((HK2.out.drewN m).trans K4).mono fun k _ h => .inl h, fun k h => .inl h⟩
end
end Go.Proofs.YtojmpdddfnkffaaGreat.Ide

