/- Steps of a proof: ExAw, PicOut, ExOut, ExStart, together. -/
import Derived.Test.YtmpcafdgkbpneaaGreatS28
import Derived.Test.YtmpcafdgkbpneaaGreatS14
import Derived.Test.YtmpcafdgkbpneaaGreatS29
import Derived.Test.YtmpcafdgkbpneaaGreatS34
import Derived.StillTailTactics
import Derived.Lib.BitFns
import Derived.Test.YtmpcafdgkbpneaaGreatS38
/- except's laws, plainly: the state that they start from; the calls at their head. -/
open List renaming getElem_toArray → lz0, getElem_cons_zero → lz1, getElem_cons_succ → lz2, setIfInBounds_toArray → lz3, set_cons_zero → lz4, set_cons_succ → lz5
set_option maxHeartbeats 4000000
set_option maxRecDepth 20000
namespace Go.Proofs.YtmpcafdgkbpneaaGreat
open Go.RowKit
set_option linter.unusedVariables false

def tabA (i : Nat) : Nat := if i < 10 then (tabHead.getD i (0, 0)).1 else 3072 + 8 * ((i - 10) / 2) + 4 * ((i - 10) % 2)
def tabV (kind i : Nat) : Nat := if i < 10 then (tabHead.getD i (0, 0)).2 else if (i - 10) % 2 = 0 then 548864 + 16 * ((i - 10) / 2) else kind
def startC (ring : Nat) : CpuS :=
 {r := fun i => if i = 4 then 36864 else 0, eip := 256, flags := 514, seg := fun i => if i = 1 then flatSeg (if ring = 3 then 27 else 8) 10 ring else flatSeg (if ring = 3 then 35 else 16) 2 ring, cr0 := 1, cr2 := 0, cr3 := 0, gb := 2048, gl := 47, ib := 3072, il := 511, tr := ⟨40, false, 2560, 103, 9, true, 0, true, false⟩, shadow := false, halted := false, dead := false }
def startR (kind : Nat) : RS := bothR 16 tabA (tabV kind) 138 (fun _ => 0) 0
def startS (ring kind : Nat) : Es := ⟨startC ring, startR kind⟩
def aw0s : Es := startS 0 36352
def aw1s : Es := (triedE (enterE 3 (-1) false) aw0s).2
theorem aw1_f : (triedE (enterE 3 (-1) false) aw0s).1 = noF := by kernel_rfl
theorem aw1_c : aw1s.C.eip = 24624 ∧ aw1s.C.r 4 = 36852 ∧ aw1s.C.flags = 2 := ⟨by kernel_rfl, by kernel_rfl, by kernel_rfl⟩
def aw2s : Es := (triedE (returnE 4) aw1s).2
theorem aw2_f : (triedE (returnE 4) aw1s).1 = noF := by kernel_rfl
theorem aw2_c : aw2s.C.cells = (startC 0).cells := by kernel_rfl
def aw3s : Es := (triedE (enterE 200 (-1) true) aw2s).2
theorem aw3_f : (triedE (enterE 200 (-1) true) aw2s).1 = ⟨13, 1602, 0⟩ := by kernel_rfl
def aw4s : Es := ⟨{ aw3s.C with il := 0 }, aw3s.R⟩
theorem aw4_f : (faultN 5 ⟨6, -1, 0⟩ aw4s).1 = none := by kernel_rfl
theorem aw4_d : (faultN 5 ⟨6, -1, 0⟩ aw4s).2.C.dead = true := by kernel_rfl
end Go.Proofs.YtmpcafdgkbpneaaGreat

/- pic: all lines of the first chip are masked. -/
namespace Go.Proofs.YtmpcafdgkbpneaaGreat.Pic
open Go.RowKit
set_option linter.unusedVariables false
set_option linter.unusedSimpArgs false
theorem with_33 (b k : Nat) (c d : Chip) (hok : c.ok) (h0 : c.stage = 0) (v : Nat) (hv : v < 256) (w : World) (H : Pair w b c d) (kv : w.cell? ⟨k, 0, none⟩ = some (.int .u8 v)) (hkb : k ≠ b) :
    Calls Tryz.prog 178 #[.pointer (some ⟨b, 0, none⟩), .int .i64 1, .func (.func 179) #[] #[.pointer (some ⟨k, 0, none⟩)]] w fun r w' => r = .returned (.int .i64 0) ∧ Pair w' b { c with masked := v } d ∧ Keeps (· = b) w w' := by
 have hcf := cfOut
 have kf := H.facts.2.2.2.2.2.2.2.2.2.2.2.2.2.2.2.2.2.2.2.2.1
 have hx := d0_c b k c d hok v hv h0 w H kv hkb
 have HX := Lib.hid hx
 clear hx h0
 go_enter Tryz.func178, Tryz.ntmps178
 go_wp2_with fail
 refine HX.out.mono ?_
 rintro r w1 ⟨rfl, H1, hk⟩
 go_wp2_with fail
 go_returns
 exact ⟨rfl, H1, hk⟩
theorem out_33 (b : Nat) (c d : Chip) (hc : c.ok) (h0 : c.stage = 0) (v : Nat) (hv : v < 256) (w : World) (H : Pair w b c d) :
    Calls Tryz.prog 143 #[.pointer (some ⟨b, 0, none⟩), .int .i64 1, .int .u8 v] w fun r w' => r = .returned (.int .i64 0) ∧ Pair w' b { c with masked := v } d ∧ Keeps (· = b) w w' := by
 have hlt := heap_lt H
 have H0 := Lib.hid h0
 clear h0
 go_enter Tryz.func143, Tryz.ntmps143
 go_wp2_with fail
 refine (with_33 b w.heap.size c d hc H0.out v hv _ (heap_alloc_lt H) (by rw [cell_at (heap_new w (.cells #[.int .u8 v] _))]; rfl) (by omega)).mono ?_
 rintro r w1 ⟨rfl, H1, hk⟩
 go_wp2_with fail
 go_returns
 exact ⟨rfl, H1, Keeps.trans ((Keeps.refl _ _).alloc _) hk⟩
theorem masked_ok {c : Chip} (h : c.ok) (v : Nat) (hv : v < 256) : ({ c with masked := v } : Chip).ok := { h with masked := hv }
end Go.Proofs.YtmpcafdgkbpneaaGreat.Pic

/- except's laws: no line is let through. -/
namespace Go.Proofs.YtmpcafdgkbpneaaGreat
open Go.RowKit Go.MapKept
set_option linter.unusedVariables false
set_option linter.unusedSimpArgs false

def Bs.m33 (B : Bs) : Bs := { B with c := { B.c with masked := 255 } }
theorem dev33 : dev 33 = some (0, 1) := by decide
section
variable {b pp pt pu pi pm mp : Nat} {B : Bs} {w0 w : World} {A0 : Nat → Prop}
theorem pic_33 {c d : Pic.Chip} (h0 : c.stage = 0) : Acts 143 #[.pointer (some ⟨b, 0, none⟩), .int .i64 1, .int .u8 255] (oPic b c d) (.int .i64 0) (oPic b { c with masked := 255 } d) := by
 rintro w A ⟨H, ok, e⟩
 refine (Pic.out_33 b c d ok.1 h0 255 (by decide) w H).mono ?_
 rintro x w1 ⟨rfl, H1, K⟩
 exact ⟨rfl, A, ⟨H1, ⟨Pic.masked_ok ok.1 255 (by decide), ok.2⟩, e⟩, moves_one e K⟩
theorem outPic_33 (h0 : B.c.stage = 0) (T : Hp w0 A0 w (busObs b pp pt pu pi pm mp B)) :
    Calls Tryz.prog 80 #[.pointer (some ⟨b, 0, none⟩), .int .i64 1, .int .u8 255] w fun e w' => e = .returned (.tuple #[]) ∧ Hp w0 A0 w' (busObs b pp pt pu pi pm mp B.m33) := by
 obtain ⟨k0, k1, k2, k3, k4, k5, k6, k7, kf, kl⟩ := bus_facts T.bus
 have H0 := Lib.hid h0
 clear h0
 go_enter Tryz.func80, Tryz.ntmps80
 go_wp2_with fail
 refine (T.act 1 rfl (pic_33 H0.out)).mono ?_
 rintro e w1 ⟨rfl, T1⟩
 go_wp2_with fail
 go_returns
 exact ⟨rfl, T1⟩
theorem zero_port1 (w : World) : (zeroValue 137).run Tryz.prog w = .ok (.agg #[.nilFunc, .nilFunc, .int .i64 0]) w := by kernel_rfl
theorem Hp.look33 (T : Hp w0 A0 w (busObs b pp pt pu pi pm mp B)) (x : Int) (hx : x = 33) :
    (Instr.lookup 130 (.map (some mp)) (.int .u16 x) true).run Tryz.prog w = .ok (.tuple #[.agg #[.func (.func 80) #[.pointer (some ⟨b, 0, none⟩)] #[], .func (.func 81) #[.pointer (some ⟨b, 0, none⟩)] #[], .int .i64 1], .bool true]) w := by
 obtain ⟨A, a⟩ := T.get 6 rfl
 rw [a.1.lookupOk (k := 27) (e := 137) (by kernel_rfl) (by kernel_rfl) (zero_port1 w) 33 x hx]
 unfold prt
 rw [dev33]
 rfl
theorem check_33 (w : World) : Calls Tryz.prog 58 #[.pointer (some ⟨b, 0, none⟩), .int .i64 1] w fun e w' => e = .returned (.int .i64 0) ∧ w = w' := by
 go_enter Tryz.func58, Tryz.ntmps58
 go_wp2_with fail
 go_ret
 exact ⟨rfl, rfl⟩
theorem out_33 (h : B.ok) (h0 : B.c.stage = 0) (T : Hp w0 A0 w (busObs b pp pt pu pi pm mp B)) :
    Calls Tryz.prog 23 #[.pointer (some ⟨b, 0, none⟩), .int .u16 33, .int .i64 1, .int .u32 255] w fun e w' => e = .returned (.int .i64 0) ∧ Hp w0 A0 w' (busObs b pp pt pu pi pm mp B.m33.lines) := by
 have HO := Lib.hid h
 have H0 := Lib.hid h0
 clear h h0
 have HT := Lib.hid T
 clear T
 go_enter Tryz.func23, Tryz.ntmps23
 go_wp2_with fail
 refine (check_33 w).mono ?_
 rintro e w1 ⟨rfl, rfl⟩
 go_wp2_with fail
 go_loopw [30] (fun i wr => ∃ k : Nat, k ≤ 1 ∧ i = .int .i64 k ∧ Hp w0 A0 wr (busObs b pp pt pu pi pm mp (if k = 0 then B else B.m33))) (fun i _ => 1 - (intOf i).toNat)
 case atStart => exact ⟨0, by omega, rfl, HT.out⟩
 case round =>
  rename_i wr
  obtain ⟨k, hk, rfl, T⟩ := hrel
  by_cases hlt : k < 1
  ·have hk0 : k = 0 := by omega
   rw [if_pos hk0] at T
   have HK := Lib.hid hk0
   have hkey : (33 : Int) + (k : Int) = 33 := by omega
   have hw : IntKind.i64.wrap (8 * (k : Int)) = 8 * (k : Int) := IntWalk.i64_in _ (by omega)
   have q2 : (0 : Int) ≤ 8 * (k : Int) := by omega
   have q3 : (8 : Int) * (k : Int) ≤ 32 := by omega
   obtain ⟨k0, k1, k2, k3, k4, k5, k6, k7, kf, kl⟩ := bus_facts T.bus
   have lk := T.look33 _ hkey
   have HT1 := Lib.hid T
   clear T hk hkey hk0
   go_upto_region 12 with (fail)
   clear lk k0 k1 k2 k3 k4 k5 k6 k7 kf kl
   obtain ⟨O, hO⟩ : ∃ O, O = Obj.cells #[.func (.func 80) #[.pointer (some ⟨b, 0, none⟩)] #[], .func (.func 81) #[.pointer (some ⟨b, 0, none⟩)] #[], .int .i64 1] 137 := ⟨_, rfl⟩
   have T2 := HT1.out.alloc O
   have hb := heap_new wr O
   rw [hO] at hb
   have hl := heap_lt hb
   rw [hO] at T2
   clear hO
   generalize wr.alloc (.cells #[.func (.func 80) #[.pointer (some ⟨b, 0, none⟩)] #[], .func (.func 81) #[.pointer (some ⟨b, 0, none⟩)] #[], .int .i64 1] 137) = W at *
   generalize wr.heap.size = g at *
   have x0 : W.cell? ⟨g, 0, none⟩ = some (.func (.func 80) #[.pointer (some ⟨b, 0, none⟩)] #[]) := by rw [cell_at hb]; rfl
   have x2 : W.cell? ⟨g, 2, none⟩ = some (.int .i64 1) := by rw [cell_at hb]; rfl
   have HT2 := Lib.hid T2.drew
   clear hb T2
   go_still_tail 9, (by kernel_rfl)
   change wpList _ _ _ _ _ W.drew
   go_wp2_with fail
   rw [show (255 : Int) / 2 ^ (8 * k) % 256 = 255 by rw [HK.out]; rfl]
   refine (outPic_33 H0.out HT2.out).mono ?_
   rintro e w2 ⟨rfl, T3⟩
   have HT3 := Lib.hid T3
   clear T3
   go_wp2_with fail
   go_roundw
   case rel => exact ⟨k + 1, by have := HK.out; omega, by go_num, by rw [if_neg (by omega)]; exact HT3.out⟩
   case measure => (have := HK.out; simp [intOf]) <;> omega
  ·obtain rfl : k = 1 := by omega
   rw [if_neg (by decide)] at T
   clear hk hlt
   have HT3 := Lib.hid T
   clear T HT
   rw [show ((1 : Nat) : Int) = 1 from rfl]
   go_wp2_with fail
   refine (lines_hp (B := B.m33) ⟨HO.out.T, HO.out.t⟩ HT3.out).mono ?_
   rintro e w2 ⟨rfl, T3⟩
   go_wp2_with fail
   go_ret
   exact ⟨rfl, T3⟩
theorem bus_33 (h : B.ok) (h0 : B.c.stage = 0) : Acts 23 #[.pointer (some ⟨b, 0, none⟩), .int .u16 33, .int .i64 1, .int .u32 255] (oBus b pm B) (.int .i64 0) (oBus b pm B.m33.lines) :=
 acts_bus fun w0 w A0 pp pt pu pi mp T => out_33 h h0 T
end
end Go.Proofs.YtmpcafdgkbpneaaGreat

/- except's laws: what they start from. -/
namespace Go.Proofs.YtmpcafdgkbpneaaGreat
open Go.RowKit Go.MapKept
set_option linter.unusedVariables false
set_option linter.unusedSimpArgs false
attribute [local go_sem ↓] Go.wp_at_zero Go.wp_at_succ

section
variable {w0 w w' : World} {A0 : Nat → Prop} {os : List Ob}
theorem c_facts {cb : Nat} {C : CpuS} (T : Hp w0 A0 w (Ob.box cb (.cells C.cells.toArray 36) :: os)) : (∀ k, w.cell? ⟨cb, k, none⟩ = C.cells.toArray[k]?) ∧ (∀ k, w.frozen? ⟨cb, k, none⟩ = false) ∧ cb < w.heap.size :=
 ⟨fun k => cell_at (T.box 0 rfl), fun k => free_at (T.box 0 rfl), heap_lt (T.box 0 rfl)⟩
theorem startC_ok : (startC 0).ok := by
 refine ⟨fun i => ?_, by decide, by decide, fun i => ?_, by decide, by decide, by decide, by decide, by decide, by decide, by decide, ?_⟩
 ·show (if i = 4 then 36864 else 0) < _
  split <;> decide
 ·show (if i = 1 then flatSeg 8 10 0 else flatSeg 16 2 0).ok
  split <;> exact ⟨by decide, by decide, by decide, by decide, by decide⟩
 ·exact ⟨by decide, by decide, by decide, by decide, by decide⟩
theorem st_cells : (((((((((((((((((flatC 0).cells.toArray.setIfInBounds 67 (.int .u32 2048)).setIfInBounds 68 (.int .u16 47)).setIfInBounds 69 (.int .u32 3072)).setIfInBounds 70 (.int .u16 511)).setIfInBounds 4 (.int .u32 36864)).setIfInBounds 8 (.int .u32 256)).setIfInBounds 9 (.int .u32 514)).setIfInBounds 71 (.int .u16 40)).setIfInBounds 72 (.bool false)).setIfInBounds 73 (.int .u32 2560)).setIfInBounds 74 (.int .u32 103)).setIfInBounds 75 (.int .i64 9)).setIfInBounds 76 (.bool true)).setIfInBounds 77 (.int .i64 0)).setIfInBounds 78 (.bool true)).setIfInBounds 79 (.bool false)) = (startC 0).cells.toArray := by kernel_rfl
theorem c_range0 {cb : Nat} {cL : List Value} (T : Hp w0 A0 w (Ob.box cb (.cells cL.toArray 36) :: os)) : w.rangeAt cb 0 cL := fun j v hv => by
 rw [Nat.zero_add, cell_at (T.box 0 rfl), List.getElem?_toArray, hv]
theorem env_84 {C : CpuS} {vb bb : Nat} : (envCells C vb bb)[84]? = some (.pointer (some ⟨bb, 0, none⟩)) := by kernel_rfl
theorem tab_eq (kind : Nat) : tabW kind 64 = (List.range 138).map fun i => (tabA i, tabV kind i) := by kernel_rfl
theorem words_st {kind : Nat} (hk : kind < 4294967296) {base : Nat} {v : Value} (h : w.ownsRow base 121 2 v 138 (cellsOf (tabW kind 64))) : ∃ a c, v = .slice a 138 c ∧ WordsIn w a 138 tabA (tabV kind) := by
 have hl : (tabW kind 64).length = 138 := tabW_len kind 64
 have hg : ∀ i, i < 138 → (tabW kind 64).getD i (0, 0) = (tabA i, tabV kind i) := fun i hi => by
  rw [tab_eq, List.getD_eq_getElem?_getD, List.getElem?_map, List.getElem?_range hi]; rfl
 have hb : ∀ i, i < 138 → tabA i < 4294967296 ∧ tabV kind i < 4294967296 := fun i hi => by
  have h1 : ∀ i, i < 10 → (tabHead.getD i (0, 0)).1 < 4294967296 ∧ (tabHead.getD i (0, 0)).2 < 4294967296 := by decide
  unfold tabA tabV
  split
  ·exact h1 i (by assumption)
  ·constructor
   ·omega
   ·split <;> omega
 obtain ⟨a, c, e, W⟩ := words_of (ws := tabW kind 64) (by rw [hl]; exact h) (fun i hi => by rw [hg i (by omega)]; exact hb i (by omega))
 rw [hl] at e W
 refine ⟨a, c, e, W.imp id ?_⟩
 rintro ⟨b, off, e1, W1⟩
 refine ⟨b, off, e1, ⟨fun i hi => ?_, fun i hi => ?_, fun i hi => (hb i hi).1, fun i hi => (hb i hi).2, W1.lt⟩⟩
 ·have := W1.ca i hi
  rw [hg i hi] at this
  exact this
 ·have := W1.cv i hi
  rw [hg i hi] at this
  exact this
theorem Hp.under {w1 w2 : World} {os' : List Ob} (T : Hp w0 (fun _ => False) w1 os) (U : Hp w1 (fun _ => False) w2 os') : Hp w0 (fun _ => False) w2 os' := by
 obtain ⟨A, a, M⟩ := U
 obtain ⟨B, b, N⟩ := T
 have e : w0.heap.size ≤ w1.heap.size := (Hp.below ⟨B, b, N⟩).size
 refine ⟨A, a, ⟨N.1.trans M.1, fun k hk => .inr ?_⟩⟩
 ·rcases M.2 k hk with h | h
  ·exact h.elim
  ·exact Nat.le_trans e h
theorem dk2_ok (R : RS) : (dk2 R).ok := Bs.lines_ok ⟨⟨Pit.ctNew_ok 0 (Int.le_refl 0), Pit.ctNew_ok 0 (Int.le_refl 0), Pit.ctNew_ok 0 (Int.le_refl 0)⟩, by show 0 < _; decide⟩
theorem dk2_c (R : RS) : (dk2 R).c.stage = 0 := by kernel_rfl
theorem start_R (kind : Nat) : ((dk2 (startR kind)).m33.lines).R = startR kind := by
 have e : ((dk2 (startR kind)).m33.lines).R = (startR kind).gate true := rfl
 have h : (startR kind).closed = false := (Plain.both 16 tabA (tabV kind) 138 (fun _ => 0)).c
 rw [e]
 unfold RS.gate
 rw [show (!true) = (startR kind).closed by rw [h]; rfl]
theorem Hp.started {eb vb bb pm : Nat} {C : CpuS} {R : RS} {B : Bs} (T : Hp w0 A0 w (Ob.box eb (.cells (envCells C vb bb) 40) :: oVk vb ⟨8, pm⟩ 0 :: oBus bb pm B :: os)) (hC : C.ok) (hw : Wide R) (hR : B.R = R) : Hp w0 A0 w [oEn eb vb bb ⟨8, pm⟩ 0 ⟨C, R⟩] := by
 subst hR
 have T1 := T.front 2 rfl
 obtain ⟨x, T2⟩ : ∃ x : Nat × Nat × Nat × Nat × Nat, Hp w0 A0 w (Ob.all (busObs bb x.1 x.2.1 x.2.2.1 x.2.2.2.1 pm x.2.2.2.2 B) :: Ob.box eb (.cells (envCells C vb bb) 40) :: oVk vb ⟨8, pm⟩ 0 :: os) := by
  obtain ⟨A, ⟨A1, A2, ⟨x, a1⟩, a2, d, e⟩, M⟩ := T1
  exact ⟨x, A, ⟨A1, A2, a1, a2, d, e⟩, M⟩
 exact Hp.left (l1 := [oEn eb vb bb ⟨8, pm⟩ 0 ⟨C, B.R⟩]) ((((T2.open_.front 5 rfl).front 8 rfl).front 8 rfl).toEn (pl := ⟨8, pm⟩) hC hw)
theorem started0 (kind : Nat) (hk : kind < 4294967296) (w : World) : Calls Tryz.prog 10 #[.int .i64 0, .int .u32 (kind : Nat)] w fun e w' => ∃ eb vb bb pm, e = .returned (.pointer (some ⟨eb, 0, none⟩)) ∧ Hp w (fun _ => False) w' [oEn eb vb bb ⟨8, pm⟩ 0 (startS 0 kind)] := by
 have HK := Lib.hid hk
 have hz := fun w => zero83 w
 clear hk
 go_enter Tryz.func10, Tryz.ntmps10
 go_wp2_with fail
 refine (flat_any 0 w).mono ?_
 rintro e w1 ⟨he, hb1⟩
 rw [show (0 : Int).tmod 4 = 0 from rfl] at he
 subst he
 have HN := Lib.hid (heap_new w1 (.cells zero83C 36))
 have HT1 := Lib.hid (show Hp w (fun _ => False) (w1.alloc (.cells (flatC 0).cells.toArray 36)) [Ob.box w1.heap.size (.cells (flatC 0).cells.toArray 36)] from ((Hp.zero w).grow hb1).make _)
 clear hb1
 go_upto_region 2 with (first | (refine wpList_store_row rfl _ _ _ rfl w1.heap.size (flatC 0).cells.toArray rfl rfl _ _ HN.out info83 rfl (flat_one 0) ?_))
 change Code.wp _ _ _ _ ((w1.alloc (.cells zero83C 36)).setRow w1.heap.size (flatC 0).cells.toArray)
 rw [World.setRow_alloc_new]
 clear HN
 generalize w1.alloc (.cells (flatC 0).cells.toArray 36) = w2 at *
 generalize w1.heap.size = cb at *
 clear hz
 have hf := (c_facts HT1.out).2.1
 have hl := (c_facts HT1.out).2.2
 have c4 : w2.cell? ⟨cb, 4, none⟩ = some (.int .u32 0) := by rw [(c_facts HT1.out).1]; rfl
 have c8 : w2.cell? ⟨cb, 8, none⟩ = some (.int .u32 0) := by rw [(c_facts HT1.out).1]; rfl
 have c9 : w2.cell? ⟨cb, 9, none⟩ = some (.int .u32 2) := by rw [(c_facts HT1.out).1]; rfl
 have c67 : w2.cell? ⟨cb, 67, none⟩ = some (.int .u32 0) := by rw [(c_facts HT1.out).1]; rfl
 have c68 : w2.cell? ⟨cb, 68, none⟩ = some (.int .u16 0) := by rw [(c_facts HT1.out).1]; rfl
 have c69 : w2.cell? ⟨cb, 69, none⟩ = some (.int .u32 0) := by rw [(c_facts HT1.out).1]; rfl
 have c70 : w2.cell? ⟨cb, 70, none⟩ = some (.int .u16 0) := by rw [(c_facts HT1.out).1]; rfl
 have c71 : w2.cell? ⟨cb, 71, none⟩ = some (.int .u16 0) := by rw [(c_facts HT1.out).1]; rfl
 have c72 : w2.cell? ⟨cb, 72, none⟩ = some (.bool false) := by rw [(c_facts HT1.out).1]; rfl
 have c73 : w2.cell? ⟨cb, 73, none⟩ = some (.int .u32 0) := by rw [(c_facts HT1.out).1]; rfl
 have c74 : w2.cell? ⟨cb, 74, none⟩ = some (.int .u32 0) := by rw [(c_facts HT1.out).1]; rfl
 have c75 : w2.cell? ⟨cb, 75, none⟩ = some (.int .i64 0) := by rw [(c_facts HT1.out).1]; rfl
 have c76 : w2.cell? ⟨cb, 76, none⟩ = some (.bool false) := by rw [(c_facts HT1.out).1]; rfl
 have c77 : w2.cell? ⟨cb, 77, none⟩ = some (.int .i64 0) := by rw [(c_facts HT1.out).1]; rfl
 have c78 : w2.cell? ⟨cb, 78, none⟩ = some (.bool false) := by rw [(c_facts HT1.out).1]; rfl
 have c79 : w2.cell? ⟨cb, 79, none⟩ = some (.bool false) := by rw [(c_facts HT1.out).1]; rfl
 go_upto_region 15 with (fail)
 have HT2 := Lib.hid (show Hp w (fun _ => False) ((((((((((((((((w2.setCell ⟨cb, 67, none⟩ (.int .u32 2048)).setCell ⟨cb, 68, none⟩ (.int .u16 47)).setCell ⟨cb, 69, none⟩ (.int .u32 3072)).setCell ⟨cb, 70, none⟩ (.int .u16 511)).setCell ⟨cb, 4, none⟩ (.int .u32 36864)).setCell ⟨cb, 8, none⟩ (.int .u32 256)).setCell ⟨cb, 9, none⟩ (.int .u32 514)).setCell ⟨cb, 71, none⟩ (.int .u16 40)).setCell ⟨cb, 72, none⟩ (.bool false)).setCell ⟨cb, 73, none⟩ (.int .u32 2560)).setCell ⟨cb, 74, none⟩ (.int .u32 103)).setCell ⟨cb, 75, none⟩ (.int .i64 9)).setCell ⟨cb, 76, none⟩ (.bool true)).setCell ⟨cb, 77, none⟩ (.int .i64 0)).setCell ⟨cb, 78, none⟩ (.bool true)).setCell ⟨cb, 79, none⟩ (.bool false)) [Ob.box cb (.cells (((((((((((((((((flatC 0).cells.toArray.setIfInBounds 67 (.int .u32 2048)).setIfInBounds 68 (.int .u16 47)).setIfInBounds 69 (.int .u32 3072)).setIfInBounds 70 (.int .u16 511)).setIfInBounds 4 (.int .u32 36864)).setIfInBounds 8 (.int .u32 256)).setIfInBounds 9 (.int .u32 514)).setIfInBounds 71 (.int .u16 40)).setIfInBounds 72 (.bool false)).setIfInBounds 73 (.int .u32 2560)).setIfInBounds 74 (.int .u32 103)).setIfInBounds 75 (.int .i64 9)).setIfInBounds 76 (.bool true)).setIfInBounds 77 (.int .i64 0)).setIfInBounds 78 (.bool true)).setIfInBounds 79 (.bool false)) 36)] from ((((((((((((((((HT1.out.set 0 rfl 67 (.int .u32 2048)).set 0 rfl 68 (.int .u16 47)).set 0 rfl 69 (.int .u32 3072)).set 0 rfl 70 (.int .u16 511)).set 0 rfl 4 (.int .u32 36864)).set 0 rfl 8 (.int .u32 256)).set 0 rfl 9 (.int .u32 514)).set 0 rfl 71 (.int .u16 40)).set 0 rfl 72 (.bool false)).set 0 rfl 73 (.int .u32 2560)).set 0 rfl 74 (.int .u32 103)).set 0 rfl 75 (.int .i64 9)).set 0 rfl 76 (.bool true)).set 0 rfl 77 (.int .i64 0)).set 0 rfl 78 (.bool true)).set 0 rfl 79 (.bool false)))
 rw [st_cells] at HT2
 change Code.wp _ _ _ _ ((((((((((((((((w2.setCell ⟨cb, 67, none⟩ (.int .u32 2048)).setCell ⟨cb, 68, none⟩ (.int .u16 47)).setCell ⟨cb, 69, none⟩ (.int .u32 3072)).setCell ⟨cb, 70, none⟩ (.int .u16 511)).setCell ⟨cb, 4, none⟩ (.int .u32 36864)).setCell ⟨cb, 8, none⟩ (.int .u32 256)).setCell ⟨cb, 9, none⟩ (.int .u32 514)).setCell ⟨cb, 71, none⟩ (.int .u16 40)).setCell ⟨cb, 72, none⟩ (.bool false)).setCell ⟨cb, 73, none⟩ (.int .u32 2560)).setCell ⟨cb, 74, none⟩ (.int .u32 103)).setCell ⟨cb, 75, none⟩ (.int .i64 9)).setCell ⟨cb, 76, none⟩ (.bool true)).setCell ⟨cb, 77, none⟩ (.int .i64 0)).setCell ⟨cb, 78, none⟩ (.bool true)).setCell ⟨cb, 79, none⟩ (.bool false))
 clear HT1 hf hl c4 c8 c9 c67 c68 c69 c70 c71 c72 c73 c74 c75 c76 c77 c78 c79
 generalize ((((((((((((((((w2.setCell ⟨cb, 67, none⟩ (.int .u32 2048)).setCell ⟨cb, 68, none⟩ (.int .u16 47)).setCell ⟨cb, 69, none⟩ (.int .u32 3072)).setCell ⟨cb, 70, none⟩ (.int .u16 511)).setCell ⟨cb, 4, none⟩ (.int .u32 36864)).setCell ⟨cb, 8, none⟩ (.int .u32 256)).setCell ⟨cb, 9, none⟩ (.int .u32 514)).setCell ⟨cb, 71, none⟩ (.int .u16 40)).setCell ⟨cb, 72, none⟩ (.bool false)).setCell ⟨cb, 73, none⟩ (.int .u32 2560)).setCell ⟨cb, 74, none⟩ (.int .u32 103)).setCell ⟨cb, 75, none⟩ (.int .i64 9)).setCell ⟨cb, 76, none⟩ (.bool true)).setCell ⟨cb, 77, none⟩ (.int .i64 0)).setCell ⟨cb, 78, none⟩ (.bool true)).setCell ⟨cb, 79, none⟩ (.bool false)) = w3 at *
 have hlen : (Tryz.prog.info? 36).map (·.size) = some (startC 0).cells.length := by rw [(startC 0).cells_len]; exact info83
 have HC := Lib.hid (show (startC 0).ok from startC_ok)
 have HX := Lib.hid hlen
 clear hlen
 have HH := Lib.hid HT2.out.drew
 refine wp_region_held_drew (S := fun w' => Hp w (fun _ => False) w' [Ob.box cb (.cells (startC 0).cells.toArray 36)]) (by kernel_rfl) HH.out (fun hHeld => ?_)
 refine wpAnyH_take (i := 0) (oi := _) (v := _) rfl (by kernel_rfl) (by kernel_rfl) (by kernel_rfl) (fun _ _ _ h => h) (yieldsIf_load_mid (by rfl) _ _ rfl _ _ rfl (startC 0).cells _ (fun _ h => c_range0 h) Tryz.underlying36 rfl HX.out) (by assumption) ?_
 simp only [Act.put, lz0, lz1, lz2, lz3, lz4, lz5]
 refine wpAnyH_take (i := 1) (oi := _) (v := ?_) rfl (by kernel_rfl) (by kernel_rfl) (by kernel_rfl) (fun _ _ _ h => h) (Or.inl ⟨by rfl, ?_⟩) (by assumption) ?_
 rotate_left
 ·(intro w hSw; (try dsimp only at hSw); go_simp <;> rfl)
 simp only [Act.put, lz0, lz1, lz2, lz3, lz4, lz5]
 refine wpAnyH_ready (rs := [2]) (by kernel_rfl) (by decide) (AllReadyH.cons rfl (fun K hK => ?_) AllReadyH.nil)
 go_simp
 refine (tables_x kind HK.out _).mono ?_
 rintro e w4 ⟨tv, rfl, ho, hb⟩
 obtain ⟨ta, tc, rfl, hW⟩ := words_st HK.out ho
 have HW := Lib.hid hW
 have HT4 := hHeld.grow hb
 clear hHeld ho hb hW
 refine hK.out _ _ HT4 (fun hHeld => ?_)
 clear hK K
 try simp only [Act.put, lz0, lz1, lz2, lz3, lz4, lz5]
 refine wpAnyH_ready (rs := [3]) (by kernel_rfl) (by decide) (AllReadyH.cons rfl (fun K hK => ?_) AllReadyH.nil)
 go_simp
 refine (both17 HC.out HW.out (by decide)).mono ?_
 rintro e w5 ⟨eb, vb, bb, pm, rb, rbb, rm, rfl, T5⟩
 have HT5 := Lib.hid (show Hp w (fun _ => False) w5 _ from hHeld.under T5)
 have hb5 := T5.below
 refine hK.out _ _ (hHeld.grow hb5) (fun hHeld => ?_)
 clear hK K hb5 T5
 try simp only [Act.put, lz0, lz1, lz2, lz3, lz4, lz5]
 refine wpAnyH_take (i := 4) (oi := _) (v := ?_) rfl (by kernel_rfl) (by kernel_rfl) (by kernel_rfl) (fun _ _ _ h => h) (Or.inl ⟨by rfl, ?_⟩) (by assumption) ?_
 rotate_left
 ·(intro w hSw; (try dsimp only at hSw); go_simp <;> rfl)
 simp only [Act.put, lz0, lz1, lz2, lz3, lz4, lz5]
 refine wpAnyH_take (i := 5) (oi := _) (v := ?_) rfl (by kernel_rfl) (by kernel_rfl) (by kernel_rfl) (fun _ _ _ h => h) (Or.inl ⟨by rfl, ?_⟩) (by assumption) ?_
 rotate_left
 ·(intro w hSw; (try dsimp only at hSw); go_simp <;> rfl)
 simp only [Act.put, lz0, lz1, lz2, lz3, lz4, lz5]
 refine wpAnyH_take (i := 6) (oi := _) (v := ?_) rfl (by kernel_rfl) (by kernel_rfl) (by kernel_rfl) (fun _ _ _ h => h) (Or.inl ⟨by rfl, ?_⟩) (by assumption) ?_
 rotate_left
 ·(intro w hSw; (try dsimp only at hSw); go_simp <;> rfl)
 simp only [Act.put, lz0, lz1, lz2, lz3, lz4, lz5]
 refine wpAnyH_take (i := 7) (oi := _) (v := ?_) rfl (by kernel_rfl) (by kernel_rfl) (by kernel_rfl) (fun _ _ _ h => h) (Or.inl ⟨by rfl, ?_⟩) (by assumption) ?_
 rotate_left
 ·(intro w hSw; (try dsimp only at hSw); go_simp <;> rfl)
 simp only [Act.put, lz0, lz1, lz2, lz3, lz4, lz5]
 refine wpAnyH_take (i := 8) (oi := _) (v := ?_) rfl (by kernel_rfl) (by kernel_rfl) (by kernel_rfl) (fun _ _ _ h => h) (Or.inl ⟨by rfl, ?_⟩) (by assumption) ?_
 rotate_left
 ·(intro w hSw; (try dsimp only at hSw); go_simp <;> rfl)
 simp only [Act.put, lz0, lz1, lz2, lz3, lz4, lz5]
 refine wpAnyH_done (by kernel_rfl) ?_ _
 clear hHeld HH HT2
 have k84 := cell_at (k := 84) (HT5.out.box 0 rfl)
 rw [env_84] at k84
 have kl := heap_lt (HT5.out.box 0 rfl)
 go_wp2_with fail
 refine (HT5.out.act 2 rfl (bus_33 (dk2_ok _) (dk2_c _))).mono ?_
 rintro e w6 ⟨rfl, T6⟩
 have HT6 := Lib.hid T6
 clear T6 HT5
 go_wp2_with fail
 go_returns
 exact ⟨eb, vb, bb, pm, rfl, HT6.out.started HC.out (Wide.both _ _ _ _ _ _) (start_R kind)⟩
end
end Go.Proofs.YtmpcafdgkbpneaaGreat

