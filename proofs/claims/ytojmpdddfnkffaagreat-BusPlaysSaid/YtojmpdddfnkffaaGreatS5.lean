/- Steps of a proof: IdeF, IdeG, IdeH, IdeI, IdeJ, IdeK, IdeL, IdeM, IdeN, together. -/
import Derived.Test.YtojmpdddfnkffaaGreatS4
import Derived.Deep.MidRow
import Derived.Deep.AppendLies
import Derived.Deep.RegionLaw
import Derived.Laws.MakeOwn
/- ide: a command. -/
set_option maxHeartbeats 4000000
set_option maxRecDepth 20000
namespace Go.Proofs.YtojmpdddfnkffaaGreat.Ide
open Go.RowKit
set_option linter.unusedVariables false

def tellCells (n : Nat) : Array Value := (bytesL 512 (tellBuf n)).toArray
set_option maxRecDepth 100000 in
theorem built_tell (n : Nat) : Tryz.prog.built 106 [(0, .int .u8 64), (99, .int .u8 2), (120, .int .u8 (n : Nat))] = some (tellCells n) := by kernel_rfl
theorem size512 : (Tryz.prog.info? 106).map (·.size) = some 512 := by kernel_rfl
theorem wpList_build_eq {ops : Array Oper} {rest : List Oper} {o : Oper} {a : Act} {w : World} {Q : Exit → Act → World → Prop} (hg : o.guard = none) (t : TypeId) (parts : Array (Nat × Operand)) (ho : o.op = .build t parts) (cells : Array Value)
    (hc : Tryz.prog.built t (parts.map fun (i, x) => (i, a.eval x)).toList = some cells) (h : wpList Tryz.prog ops Q rest (a.put o.dst (.agg cells)) w) : wpList Tryz.prog ops Q (o :: rest) a w :=
 wpList_build hg t parts ho (by rw [hc]; rfl) (by rw [hc]; exact h)
theorem heap_setCells (b : Nat) : ∀ (vs : List Value) (o : Nat) (w : World) (cs : Array Value) (t : TypeId), w.heap[b]? = some (.cells cs t) → o + vs.length ≤ cs.size →
    (w.setCells b o vs).heap[b]? = some (.cells (cs.toList.take o ++ vs ++ cs.toList.drop (o + vs.length)).toArray t)
 | [], o, w, cs, t, h, _ => by rw [World.setCells, h]; simp
 | v :: r, o, w, cs, t, h, hl => by
  rw [World.setCells]
  rw [List.length_cons] at hl
  rw [heap_setCells b r (o + 1) (w.setCell ⟨b, o, none⟩ v) (cs.setIfInBounds o v) t (heap_set_same v h) (by rw [Array.size_setIfInBounds]; omega)]
  congr 2
  apply Array.ext_getElem?
  intro i
  simp only [List.getElem?_toArray, Array.toList_setIfInBounds]
  have hsz : o < cs.toList.length := by rw [Array.length_toList]; omega
  rw [List.take_set, List.drop_set_of_lt (by omega), List.take_succ_eq_append_getElem hsz, List.length_cons, show o + 1 + r.length = o + (r.length + 1) by omega, List.set_append_right _ _ (by rw [List.length_take]; omega), List.length_take, Nat.min_eq_left (by omega), Nat.sub_self]
  simp
theorem keeps_setCells (b : Nat) : ∀ (vs : List Value) (o : Nat) (a w : World), Keeps (· = b) a w → Keeps (· = b) a (w.setCells b o vs)
 | [], _, _, _, h => h
 | v :: r, o, a, w, h => by rw [World.setCells]; exact keeps_setCells b r (o + 1) a _ (h.setOne o v)
theorem store_buf {T : TypeId} {W : World} {b : Nat} {ds lv : Value} {D : Dk} (hB : Blk T W b ds lv D) (f : Nat → Nat) :
    ∃ W2, (storeCells ⟨b, 9, none⟩ (bytesL 512 f)).run Tryz.prog W = .ok () W2 ∧ Blk T W2 b ds lv { D with buf := f } ∧ Keeps (· = b) W W2 := by
 refine ⟨W.setCells b 9 (bytesL 512 f), ?_, ?_, keeps_setCells b _ 9 W W (Keeps.refl _ _)⟩
 ·exact run_storeCells_cells (P := Tryz.prog) b 9 (bytesL 512 f) 0 W (fun j hj => by
    rw [bytesL_len] at hj
    rw [hB.cell _ (by omega), Option.isSome_some]) (fun j hj => free_at hB) (bytesL_one _ _)
 ·unfold Blk
  rw [heap_setCells b _ 9 W _ T hB (by rw [bytesL_len, Dk.size]; decide), bytesL_len, Dk.over]
theorem Dk.clean_ok {S : Dk} (h : S.ok) : S.clean.ok :=
 {h with r := upd_lt h.r 1 0 (by decide), mode := (by show (0 : Nat) < 4; decide) }
theorem tellBuf_lt {n : Nat} (h : n ≤ 64) (i : Nat) : tellBuf n i < 256 := by
 unfold tellBuf
 (repeat' split) <;> omega
theorem Dk.tell_ok {S : Dk} (h : S.ok) : ({ S.clean with buf := tellBuf S.n, mode := 3, done := 0, mark := true } : Dk).ok :=
 {Dk.clean_ok h with buf := fun i => tellBuf_lt h.n i, done := (by show (0 : Nat) ≤ 512; decide), mode := (by show (3 : Nat) < 4; decide) }
theorem cmd_bits : ∀ x : Fin 256, (x.val &&& 254 == 32) = (x.val == 32 || x.val == 33) ∧ (x.val &&& 254 == 48) = (x.val == 48 || x.val == 49) := by decide +kernel
def isRead (c : Nat) : Bool := c == 32 || c == 33
def isWrite (c : Nat) : Bool := c == 48 || c == 49
theorem read_bits (c : Nat) (h : c < 256) : (bits .andNot .u8 (c : Int) 1 == 32) = isRead c := by
 have e : bits .andNot .u8 (c : Int) 1 = ((c &&& 254 : Nat) : Int) := u8_andNot_nat c 1 h (by decide)
 unfold isRead
 rw [e, ← (cmd_bits ⟨c, h⟩).1, Bool.eq_iff_iff]; simp; omega
theorem write_bits (c : Nat) (h : c < 256) : (bits .andNot .u8 (c : Int) 1 == 48) = isWrite c := by
 have e : bits .andNot .u8 (c : Int) 1 = ((c &&& 254 : Nat) : Int) := u8_andNot_nat c 1 h (by decide)
 unfold isWrite
 rw [e, ← (cmd_bits ⟨c, h⟩).2, Bool.eq_iff_iff]; simp; omega
def meant (x : Nat) : Bool := x / 64 % 2 == 0
theorem Dk.command_eq (S : Dk) (c : Nat) : S.command c =
    if S.other then S else if isRead c then (if meant (S.r 6) then S.clean.fail 4 else S.clean.begin 1) else if isWrite c then (if meant (S.r 6) then S.clean.fail 4 else S.clean.begin 2)
     else if c == 236 then { S.clean with buf := tellBuf S.n, mode := 3, done := 0, mark := true } else if (c == 231 || c == 145) then { S.clean with mark := true } else S.clean.fail 4 := by
 unfold Dk.command isRead isWrite meant
 simp only [Bool.or_eq_true, beq_iff_eq]
theorem Dk.marked_ok {S : Dk} (h : S.ok) : ({ S with mark := true } : Dk).ok := { h with }
section
variable {w : World} {b : Nat} {ds lv : Value} {D : Dk}
theorem cmd_other (H : IdeIn 115 w b ds lv D) (c : Nat) (ho : D.other = true) :
    Calls Tryz.prog 97 #[.pointer (some ⟨b, 0, none⟩), .int .u8 c] w fun e w' => e = .returned (.tuple #[]) ∧ w = w' := by
 have HO := Lib.hid (other_in H)
 have H1 := Lib.hid ho
 clear ho
 go_enter Tryz.func97, Tryz.ntmps97
 go_wp2_with fail
 refine HO.out.mono ?_
 rintro e w1 ⟨rfl, rfl⟩
 rw [H1.out]
 go_wp2_with fail
 go_returns
 exact ⟨rfl, rfl⟩
theorem clean_blk (H : IdeIn 115 w b ds lv D) : Blk 115 ((((w.setCell ⟨b, 523, none⟩ (.bool false)).setCell ⟨b, 2, none⟩ (.int .u8 0)).setCell ⟨b, 524, none⟩ (.bool false)).setCell ⟨b, 522, none⟩ (.int .i64 0)) b ds lv D.clean :=
 Blk.mode (Blk.failed (Blk.reg (Blk.mark (Blk.of H) false) 1 0 0 rfl (by decide)) false) 0 0 rfl
theorem clean_keeps (w : World) (b : Nat) : Keeps (· = b) w ((((w.setCell ⟨b, 523, none⟩ (.bool false)).setCell ⟨b, 2, none⟩ (.int .u8 0)).setCell ⟨b, 524, none⟩ (.bool false)).setCell ⟨b, 522, none⟩ (.int .i64 0)).drew := (((((Keeps.refl _ w).setOne _ _).setOne _ _).setOne _ _).setOne _ _).drew
theorem clean_in (H : IdeIn 115 w b ds lv D) : IdeIn 115 ((((w.setCell ⟨b, 523, none⟩ (.bool false)).setCell ⟨b, 2, none⟩ (.int .u8 0)).setCell ⟨b, 524, none⟩ (.bool false)).setCell ⟨b, 522, none⟩ (.int .i64 0)).drew b ds lv D.clean ∧ Keeps (· = b) w ((((w.setCell ⟨b, 523, none⟩ (.bool false)).setCell ⟨b, 2, none⟩ (.int .u8 0)).setCell ⟨b, 524, none⟩ (.bool false)).setCell ⟨b, 522, none⟩ (.int .i64 0)).drew :=
 turned H (clean_blk H) (clean_keeps w b) (Dk.clean_ok H.ok) rfl rfl rfl
theorem cmd_rf (H : IdeIn 115 w b ds lv D) (c : Nat) (hc : c < 256) (ho : D.other = false) (h1 : isRead c = true) (h2 : meant (D.r 6) = true) :
    Calls Tryz.prog 97 #[.pointer (some ⟨b, 0, none⟩), .int .u8 c] w fun e w' => e = .returned (.tuple #[]) ∧ IdeIn 115 w' b ds lv (D.clean.fail 4) ∧ Keeps (· = b) w w' := by
 have HO := Lib.hid (other_in H)
 have H1 := Lib.hid ho
 have HH := Lib.hid H
 have hr := read_bits c hc
 have hw := write_bits c hc
 have hm := meant_bits (D.r 6) (H.ok.r 6)
 have hm' : (bits .and .u8 ((D.r 6 : Nat) : Int) 64 == 0) = meant (D.r 6) := hm
 clear hm
 rw [h1] at hr
 rw [h2] at hm'
 clear h1 h2 hw
 obtain ⟨-, -, k2, -, -, -, -, k7, -, -, k10, k11, k12, -, kf, klt⟩ := H.facts
 clear ho H
 go_enter Tryz.func97, Tryz.ntmps97
 go_wp2_with fail
 refine HO.out.mono ?_
 rintro e w1 ⟨rfl, rfl⟩
 rw [H1.out]
 go_wp2_with fail
 go_region
 have C := clean_in HH.out
 have R6 : D.clean.r 6 = D.r 6 := rfl
 generalize ((((w.setCell ⟨b, 523, none⟩ (.bool false)).setCell ⟨b, 2, none⟩ (.int .u8 0)).setCell ⟨b, 524, none⟩ (.bool false)).setCell ⟨b, 522, none⟩ (.int .i64 0)).drew = w1 at *
 clear k2 k7 k10 k11 k12 kf klt
 obtain ⟨C, KC⟩ := C
 obtain ⟨k0, -, -, -, -, -, -, k7, -, k9, k10, k11, -, -, kf, klt⟩ := C.facts
 rw [R6] at k7
 have HC := Lib.hid C
 clear C R6
 go_wp2_with fail
 refine (fail_in HC.out 4 (by decide)).mono ?_
 rintro e w2 ⟨rfl, H2, K2⟩
 go_wp2_with fail
 go_returns
 exact ⟨rfl, H2, KC.trans K2⟩
theorem cmd_rb (H : IdeIn 115 w b ds lv D) (c : Nat) (hc : c < 256) (ho : D.other = false) (h1 : isRead c = true) (h2 : meant (D.r 6) = false) :
    Calls Tryz.prog 97 #[.pointer (some ⟨b, 0, none⟩), .int .u8 c] w fun e w' => e = .returned (.tuple #[]) ∧ IdeIn 115 w' b ds lv (D.clean.begin 1) ∧ Keeps (· = b) w w' := by
 have HO := Lib.hid (other_in H)
 have H1 := Lib.hid ho
 have HH := Lib.hid H
 have hr := read_bits c hc
 have hw := write_bits c hc
 have hm := meant_bits (D.r 6) (H.ok.r 6)
 have hm' : (bits .and .u8 ((D.r 6 : Nat) : Int) 64 == 0) = meant (D.r 6) := hm
 clear hm
 rw [h1] at hr
 rw [h2] at hm'
 clear h1 h2 hw
 obtain ⟨-, -, k2, -, -, -, -, k7, -, -, k10, k11, k12, -, kf, klt⟩ := H.facts
 clear ho H
 go_enter Tryz.func97, Tryz.ntmps97
 go_wp2_with fail
 refine HO.out.mono ?_
 rintro e w1 ⟨rfl, rfl⟩
 rw [H1.out]
 go_wp2_with fail
 go_region
 have C := clean_in HH.out
 have R6 : D.clean.r 6 = D.r 6 := rfl
 generalize ((((w.setCell ⟨b, 523, none⟩ (.bool false)).setCell ⟨b, 2, none⟩ (.int .u8 0)).setCell ⟨b, 524, none⟩ (.bool false)).setCell ⟨b, 522, none⟩ (.int .i64 0)).drew = w1 at *
 clear k2 k7 k10 k11 k12 kf klt
 obtain ⟨C, KC⟩ := C
 obtain ⟨k0, -, -, -, -, -, -, k7, -, k9, k10, k11, -, -, kf, klt⟩ := C.facts
 rw [R6] at k7
 have HC := Lib.hid C
 clear C R6
 go_wp2_with fail
 refine (begin_in HC.out 1 (by decide) 1 rfl).mono ?_
 rintro e w2 ⟨rfl, H2, K2⟩
 go_wp2_with fail
 go_returns
 exact ⟨rfl, H2, KC.trans K2⟩
theorem cmd_wf (H : IdeIn 115 w b ds lv D) (c : Nat) (hc : c < 256) (ho : D.other = false) (h0 : isRead c = false) (h1 : isWrite c = true) (h2 : meant (D.r 6) = true) :
    Calls Tryz.prog 97 #[.pointer (some ⟨b, 0, none⟩), .int .u8 c] w fun e w' => e = .returned (.tuple #[]) ∧ IdeIn 115 w' b ds lv (D.clean.fail 4) ∧ Keeps (· = b) w w' := by
 have HO := Lib.hid (other_in H)
 have H1 := Lib.hid ho
 have HH := Lib.hid H
 have hr := read_bits c hc
 have hw := write_bits c hc
 have hm := meant_bits (D.r 6) (H.ok.r 6)
 have hm' : (bits .and .u8 ((D.r 6 : Nat) : Int) 64 == 0) = meant (D.r 6) := hm
 clear hm
 rw [h0] at hr
 rw [h1] at hw
 rw [h2] at hm'
 clear h0 h1 h2
 obtain ⟨-, -, k2, -, -, -, -, k7, -, -, k10, k11, k12, -, kf, klt⟩ := H.facts
 clear ho H
 go_enter Tryz.func97, Tryz.ntmps97
 go_wp2_with fail
 refine HO.out.mono ?_
 rintro e w1 ⟨rfl, rfl⟩
 rw [H1.out]
 go_wp2_with fail
 go_region
 have C := clean_in HH.out
 have R6 : D.clean.r 6 = D.r 6 := rfl
 generalize ((((w.setCell ⟨b, 523, none⟩ (.bool false)).setCell ⟨b, 2, none⟩ (.int .u8 0)).setCell ⟨b, 524, none⟩ (.bool false)).setCell ⟨b, 522, none⟩ (.int .i64 0)).drew = w1 at *
 clear k2 k7 k10 k11 k12 kf klt
 obtain ⟨C, KC⟩ := C
 obtain ⟨k0, -, -, -, -, -, -, k7, -, k9, k10, k11, -, -, kf, klt⟩ := C.facts
 rw [R6] at k7
 have HC := Lib.hid C
 clear C R6
 go_wp2_with fail
 refine (fail_in HC.out 4 (by decide)).mono ?_
 rintro e w2 ⟨rfl, H2, K2⟩
 go_wp2_with fail
 go_returns
 exact ⟨rfl, H2, KC.trans K2⟩
theorem cmd_wb (H : IdeIn 115 w b ds lv D) (c : Nat) (hc : c < 256) (ho : D.other = false) (h0 : isRead c = false) (h1 : isWrite c = true) (h2 : meant (D.r 6) = false) :
    Calls Tryz.prog 97 #[.pointer (some ⟨b, 0, none⟩), .int .u8 c] w fun e w' => e = .returned (.tuple #[]) ∧ IdeIn 115 w' b ds lv (D.clean.begin 2) ∧ Keeps (· = b) w w' := by
 have HO := Lib.hid (other_in H)
 have H1 := Lib.hid ho
 have HH := Lib.hid H
 have hr := read_bits c hc
 have hw := write_bits c hc
 have hm := meant_bits (D.r 6) (H.ok.r 6)
 have hm' : (bits .and .u8 ((D.r 6 : Nat) : Int) 64 == 0) = meant (D.r 6) := hm
 clear hm
 rw [h0] at hr
 rw [h1] at hw
 rw [h2] at hm'
 clear h0 h1 h2
 obtain ⟨-, -, k2, -, -, -, -, k7, -, -, k10, k11, k12, -, kf, klt⟩ := H.facts
 clear ho H
 go_enter Tryz.func97, Tryz.ntmps97
 go_wp2_with fail
 refine HO.out.mono ?_
 rintro e w1 ⟨rfl, rfl⟩
 rw [H1.out]
 go_wp2_with fail
 go_region
 have C := clean_in HH.out
 have R6 : D.clean.r 6 = D.r 6 := rfl
 generalize ((((w.setCell ⟨b, 523, none⟩ (.bool false)).setCell ⟨b, 2, none⟩ (.int .u8 0)).setCell ⟨b, 524, none⟩ (.bool false)).setCell ⟨b, 522, none⟩ (.int .i64 0)).drew = w1 at *
 clear k2 k7 k10 k11 k12 kf klt
 obtain ⟨C, KC⟩ := C
 obtain ⟨k0, -, -, -, -, -, -, k7, -, k9, k10, k11, -, -, kf, klt⟩ := C.facts
 rw [R6] at k7
 have HC := Lib.hid C
 clear C R6
 go_wp2_with fail
 refine (begin_in HC.out 2 (by decide) 2 rfl).mono ?_
 rintro e w2 ⟨rfl, H2, K2⟩
 go_wp2_with fail
 go_returns
 exact ⟨rfl, H2, KC.trans K2⟩
theorem cmd_no (H : IdeIn 115 w b ds lv D) (c : Nat) (hc : c < 256) (ho : D.other = false) (h0 : isRead c = false) (h1 : isWrite c = false) (h3 : (c == 236) = false) (h4 : (c == 231) = false) (h5 : (c == 145) = false) :
    Calls Tryz.prog 97 #[.pointer (some ⟨b, 0, none⟩), .int .u8 c] w fun e w' => e = .returned (.tuple #[]) ∧ IdeIn 115 w' b ds lv (D.clean.fail 4) ∧ Keeps (· = b) w w' := by
 have HO := Lib.hid (other_in H)
 have H1 := Lib.hid ho
 have HH := Lib.hid H
 have hr := read_bits c hc
 have hw := write_bits c hc
 have hm := meant_bits (D.r 6) (H.ok.r 6)
 have hm' : (bits .and .u8 ((D.r 6 : Nat) : Int) 64 == 0) = meant (D.r 6) := hm
 clear hm
 rw [h0] at hr
 rw [h1] at hw
 have g3 : ((c : Int) == 236) = false := by simp at h3 ⊢; omega
 have g4 : ((c : Int) == 231) = false := by simp at h4 ⊢; omega
 have g5 : ((c : Int) == 145) = false := by simp at h5 ⊢; omega
 clear h0 h1 h3 h4 h5
 obtain ⟨-, -, k2, -, -, -, -, k7, -, -, k10, k11, k12, -, kf, klt⟩ := H.facts
 clear ho H
 go_enter Tryz.func97, Tryz.ntmps97
 go_wp2_with fail
 refine HO.out.mono ?_
 rintro e w1 ⟨rfl, rfl⟩
 rw [H1.out]
 go_wp2_with fail
 go_region
 have C := clean_in HH.out
 have R6 : D.clean.r 6 = D.r 6 := rfl
 generalize ((((w.setCell ⟨b, 523, none⟩ (.bool false)).setCell ⟨b, 2, none⟩ (.int .u8 0)).setCell ⟨b, 524, none⟩ (.bool false)).setCell ⟨b, 522, none⟩ (.int .i64 0)).drew = w1 at *
 clear k2 k7 k10 k11 k12 kf klt
 obtain ⟨C, KC⟩ := C
 obtain ⟨k0, -, -, -, -, -, -, k7, -, k9, k10, k11, -, -, kf, klt⟩ := C.facts
 rw [R6] at k7
 have HC := Lib.hid C
 clear C R6
 go_wp2_with fail
 refine (fail_in HC.out 4 (by decide)).mono ?_
 rintro e w2 ⟨rfl, H2, K2⟩
 go_wp2_with fail
 go_returns
 exact ⟨rfl, H2, KC.trans K2⟩
theorem cmd_fl1 (H : IdeIn 115 w b ds lv D) (c : Nat) (hc : c < 256) (ho : D.other = false) (h0 : isRead c = false) (h1 : isWrite c = false) (h3 : (c == 236) = false) (h4 : (c == 231) = true) :
    Calls Tryz.prog 97 #[.pointer (some ⟨b, 0, none⟩), .int .u8 c] w fun e w' => e = .returned (.tuple #[]) ∧ IdeIn 115 w' b ds lv { D.clean with mark := true } ∧ Keeps (· = b) w w' := by
 have HO := Lib.hid (other_in H)
 have H1 := Lib.hid ho
 have HH := Lib.hid H
 have hr := read_bits c hc
 have hw := write_bits c hc
 have hm := meant_bits (D.r 6) (H.ok.r 6)
 have hm' : (bits .and .u8 ((D.r 6 : Nat) : Int) 64 == 0) = meant (D.r 6) := hm
 clear hm
 rw [h0] at hr
 rw [h1] at hw
 have g3 : ((c : Int) == 236) = false := by simp at h3 ⊢; omega
 have g4 : ((c : Int) == 231) = true := by simp at h4 ⊢; omega
 clear h0 h1 h3 h4
 obtain ⟨-, -, k2, -, -, -, -, k7, -, -, k10, k11, k12, -, kf, klt⟩ := H.facts
 clear ho H
 go_enter Tryz.func97, Tryz.ntmps97
 go_wp2_with fail
 refine HO.out.mono ?_
 rintro e w1 ⟨rfl, rfl⟩
 rw [H1.out]
 go_wp2_with fail
 go_region
 have C := clean_in HH.out
 have R6 : D.clean.r 6 = D.r 6 := rfl
 generalize ((((w.setCell ⟨b, 523, none⟩ (.bool false)).setCell ⟨b, 2, none⟩ (.int .u8 0)).setCell ⟨b, 524, none⟩ (.bool false)).setCell ⟨b, 522, none⟩ (.int .i64 0)).drew = w1 at *
 clear k2 k7 k10 k11 k12 kf klt
 obtain ⟨C, KC⟩ := C
 obtain ⟨k0, -, -, -, -, -, -, k7, -, k9, k10, k11, -, -, kf, klt⟩ := C.facts
 rw [R6] at k7
 have HC := Lib.hid C
 clear C R6
 go_wp2_with fail
 go_returns
 have E := turned HC.out (Blk.mark (Blk.of HC.out) true) ((Keeps.refl _ _).setOne _ _) (Dk.marked_ok HC.out.ok) rfl rfl rfl
 exact ⟨rfl, E.1, KC.trans E.2⟩
theorem cmd_fl2 (H : IdeIn 115 w b ds lv D) (c : Nat) (hc : c < 256) (ho : D.other = false) (h0 : isRead c = false) (h1 : isWrite c = false) (h3 : (c == 236) = false) (h4 : (c == 231) = false) (h5 : (c == 145) = true) :
    Calls Tryz.prog 97 #[.pointer (some ⟨b, 0, none⟩), .int .u8 c] w fun e w' => e = .returned (.tuple #[]) ∧ IdeIn 115 w' b ds lv { D.clean with mark := true } ∧ Keeps (· = b) w w' := by
 have HO := Lib.hid (other_in H)
 have H1 := Lib.hid ho
 have HH := Lib.hid H
 have hr := read_bits c hc
 have hw := write_bits c hc
 have hm := meant_bits (D.r 6) (H.ok.r 6)
 have hm' : (bits .and .u8 ((D.r 6 : Nat) : Int) 64 == 0) = meant (D.r 6) := hm
 clear hm
 rw [h0] at hr
 rw [h1] at hw
 have g3 : ((c : Int) == 236) = false := by simp at h3 ⊢; omega
 have g4 : ((c : Int) == 231) = false := by simp at h4 ⊢; omega
 have g5 : ((c : Int) == 145) = true := by simp at h5 ⊢; omega
 clear h0 h1 h3 h4 h5
 obtain ⟨-, -, k2, -, -, -, -, k7, -, -, k10, k11, k12, -, kf, klt⟩ := H.facts
 clear ho H
 go_enter Tryz.func97, Tryz.ntmps97
 go_wp2_with fail
 refine HO.out.mono ?_
 rintro e w1 ⟨rfl, rfl⟩
 rw [H1.out]
 go_wp2_with fail
 go_region
 have C := clean_in HH.out
 have R6 : D.clean.r 6 = D.r 6 := rfl
 generalize ((((w.setCell ⟨b, 523, none⟩ (.bool false)).setCell ⟨b, 2, none⟩ (.int .u8 0)).setCell ⟨b, 524, none⟩ (.bool false)).setCell ⟨b, 522, none⟩ (.int .i64 0)).drew = w1 at *
 clear k2 k7 k10 k11 k12 kf klt
 obtain ⟨C, KC⟩ := C
 obtain ⟨k0, -, -, -, -, -, -, k7, -, k9, k10, k11, -, -, kf, klt⟩ := C.facts
 rw [R6] at k7
 have HC := Lib.hid C
 clear C R6
 go_wp2_with fail
 go_returns
 have E := turned HC.out (Blk.mark (Blk.of HC.out) true) ((Keeps.refl _ _).setOne _ _) (Dk.marked_ok HC.out.ok) rfl rfl rfl
 exact ⟨rfl, E.1, KC.trans E.2⟩
set_option maxRecDepth 100000 in
theorem cmd_tell (H : IdeIn 115 w b ds lv D) (c : Nat) (hc : c < 256) (ho : D.other = false) (h0 : isRead c = false) (h1 : isWrite c = false) (h3 : (c == 236) = true) :
    Calls Tryz.prog 97 #[.pointer (some ⟨b, 0, none⟩), .int .u8 c] w fun e w' => e = .returned (.tuple #[]) ∧ IdeIn 115 w' b ds lv { D.clean with buf := tellBuf D.n, mode := 3, done := 0, mark := true } ∧ Keeps (· = b) w w' := by
 have HO := Lib.hid (other_in H)
 have H1 := Lib.hid ho
 have HH := Lib.hid H
 have hr := read_bits c hc
 have hw := write_bits c hc
 have hm := meant_bits (D.r 6) (H.ok.r 6)
 have hm' : (bits .and .u8 ((D.r 6 : Nat) : Int) 64 == 0) = meant (D.r 6) := hm
 clear hm
 rw [h0] at hr
 rw [h1] at hw
 have g3 : ((c : Int) == 236) = true := by simp at h3 ⊢; omega
 clear h0 h1 h3
 obtain ⟨-, -, k2, -, -, -, -, k7, -, -, k10, k11, k12, -, kf, klt⟩ := H.facts
 clear ho H
 go_enter Tryz.func97, Tryz.ntmps97
 go_wp2_with fail
 refine HO.out.mono ?_
 rintro e w1 ⟨rfl, rfl⟩
 rw [H1.out]
 go_wp2_with fail
 go_region
 have C := clean_in HH.out
 have R6 : D.clean.r 6 = D.r 6 := rfl
 generalize ((((w.setCell ⟨b, 523, none⟩ (.bool false)).setCell ⟨b, 2, none⟩ (.int .u8 0)).setCell ⟨b, 524, none⟩ (.bool false)).setCell ⟨b, 522, none⟩ (.int .i64 0)).drew = w1 at *
 clear k2 k7 k10 k11 k12 kf klt
 obtain ⟨C, KC⟩ := C
 obtain ⟨k0, -, -, -, -, -, -, k7, -, k9, k10, k11, -, -, kf, klt⟩ := C.facts
 rw [R6] at k7
 have HC := Lib.hid C
 clear C R6
 obtain ⟨a, cap, hds⟩ := HC.out.disk.len
 rw [hds] at k0
 have hn : D.clean.n = D.n := rfl
 have hn64 := HC.out.ok.n
 rw [hn] at k0 hn64
 have hq : ((D.n * 512 : Nat) : Int) / 512 = (D.n : Int) := by omega
 obtain ⟨W2, hst, B2, K2⟩ := store_buf (Blk.of HC.out) (tellBuf D.n)
 obtain ⟨-, -, -, -, -, -, -, -, -, j9, j10, j11, -, -, jf, jlt⟩ := B2.facts
 have HB := Lib.hid B2
 have HN := Lib.hid hds
 generalize D.n * 512 = L at *
 clear B2 hn hds
 go_wp2_with ((refine wpList_build_eq (o := ⟨some 64, _, _, _, _, _⟩) ?hg0 106 ?pt0 ?ho0 (bytesL 512 (tellBuf D.n)).toArray ?hb0 ?_); (case ho0 => rfl); (case hg0 => rfl); go_loud (case hb0 => (simp only [List.map_toArray, List.map_cons, List.map_nil]; exact built_tell D.n)))
 go_returns
 have K3 : Keeps (· = b) w1 (((W2.setCell ⟨b, 522, none⟩ (.int .i64 3)).setCell ⟨b, 521, none⟩ (.int .i64 0)).setCell ⟨b, 523, none⟩ (.bool true)) := ((K2.setOne _ _).setOne _ _).setOne _ _
 have E := turned HC.out (Blk.mark (Blk.done (Blk.mode HB.out 3 3 rfl) 0 0 rfl) true) K3 (Dk.tell_ok HH.out.ok) rfl rfl rfl
 exact ⟨rfl, E.1, KC.trans E.2⟩
theorem command_in (H : IdeIn 115 w b ds lv D) (c : Nat) (hc : c < 256) (x : Int) (hx : x = (c : Nat)) :
    Calls Tryz.prog 97 #[.pointer (some ⟨b, 0, none⟩), .int .u8 x] w fun e w' => e = .returned (.tuple #[]) ∧ IdeIn 115 w' b ds lv (D.command c) ∧ Keeps (· = b) w w' := by
 subst hx
 rw [Dk.command_eq]
 cases ho : D.other
 ·rw [if_neg (by decide)]
  cases h0 : isRead c
  ·rw [if_neg (by decide)]
   cases h1 : isWrite c
   ·rw [if_neg (by decide)]
    cases h3 : c == 236
    ·rw [if_neg (by decide)]
     cases h4 : c == 231
     ·cases h5 : c == 145
      ·rw [if_neg (by decide)]; exact cmd_no H c hc ho h0 h1 h3 h4 h5
      ·rw [if_pos (by decide)]; exact cmd_fl2 H c hc ho h0 h1 h3 h4 h5
     ·rw [if_pos (by simp)]; exact cmd_fl1 H c hc ho h0 h1 h3 h4
    ·rw [if_pos rfl]; exact cmd_tell H c hc ho h0 h1 h3
   ·rw [if_pos rfl]
    cases h2 : meant (D.r 6)
    ·rw [if_neg (by decide)]; exact cmd_wb H c hc ho h0 h1 h2
    ·rw [if_pos rfl]; exact cmd_wf H c hc ho h0 h1 h2
  ·rw [if_pos rfl]
   cases h2 : meant (D.r 6)
   ·rw [if_neg (by decide)]; exact cmd_rb H c hc ho h0 h2
   ·rw [if_pos rfl]; exact cmd_rf H c hc ho h0 h2
 ·rw [if_pos rfl]
  refine (cmd_other H c ho).mono ?_
  rintro e w' ⟨rfl, rfl⟩
  exact ⟨rfl, H, Keeps.refl _ _⟩
end
end Go.Proofs.YtojmpdddfnkffaaGreat.Ide

/- ide: behind a sector. -/
namespace Go.Proofs.YtojmpdddfnkffaaGreat.Ide
open Go.RowKit
set_option linter.unusedVariables false

theorem Dk.step_eq (S : Dk) : S.step = (((((S.setR 3 ((S.place + 1) % 256)).setR 4 ((S.place + 1) / 256 % 256)).setR 5 ((S.place + 1) / 65536 % 256)).setR 6 (S.r 6 / 16 * 16 + (S.place + 1) / 16777216 % 16)).setR 2 ((S.r 2 + 255) % 256)).setMode 0 := by
 simp only [Dk.setR, Dk.setMode, Dk.step]
theorem Dk.step_ok {S : Dk} (h : S.ok) : S.step.ok :=
 {h with r := upd_lt (upd_lt (upd_lt (upd_lt (upd_lt h.r 3 _ (Nat.mod_lt _ (by decide))) 4 _ (Nat.mod_lt _ (by decide))) 5 _ (Nat.mod_lt _ (by decide))) 6 _ (by have := h.r 6; omega)) 2 _ (Nat.mod_lt _ (by decide)), mode := (by show (0 : Nat) < 4; decide) }
def Dk.regs (S : Dk) (n : Nat) : Nat → Dk
 | 0 => S
 | k + 1 => (S.regs n k).setR (3 + k) (n / 256 ^ k % 256)
theorem Dk.regs_succ (S : Dk) (n k : Nat) : S.regs n (k + 1) = (S.regs n k).setR (3 + k) (n / 256 ^ k % 256) := rfl
theorem shr_nat (n k : Nat) : (n : Int) / 2 ^ (8 * k) % 256 = ((n / 256 ^ k % 256 : Nat) : Int) := by
 have hp : (256 : Nat) ^ k = 2 ^ (8 * k) := by rw [Nat.pow_mul]
 rw [hp]; simp
theorem Blk.reg1 {T : TypeId} {w : World} {b : Nat} {ds lv : Value} {D : Dk} (h : Blk T w b ds lv D) (k v : Nat) (x : Int) (hx : x = (v : Nat)) (hk : k < 7) : Blk T (w.setCell ⟨b, 1 + k, none⟩ (.int .u8 x)) b ds lv (D.setR k v) := by
 rw [Nat.add_comm 1 k]; exact Blk.reg h k v x hx hk
theorem Blk.drew {T : TypeId} {w : World} {b : Nat} {ds lv : Value} {D : Dk} (H : Blk T w b ds lv D) : Blk T w.drew b ds lv D := H
theorem Dk.step_regs (S : Dk) : ((((S.regs (S.place + 1) 3).setR 6 (S.r 6 / 16 * 16 + (S.place + 1) / 16777216 % 16)).setR 2 ((S.r 2 + 255) % 256)).setMode 0) = S.step := by
 rw [Dk.step_eq]
 simp only [Dk.regs, Nat.pow_zero, Nat.div_one, Nat.pow_one, Nat.reducePow, Nat.reduceAdd, Nat.add_zero]
theorem top_bits (x n : Nat) (hx : x < 256) (hn : n < 4611686018427387904) :
    bits .or .u8 (bits .andNot .u8 (x : Int) 15) (bits .and .i64 ((n : Int) / 16777216) 15 % 256) = ((x / 16 * 16 + n / 16777216 % 16 : Nat) : Int) := by
 have e1 : bits .andNot .u8 (x : Int) 15 = ((x / 16 * 16 : Nat) : Int) := by
  have h : bits .andNot .u8 (x : Int) 15 = ((x &&& 240 : Nat) : Int) := u8_andNot_nat x 15 hx (by decide)
  have h2 : ∀ y : Fin 256, y.val &&& 240 = y.val / 16 * 16 := by decide +kernel
  rw [h, h2 ⟨x, hx⟩]
 have e2 : bits .and .i64 ((n : Int) / 16777216) 15 = (n : Int) / 16777216 % 16 := bits_mask .i64 62 (by decide) wraps_i64 4 (by decide) _ (by omega) (by simp only [Int.reducePow]; omega)
 rw [e1, e2, bits_join .u8 8 (by decide) wraps_u8 4 _ _ (by omega) (by simp only [Int.reducePow]; omega) (by simp only [Int.reducePow]; omega) (by omega) (by simp only [Int.reducePow]; omega) (by simp only [Int.reducePow]; omega)]
 omega
section
variable {w : World} {b : Nat} {ds lv : Value} {D : Dk}
theorem next_in (H : IdeIn 115 w b ds lv D) :
    Calls Tryz.prog 127 #[.pointer (some ⟨b, 0, none⟩)] w fun e w' => e = .returned (.tuple #[]) ∧ IdeIn 115 w' b ds lv D.next ∧ Keeps (· = b) w w' := by
 have HP := Lib.hid (place_in H)
 have hlt := Dk.place_lt H.ok
 have r6 := H.ok.r 6
 have r2 := H.ok.r 2
 obtain ⟨-, -, -, k3, k4, k5, k6, k7, -, -, k10, -, -, -, kf, klt⟩ := H.facts
 have HH := Lib.hid H
 clear H
 have hlt2 := hlt
 obtain ⟨p, hp⟩ : ∃ p, p = D.place := ⟨_, rfl⟩
 rw [← hp] at HP hlt
 have HPE := Lib.hid hp
 clear hp hlt2
 go_enter Tryz.func127, Tryz.ntmps127
 go_wp2_with fail
 refine HP.out.mono ?_
 rintro e w1 ⟨rfl, n, rfl⟩
 go_wp2_with fail
 have N0 : (0 : Int) ≤ (p : Int) + 1 := by omega
 obtain ⟨N, hN⟩ : ∃ N : Nat, N = p + 1 := ⟨_, rfl⟩
 have hN2 : (p : Int) + 1 = (N : Int) := by omega
 rw [hN2]
 have HN := Lib.hid hN
 clear hN hN2 N0 hlt HP k4 k5 k6
 go_loopw [8] (fun i wc => ∃ k : Nat, k ≤ 3 ∧ i = .int .i64 k ∧ Blk 115 wc b ds lv (D.regs N k) ∧ Keeps (· = b) w wc) (fun i _ => 3 - (intOf i).toNat)
 case atStart => exact ⟨0, by omega, rfl, Blk.drewN (Blk.of HH.out) n, (Keeps.refl _ w).drewN n⟩
 case round =>
  clear k3 k7 k10 kf klt r6 r2
  obtain ⟨k, hk, rfl, B, K⟩ := hrel
  obtain ⟨-, -, -, -, -, -, -, -, -, -, -, -, -, -, kf, klt⟩ := B.facts
  have HB := Lib.hid B
  clear B
  by_cases h3 : k < 3
  ·have hcell : wr.cell? ⟨b, 1 + (3 + k), none⟩ = some (.int .u8 ((D.regs N k).r (3 + k) : Nat)) := HB.out.rcell (3 + k) (by omega)
   have q0 : (0 : Int) ≤ 3 + (k : Int) := by omega
   have q1 : (3 : Int) + (k : Int) < 7 := by omega
   have q2 : (0 : Int) ≤ 8 * (k : Int) := by omega
   have q3 : (8 : Int) * (k : Int) ≤ 64 := by omega
   go_wp2_with fail
   go_region
   go_wp2_with fail
   go_roundw
   case rel => exact ⟨k + 1, by omega, by go_num, by rw [Dk.regs_succ]; exact Blk.drew (Blk.reg1 HB.out (3 + k) _ _ (shr_nat N k) (by omega)), (K.setOne _ _).drew⟩
   case measure => (simp [intOf]) <;> omega
  ·have hk3 : k = 3 := by omega
   have e6 : (D.regs N k).r 6 = D.r 6 := by rw [hk3]; rfl
   have e2 : (D.regs N k).r 2 = D.r 2 := by rw [hk3]; rfl
   have em : (D.regs N k).mode = D.mode := by rw [hk3]; rfl
   obtain ⟨-, -, -, k3, -, -, -, k7, -, -, k10, -, -, -, kf, klt⟩ := HB.out.facts
   rw [e6] at k7
   rw [e2] at k3
   rw [em] at k10
   have HK3 := Lib.hid hk3
   clear e6 e2 em hk3
   have HT := Lib.hid (top_bits (D.r 6) N (HH.out.ok.r 6) (by have := HN.out; have := HPE.out; have := Dk.place_lt HH.out.ok; omega))
   have hr2 := HH.out.ok.r 2
   have hv : (((D.r 2 : Nat) : Int) - 1) % 256 = (((D.r 2 + 255) % 256 : Nat) : Int) := by omega
   have B3 : Blk 115 ((((wr.setCell ⟨b, 7, none⟩ (.int .u8 (bits .or .u8 (bits .andNot .u8 ((D.r 6 : Nat) : Int) 15) (bits .and .i64 ((N : Int) / 16777216) 15 % 256)))).setCell ⟨b, 3, none⟩ (.int .u8 ((((D.r 2 : Nat) : Int) - 1) % 256))).setCell ⟨b, 522, none⟩ (.int .i64 0)).drew.drew) b ds lv D.step := by
    rw [← Dk.step_regs]
    have e := HK3.out
    have hp : N = D.place + 1 := by rw [HN.out, HPE.out]
    have HB3 := HB.out
    rw [e] at HB3
    rw [hp] at HB3 HT ⊢
    exact Blk.drew (Blk.drew (Blk.mode (Blk.reg (Blk.reg HB3 6 _ _ HT.out (by decide)) 2 _ _ hv (by decide)) 0 0 rfl))
   have K3 : Keeps (· = b) w ((((wr.setCell ⟨b, 7, none⟩ (.int .u8 (bits .or .u8 (bits .andNot .u8 ((D.r 6 : Nat) : Int) 15) (bits .and .i64 ((N : Int) / 16777216) 15 % 256)))).setCell ⟨b, 3, none⟩ (.int .u8 ((((D.r 2 : Nat) : Int) - 1) % 256))).setCell ⟨b, 522, none⟩ (.int .i64 0)).drew.drew) := ((((K.setOne _ _).setOne _ _).setOne _ _).drew).drew
   have E := turned HH.out B3 K3 (Dk.step_ok HH.out.ok) rfl rfl rfl
   have HE := Lib.hid E
   clear B3 K3 E HT hr2 K
   have hm4 := HH.out.ok.mode
   by_cases hz : (D.r 2 + 255) % 256 = 0
   ·have g : ((((D.r 2 : Nat) : Int) - 1) % 256 != 0) = false := by rw [hv, hz]; rfl
    have HZ := Lib.hid hz
    clear hv hz
    go_wp2_with fail
    go_region
    go_wp2_with fail
    go_region
    go_wp2_with fail
    go_returns
    refine ⟨rfl, ?_⟩
    have e : D.next = D.step := by unfold Dk.next; rw [if_pos (show D.step.r 2 = 0 from HZ.out)]
    rw [e]
    exact HE.out
   ·have g : ((((D.r 2 : Nat) : Int) - 1) % 256 != 0) = true := by rw [hv]; simp; omega
    have HZ := Lib.hid hz
    clear hv hz
    go_wp2_with fail
    go_region
    go_wp2_with fail
    go_region
    go_wp2_with fail
    refine (begin_in HE.out.1 D.mode hm4 _ rfl).mono ?_
    rintro e w2 ⟨rfl, H2, K2⟩
    go_wp2_with fail
    go_returns
    have e : D.next = D.step.begin D.mode := by unfold Dk.next; rw [if_neg (show ¬ D.step.r 2 = 0 from HZ.out)]
    rw [e]
    exact ⟨rfl, H2, HE.out.2.trans K2⟩
end
end Go.Proofs.YtojmpdddfnkffaaGreat.Ide

/- ide: a byte of the data is taken, or given. -/
namespace Go.Proofs.YtojmpdddfnkffaaGreat.Ide
open Go.RowKit
set_option linter.unusedVariables false

theorem room_fail (S : Dk) (e : Nat) : (S.fail e).room := fun h => absurd rfl h
theorem room_begin (S : Dk) (m : Nat) : (S.begin m).room := by
 unfold Dk.begin
 split
 ·split <;> exact fun _ => (by show (0 : Nat) < 512; decide)
 ·exact room_fail S 16
theorem room_fresh (S : Dk) : S.fresh.room := fun h => absurd rfl h
theorem room_command {S : Dk} (h : S.room) (c : Nat) : (S.command c).room := by
 rw [Dk.command_eq]
 (repeat' split)
 ·exact h
 ·exact room_fail _ _
 ·exact room_begin _ _
 ·exact room_fail _ _
 ·exact room_begin _ _
 ·exact fun _ => (by show (0 : Nat) < 512; decide)
 ·exact fun h => absurd rfl h
 ·exact room_fail _ _
theorem room_next (S : Dk) : S.next.room := by
 unfold Dk.next
 split
 ·exact fun h => absurd rfl h
 ·exact room_begin _ _
theorem room_put {S : Dk} (h : S.room) (b : Nat) : (S.putB b).room := by
 unfold Dk.putB
 split
 ·split
  ·rename_i h1; exact fun _ => h1
  ·split
   ·exact room_next _
   ·exact room_fail _ _
 ·exact h
theorem room_get {S : Dk} (h : S.room) : S.getB.room := by
 unfold Dk.getB
 split
 ·split
  ·rename_i h1; exact fun _ => h1
  ·split
   ·exact fun h => absurd rfl h
   ·exact room_next _
 ·exact h
theorem Dk.put1_place (S : Dk) (v : Nat) : (S.put1 v).place = S.place := rfl
theorem Dk.put1_n (S : Dk) (v : Nat) : (S.put1 v).n = S.n := rfl
theorem Dk.putB_full (S : Dk) (v : Nat) (hm : S.mode = 2) (hd : ¬ S.done + 1 < 512) (hp : (S.put1 v).place < (S.put1 v).n) : S.putB v = ({ (S.put1 v).write.next with mark := true } : Dk) := by
 rw [Dk.put1_place, Dk.put1_n] at hp
 unfold Dk.putB
 rw [if_pos hm, if_neg hd, if_pos hp]
theorem Dk.putB_gone (S : Dk) (v : Nat) (hm : S.mode = 2) (hd : ¬ S.done + 1 < 512) (hp : ¬ (S.put1 v).place < (S.put1 v).n) : S.putB v = (S.put1 v).fail 16 := by
 rw [Dk.put1_place, Dk.put1_n] at hp
 unfold Dk.putB
 rw [if_pos hm, if_neg hd, if_neg hp]
section
variable {w : World} {b : Nat} {ds lv : Value} {D : Dk}
theorem put_idle (H : IdeIn 115 w b ds lv D) (v : Int) (hm : D.mode ≠ 2) :
    Calls Tryz.prog 96 #[.pointer (some ⟨b, 0, none⟩), .int .u8 v] w fun e w' => e = .returned (.tuple #[]) ∧ w = w' := by
 obtain ⟨-, -, -, -, -, -, -, -, -, k9, k10, -, -, -, kf, klt⟩ := H.facts
 have g : (((D.mode : Nat) : Int) != 2) = true := by simp; omega
 clear hm
 go_enter Tryz.func96, Tryz.ntmps96
 go_wp2_with fail
 go_returns
 exact ⟨rfl, rfl⟩
theorem Dk.put1_ok {S : Dk} (h : S.ok) (b : Nat) (hb : b < 256) (hd : S.done < 512) : (S.put1 b).ok := { h with buf := upd_lt h.buf _ _ hb, done := (by show S.done + 1 ≤ 512; omega) }
theorem Dk.buf_ok {S : Dk} (h : S.ok) (k b : Nat) (hb : b < 256) : (S.setBuf k b).ok := { h with buf := upd_lt h.buf _ _ hb }
theorem laid_lt {d f : Nat → Nat} {o : Nat} (hd : ∀ i, d i < 256) (hf : ∀ i, f i < 256) (i : Nat) : laid d f o i < 256 := by
 unfold laid
 split
 ·exact hf _
 ·exact hd _
theorem Dk.flushAt_r (S : Dk) (o : Nat) : (S.flushAt o).r = S.r := rfl
theorem Dk.flushAt_log (S : Dk) (o : Nat) : (S.flushAt o).log = S.log := rfl
theorem Dk.put1_log (S : Dk) (v : Nat) : (S.put1 v).log = S.log := rfl
theorem Dk.flushAt_place (S : Dk) (o : Nat) : (S.flushAt o).place = S.place := by unfold Dk.place; rw [Dk.flushAt_r]
theorem Dk.flushAt_ok {S : Dk} (h : S.ok) (o : Nat) : (S.flushAt o).ok := { h with d := laid_lt h.d h.buf }
theorem log_lt {L : List Nat} {p : Nat} (h : ∀ x ∈ L, x < 64) (hp : p < 64) : ∀ x ∈ L ++ [p], x < 64 := fun x hx => by
 rw [List.mem_append, List.mem_singleton] at hx
 rcases hx with hx | hx
 ·exact h x hx
 ·omega
theorem Dk.logAt_ok {S : Dk} (h : S.ok) (p : Nat) (hp : p < 64) : (S.logAt p).ok := { h with log := log_lt h.log hp }
theorem news_one (w : World) (T : TypeId) (x : Int) : ∀ j u, [Value.int .i64 x][j]? = some u → (w.alloc (.cells #[.int .i64 x] T)).cell? ((⟨w.heap.size, 0, none⟩ : Addr).add j) = some u := fun j u h => by
 match j with
 | 0 =>
  have e : u = .int .i64 x := by simpa using h.symm
  rw [e, Go.WideShapes.add_plain, cell_at (heap_new w _)]; rfl
 | j + 1 => simp at h
theorem one_cell_int (x : Int) : ∀ u ∈ [Value.int .i64 x], u.oneCell' = true := fun u h => by
 have e : u = .int .i64 x := by simpa using h
 rw [e]; rfl
theorem infoInt : (Tryz.prog.info? 3).map (fun i => (i.zero, i.size, i.bytes)) = some (some (.int .i64 0), 1, 8) := by kernel_rfl
theorem append_log {T : TypeId} {w4 : World} {b : Nat} {ds lv : Value} {S : Dk} (H : IdeIn T w4 b ds lv S) (p : Nat) (hp : p < 64) (hL : S.log.length < 17592186044416) (ty : TypeId) :
    ∃ v6 w6, (Builtin.append_ #[103, 103] ty #[lv, .slice (some ⟨w4.heap.size, 0, none⟩) 1 1]).run Tryz.prog (w4.alloc (.cells #[.int .i64 (p : Nat)] 3)) = .ok v6 w6 ∧ w6.cell? ⟨b, 525, none⟩ = some lv ∧
     (∀ k, w6.frozen? ⟨b, k, none⟩ = false) ∧ b < w6.heap.size ∧ Hid (IdeIn T (w6.setCell ⟨b, 525, none⟩ v6) b ds v6 (S.logAt p)) ∧ Hid (Keeps (Held b ds lv) w4 (w6.setCell ⟨b, 525, none⟩ v6) ∧ ∀ k, (v6 : Value).ownBlock = some k → lv.ownBlock = some k ∨ w4.heap.size ≤ k) := by
 obtain ⟨i0, hi, hz0, hz1, hz2⟩ := info_parts infoInt
 obtain ⟨v6, w6, hrun, hown, hgrow, _, hat⟩ := run_append_own_at (P := Tryz.prog) (w := w4.alloc (.cells #[.int .i64 (p : Nat)] 3)) 0 103 ty 3 i0 (.int .i64 0) 1 8 Tryz.underlying103 hi hz0 hz1 hz2 (by rfl) (by decide)
  lv S.log.length (S.log.map fun p => Value.int .i64 (p : Nat)) (H.log.alloc _) ⟨w4.heap.size, 0, none⟩ 1 1 [.int .i64 (p : Nat)] (by rfl) (news_one w4 _ _) (one_cell_int _) (by unfold maxLen; omega) (by omega) (Nat.zero_le _)
 have hsz : (w4.alloc (.cells #[.int .i64 (p : Nat)] 3)).heap.size = w4.heap.size + 1 := by simp
 have hbl := heap_lt H.obj
 have hb6 : w6.heap[b]? = some (.cells (S.cells ds lv) T) := (hgrow.block b (by omega) (fun e => H.d2 e.symm)).trans (heap_alloc_lt H.obj)
 have hvb : v6.ownBlock ≠ some b := fun e => by
  rcases hat with h | h
  ·exact H.d2 (by rw [← h]; exact e)
  ·rw [h] at e; cases e; omega
 have hvd : ∀ k, ds.ownBlock = some k → v6.ownBlock ≠ some k := fun k hk e => by
  rcases hat with h | h
  ·exact H.d3 k hk (by rw [← h]; exact e)
  ·rw [h] at e; cases e
   have := H.disk.lt hk
   omega
 refine ⟨v6, w6, hrun, by rw [cell_at hb6, S.at ds lv 525 (by decide)]; rfl, fun k => free_at hb6, heap_lt hb6, ?_⟩
 have ho : (w6.setCell ⟨b, 525, none⟩ v6).heap[b]? = some (.cells ((S.logAt p).cells ds v6) T) := by
  rw [heap_set_same v6 hb6, Dk.put_log S ds lv (S.log ++ [p]) v6]; rfl
 have hK : Keeps (Held b ds lv) w4 (w6.setCell ⟨b, 525, none⟩ v6) := by
  refine Keeps.setCell (S := Held b ds lv) (p := ⟨b, 525, none⟩) (show Keeps (Held b ds lv) w4 w6 from ⟨hgrow.os, hgrow.tape, hgrow.output, by have := hgrow.size; omega, fun k hk hn => ?_⟩) (Or.inl (Or.inl rfl)) _
  rw [hgrow.block k (by omega) (fun e => hn (Or.inr (Or.inr e.symm))), Below.heap_alloc _ _ _ hk]
 refine ⟨Lib.hid { obj := ho, disk := ?_, log := ?_, d1 := H.d1, d2 := hvb, d3 := hvd, ok := Dk.logAt_ok H.ok p hp }, Lib.hid ⟨hK, fun k hk => ?_⟩⟩
 ·refine H.disk.of_heap fun k hk => ?_
  have hkl := H.disk.lt hk
  rw [Below.heap_setCell _ _ _ _ (fun e => H.d1 (by rw [hk, e])), hgrow.block k (by omega) (fun e => H.d3 k hk e.symm), Below.heap_alloc _ _ _ hkl]
 ·have e1 : (S.logAt p).log.length = S.log.length + 1 := by show (S.log ++ [p]).length = _; simp
  have e2 : (S.logAt p).log.map (fun p => Value.int .i64 (p : Nat)) = S.log.map (fun p => Value.int .i64 (p : Nat)) ++ [.int .i64 (p : Nat)] := by show (S.log ++ [p]).map _ = _; simp
  rw [e1, e2]
  exact row_of_heap hown fun k hk => Below.heap_setCell _ _ _ _ (fun e => hvb (by rw [hk, e]))
 ·rcases hat with h | h
  ·exact .inl (by rw [← h]; exact hk)
  ·rw [h] at hk; cases hk; exact .inr (by omega)
theorem row_slice {w : World} {B : Nat} {E : TypeId} {s n : Nat} {v : Value} {xs : List Value} (h : w.ownsRow B E s v n xs) : ∃ a m c, v = .slice a m c := by
 rcases h.2 with ⟨h, _⟩ | ⟨g, cap, cur, h, _⟩
 ·exact ⟨_, _, _, h⟩
 ·exact ⟨_, _, _, h⟩
theorem step_append_log {ops : Array Oper} {o : Oper} {a : Act} {K : Act → World → Prop} {Q : Exit → Act → World → Prop} {E : Prop} {T : TypeId} {w4 : World} {b : Nat} {ds lv : Value} {S : Dk} (H : IdeIn T w4 b ds lv S) (p : Nat) (hp : p < 64) (hL : S.log.length < 17592186044416)
    (hgd : o.guard = none) (s x : Operand) (ho : o.op = .call { callee := .builtin .append, args := #[s, x], argTypes := #[103, 103] }) (hs : a.eval s = lv) (hx : a.eval x = .slice (some ⟨w4.heap.size, 0, none⟩) 1 1)
    (h : ∀ a6 n6 q6 w6, w6.cell? ⟨b, 525, none⟩ = some lv → (∀ k, w6.frozen? ⟨b, k, none⟩ = false) → b < w6.heap.size → Hid (IdeIn T (w6.setCell ⟨b, 525, none⟩ (.slice a6 n6 q6)) b ds (.slice a6 n6 q6) (S.logAt p)) → Hid (Keeps (Held b ds lv) w4 (w6.setCell ⟨b, 525, none⟩ (.slice a6 n6 q6)) ∧ ∀ k, (.slice a6 n6 q6 : Value).ownBlock = some k → lv.ownBlock = some k ∨ w4.heap.size ≤ k) → K (a.put o.dst (.slice a6 n6 q6)) w6) :
    if Region.wanted o (yielded ops a.tmps) = true then Oper.wp Tryz.prog o a (w4.alloc (.cells #[.int .i64 (p : Nat)] 3)) K Q else E := by
 have hw : Region.wanted o (yielded ops a.tmps) = true := by simp [Region.wanted, hgd]
 rw [if_pos hw]
 obtain ⟨v6, w6, hr, h1, h2, h3, h4, h5⟩ := append_log H p hp hL o.type
 unfold Oper.wp execOp
 simp only [ho, resolve, invoke, builtin, Sem.run_bind, Sem.run_pure, Result.andThen_ok, List.map_toArray, List.map_cons, List.map_nil, hs, hx, hr]
 obtain ⟨a6, n6, q6, rfl⟩ := row_slice h4.out.log
 exact h a6 n6 q6 w6 h1 h2 h3 h4 h5
theorem take_splice {cur : List Value} {m o : Nat} {d f : Nat → Nat} (h : cur.take m = bytesL m d) (ho : o + 512 ≤ m) :
    (cur.take o ++ bytesL 512 f ++ cur.drop (o + 512)).take m = bytesL m (laid d f o) := by
 have hlen : m ≤ cur.length := by
  have := congrArg List.length h
  rw [List.length_take, bytesL_len] at this
  omega
 have hb : (bytesL 512 f).length = 512 := bytesL_len _ _
 have hto : (cur.take o).length = o := by rw [List.length_take]; omega
 apply List.ext_getElem?
 intro j
 by_cases hj : j < m
 ·rw [List.getElem?_take_of_lt hj, bytesL_at _ _ _ hj]
  by_cases h1 : j < o
  ·rw [List.append_assoc, List.getElem?_append_left (by rw [hto]; exact h1), List.getElem?_take_of_lt h1]
   have e : cur[j]? = (bytesL m d)[j]? := by rw [← h, List.getElem?_take_of_lt hj]
   rw [e, bytesL_at _ _ _ hj]; unfold laid; rw [if_neg (by omega)]
  ·by_cases h2 : j < o + 512
   ·rw [List.append_assoc, List.getElem?_append_right (by rw [hto]; omega), List.getElem?_append_left (by rw [hb, hto]; omega), hto, bytesL_at _ _ _ (by omega)]; unfold laid; rw [if_pos (by omega)]
   ·rw [List.getElem?_append_right (by rw [List.length_append, hb, hto]; omega), List.length_append, hb, hto, List.getElem?_drop, show o + 512 + (j - (o + 512)) = j by omega]
    have e : cur[j]? = (bytesL m d)[j]? := by rw [← h, List.getElem?_take_of_lt hj]
    rw [e, bytesL_at _ _ _ hj]; unfold laid; rw [if_neg (by omega)]
 ·rw [List.getElem?_eq_none (by rw [List.length_take]; omega), bytesL_no _ _ _ (by omega)]
theorem copy_out {T : TypeId} {W : World} {S : Dk} (H : IdeIn T W b ds lv S) {o : Nat} (ho : o + 512 ≤ S.n * 512) {g cap : Nat} (hds : ds = .slice (some ⟨g, 0, none⟩) (S.n * 512) cap) :
    ∃ W2, (∀ ty, (Builtin.copy_ #[22, 22] ty #[.slice (some ⟨g, o, none⟩) 512 512, .slice (some ⟨b, 9, none⟩) 512 512]).run Tryz.prog W = .ok (.int .i64 512) W2) ∧ IdeIn T W2 b ds lv (S.flushAt o) ∧ Keeps (· = g) W W2 := by
 obtain ⟨g', cap', cur, hds', hg, hc, hcm, hsz, htk⟩ := H.disk.open (by omega)
 rw [hds] at hds'
 simp only [Value.slice.injEq, Option.some.injEq, Addr.mk.injEq, and_true, true_and] at hds'
 obtain ⟨rfl, rfl⟩ := hds'
 have hgb : b ≠ g := fun e => H.d1 (by rw [hds, ← e]; rfl)
 have hx : (bytesL 512 S.buf).length = 512 := bytesL_len _ _
 have hl : cur.toList.length = cur.size := Array.length_toList
 have K : Keeps (· = g) W (W.setRow g (cur.toList.take o ++ bytesL 512 S.buf ++ cur.toList.drop (o + 512)).toArray) := ⟨rfl, rfl, rfl, by simp [World.setRow], fun k hk hn => setRow_other W g k _ hn⟩
 have h := fun ty => run_copy_row (P := Tryz.prog) W 22 22 ty 5 g o 512 512 ⟨b, 9, none⟩ 512 512 cur 5 (bytesL 512 S.buf) Tryz.underlying22 size8 hg (by rw [bytesL_len]; rfl)
     (fun j v hv => by obtain ⟨hj, rfl⟩ := bytesL_some hv; rw [Go.WideShapes.add_plain]; exact H.buf j hj) (by rw [bytesL_len]; omega) (bytesL_one _ _)
 rw [bytesL_len] at h
 have hd : Bytes (W.setRow g (cur.toList.take o ++ bytesL 512 S.buf ++ cur.toList.drop (o + 512)).toArray) ds S.n (laid S.d S.buf o) := by
  refine ⟨by rw [bytesL_len]; omega, .inr ⟨g, cap, _, hds, Nat.zero_le _, setRow_heap _ _ _ _ _ _ hg, hc, by unfold maxLen; omega, ?_, ?_⟩⟩
  ·simp only [List.size_toArray, List.length_append, List.length_take, List.length_drop, hx, hl]
   omega
  ·rw [Nat.mul_one, List.toList_toArray]
   exact take_splice htk ho
 exact ⟨_, h, { obj := by rw [K.block b (heap_lt H.obj) hgb]; exact H.obj, disk := hd, log := row_of_heap H.log fun k hk => K.block k (H.log.lt k hk).2 (fun e => H.d3 g (by rw [hds]; rfl) (by rw [← e]; exact hk)), d1 := H.d1, d2 := H.d2, d3 := H.d3, ok := Dk.flushAt_ok H.ok o }, K⟩
theorem put_live (H : IdeIn 115 w b ds lv D) (v : Nat) (hv : v < 256) (hm : D.mode = 2) (hd : D.done < 512) (hL : D.log.length < 17592186044416) :
    Calls Tryz.prog 96 #[.pointer (some ⟨b, 0, none⟩), .int .u8 v] w fun e w' => e = .returned (.tuple #[]) ∧ ∃ lv', IdeIn 115 w' b ds lv' (D.putB v) ∧ Keeps (Held b ds lv) w w' ∧ ∀ k, lv'.ownBlock = some k → lv.ownBlock = some k ∨ w.heap.size ≤ k := by
 obtain ⟨-, -, -, -, -, -, -, -, -, k9, k10, -, -, -, kf, klt⟩ := H.facts
 have kb := H.buf D.done hd
 rw [hm] at k10
 have q0 : (0 : Int) ≤ (D.done : Int) := by omega
 have q1 : (D.done : Int) < 512 := by omega
 have E0 := turned H (Blk.drew (Blk.buf (Blk.of H) D.done v _ rfl hd)) ((Keeps.refl _ w).setOne _ _).drew (Dk.buf_ok H.ok _ v hv) rfl rfl rfl
 have HE := Lib.hid E0
 clear E0
 have HM := Lib.hid hm
 have HOK := Lib.hid H.ok
 have HLL := Lib.hid hL
 clear hL
 clear H hm
 generalize D.buf D.done = u at *
 obtain ⟨dn, hdn⟩ : ∃ dn, dn = D.done := ⟨_, rfl⟩
 rw [← hdn] at k9 kb q0 q1 HE
 have HDN := Lib.hid hdn
 clear hdn hd
 go_enter Tryz.func96, Tryz.ntmps96
 go_wp2_with fail
 go_region
 have E := HE.out
 clear HE k9 k10 kf klt kb
 generalize (w.setCell ⟨b, 9 + dn, none⟩ (.int .u8 (v : Nat))).drew = w1 at *
 obtain ⟨H1, K1⟩ := E
 have B2 := Blk.done (Blk.of H1) (dn + 1) ((dn : Int) + 1) (by omega)
 obtain ⟨-, -, -, -, -, -, -, -, -, k9, k10, -, -, -, kf, klt⟩ := H1.facts
 have k9' : w1.cell? ⟨b, 521, none⟩ = some (.int .i64 (dn : Nat)) := by rw [k9, HDN.out]; rfl
 have K2 : Keeps (· = b) w (w1.setCell ⟨b, 521, none⟩ (.int .i64 ((dn : Int) + 1))) := K1.setOne _ _
 have e1 : (D.setBuf dn v).setDone (dn + 1) = D.put1 v := by rw [HDN.out]; rfl
 rw [e1] at B2
 have HH1 := Lib.hid H1
 have HB2 := Lib.hid B2
 clear H1 B2 k9 k10 K1 e1
 by_cases hlt : dn + 1 < 512
 ·have g : (dn : Int) + 1 < 512 := by omega
  go_wp2_with fail
  go_returns
  have e : D.putB v = D.put1 v := by unfold Dk.putB; rw [if_pos HM.out, if_pos (by rw [← HDN.out]; exact hlt)]
  rw [e]
  have E := turned HH1.out HB2.out ((Keeps.refl _ w1).setOne _ _) (Dk.put1_ok HOK.out v hv (by rw [← HDN.out]; omega)) rfl rfl rfl
  exact ⟨rfl, lv, E.1, K2.mono fun k _ h => .inl h, fun k h => .inl h⟩
 ·have hd2 : dn = 511 := by omega
  have E2 := turned HH1.out HB2.out ((Keeps.refl _ w1).setOne _ _) (Dk.put1_ok HOK.out v hv (by rw [← HDN.out]; omega)) rfl rfl rfl
  have HD2 := Lib.hid hd2
  clear hd2
  go_upto_region 3 with (fail)
  clear HH1 HB2 k9' kf klt hlt
  have HK2 := Lib.hid K2
  clear K2
  generalize w1.setCell ⟨b, 521, none⟩ (.int .i64 ((dn : Int) + 1)) = w2 at *
  obtain ⟨H2, -⟩ := E2
  obtain ⟨-, -, -, -, -, -, -, -, -, k9, k10, k11, -, k13, kf, klt⟩ := H2.facts
  have e9 : (D.put1 v).done = 512 := by show D.done + 1 = 512; rw [← HDN.out, HD2.out]
  rw [e9] at k9
  have k9' : w2.cell? ⟨b, 521, none⟩ = some (.int .i64 512) := k9
  clear e9 k9
  have HH2 := Lib.hid H2
  clear H2
  by_cases hp : (D.put1 v).place < (D.put1 v).n
  ·have hn64 := HH2.out.ok.n
   obtain ⟨g, cap, cur, hds, hg, hc, hcm, hsz, htk⟩ := HH2.out.disk.open (by omega)
   have HS := Lib.hid (sector_yes HH2.out hp g cap hds hc)
   have hnil : ∀ w o, (binOp .eql 22 (.slice (some ⟨g, o, none⟩) 512 512) (.slice none 0 0)).run Tryz.prog w = .ok (.bool false) w := fun w o => Lib.run_eql_slice_nil w _ _ _ _ _ _ _ Tryz.underlying22
   have HDS := Lib.hid hds
   have HPP := Lib.hid hp
   clear hp hds hg hc hcm hsz htk hn64
   go_wp2_with fail
   refine HS.out.mono ?_
   rintro e w3 ⟨rfl, m, rfl⟩
   obtain ⟨W3, hcp, H3, K3⟩ := copy_out (HH2.out.drewN m) (o := (D.put1 v).place * 512) (by have := HPP.out; omega) HDS.out
   have HH3 := Lib.hid H3
   clear H3
   obtain ⟨o, ho⟩ : ∃ o, o = (D.put1 v).place * 512 := ⟨_, rfl⟩
   rw [← ho] at hcp HH3 ⊢
   have HO := Lib.hid ho
   clear ho
   go_upto_region 8 with (fail)
   have hpl : ((D.put1 v).flushAt o).place = (D.put1 v).place := Dk.flushAt_place _ _
   have hplt : (D.put1 v).place < 64 := by have := HPP.out; have := HH2.out.ok.n; omega
   have HPL := Lib.hid hpl
   have HPT := Lib.hid hplt
   have hll : ((D.put1 v).flushAt o).log.length < 17592186044416 := by rw [Dk.flushAt_log, Dk.put1_log]; exact HLL.out
   have HL2 := Lib.hid hll
   clear hll
   have c3 := HH3.out.facts.2.2.2.2.2.2.2.2.2.2.2.2.2.1
   clear hpl hplt k9' k10 k11 k13 kf klt hcp hnil
   go_region_law (first
    | (go_simp; refine (place_in (w := W3.drew) (HH3.out.drewN 1)).mono ?_; rintro e w4 ⟨rfl, m4, hw4⟩; have HH4 := Lib.hid (show IdeIn 115 w4 b ds lv ((D.put1 v).flushAt o) from by rw [hw4]; exact (HH3.out.drewN 1).drewN m4); have c4 := HH4.out.facts.2.2.2.2.2.2.2.2.2.2.2.2.2.1; have hb4 : b < w4.heap.size := HH4.out.facts.2.2.2.2.2.2.2.2.2.2.2.2.2.2.2; rw [HPL.out]; have HW4 := Lib.hid (show Keeps (Held b ds lv) W3 w4 from by rw [hw4]; exact ((Keeps.refl _ W3).drewN 1).drewN m4); clear hw4; dsimp only)
    | (refine step_append_log HH4.out (D.put1 v).place HPT.out HL2.out (by rfl) _ _ (by rfl) (by rfl) (by rfl) ?_; intro a6 n6 q6 w6 c6 f6 l6 H6 X6))
   all_goals
    have e6 : ((D.put1 v).flushAt o).logAt (D.put1 v).place = (D.put1 v).write := by rw [HO.out]; rfl
    have K5 : Keeps (Held b ds lv) w (w6.setCell ⟨b, 525, none⟩ (.slice a6 n6 q6)) := ((((HK2.out.drewN m).mono fun k _ h => Or.inl h).trans (K3.mono fun k _ h => Or.inr (Or.inl (by rw [h, HDS.out]; rfl)))).trans HW4.out).trans X6.out.1
    have N5 : ∀ k, (Value.slice a6 n6 q6).ownBlock = some k → lv.ownBlock = some k ∨ w.heap.size ≤ k := fun k h => (X6.out.2 k h).imp id (fun h => Nat.le_trans (Nat.le_trans HK2.out.size (Nat.le_trans K3.size HW4.out.size)) h)
    rw [e6] at H6
    have HK5 := Lib.hid K5
    have HN5 := Lib.hid N5
    clear X6 c6 f6 l6 c4 hb4 K5 N5 e6
    generalize w6.setCell ⟨b, 525, none⟩ (.slice a6 n6 q6) = w7 at *
    go_wp2_with fail
    refine (next_in H6.out).mono ?_
    rintro e w8 ⟨rfl, H8, K8⟩
    obtain ⟨-, -, -, -, -, -, -, -, -, -, -, j11, -, -, jf, jlt⟩ := H8.facts
    have HH8 := Lib.hid H8
    clear H8
    go_wp2_with fail
    go_end0
    have e : D.putB v = ({ (D.put1 v).write.next with mark := true } : Dk) := Dk.putB_full D v HM.out (by rw [← HDN.out, HD2.out]; decide) HPP.out
    rw [e]
    have E := turned HH8.out (Blk.mark (Blk.of HH8.out) true) ((Keeps.refl _ w8).setOne _ _) (Dk.marked_ok HH8.out.ok) rfl rfl rfl
    exact ⟨rfl, .slice a6 n6 q6, E.1, HK5.out.trans ((K8.trans E.2).mono fun k _ h => .inl h), HN5.out⟩
  ·have HS := Lib.hid (sector_no HH2.out hp)
   have hnil : ∀ w, (binOp .eql 22 (.slice none 0 0) (.slice none 0 0)).run Tryz.prog w = .ok (.bool true) w := fun w => Lib.run_eql_slice_nil w _ _ _ _ _ _ _ Tryz.underlying22
   have HPP := Lib.hid hp
   clear hp
   go_wp2_with fail
   refine HS.out.mono ?_
   rintro e w3 ⟨rfl, m, rfl⟩
   go_wp2_with fail
   refine (fail_in (HH2.out.drewN m) 16 (by decide)).mono ?_
   rintro e w4 ⟨rfl, H4, K4⟩
   go_wp2_with fail
   go_returns
   have e : D.putB v = (D.put1 v).fail 16 := Dk.putB_gone D v HM.out (by rw [← HDN.out, HD2.out]; decide) HPP.out
   rw [e]
   exact ⟨rfl, lv, H4, ((HK2.out.drewN m).trans K4).mono fun k _ h => .inl h, fun k h => .inl h⟩
end
end Go.Proofs.YtojmpdddfnkffaaGreat.Ide

/- ide: a byte is given; a disk in its blocks; Out, In. -/
namespace Go.Proofs.YtojmpdddfnkffaaGreat.Ide
open Go.RowKit
set_option linter.unusedVariables false

section
variable {w : World} {b : Nat} {ds lv : Value} {D : Dk}
theorem Dk.step1_ok {S : Dk} (h : S.ok) (hd : S.done < 512) : (S.setDone (S.done + 1)).ok := { h with done := (by show S.done + 1 ≤ 512; omega) }
theorem get_idle (H : IdeIn 115 w b ds lv D) (h1 : D.mode ≠ 1) (h3 : D.mode ≠ 3) :
    Calls Tryz.prog 98 #[.pointer (some ⟨b, 0, none⟩)] w fun e w' => e = .returned (.int .u8 255) ∧ w = w' := by
 obtain ⟨-, -, -, -, -, -, -, -, -, k9, k10, -, -, -, kf, klt⟩ := H.facts
 have g1 : (((D.mode : Nat) : Int) != 1) = true := by simp; omega
 have g3 : (((D.mode : Nat) : Int) != 3) = true := by simp; omega
 clear h1 h3
 go_enter Tryz.func98, Tryz.ntmps98
 go_wp2_with fail
 go_returns
 exact ⟨rfl, rfl⟩
theorem got_in (H : IdeIn 115 w b ds lv D) (hd : D.done < 512) (n : Nat) (x : Int) (hx : x = (D.done : Int) + 1) : IdeIn 115 ((w.drewN n).setCell ⟨b, 521, none⟩ (.int .i64 x)) b ds lv (D.setDone (D.done + 1)) ∧ Keeps (· = b) w ((w.drewN n).setCell ⟨b, 521, none⟩ (.int .i64 x)) :=
 turned H (Blk.done (Blk.drewN (Blk.of H) n) (D.done + 1) x (by omega)) (((Keeps.refl _ w).drewN n).setOne _ _) (Dk.step1_ok H.ok hd) rfl rfl rfl
def gotTo (D : Dk) : Dk := if D.done + 1 < 512 then D.setDone (D.done + 1) else if D.mode = 3 then (D.setDone (D.done + 1)).setMode 0 else (D.setDone (D.done + 1)).next
theorem Dk.idle_ok {S : Dk} (h : S.ok) : (S.setMode 0).ok := { h with mode := (by show (0 : Nat) < 4; decide) }
theorem get_live (H : IdeIn 115 w b ds lv D) (hm : D.mode = 1 ∨ D.mode = 3) (hd : D.done < 512) :
    Calls Tryz.prog 98 #[.pointer (some ⟨b, 0, none⟩)] w fun e w' => e = .returned (.int .u8 (D.buf D.done : Nat)) ∧ IdeIn 115 w' b ds lv (gotTo D) ∧ Keeps (· = b) w w' := by
 obtain ⟨-, -, -, -, -, -, -, -, -, k9, k10, -, -, -, kf, klt⟩ := H.facts
 have kb := H.buf D.done hd
 have q0 : (0 : Int) ≤ (D.done : Int) := by omega
 have q1 : (D.done : Int) < 512 := by omega
 have HD := Lib.hid hd
 clear hd
 obtain ⟨u, hu⟩ : ∃ u, u = D.buf D.done := ⟨_, rfl⟩
 rw [← hu] at kb
 have HU := Lib.hid hu
 obtain ⟨dn, hdn⟩ : ∃ dn, dn = D.done := ⟨_, rfl⟩
 rw [← hdn] at k9 kb q0 q1
 have HDN := Lib.hid hdn
 have HH := Lib.hid H
 clear hdn hu H
 have HM := Lib.hid hm
 rcases hm with hm | hm
 all_goals
  rw [hm] at k10
  have HM1 := Lib.hid hm
  clear hm
  by_cases hlt : dn + 1 < 512
  ·have g : (dn : Int) + 1 < 512 := by omega
   have HL := Lib.hid hlt
   clear hlt
   go_enter Tryz.func98, Tryz.ntmps98
   go_wp2_with fail
   go_quiet (fail)
   go_wp2_with fail
   go_ret
   have e : gotTo D = D.setDone (dn + 1) := by unfold gotTo; rw [if_pos (by rw [← HDN.out]; exact HL.out), HDN.out]
   rw [e]
   have E := got_in HH.out HD.out nq ((dn : Int) + 1) (by rw [HDN.out])
   rw [← HDN.out] at E
   refine ⟨?_, E⟩
   rw [← HU.out]; rfl
  ·have hd2 : dn = 511 := by omega
   have HD2 := Lib.hid hd2
   clear hd2 hlt
   go_enter Tryz.func98, Tryz.ntmps98
   go_wp2_with fail
   go_quiet (fail)
   go_upto_region 6 with (fail)
   have E := got_in HH.out HD.out nq ((dn : Int) + 1) (by rw [HDN.out])
   clear k9 k10 kf klt kb
   generalize (w.drewN nq).setCell ⟨b, 521, none⟩ (.int .i64 ((dn : Int) + 1)) = w1 at *
   obtain ⟨H1, K1⟩ := E
   obtain ⟨-, -, -, -, -, -, -, -, -, k9, k10, -, -, -, kf, klt⟩ := H1.facts
   have e9 : (D.setDone (D.done + 1)).done = 512 := by show D.done + 1 = 512; rw [← HDN.out, HD2.out]
   have e10 : (D.setDone (D.done + 1)).mode = D.mode := rfl
   rw [e9] at k9
   rw [e10, HM1.out] at k10
   have k9' : w1.cell? ⟨b, 521, none⟩ = some (.int .i64 512) := k9
   have HH1 := Lib.hid H1
   have HK1 := Lib.hid K1
   clear e9 e10 k9 H1 K1
   have HNL := Lib.hid (show ¬ D.done + 1 < 512 by rw [← HDN.out, HD2.out]; decide)
   go_wp2_with fail
   first
    | (refine (next_in HH1.out).mono ?_
       rintro e w2 ⟨rfl, H2, K2⟩
       go_wp2_with fail
       go_ret
       have e : gotTo D = (D.setDone (D.done + 1)).next := by unfold gotTo; rw [if_neg HNL.out, if_neg (by rw [HM1.out]; decide)]
       rw [e]
       refine ⟨?_, H2, HK1.out.trans K2⟩
       rw [← HU.out]; rfl)
    | (go_ret
       have e : gotTo D = (D.setDone (D.done + 1)).setMode 0 := by unfold gotTo; rw [if_neg HNL.out, if_pos HM1.out]
       rw [e]
       have E := turned HH1.out (Blk.mode (Blk.of HH1.out) 0 0 rfl) ((Keeps.refl _ w1).setOne _ _) (Dk.idle_ok HH1.out.ok) rfl rfl rfl
       refine ⟨?_, E.1, HK1.out.trans E.2⟩
       rw [← HU.out]; rfl)
theorem Dk.getB_eq (S : Dk) (hm : S.mode = 1 ∨ S.mode = 3) : S.getB = gotTo S := by
 unfold Dk.getB gotTo
 rw [if_pos hm]
 rfl
theorem get_in (H : IdeIn 115 w b ds lv D) (hr : D.room) :
    Calls Tryz.prog 98 #[.pointer (some ⟨b, 0, none⟩)] w fun e w' => e = .returned (.int .u8 (D.gets : Nat)) ∧ IdeIn 115 w' b ds lv D.getB ∧ Keeps (· = b) w w' := by
 by_cases hm : D.mode = 1 ∨ D.mode = 3
 ·have e : D.gets = D.buf D.done := by unfold Dk.gets; rw [if_pos hm]
  rw [e, Dk.getB_eq D hm]
  exact get_live H hm (hr (by omega))
 ·have e : D.gets = 255 := by unfold Dk.gets; rw [if_neg hm]
  have e2 : D.getB = D := by unfold Dk.getB; rw [if_neg hm]
  rw [e, e2]
  refine (get_idle H (by omega) (by omega)).mono ?_
  rintro e w' ⟨rfl, rfl⟩
  exact ⟨rfl, H, Keeps.refl _ _⟩
theorem put_in (H : IdeIn 115 w b ds lv D) (hr : D.room) (v : Nat) (hv : v < 256) (hL : D.log.length < 17592186044416) :
    Calls Tryz.prog 96 #[.pointer (some ⟨b, 0, none⟩), .int .u8 v] w fun e w' => e = .returned (.tuple #[]) ∧ ∃ lv', IdeIn 115 w' b ds lv' (D.putB v) ∧ Keeps (Held b ds lv) w w' ∧ ∀ k, lv'.ownBlock = some k → lv.ownBlock = some k ∨ w.heap.size ≤ k := by
 by_cases hm : D.mode = 2
 ·exact put_live H v hv hm (hr (by omega)) hL
 ·have e : D.putB v = D := by unfold Dk.putB; rw [if_neg hm]
  rw [e]
  refine (put_idle H v hm).mono ?_
  rintro e w' ⟨rfl, rfl⟩
  exact ⟨rfl, lv, H, Keeps.refl _ _, fun k h => .inl h⟩
end
end Go.Proofs.YtojmpdddfnkffaaGreat.Ide

/- ide: Out. -/
namespace Go.Proofs.YtojmpdddfnkffaaGreat.Ide
open Go.RowKit
set_option linter.unusedVariables false

def Dk.puts (S : Dk) (v : Nat) : Nat → Dk
 | 0 => S
 | k + 1 => if (S.puts v k).other then S.puts v k else (S.puts v k).putB (v / 256 ^ k % 256)
theorem Dk.puts_go (S : Dk) (v k : Nat) (h : (S.puts v k).other = false) : S.puts v (k + 1) = (S.puts v k).putB (v / 256 ^ k % 256) := by
 rw [Dk.puts, h]; rfl
theorem Dk.puts_stay (S : Dk) (v k : Nat) (h : (S.puts v k).other = true) (m : Nat) : S.puts v (k + m) = S.puts v k := by
 induction m with
 | zero => rfl
 | succ m ih => rw [show k + (m + 1) = (k + m) + 1 from rfl, Dk.puts, ih, h]; rfl
theorem step_log (S : Dk) : S.step.log = S.log := rfl
theorem begin_log (S : Dk) (m : Nat) : (S.begin m).log = S.log := by
 unfold Dk.begin
 split
 ·split <;> rfl
 ·rfl
theorem next_log (S : Dk) : S.next.log = S.log := by
 unfold Dk.next
 split
 ·rfl
 ·rw [begin_log, step_log]
theorem logAt_log (S : Dk) (p : Nat) : (S.logAt p).log = S.log ++ [p] := rfl
theorem write_log (S : Dk) : S.write.log = S.log ++ [S.place] := by unfold Dk.write; rw [logAt_log, Dk.flushAt_log]
theorem mark_log (S : Dk) (x : Bool) : ({ S with mark := x } : Dk).log = S.log := rfl
theorem fail_log (S : Dk) (e : Nat) : (S.fail e).log = S.log := rfl
theorem putB_log (S : Dk) (b : Nat) : (S.putB b).log.length ≤ S.log.length + 1 := by
 unfold Dk.putB
 split
 ·split
  ·rw [Dk.put1_log]; omega
  ·split
   ·rw [mark_log, next_log, write_log, List.length_append, Dk.put1_log]; exact Nat.le_refl _
   ·rw [fail_log, Dk.put1_log]; omega
 ·omega
theorem puts_log (S : Dk) (v k : Nat) : (S.puts v k).log.length ≤ S.log.length + k := by
 induction k with
 | zero => exact Nat.le_refl _
 | succ k ih =>
  rw [Dk.puts]
  split
  ·omega
  ·have := putB_log (S.puts v k) (v / 256 ^ k % 256); omega
theorem room_puts {S : Dk} (h : S.room) (v k : Nat) : (S.puts v k).room := by
 induction k with
 | zero => exact h
 | succ k ih =>
  rw [Dk.puts]
  split
  ·exact ih
  ·exact room_put ih _
def Went (w : World) (b : Nat) (ds lv : Value) (D : Dk) (wr : World) : Prop :=
 ∃ lv', IdeIn 115 wr b ds lv' D ∧ Keeps (Held b ds lv) w wr ∧ ∀ k, lv'.ownBlock = some k → lv.ownBlock = some k ∨ w.heap.size ≤ k
theorem Went.next {w wr w1 : World} {b : Nat} {ds lv lv1 : Value} {D1 : Dk} (K : Keeps (Held b ds lv) w wr) (N : ∀ k, lv1.ownBlock = some k → lv.ownBlock = some k ∨ w.heap.size ≤ k) (h : Went wr b ds lv1 D1 w1) : Went w b ds lv D1 w1 := by
 obtain ⟨lv2, H, K2, N2⟩ := h
 refine ⟨lv2, H, K.andThen K2 fun i hi hs => ?_, fun k hk => ?_⟩
 ·rcases hs with h | h | h
  ·exact Or.inl h
  ·exact Or.inr (Or.inl h)
  ·rcases N i h with h | h
   ·exact Or.inr (Or.inr h)
   ·omega
 ·rcases N2 k hk with h | h
  ·exact N k h
  ·exact .inr (Nat.le_trans K.size h)
theorem Went.drewN {w wr : World} {b : Nat} {ds lv : Value} {D : Dk} (h : Went w b ds lv D wr) (n : Nat) : Went w b ds lv D (wr.drewN n) := by
 obtain ⟨lv1, H, K, N⟩ := h
 exact ⟨lv1, H.drewN n, K.drewN n, N⟩
theorem Went.of {w wr : World} {b : Nat} {ds lv : Value} {D : Dk} (H : IdeIn 115 wr b ds lv D) (K : Keeps (· = b) w wr) : Went w b ds lv D wr := ⟨lv, H, K.mono fun k _ h => Or.inl h, fun k h => .inl h⟩
section
variable {w : World} {b : Nat} {ds lv : Value} {D : Dk}
theorem out_err (reg size v : Int) (x : Int) (he : callErr reg size = x) (hx : (x != 0) = true) :
    Calls Tryz.prog 62 #[.pointer (some ⟨b, 0, none⟩), .int .i64 reg, .int .i64 size, .int .u32 v] w fun e w' => e = .returned (.int .i64 x) ∧ w = w' := by
 have HC := Lib.hid (check_in (w := w) (b := b) reg size)
 have HE := Lib.hid he
 clear he
 go_enter Tryz.func62, Tryz.ntmps62
 go_wp2_with fail
 refine HC.out.mono ?_
 rintro e w1 ⟨rfl, rfl⟩
 rw [HE.out]
 go_wp2_with fail
 go_returns
 exact ⟨rfl, rfl⟩
theorem out_0 (H : IdeIn 115 w b ds lv D) (hr : D.room) (s v : Nat) (hs : s = 1 ∨ s = 2 ∨ s = 4) (hv : v < 4294967296) (hL : D.log.length + 4 < 17592186044416) :
    Calls Tryz.prog 62 #[.pointer (some ⟨b, 0, none⟩), .int .i64 0, .int .i64 (s : Nat), .int .u32 v] w fun e w' => e = .returned (.int .i64 0) ∧ Went w b ds lv (D.puts v s) w' := by
 have he : callErr 0 (s : Int) = 0 := by unfold callErr; rcases hs with rfl | rfl | rfl <;> rfl
 have HC := Lib.hid (check_in (w := w) (b := b) 0 (s : Int))
 have HE := Lib.hid he
 have hs4 : s ≤ 4 := by omega
 have HS := Lib.hid hs
 have HL := Lib.hid hL
 have HH := Lib.hid H
 have HR := Lib.hid hr
 clear he hs hL H hr
 go_enter Tryz.func62, Tryz.ntmps62
 go_wp2_with fail
 refine HC.out.mono ?_
 rintro e w1 ⟨rfl, rfl⟩
 rw [HE.out]
 go_wp2_with fail
 go_loopw [10] (fun i wr => ∃ k : Nat, k ≤ s ∧ i = .int .i64 k ∧ Went w b ds lv (D.puts v k) wr) (fun i _ => s - (intOf i).toNat)
 case atStart => exact ⟨0, by omega, rfl, .of HH.out (Keeps.refl _ _)⟩
 case round =>
  obtain ⟨k, hk, rfl, lv1, H1, K1, N1⟩ := hrel
  have HH1 := Lib.hid H1
  have HK1 := Lib.hid K1
  have HN1 := Lib.hid N1
  clear H1 K1 N1
  by_cases hlt : k < s
  ·cases ho : (D.puts v k).other
   ·have HO := Lib.hid ho
    clear ho
    have q2 : (0 : Int) ≤ 8 * (k : Int) := by omega
    have q3 : (8 : Int) * (k : Int) ≤ 32 := by omega
    go_wp2_with fail
    refine (other_in HH1.out).mono ?_
    rintro e w2 ⟨rfl, rfl⟩
    rw [HO.out]
    go_wp2_with fail
    rw [shr_nat v k]
    refine (put_in HH1.out (room_puts HR.out v k) (v / 256 ^ k % 256) (Nat.mod_lt _ (by decide)) (by have := puts_log D v k; have := HL.out; omega)).mono ?_
    rintro e w2 ⟨rfl, lv2, H2, K2, N2⟩
    have G := Went.next HK1.out HN1.out (⟨lv2, H2, K2, N2⟩ : Went _ b ds lv1 _ w2)
    rw [← Dk.puts_go D v k HO.out] at G
    have HG := Lib.hid G
    clear H2 K2 N2 G
    go_wp2_with fail
    go_roundw
    case rel => exact ⟨k + 1, by omega, by go_num, HG.out⟩
    case measure => (simp [intOf]) <;> omega
   ·have HO := Lib.hid ho
    clear ho
    go_wp2_with fail
    refine (other_in HH1.out).mono ?_
    rintro e w2 ⟨rfl, rfl⟩
    rw [HO.out]
    go_wp2_with fail
    go_returns
    have e := Dk.puts_stay D v k HO.out (s - k)
    rw [show k + (s - k) = s by omega] at e
    exact ⟨rfl, by rw [e]; exact ⟨lv1, HH1.out, HK1.out, HN1.out⟩⟩
  ·have hk2 : k = s := by omega
   have HK2 := Lib.hid hk2
   clear hk2
   go_wp2_with fail
   go_returns
   exact ⟨rfl, by rw [← HK2.out]; exact ⟨lv1, HH1.out, HK1.out, HN1.out⟩⟩
theorem out_1 (size v : Int) :
    Calls Tryz.prog 62 #[.pointer (some ⟨b, 0, none⟩), .int .i64 1, .int .i64 size, .int .u32 v] w fun e w' => e = .returned (.int .i64 0) ∧ w = w' := by
 go_enter Tryz.func62, Tryz.ntmps62
 go_wp2_with fail
 refine (check_in 1 size).mono ?_
 rintro e w1 ⟨rfl, rfl⟩
 rw [show callErr 1 size = 0 from rfl]
 go_wp2_with fail
 go_returns
 exact ⟨rfl, rfl⟩
theorem out_7 (H : IdeIn 115 w b ds lv D) (size : Int) (v : Nat) (hv : v < 4294967296) :
    Calls Tryz.prog 62 #[.pointer (some ⟨b, 0, none⟩), .int .i64 7, .int .i64 size, .int .u32 v] w fun e w' => e = .returned (.int .i64 0) ∧ IdeIn 115 w' b ds lv (D.command (v % 256)) ∧ Keeps (· = b) w w' := by
 go_enter Tryz.func62, Tryz.ntmps62
 go_wp2_with fail
 refine (check_in 7 size).mono ?_
 rintro e w1 ⟨rfl, rfl⟩
 rw [show callErr 7 size = 0 from rfl]
 go_wp2_with fail
 refine (command_in H (v % 256) (Nat.mod_lt _ (by decide)) _ (by omega)).mono ?_
 rintro e w2 ⟨rfl, H2, K2⟩
 go_wp2_with fail
 go_returns
 exact ⟨rfl, H2, K2⟩
theorem Dk.setC_ok {S : Dk} (h : S.ok) (v : Nat) (hv : v < 256) : (S.setC v).ok := { h with c := hv }
theorem nat_field (x s k : Nat) : x &&& ((2 ^ k - 1) * 2 ^ s) = x / 2 ^ s % 2 ^ k * 2 ^ s := by
 rw [← Nat.shiftLeft_eq, ← Nat.shiftLeft_eq, ← Nat.shiftRight_eq_div_pow]
 apply Nat.eq_of_testBit_eq
 intro i
 simp only [Nat.testBit_and, Nat.testBit_shiftLeft, Nat.testBit_mod_two_pow, Nat.testBit_shiftRight, Nat.testBit_two_pow_sub_one]
 by_cases h : s ≤ i
 ·have : s + (i - s) = i := by omega
  simp [h, this, Bool.and_comm]
 ·simp [h]
theorem reset_bits (v : Nat) (hv : v < 4294967296) : (bits .and .u32 (v : Int) 4 != 0) = (v / 4 % 2 == 1) := by
 have e : bits .and .u32 (v : Int) 4 = ((v &&& 4 : Nat) : Int) := u32_and_nat v 4 hv (by decide)
 have h : v &&& 4 = v / 4 % 2 * 4 := nat_field v 2 1
 rw [e, h, Bool.eq_iff_iff]
 rcases Nat.mod_two_eq_zero_or_one (v / 4) with h0 | h0 <;> rw [h0] <;> decide
theorem out_8 (H : IdeIn 115 w b ds lv D) (size : Int) (v : Nat) (hv : v < 4294967296) :
    Calls Tryz.prog 62 #[.pointer (some ⟨b, 0, none⟩), .int .i64 8, .int .i64 size, .int .u32 v] w fun e w' =>
     e = .returned (.int .i64 0) ∧ IdeIn 115 w' b ds lv (if v / 4 % 2 == 1 then (D.setC (v % 256)).fresh else D.setC (v % 256)) ∧ Keeps (· = b) w w' := by
 obtain ⟨-, -, -, -, -, -, -, -, k8, -, -, -, -, -, kf, klt⟩ := H.facts
 have hb := reset_bits v hv
 have E := turned H (Blk.ctl (Blk.of H) (v % 256) ((v : Int) % 256) (by omega)) ((Keeps.refl _ w).setOne _ _) (Dk.setC_ok H.ok _ (Nat.mod_lt _ (by decide))) rfl rfl rfl
 have HE := Lib.hid E
 clear E H
 cases hx : v / 4 % 2 == 1
 all_goals
  rw [hx] at hb
  clear hx
  go_enter Tryz.func62, Tryz.ntmps62
  go_wp2_with fail
  refine (check_in 8 size).mono ?_
  rintro e w1 ⟨rfl, rfl⟩
  rw [show callErr 8 size = 0 from rfl]
  go_wp2_with fail
  first
   | (go_returns
      exact ⟨rfl, HE.out⟩)
   | (refine (reset_in HE.out.1).mono ?_
      rintro e w2 ⟨rfl, H2, K2⟩
      go_wp2_with fail
      go_returns
      exact ⟨rfl, H2, HE.out.2.trans K2⟩)
theorem Dk.setR_ok {S : Dk} (h : S.ok) (k v : Nat) (hv : v < 256) : (S.setR k v).ok := { h with r := upd_lt h.r k v hv }
theorem out_r (H : IdeIn 115 w b ds lv D) (r : Nat) (h2 : 2 ≤ r) (h6 : r ≤ 6) (size : Int) (v : Nat) (hv : v < 4294967296) :
    Calls Tryz.prog 62 #[.pointer (some ⟨b, 0, none⟩), .int .i64 (r : Nat), .int .i64 size, .int .u32 v] w fun e w' =>
     e = .returned (.int .i64 0) ∧ IdeIn 115 w' b ds lv (D.setR r (v % 256)) ∧ Keeps (· = b) w w' := by
 have hc := H.reg r (by omega)
 have kf : ∀ k, w.frozen? ⟨b, k, none⟩ = false := fun k => free_at H.obj
 have he : callErr (r : Int) size = 0 := by unfold callErr; rw [if_neg (by omega), if_neg (by omega)]
 have E := turned H (Blk.reg1 (Blk.of H) r (v % 256) ((v : Int) % 256) (by omega) (by omega)) ((Keeps.refl _ w).setOne _ _) (Dk.setR_ok H.ok r _ (Nat.mod_lt _ (by decide))) rfl rfl rfl
 have HE := Lib.hid E
 have HC := Lib.hid he
 have g0 : ((r : Int) == 0) = false := by simp; omega
 have g1 : ((r : Int) == 1) = false := by simp; omega
 have g7 : ((r : Int) == 7) = false := by simp; omega
 have g8 : ((r : Int) == 8) = false := by simp; omega
 have q0 : (0 : Int) ≤ (r : Int) := by omega
 have q1 : (r : Int) < 7 := by omega
 clear E H he h2 h6
 go_enter Tryz.func62, Tryz.ntmps62
 go_wp2_with fail
 refine (check_in (r : Int) size).mono ?_
 rintro e w1 ⟨rfl, rfl⟩
 rw [HC.out]
 go_wp2_with fail
 go_returns
 exact ⟨rfl, HE.out⟩
end
end Go.Proofs.YtojmpdddfnkffaaGreat.Ide

/- ide: In. -/
namespace Go.Proofs.YtojmpdddfnkffaaGreat.Ide
open Go.RowKit
set_option linter.unusedVariables false

theorem or_shift (v b k : Nat) (hv : v < 256 ^ k) (hb : b < 256) (hk : k < 4) : bits .or .u32 (v : Int) ((b : Int) * 2 ^ (8 * k) % 4294967296) = ((v + b * 256 ^ k : Nat) : Int) := by
 have hp : (256 : Nat) ^ k = 2 ^ (8 * k) := by rw [Nat.pow_mul]
 have hle : b * 256 ^ k ≤ 255 * 256 ^ k := Nat.mul_le_mul_right _ (by omega)
 have h3 : 256 ^ k ≤ 256 ^ 3 := Nat.pow_le_pow_right (by decide) (by omega)
 have e : ((b : Int) * 2 ^ (8 * k) % 4294967296) = ((b * 256 ^ k : Nat) : Int) := by
  rw [hp]
  rw [hp] at hle h3
  rw [Int.emod_eq_of_lt]
  ·simp
  ·exact Int.mul_nonneg (by omega) (Int.pow_nonneg (by decide))
  ·have : ((b : Int) * 2 ^ (8 * k)) = ((b * 2 ^ (8 * k) : Nat) : Int) := by simp
   rw [this]; omega
 rw [e, u32_or_nat _ _ (by omega) (by omega), Nat.or_comm]
 congr 1
 rw [Nat.add_comm, hp]
 rw [hp] at hv
 exact nat_join (8 * k) _ _ (by simp) hv
def Dk.getN (S : Dk) : Nat → Dk
 | 0 => S
 | k + 1 => (S.getN k).getB
def Dk.getV (S : Dk) : Nat → Nat
 | 0 => 0
 | k + 1 => S.getV k + (S.getN k).gets * 256 ^ k
theorem gets_lt {S : Dk} (h : S.ok) : S.gets < 256 := by
 unfold Dk.gets
 split
 ·exact h.buf _
 ·decide
theorem room_getN {S : Dk} (h : S.room) (k : Nat) : (S.getN k).room := by
 induction k with
 | zero => exact h
 | succ k ih => exact room_get ih
def Dk.status (S : Dk) : Nat := 80 + (if S.mode = 0 then 0 else 8) + (if S.failed then 1 else 0)
section
variable {w : World} {b : Nat} {ds lv : Value} {D : Dk}
theorem in_err (reg size : Int) (x : Int) (he : callErr reg size = x) (hx : (x != 0) = true) :
    Calls Tryz.prog 64 #[.pointer (some ⟨b, 0, none⟩), .int .i64 reg, .int .i64 size] w fun e w' => e = .returned (.tuple #[.int .u32 0, .int .i64 x]) ∧ w = w' := by
 have HC := Lib.hid (check_in (w := w) (b := b) reg size)
 have HE := Lib.hid he
 clear he
 go_enter Tryz.func64, Tryz.ntmps64
 go_wp2_with fail
 refine HC.out.mono ?_
 rintro e w1 ⟨rfl, rfl⟩
 rw [HE.out]
 go_wp2_with fail
 go_ret2
 exact ⟨rfl, rfl⟩
theorem in_other (H : IdeIn 115 w b ds lv D) (reg size : Int) (he : callErr reg size = 0) (ho : D.other = true) (h6 : reg ≠ 6) :
    Calls Tryz.prog 64 #[.pointer (some ⟨b, 0, none⟩), .int .i64 reg, .int .i64 size] w fun e w' => e = .returned (.tuple #[.int .u32 0, .int .i64 0]) ∧ w = w' := by
 have HC := Lib.hid (check_in (w := w) (b := b) reg size)
 have HE := Lib.hid he
 have HO := Lib.hid (other_in H)
 have H1 := Lib.hid ho
 have g : (reg != 6) = true := by simpa using h6
 clear he ho h6
 go_enter Tryz.func64, Tryz.ntmps64
 go_wp2_with fail
 refine HC.out.mono ?_
 rintro e w1 ⟨rfl, rfl⟩
 rw [HE.out]
 go_wp2_with fail
 refine HO.out.mono ?_
 rintro e w1 ⟨rfl, rfl⟩
 rw [H1.out]
 go_wp2_with fail
 go_ret2
 exact ⟨rfl, rfl⟩
theorem in_r (H : IdeIn 115 w b ds lv D) (r : Nat) (h1 : 1 ≤ r) (h6 : r ≤ 6) (size : Int) (ho : D.other = false ∨ r = 6) :
    Calls Tryz.prog 64 #[.pointer (some ⟨b, 0, none⟩), .int .i64 (r : Nat), .int .i64 size] w fun e w' => e = .returned (.tuple #[.int .u32 (D.r r : Nat), .int .i64 0]) ∧ w = w' := by
 have hc := H.reg r (by omega)
 have hlt := H.ok.r r
 have he : callErr (r : Int) size = 0 := by unfold callErr; rw [if_neg (by omega), if_neg (by omega)]
 have HE := Lib.hid he
 have HO := Lib.hid (other_in H)
 have g0 : ((r : Int) == 0) = false := by simp; omega
 have g7 : (r : Int) < 7 := by omega
 have q0 : (0 : Int) ≤ (r : Int) := by omega
 obtain ⟨u, hu⟩ : ∃ u, u = D.r r := ⟨_, rfl⟩
 rw [← hu] at hc hlt
 have HU := Lib.hid hu
 clear hu he H h1
 rcases ho with ho | ho
 ·have H1 := Lib.hid ho
  clear ho
  go_enter Tryz.func64, Tryz.ntmps64
  go_wp2_with fail
  refine (check_in (r : Int) size).mono ?_
  rintro e w1 ⟨rfl, rfl⟩
  rw [HE.out]
  go_wp2_with fail
  refine HO.out.mono ?_
  rintro e w1 ⟨rfl, rfl⟩
  rw [H1.out]
  go_wp2_with fail
  go_ret2
  exact ⟨by rw [← HU.out]; rfl, rfl⟩
 ·have g6 : ((r : Int) != 6) = false := by simp; omega
  clear ho
  cases hx : D.other
  all_goals
   have H1 := Lib.hid hx
   clear hx
   go_enter Tryz.func64, Tryz.ntmps64
   go_wp2_with fail
   refine (check_in (r : Int) size).mono ?_
   rintro e w1 ⟨rfl, rfl⟩
   rw [HE.out]
   go_wp2_with fail
   refine HO.out.mono ?_
   rintro e w1 ⟨rfl, rfl⟩
   rw [H1.out]
   go_wp2_with fail
   go_ret2
   exact ⟨by rw [← HU.out]; rfl, rfl⟩
theorem Dk.mark_ok {S : Dk} (h : S.ok) (x : Bool) : (S.setMark x).ok := { h with }
theorem in_s (H : IdeIn 115 w b ds lv D) (r : Int) (hr : r = 7 ∨ r = 8) (size : Int) (ho : D.other = false) :
    Calls Tryz.prog 64 #[.pointer (some ⟨b, 0, none⟩), .int .i64 r, .int .i64 size] w fun e w' => e = .returned (.tuple #[.int .u32 (D.status : Nat), .int .i64 0]) ∧ IdeIn 115 w' b ds lv (D.setMark (D.mark && r == 8)) ∧ Keeps (· = b) w w' := by
 obtain ⟨-, -, -, -, -, -, -, -, -, -, k10, k11, k12, -, kf, klt⟩ := H.facts
 have HO := Lib.hid (other_in H)
 have H1 := Lib.hid ho
 have HH := Lib.hid H
 have o1 : bits .or .u32 80 8 = 88 := by decide
 have o2 : bits .or .u32 88 1 = 89 := by decide
 have o3 : bits .or .u32 80 1 = 81 := by decide
 clear ho H
 obtain ⟨m, hm⟩ : ∃ m, m = D.mark := ⟨_, rfl⟩
 rw [← hm] at k11
 have HM := Lib.hid hm
 clear hm
 rcases hr with rfl | rfl
 all_goals
  cases hf : D.failed
  all_goals
   rw [hf] at k12
   have HF := Lib.hid hf
   clear hf
   by_cases hz : D.mode = 0
   ·have g : (((D.mode : Nat) : Int) != 0) = false := by rw [hz]; rfl
    have HZ := Lib.hid hz
    clear hz
    cases m
    all_goals
     go_enter Tryz.func64, Tryz.ntmps64
     go_wp2_with fail
     refine (check_in _ size).mono ?_
     rintro e w1 ⟨rfl, rfl⟩
     first | rw [show callErr 7 size = 0 from rfl] | rw [show callErr 8 size = 0 from rfl]
     go_wp2_with fail
     refine HO.out.mono ?_
     rintro e w1 ⟨rfl, rfl⟩
     rw [H1.out]
     go_wp2_with fail
     go_ret2
     refine ⟨by unfold Dk.status; rw [HZ.out, HF.out]; rfl, ?_⟩
     rw [← HM.out]
     exact turned HH.out (Blk.mark (Blk.of HH.out) _) ((Keeps.refl _ _).setOne _ _) (Dk.mark_ok HH.out.ok _) rfl rfl rfl
   ·have g : (((D.mode : Nat) : Int) != 0) = true := by simp; omega
    have HZ := Lib.hid hz
    clear hz
    cases m
    all_goals
     go_enter Tryz.func64, Tryz.ntmps64
     go_wp2_with fail
     refine (check_in _ size).mono ?_
     rintro e w1 ⟨rfl, rfl⟩
     first | rw [show callErr 7 size = 0 from rfl] | rw [show callErr 8 size = 0 from rfl]
     go_wp2_with fail
     refine HO.out.mono ?_
     rintro e w1 ⟨rfl, rfl⟩
     rw [H1.out]
     go_wp2_with fail
     go_ret2
     refine ⟨by unfold Dk.status; rw [if_neg HZ.out, HF.out]; rfl, ?_⟩
     rw [← HM.out]
     exact turned HH.out (Blk.mark (Blk.of HH.out) _) ((Keeps.refl _ _).setOne _ _) (Dk.mark_ok HH.out.ok _) rfl rfl rfl
theorem in_0 (H : IdeIn 115 w b ds lv D) (hr : D.room) (s : Nat) (hs : s = 1 ∨ s = 2 ∨ s = 4) (ho : D.other = false) :
    Calls Tryz.prog 64 #[.pointer (some ⟨b, 0, none⟩), .int .i64 0, .int .i64 (s : Nat)] w fun e w' => e = .returned (.tuple #[.int .u32 (D.getV s : Nat), .int .i64 0]) ∧ IdeIn 115 w' b ds lv (D.getN s) ∧ Keeps (· = b) w w' := by
 have he : callErr 0 (s : Int) = 0 := by unfold callErr; rcases hs with rfl | rfl | rfl <;> rfl
 have HC := Lib.hid (check_in (w := w) (b := b) 0 (s : Int))
 have HE := Lib.hid he
 have HO := Lib.hid (other_in H)
 have H1 := Lib.hid ho
 have hs4 : s ≤ 4 := by omega
 have HH := Lib.hid H
 have HR := Lib.hid hr
 clear he hs H hr ho
 go_enter Tryz.func64, Tryz.ntmps64
 go_wp2_with fail
 refine HC.out.mono ?_
 rintro e w1 ⟨rfl, rfl⟩
 rw [HE.out]
 go_wp2_with fail
 refine HO.out.mono ?_
 rintro e w1 ⟨rfl, rfl⟩
 rw [H1.out]
 go_wp2_with fail
 go_loopw [9, 53] (fun v i wr => ∃ k : Nat, k ≤ s ∧ i = .int .i64 k ∧ v = .int .u32 (D.getV k : Nat) ∧ D.getV k < 256 ^ k ∧ IdeIn 115 wr b ds lv (D.getN k) ∧ Keeps (· = b) w wr) (fun _ i _ => s - (intOf i).toNat)
 case atStart => exact ⟨0, by omega, rfl, rfl, (show (0 : Nat) < 1 by decide), HH.out, Keeps.refl _ _⟩
 case round =>
  obtain ⟨k, hk, rfl, rfl, hlt, H2, K2⟩ := hrel
  have HH2 := Lib.hid H2
  have HK2 := Lib.hid K2
  have HL := Lib.hid hlt
  clear H2 K2 hlt
  by_cases hks : k < s
  ·have q2 : (0 : Int) ≤ 8 * (k : Int) := by omega
   have q3 : (8 : Int) * (k : Int) ≤ 32 := by omega
   have hgl := gets_lt HH2.out.ok
   have HGL := Lib.hid hgl
   have HOR := Lib.hid (or_shift (D.getV k) ((D.getN k).gets) k HL.out hgl (by omega))
   have hv32 : D.getV k < 4294967296 := Nat.lt_of_lt_of_le HL.out (Nat.le_trans (Nat.pow_le_pow_right (by decide) (show k ≤ 4 by omega)) (by decide))
   go_wp2_with fail
   refine (get_in HH2.out (room_getN HR.out k)).mono ?_
   rintro e w3 ⟨rfl, H3, K3⟩
   go_wp2_with fail
   go_roundw
   case rel =>
    refine ⟨k + 1, by omega, by go_num, by rw [HOR.out]; rfl, ?_, H3, HK2.out.trans K3⟩
    show D.getV k + (D.getN k).gets * 256 ^ k < 256 ^ (k + 1)
    have h1 := HL.out
    have h2 : (D.getN k).gets * 256 ^ k ≤ 255 * 256 ^ k := Nat.mul_le_mul_right _ (by have := HGL.out; omega)
    rw [Nat.pow_succ]; omega
   case measure => (simp [intOf]) <;> omega
  ·have hk2 : k = s := by omega
   have HKS := Lib.hid hk2
   clear hk2
   go_wp2_with fail
   go_ret2
   exact ⟨by rw [← HKS.out]; rfl, by rw [← HKS.out]; exact HH2.out, HK2.out⟩
end
end Go.Proofs.YtojmpdddfnkffaaGreat.Ide

/- ide: New, Written, Disk. -/
namespace Go.Proofs.YtojmpdddfnkffaaGreat.Ide
open Go.RowKit
set_option linter.unusedVariables false

def Dk.made (n : Nat) (d : Nat → Nat) : Dk := ⟨n, d, fun _ => 0, 0, fun _ => 0, 0, 0, false, false, []⟩
theorem Dk.made_ok {n : Nat} {d : Nat → Nat} (hn : n ≤ 64) (hd : ∀ i, d i < 256) : (Dk.made n d).ok :=
 ⟨hn, hd, fun _ => (by show (0 : Nat) < 256; decide), (by show (0 : Nat) < 256; decide), fun _ => (by show (0 : Nat) < 256; decide), (by show (0 : Nat) ≤ 512; decide), (by show (0 : Nat) < 4; decide), fun x hx => by cases hx⟩
def blank : Dk := Dk.made 0 fun _ => 0
set_option maxRecDepth 100000 in
theorem built_new (a : Option Addr) (m c : Nat) : Tryz.prog.built 115 [(0, .slice a m c)] = some (blank.cells (.slice a m c) (.slice none 0 0)) := by kernel_rfl
def Dk.new (n : Nat) (d : Nat → Nat) : Dk := (Dk.made n d).fresh
theorem new_yes {w : World} {v : Value} {n : Nat} {d : Nat → Nat} (H : Reads w v (n * 512) d) (hn : n ≤ 64) (hd : ∀ i, d i < 256) :
    Calls Tryz.prog 23 #[v] w fun e w' => ∃ b ds, e = .returned (.tuple #[.pointer (some ⟨b, 0, none⟩), .int .i64 0]) ∧ IdeIn 115 w' b ds (.slice none 0 0) (Dk.new n d) ∧ w.heap.size ≤ b ∧ (∀ k, ds.ownBlock = some k → w.heap.size ≤ k) ∧ Below w.heap.size w w' := by
 have HC := Lib.hid (clone_any H (by omega))
 obtain ⟨a, c, rfl, hx⟩ := H
 clear hx
 have q1 : ((n * 512 : Nat) : Int) % 512 = 0 := by omega
 have q2 : ((n * 512 : Nat) : Int) ≤ 32768 := by omega
 obtain ⟨L, hL⟩ : ∃ L, L = n * 512 := ⟨_, rfl⟩
 rw [← hL] at q1 q2 HC ⊢
 have HL := Lib.hid hL
 clear hL hn
 go_enter Tryz.func23, Tryz.ntmps23
 go_wp2_with fail
 refine HC.out.mono ?_
 rintro e w1 ⟨ds, rfl, hown, hb⟩
 obtain ⟨a', m', c', rfl⟩ := row_slice hown
 have HW := Lib.hid hown
 clear hown
 go_wp2_with ((refine wpList_build_eq (o := ⟨some 16, _, _, _, _, _⟩) ?hg0 115 ?pt0 ?ho0 (blank.cells (.slice a' m' c') (.slice none 0 0)) ?hb0 ?_); (case ho0 => rfl); (case hg0 => rfl); (case hb0 => (simp only [List.map_toArray, List.map_cons, List.map_nil]; exact built_new a' m' c')))
 have H1 : IdeIn 115 (w1.alloc (.cells (blank.cells (.slice a' m' c') (.slice none 0 0)) 115)) w1.heap.size (.slice a' m' c') (.slice none 0 0) (Dk.made n d) := by
  have hlt := World.ownsRow.lt HW.out
  refine { obj := heap_new w1 _, disk := ?_, log := World.ownsRow_nil _ _ _ _, d1 := fun e => ?_, d2 := (fun e => by cases e), d3 := (fun k _ e => by cases e), ok := Dk.made_ok (by have := HL.out; omega) hd }
  ·have hr := row_base HW.out
   rw [HL.out] at hr
   exact hr.alloc _
  ·exact Nat.lt_irrefl _ (hlt _ e).2
 have HH1 := Lib.hid H1
 clear H1
 refine (reset_in HH1.out).mono ?_
 rintro e w2 ⟨rfl, H2, K2⟩
 have HH2 := Lib.hid H2
 clear H2
 go_wp2_with fail
 go_ret2
 refine ⟨w1.heap.size, .slice a' m' c', rfl, HH2.out, hb.size, fun k hk => (World.ownsRow.lt HW.out k hk).1, ?_⟩
 exact Keeps.toBelow (hb.alloc hb.size _) K2 (by simp; have := hb.size; omega) (fun i h => by rw [h]; exact hb.size)
theorem new_bad {w : World} (a : Option Addr) (m c : Nat) (h : m % 512 ≠ 0 ∨ 32768 < m) :
    Calls Tryz.prog 23 #[.slice a m c] w fun e w' => e = .returned (.tuple #[.pointer none, .int .i64 140]) ∧ w = w' := by
 by_cases h1 : m % 512 = 0
 ·have h2 : 32768 < m := by omega
  have q1 : ((m : Int) % 512 != 0) = false := by simp; omega
  have q2 : (32768 : Int) < (m : Int) := by omega
  clear h h1 h2
  go_enter Tryz.func23, Tryz.ntmps23
  go_wp2_with fail
  go_ret2
  exact ⟨rfl, rfl⟩
 ·have q1 : ((m : Int) % 512 != 0) = true := by simp; omega
  clear h h1
  go_enter Tryz.func23, Tryz.ntmps23
  go_wp2_with fail
  go_ret2
  exact ⟨rfl, rfl⟩
section
variable {w : World} {b : Nat} {ds lv : Value} {D : Dk}
def Dk.quit (S : Dk) : Dk := { S with log := [] }
theorem Dk.quit_ok {S : Dk} (h : S.ok) : S.quit.ok := { h with log := fun x hx => by cases hx }
theorem written_in (H : IdeIn 115 w b ds lv D) :
    Calls Tryz.prog 92 #[.pointer (some ⟨b, 0, none⟩)] w fun e w' => e = .returned lv ∧ IdeIn 115 w' b ds (.slice none 0 0) D.quit ∧ Keeps (· = b) w w' := by
 obtain ⟨-, -, -, -, -, -, -, -, -, -, -, -, -, k13, kf, klt⟩ := H.facts
 obtain ⟨a, m, c, rfl⟩ := row_slice H.log
 have HH := Lib.hid H
 clear H
 go_enter Tryz.func92, Tryz.ntmps92
 go_wp2_with fail
 go_ret
 have K : Keeps (· = b) w (w.setCell ⟨b, 525, none⟩ (.slice none 0 0)) := (Keeps.refl _ w).setOne _ _
 refine ⟨rfl, ({ obj := ?_, disk := ?_, log := World.ownsRow_nil _ _ _ _, d1 := HH.out.d1, d2 := (fun e => by cases e), d3 := (fun k _ e => by cases e), ok := Dk.quit_ok HH.out.ok } : IdeIn _ _ _ _ _ _), K⟩
 ·rw [heap_set_same (.slice none 0 0) HH.out.obj, Dk.put_log D ds (.slice a m c) [] (.slice none 0 0)]; rfl
 ·exact HH.out.disk.of_heap fun k hk => K.block k (HH.out.disk.lt hk) (fun e => HH.out.d1 (by rw [← e]; exact hk))
theorem reads_row {w : World} {v : Value} {n : Nat} {d : Nat → Nat} {B : Nat} (h : w.ownsRow B 5 1 v n (bytesL n d)) : Reads w v n d := by
 rcases h.2 with ⟨rfl, rfl⟩ | ⟨g, cap, cur, rfl, _, hg, h1, h2, h3, h4⟩
 ·exact ⟨none, 0, rfl, .inl ⟨rfl, fun _ => rfl⟩⟩
 ·rw [Nat.mul_one] at h4
  exact ⟨_, _, rfl, .inr ⟨g, 0, rfl, heap_lt hg, fun i hi => by rw [cell_at hg, Nat.zero_add]; exact take_at h4 hi⟩⟩
theorem disk_in (H : IdeIn 115 w b ds lv D) :
    Calls Tryz.prog 93 #[.pointer (some ⟨b, 0, none⟩)] w fun e w' => ∃ v, e = .returned v ∧ w'.ownsRow w.heap.size 5 1 v (D.n * 512) (bytesL (D.n * 512) D.d) ∧ Below w.heap.size w w' := by
 obtain ⟨k0, -⟩ := H.facts
 have HC := Lib.hid (clone_any (reads_row H.disk) (by have := H.ok.n; omega))
 obtain ⟨a, m, c, rfl⟩ := row_slice H.disk
 clear H
 go_enter Tryz.func93, Tryz.ntmps93
 go_wp2_with fail
 refine HC.out.mono ?_
 rintro e w1 ⟨v, rfl, h1, h2⟩
 have H1 := Lib.hid h1
 clear h1
 go_wp2_with fail
 go_ret
 exact ⟨v, rfl, H1.out, h2⟩
end
end Go.Proofs.YtojmpdddfnkffaaGreat.Ide

/- ide's laws: a disk's bytes; a command at a place; two lists. -/
namespace Go.Proofs.YtojmpdddfnkffaaGreat.Ide
open Go.RowKit
set_option linter.unusedVariables false

def fresh (n : Nat) (z : Value) : Array Value := Array.replicate n z
theorem made_fresh (z : Value) (n : Nat) (hz : z.cells = #[z]) : madeCells z.cells (n * 1) = fresh n z := by
 rw [hz]
 apply Array.ext_getElem?
 intro j
 unfold madeCells fresh
 simp [Array.getElem?_replicate, Array.getElem?_map, Array.getElem?_range]
 by_cases h : j < n <;> simp [h, Nat.mod_one]
theorem make_run (w : World) (T E : TypeId) (z : Value) (bytes n : Nat) (hT : Tryz.prog.underlying T = some (.slice E)) (hi : (Tryz.prog.info? E).map (fun i => (i.zero, i.size, i.bytes)) = some (some z, 1, bytes)) (hz : z.cells = #[z])
    (hb : bytes * n ≤ 281474976710656) (hn : n ≤ 9223372036854775807) (x y : Int) (hx : x = (n : Int)) (hy : y = (n : Int)) :
    (Instr.makeSlice T (.int .i64 x) (.int .i64 y)).run Tryz.prog w = .ok (.slice (some ⟨w.heap.size, 0, .none⟩) n n) (w.alloc (.cells (fresh n z) E)) := by
 subst hx hy
 cases h : Tryz.prog.info? E with
 | none => rw [h] at hi; cases hi
 | some i =>
  rw [h] at hi
  simp only [Option.map_some, Option.some.injEq, Prod.mk.injEq] at hi
  obtain ⟨h1, h2, h3⟩ := hi
  have hb' : (i.bytes : Int) * (n : Int) ≤ 281474976710656 := by
   have : ((bytes * n : Nat) : Int) ≤ 281474976710656 := by omega
   rw [h3]; rwa [Int.natCast_mul] at this
  have := run_make (P := Tryz.prog) w T E i z hT h h1 .i64 .i64 (n : Int) (n : Int) (by omega) (Int.le_refl _) hb' (by omega)
  rw [this, h2, Int.toNat_natCast, made_fresh z n hz]
theorem make_bytes (w : World) (n : Nat) (h : n ≤ 281474976710656) (x y : Int) (hx : x = (n : Int)) (hy : y = (n : Int)) :
    (Instr.makeSlice 22 (.int .i64 x) (.int .i64 y)).run Tryz.prog w = .ok (.slice (some ⟨w.heap.size, 0, .none⟩) n n) (w.alloc (.cells (fresh n (.int .u8 0)) 5)) :=
 make_run w _ _ _ 1 n Tryz.underlying22 (by kernel_rfl) rfl (by omega) (by omega) x y hx hy

def dsk (seed i : Nat) : Nat := ((i / 512 + 1) * 16 + i % 7 + seed) % 256
theorem dsk_lt (seed i : Nat) : dsk seed i < 256 := Nat.mod_lt _ (by decide)
def dskCells (m seed k : Nat) : Array Value := Array.ofFn (n := m) fun i => .int .u8 ((if i.val < k then dsk seed i.val else 0 : Nat) : Int)
theorem dsk_zero (m seed : Nat) : fresh m (.int .u8 0) = dskCells m seed 0 := by
 apply Array.ext_getElem?
 intro j
 unfold dskCells fresh
 rw [Array.getElem?_replicate, Array.getElem?_ofFn]
 by_cases h : j < m <;> simp [h]
theorem dsk_set (m seed k : Nat) (hk : k < m) : (dskCells m seed k).setIfInBounds k (.int .u8 (dsk seed k : Nat)) = dskCells m seed (k + 1) := by
 unfold dskCells
 rw [ofFn_set m (fun i => .int .u8 ((if i < k then dsk seed i else 0 : Nat) : Int)) k]
 refine ofFn_ext (f := fun i => if i = k then .int .u8 (dsk seed k : Nat) else .int .u8 ((if i < k then dsk seed i else 0 : Nat) : Int)) (g := fun i => .int .u8 ((if i < k + 1 then dsk seed i else 0 : Nat) : Int)) fun i hi => ?_
 by_cases e : i = k
 ·subst e; rw [if_pos rfl, if_pos (Nat.lt_succ_self _)]
 ·rw [if_neg e]
  by_cases h : i < k
  ·rw [if_pos h, if_pos (by omega)]
  ·rw [if_neg h, if_neg (by omega)]
theorem dsk_full (m seed : Nat) : (dskCells m seed m).toList = bytesL m (dsk seed) := by
 apply List.ext_getElem?
 intro j
 rw [Array.getElem?_toList]
 unfold dskCells
 rw [Array.getElem?_ofFn]
 by_cases h : j < m
 ·rw [dif_pos h, bytesL_at _ _ _ h]; show some (Value.int .u8 ((if j < m then dsk seed j else 0 : Nat) : Int)) = _; rw [if_pos h]
 ·rw [dif_neg h, bytesL_no _ _ _ (by omega)]
theorem dsk_cell {w : World} {g m seed k i : Nat} {T : TypeId} (h : w.heap[g]? = some (.cells (dskCells m seed k) T)) (hi : i < m) : ∃ x, w.cell? ⟨g, i, none⟩ = some (.int .u8 x) := by
 rw [cell_at h]; unfold dskCells; rw [Array.getElem?_ofFn, dif_pos hi]; exact ⟨_, rfl⟩
def secs (s : Int) : Nat := ((if s < 0 then -(s + 1) else s) % 5).toNat
theorem secs_lt (s : Int) : secs s < 5 := by unfold secs; omega
theorem lawdisk_any (s : Int) (h0 : -9223372036854775808 ≤ s) (h1 : s ≤ 9223372036854775807) (seed : Nat) (hs : seed < 256) (w : World) :
    Calls Tryz.prog 17 #[.int .i64 s, .int .u8 seed] w fun e w' => ∃ v, e = .returned v ∧ w'.ownsRow w.heap.size 5 1 v (secs s * 512) (bytesL (secs s * 512) (dsk seed)) ∧ Below w.heap.size w w' := by
 obtain ⟨n, hn⟩ : ∃ n, n = secs s := ⟨_, rfl⟩
 rw [← hn]
 have hn5 : n < 5 := by rw [hn]; exact secs_lt s
 have HN := Lib.hid hn
 have main : ∀ t : Int, (t = if s < 0 then -(s + 1) else s) → 0 ≤ t ∧ t % 5 = (n : Int) := fun t ht => by
  have := HN.out
  unfold secs at this
  rw [← ht] at this
  by_cases h : s < 0
  ·rw [if_pos h] at ht; omega
  ·rw [if_neg h] at ht; omega
 have HM := Lib.hid main
 obtain ⟨m, hm⟩ : ∃ m, m = n * 512 := ⟨_, rfl⟩
 rw [← hm]
 have hm2 : m ≤ 2048 := by omega
 have HMM := Lib.hid hm
 clear hn main hm
 go_enter Tryz.func17, Tryz.ntmps17
 go_upto_if 8 with (fail)
 go_cut [0] from 7 (fun x wc => ∃ t : Int, x = .int .i64 t ∧ (0 ≤ t ∧ t % 5 = (n : Int)) ∧ w = wc)
 case first =>
  by_cases hneg : s < 0
  ·have q : 0 ≤ -(s + 1) := by omega
   go_wp2_with fail
   go_meet
   exact ⟨_, rfl, HM.out _ (if_pos hneg).symm, rfl⟩
  ·go_wp2_with fail
   go_meet
   exact ⟨_, rfl, HM.out _ (if_neg (by omega)).symm, rfl⟩
 case rest =>
  obtain ⟨t, rfl, ⟨t0, t5⟩, rfl⟩ := hcut
  have hq : t % 5 * 512 = (m : Int) := by have := HMM.out; omega
  have hmk := make_bytes w m (by omega) (t % 5 * 512) (t % 5 * 512) hq hq
  clear hq t5 h0 h1 hn5
  go_wp2_with fail
  have HS0 := Lib.hid (dsk_zero m seed)
  rw [HS0.out]
  clear hmk
  go_loopw [6] (fun i wr => ∃ k : Nat, k ≤ m ∧ i = .int .i64 k ∧ wr.heap[w.heap.size]? = some (.cells (dskCells m seed k) 5) ∧ Below w.heap.size w wr) (fun i _ => m - (intOf i).toNat)
  case atStart => exact ⟨0, by omega, rfl, heap_new w _, (Below.refl _ _).alloc (Nat.le_refl _) _⟩
  case round =>
   obtain ⟨k, hk, rfl, hg, hB⟩ := hrel
   have hfz : ∀ j, wr.frozen? ⟨w.heap.size, j, none⟩ = false := fun j => free_at hg
   have hl := heap_lt hg
   by_cases hlt : k < m
   ·obtain ⟨x, hx⟩ := dsk_cell hg hlt
    have HG := Lib.hid hg
    have q1 : (0 : Int) ≤ (k : Int) := by omega
    have q2 : (k : Int) < (m : Int) := by omega
    have q3 : (k : Int) < 2048 := by omega
    clear hg
    go_wp2_with fail
    go_roundw
    case rel =>
     refine ⟨k + 1, by omega, by go_num, ?_, hB.setCell (Nat.le_refl _) _⟩
     rw [← dsk_set m seed k hlt]
     have := heap_set_same (.int .u8 (dsk seed k : Nat)) (k := k) HG.out
     trace_state
     exact this
    case measure => (simp [intOf]) <;> omega
   ·have hk2 : k = m := by omega
    have HK := Lib.hid hk2
    have HG := Lib.hid hg
    clear hk2 hg
    go_wp2_with fail
    go_ret
    have hg2 := HG.out
    rw [HK.out] at hg2
    refine ⟨_, rfl, ⟨by rw [bytesL_len]; omega, .inr ⟨w.heap.size, m, _, rfl, Nat.le_refl _, hg2, Nat.le_refl _, by unfold maxLen; omega, ?_, ?_⟩⟩, hB⟩
    ·unfold dskCells; rw [Array.size_ofFn]; omega
    ·rw [dsk_full, Nat.mul_one, List.take_of_length_le (by rw [bytesL_len]; exact Nat.le_refl _)]
end Go.Proofs.YtojmpdddfnkffaaGreat.Ide

/- ide: any write and any read of a register, as one; a disk that a law has made. -/
namespace Go.Proofs.YtojmpdddfnkffaaGreat.Ide
open Go.RowKit
set_option linter.unusedVariables false

def Dk.out (S : Dk) (reg size : Int) (v : Nat) : Dk :=
 if callErr reg size ≠ 0 then S
 else if reg = 0 then S.puts v size.toNat
 else if reg = 1 then S
 else if reg = 7 then S.command (v % 256)
 else if reg = 8 then (if v / 4 % 2 == 1 then (S.setC (v % 256)).fresh else S.setC (v % 256))
 else S.setR reg.toNat (v % 256)
def Dk.inV (S : Dk) (reg size : Int) : Nat :=
 if callErr reg size ≠ 0 then 0
 else if S.other ∧ reg ≠ 6 then 0
 else if reg = 0 then S.getV size.toNat
 else if reg < 7 then S.r reg.toNat
 else S.status
def Dk.inS (S : Dk) (reg size : Int) : Dk :=
 if callErr reg size ≠ 0 then S
 else if S.other ∧ reg ≠ 6 then S
 else if reg = 0 then S.getN size.toNat
 else if reg < 7 then S
 else S.setMark (S.mark && reg == 8)
theorem Dk.room_out {S : Dk} (h : S.room) (reg size : Int) (v : Nat) : (S.out reg size v).room := by
 unfold Dk.out
 split
 ·exact h
 split
 ·exact room_puts h _ _
 split
 ·exact h
 split
 ·exact room_command h _
 split
 ·split
  ·exact room_fresh _
  ·exact h
 ·exact h
theorem Dk.room_inS {S : Dk} (h : S.room) (reg size : Int) : (S.inS reg size).room := by
 unfold Dk.inS
 split
 ·exact h
 split
 ·exact h
 split
 ·exact room_getN h _
 split
 ·exact h
 ·exact h
theorem command_log (S : Dk) (c : Nat) : (S.command c).log = S.log := by
 unfold Dk.command
 split
 ·rfl
 split
 ·split
  ·rfl
  ·rw [begin_log]; rfl
 split
 ·split
  ·rfl
  ·rw [begin_log]; rfl
 split
 ·rfl
 split <;> rfl
theorem out_log (S : Dk) (reg size : Int) (v : Nat) (h : callErr reg size = 0) : (S.out reg size v).log.length ≤ S.log.length + (if reg = 0 then 4 else 0) := by
 unfold Dk.out
 rw [if_neg (by omega)]
 by_cases h0 : reg = 0
 ·rw [if_pos h0, if_pos h0]
  refine Nat.le_trans (puts_log _ _ _) ?_
  subst h0
  unfold callErr at h
  split at h
  ·omega
  ·split at h
   ·omega
   ·omega
 ·rw [if_neg h0, if_neg h0]
  split
  ·exact Nat.le_refl _
  split
  ·rw [command_log]; exact Nat.le_refl _
  split
  ·split <;> exact Nat.le_refl _
  ·exact Nat.le_refl _
section
variable {w : World} {b : Nat} {ds lv : Value} {D : Dk}
theorem out_any (H : IdeIn 115 w b ds lv D) (hr : D.room) (reg size : Int) (v : Nat) (hv : v < 4294967296) (hL : D.log.length + 4 < 17592186044416) :
    Calls Tryz.prog 62 #[.pointer (some ⟨b, 0, none⟩), .int .i64 reg, .int .i64 size, .int .u32 v] w fun e w' => e = .returned (.int .i64 (callErr reg size)) ∧ Went w b ds lv (D.out reg size v) w' := by
 unfold Dk.out
 by_cases he : callErr reg size = 0
 ·rw [if_neg (by omega), he]
  have he2 := he
  unfold callErr at he2
  by_cases h0 : reg = 0
  ·subst h0
   have hs : size = 1 ∨ size = 2 ∨ size = 4 := by
    split at he2
    ·omega
    ·split at he2
     ·omega
     ·omega
   rw [if_pos rfl]
   have := out_0 H hr size.toNat v (by omega) hv hL
   rwa [show ((size.toNat : Nat) : Int) = size by omega] at this
  ·rw [if_neg h0]
   by_cases h1 : reg = 1
   ·subst h1
    rw [if_pos rfl]
    refine (out_1 size v).mono ?_
    rintro e w1 ⟨rfl, rfl⟩
    exact ⟨rfl, Went.of H (Keeps.refl _ _)⟩
   ·rw [if_neg h1]
    by_cases h7 : reg = 7
    ·subst h7
     rw [if_pos rfl]
     refine (out_7 H size v hv).mono ?_
     rintro e w1 ⟨rfl, H1, K⟩
     exact ⟨rfl, Went.of H1 K⟩
    ·rw [if_neg h7]
     by_cases h8 : reg = 8
     ·subst h8
      rw [if_pos rfl]
      refine (out_8 H size v hv).mono ?_
      rintro e w1 ⟨rfl, H1, K⟩
      exact ⟨rfl, Went.of H1 K⟩
     ·rw [if_neg h8]
      have hr2 : 0 ≤ reg ∧ reg ≤ 8 := by
       split at he2
       ·omega
       ·omega
      have := out_r H reg.toNat (by omega) (by omega) size v hv
      rw [show ((reg.toNat : Nat) : Int) = reg by omega] at this
      refine this.mono ?_
      rintro e w1 ⟨rfl, H1, K⟩
      exact ⟨rfl, Went.of H1 K⟩
 ·rw [if_pos he]
  refine (out_err reg size v _ rfl (by simpa using he)).mono ?_
  rintro e w1 ⟨rfl, rfl⟩
  exact ⟨rfl, Went.of H (Keeps.refl _ _)⟩
theorem in_any (H : IdeIn 115 w b ds lv D) (hr : D.room) (reg size : Int) :
    Calls Tryz.prog 64 #[.pointer (some ⟨b, 0, none⟩), .int .i64 reg, .int .i64 size] w fun e w' => e = .returned (.tuple #[.int .u32 (D.inV reg size : Nat), .int .i64 (callErr reg size)]) ∧ Went w b ds lv (D.inS reg size) w' := by
 unfold Dk.inV Dk.inS
 by_cases he : callErr reg size = 0
 ·have he2 := he
  unfold callErr at he2
  have hz : ¬ (callErr reg size ≠ 0) := fun h => h he
  rw [if_neg hz, if_neg hz, he]
  by_cases ho : D.other = true ∧ reg ≠ 6
  ·rw [if_pos ho, if_pos ho]
   refine (in_other H reg size he ho.1 ho.2).mono ?_
   rintro e w1 ⟨rfl, rfl⟩
   exact ⟨rfl, Went.of H (Keeps.refl _ _)⟩
  ·rw [if_neg ho, if_neg ho]
   have ho2 : D.other = false ∨ reg = 6 := by
    cases h : D.other
    ·exact .inl rfl
    ·exact .inr (Classical.byContradiction fun q => ho ⟨h, q⟩)
   by_cases h0 : reg = 0
   ·subst h0
    have hs : size = 1 ∨ size = 2 ∨ size = 4 := by
     split at he2
     ·omega
     ·split at he2
      ·omega
      ·omega
    rw [if_pos rfl, if_pos rfl]
    have := in_0 H hr size.toNat (by omega) (ho2.resolve_right (by decide))
    rw [show ((size.toNat : Nat) : Int) = size by omega] at this
    refine this.mono ?_
    rintro e w1 ⟨rfl, H1, K⟩
    exact ⟨rfl, Went.of H1 K⟩
   ·rw [if_neg h0, if_neg h0]
    have hr2 : 0 ≤ reg ∧ reg ≤ 8 := by
     split at he2
     ·omega
     ·omega
    by_cases h7 : reg < 7
    ·rw [if_pos h7, if_pos h7]
     have := in_r (w := w) H reg.toNat (by omega) (by omega) size (ho2.imp id fun h => by omega)
     rw [show ((reg.toNat : Nat) : Int) = reg by omega] at this
     refine this.mono ?_
     rintro e w1 ⟨rfl, rfl⟩
     exact ⟨rfl, Went.of H (Keeps.refl _ _)⟩
    ·rw [if_neg h7, if_neg h7]
     refine (in_s H reg (by omega) size (ho2.resolve_right (by omega))).mono ?_
     rintro e w1 ⟨rfl, H1, K⟩
     exact ⟨rfl, Went.of H1 K⟩
 ·rw [if_pos he, if_pos he]
  refine (in_err reg size _ rfl (by simpa using he)).mono ?_
  rintro e w1 ⟨rfl, rfl⟩
  exact ⟨rfl, Went.of H (Keeps.refl _ _)⟩
end

theorem below_dn {B : Nat} {w a : World} (h : Below B w a) (n : Nat) : Below B w (a.drewN n) := ⟨h.os, h.tape, h.output, h.size, h.block⟩
def At (w0 w : World) (b : Nat) (D : Dk) : Prop :=
 ∃ ds lv, IdeIn 115 w b ds lv D ∧ D.room ∧ (∀ k, Held b ds lv k → w0.heap.size ≤ k) ∧ Below w0.heap.size w0 w
section
variable {w0 w w' : World} {b : Nat} {D : Dk}
theorem At.below (h : At w0 w b D) : Below w0.heap.size w0 w := by obtain ⟨ds, lv, H, R, N, B⟩ := h; exact B
theorem At.ok (h : At w0 w b D) : D.ok := by obtain ⟨ds, lv, H, R, N, B⟩ := h; exact H.ok
theorem At.room (h : At w0 w b D) : D.room := by obtain ⟨ds, lv, H, R, N, B⟩ := h; exact R
theorem At.move (h : At w0 w b D) (hb : Below w.heap.size w w') : At w0 w' b D := by
 obtain ⟨ds, lv, H, R, N, B⟩ := h
 exact ⟨ds, lv, H.keeps (Keeps.ofBelow (S := fun _ => False) hb) (fun _ _ h => h), R, N, Keeps.toBelow B (Keeps.ofBelow (S := fun _ => False) hb) B.size (fun _ h => h.elim)⟩
theorem At.drewN (h : At w0 w b D) (n : Nat) : At w0 (w.drewN n) b D := by
 obtain ⟨ds, lv, H, R, N, B⟩ := h
 exact ⟨ds, lv, H.drewN n, R, N, below_dn B n⟩
theorem At.set (h : At w0 w b D) {g : Nat} (hg : w0.heap.size ≤ g) (hn : ∀ ds lv, IdeIn 115 w b ds lv D → (∀ k, Held b ds lv k → w0.heap.size ≤ k) → ¬ Held b ds lv g) (k : Nat) (v : Value) : At w0 (w.setCell ⟨g, k, none⟩ v) b D := by
 obtain ⟨ds, lv, H, R, N, B⟩ := h
 refine ⟨ds, lv, H.of_heap fun i hi => heap_set_other _ (fun e => hn ds lv H N ?_), R, N, B.setCell hg _⟩
 rw [← show i = g from e]; exact hi
end
end Go.Proofs.YtojmpdddfnkffaaGreat.Ide

