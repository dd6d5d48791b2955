/- IdeF IdeG IdeH IdeI, together. -/
import Derived.Test.YtojmpdddfnkffaaMidea
import Derived.Deep.MidRow
import Derived.Deep.AppendLies
import Derived.Deep.RegionLaw
/- ide: a command. -/
namespace Go.Proofs.Ytojmpdddfnkffaa.Ide
open Go.RowKit
set_option linter.unusedVariables false

def tellCells (n : Nat) : Array Value := (bytesL 512 (tellBuf n)).toArray
set_option maxRecDepth 100000 in
theorem built_tell (n : Nat) : Try.prog.built 111 [(0, .int .u8 64), (99, .int .u8 2), (120, .int .u8 (n : Nat))] = some (tellCells n) := by kernel_rfl
theorem size512 : (Try.prog.info? 111).map (·.size) = some 512 := by kernel_rfl
theorem wpList_build_eq {ops : Array Oper} {rest : List Oper} {o : Oper} {a : Act} {w : World} {Q : Exit → Act → World → Prop} (hg : o.guard = none) (t : TypeId) (parts : Array (Nat × Operand)) (ho : o.op = .build t parts) (cells : Array Value)
    (hc : Try.prog.built t (parts.map fun (i, x) => (i, a.eval x)).toList = some cells) (h : wpList Try.prog ops Q rest (a.put o.dst (.agg cells)) w) : wpList Try.prog ops Q (o :: rest) a w :=
  wpList_build hg t parts ho (by rw [hc]; rfl) (by rw [hc]; exact h)
/-- The block behind a row of cells laid into it. -/
theorem heap_setCells (b : Nat) : ∀ (vs : List Value) (o : Nat) (w : World) (cs : Array Value) (t : TypeId), w.heap[b]? = some (.cells cs t) → o + vs.length ≤ cs.size →
    (w.setCells b o vs).heap[b]? = some (.cells (cs.toList.take o ++ vs ++ cs.toList.drop (o + vs.length)).toArray t)
  | [], o, w, cs, t, h, _ => by rw [World.setCells, h]; simp
  | v :: r, o, w, cs, t, h, hl => by
    rw [World.setCells]
    rw [List.length_cons] at hl
    rw [heap_setCells b r (o + 1) (w.setCell ⟨b, o, none⟩ v) (cs.setIfInBounds o v) t (heap_set_same v h) (by rw [Array.size_setIfInBounds]; omega)]
    congr 2
    apply Array.ext_getElem?
    intro i
    simp only [List.getElem?_toArray, Array.toList_setIfInBounds]
    have hsz : o < cs.toList.length := by rw [Array.length_toList]; omega
    rw [List.take_set, List.drop_set_of_lt (by omega), List.take_succ_eq_append_getElem hsz, List.length_cons, show o + 1 + r.length = o + (r.length + 1) by omega, List.set_append_right _ _ (by rw [List.length_take]; omega), List.length_take, Nat.min_eq_left (by omega), Nat.sub_self]
    simp
theorem keeps_setCells (b : Nat) : ∀ (vs : List Value) (o : Nat) (a w : World), Keeps (· = b) a w → Keeps (· = b) a (w.setCells b o vs)
  | [], _, _, _, h => h
  | v :: r, o, a, w, h => by rw [World.setCells]; exact keeps_setCells b r (o + 1) a _ (h.setOne o v)
/-- The whole buffer is stored. -/
theorem store_buf {T : TypeId} {W : World} {b : Nat} {ds lv : Value} {D : Dk} (hB : Blk T W b ds lv D) (f : Nat → Nat) :
    ∃ W2, (storeCells ⟨b, 9, none⟩ (bytesL 512 f)).run Try.prog W = .ok () W2 ∧ Blk T W2 b ds lv { D with buf := f } ∧ Keeps (· = b) W W2 := by
  refine ⟨W.setCells b 9 (bytesL 512 f), ?_, ?_, keeps_setCells b _ 9 W W (Keeps.refl _ _)⟩
  · exact run_storeCells_cells (P := Try.prog) b 9 (bytesL 512 f) 0 W (fun j hj => by
      rw [bytesL_len] at hj
      rw [hB.cell _ (by omega), Option.isSome_some]) (fun j hj => free_at hB) (bytesL_one _ _)
  · unfold Blk
    rw [heap_setCells b _ 9 W _ T hB (by rw [bytesL_len, Dk.size]; decide), bytesL_len, Dk.over]
theorem Dk.clean_ok {S : Dk} (h : S.ok) : S.clean.ok :=
  { h with r := upd_lt h.r 1 0 (by decide), mode := (by show (0 : Nat) < 4; decide) }
theorem tellBuf_lt {n : Nat} (h : n ≤ 64) (i : Nat) : tellBuf n i < 256 := by
  unfold tellBuf
  (repeat' split) <;> omega
theorem Dk.tell_ok {S : Dk} (h : S.ok) : ({ S.clean with buf := tellBuf S.n, mode := 3, done := 0, mark := true } : Dk).ok :=
  { Dk.clean_ok h with buf := fun i => tellBuf_lt h.n i, done := (by show (0 : Nat) ≤ 512; decide), mode := (by show (3 : Nat) < 4; decide) }
theorem cmd_bits : ∀ x : Fin 256, (x.val &&& 254 == 32) = (x.val == 32 || x.val == 33) ∧ (x.val &&& 254 == 48) = (x.val == 48 || x.val == 49) := by decide +kernel
def isRead (c : Nat) : Bool := c == 32 || c == 33
def isWrite (c : Nat) : Bool := c == 48 || c == 49
theorem read_bits (c : Nat) (h : c < 256) : (bits .andNot .u8 (c : Int) 1 == 32) = isRead c := by
  have e : bits .andNot .u8 (c : Int) 1 = ((c &&& 254 : Nat) : Int) := u8_andNot_nat c 1 h (by decide)
  unfold isRead
  rw [e, ← (cmd_bits ⟨c, h⟩).1, Bool.eq_iff_iff]; simp; omega
theorem write_bits (c : Nat) (h : c < 256) : (bits .andNot .u8 (c : Int) 1 == 48) = isWrite c := by
  have e : bits .andNot .u8 (c : Int) 1 = ((c &&& 254 : Nat) : Int) := u8_andNot_nat c 1 h (by decide)
  unfold isWrite
  rw [e, ← (cmd_bits ⟨c, h⟩).2, Bool.eq_iff_iff]; simp; omega
def meant (x : Nat) : Bool := x / 64 % 2 == 0
/-- What a command is. -/
theorem Dk.command_eq (S : Dk) (c : Nat) : S.command c =
    if S.other then S else if isRead c then (if meant (S.r 6) then S.clean.fail 4 else S.clean.begin 1) else if isWrite c then (if meant (S.r 6) then S.clean.fail 4 else S.clean.begin 2)
      else if c == 236 then { S.clean with buf := tellBuf S.n, mode := 3, done := 0, mark := true } else if (c == 231 || c == 145) then { S.clean with mark := true } else S.clean.fail 4 := by
  unfold Dk.command isRead isWrite meant
  simp only [Bool.or_eq_true, beq_iff_eq]
theorem Dk.marked_ok {S : Dk} (h : S.ok) : ({ S with mark := true } : Dk).ok := { h with }
section
variable {w : World} {b : Nat} {ds lv : Value} {D : Dk}
set_option maxHeartbeats 1000000 in
theorem cmd_other (H : IdeIn 113 w b ds lv D) (c : Nat) (ho : D.other = true) :
    Calls Try.prog 63 #[.pointer (some ⟨b, 0, none⟩), .int .u8 c] w fun e w' => e = .returned (.tuple #[]) ∧ w = w' := by
  have HO := Lib.hid (other_in H)
  have H1 := Lib.hid ho
  clear ho
  go_enter Try.func63, Try.ntmps63
  go_wp2_with fail
  refine HO.out.mono ?_
  rintro e w1 ⟨rfl, rfl⟩
  rw [H1.out]
  go_wp2_with fail
  go_returns
  exact ⟨rfl, rfl⟩
/-- The head of a command: what was told is struck. -/
theorem clean_blk (H : IdeIn 113 w b ds lv D) : Blk 113 ((((w.setCell ⟨b, 523, none⟩ (.bool false)).setCell ⟨b, 2, none⟩ (.int .u8 0)).setCell ⟨b, 524, none⟩ (.bool false)).setCell ⟨b, 522, none⟩ (.int .i64 0)) b ds lv D.clean :=
  Blk.mode (Blk.failed (Blk.reg (Blk.mark (Blk.of H) false) 1 0 0 rfl (by decide)) false) 0 0 rfl
theorem clean_keeps (w : World) (b : Nat) : Keeps (· = b) w ((((w.setCell ⟨b, 523, none⟩ (.bool false)).setCell ⟨b, 2, none⟩ (.int .u8 0)).setCell ⟨b, 524, none⟩ (.bool false)).setCell ⟨b, 522, none⟩ (.int .i64 0)).drew := (((((Keeps.refl _ w).setOne _ _).setOne _ _).setOne _ _).setOne _ _).drew
theorem clean_in (H : IdeIn 113 w b ds lv D) : IdeIn 113 ((((w.setCell ⟨b, 523, none⟩ (.bool false)).setCell ⟨b, 2, none⟩ (.int .u8 0)).setCell ⟨b, 524, none⟩ (.bool false)).setCell ⟨b, 522, none⟩ (.int .i64 0)).drew b ds lv D.clean ∧ Keeps (· = b) w ((((w.setCell ⟨b, 523, none⟩ (.bool false)).setCell ⟨b, 2, none⟩ (.int .u8 0)).setCell ⟨b, 524, none⟩ (.bool false)).setCell ⟨b, 522, none⟩ (.int .i64 0)).drew :=
  turned H (clean_blk H) (clean_keeps w b) (Dk.clean_ok H.ok) rfl rfl rfl
set_option maxHeartbeats 2000000 in
theorem cmd_rf (H : IdeIn 113 w b ds lv D) (c : Nat) (hc : c < 256) (ho : D.other = false) (h1 : isRead c = true) (h2 : meant (D.r 6) = true) :
    Calls Try.prog 63 #[.pointer (some ⟨b, 0, none⟩), .int .u8 c] w fun e w' => e = .returned (.tuple #[]) ∧ IdeIn 113 w' b ds lv (D.clean.fail 4) ∧ Keeps (· = b) w w' := by
  have HO := Lib.hid (other_in H)
  have H1 := Lib.hid ho
  have HH := Lib.hid H
  have hr := read_bits c hc
  have hw := write_bits c hc
  have hm := meant_bits (D.r 6) (H.ok.r 6)
  have hm' : (bits .and .u8 ((D.r 6 : Nat) : Int) 64 == 0) = meant (D.r 6) := hm
  clear hm
  rw [h1] at hr
  rw [h2] at hm'
  clear h1 h2 hw
  obtain ⟨-, -, k2, -, -, -, -, k7, -, -, k10, k11, k12, -, kf, klt⟩ := H.facts
  clear ho H
  go_enter Try.func63, Try.ntmps63
  go_wp2_with fail
  refine HO.out.mono ?_
  rintro e w1 ⟨rfl, rfl⟩
  rw [H1.out]
  go_wp2_with fail
  go_region
  have C := clean_in HH.out
  have R6 : D.clean.r 6 = D.r 6 := rfl
  generalize ((((w.setCell ⟨b, 523, none⟩ (.bool false)).setCell ⟨b, 2, none⟩ (.int .u8 0)).setCell ⟨b, 524, none⟩ (.bool false)).setCell ⟨b, 522, none⟩ (.int .i64 0)).drew = w1 at *
  clear k2 k7 k10 k11 k12 kf klt
  obtain ⟨C, KC⟩ := C
  obtain ⟨k0, -, -, -, -, -, -, k7, -, k9, k10, k11, -, -, kf, klt⟩ := C.facts
  rw [R6] at k7
  have HC := Lib.hid C
  clear C R6
  go_wp2_with fail
  refine (fail_in HC.out 4 (by decide)).mono ?_
  rintro e w2 ⟨rfl, H2, K2⟩
  go_wp2_with fail
  go_returns
  exact ⟨rfl, H2, KC.trans K2⟩
set_option maxHeartbeats 2000000 in
theorem cmd_rb (H : IdeIn 113 w b ds lv D) (c : Nat) (hc : c < 256) (ho : D.other = false) (h1 : isRead c = true) (h2 : meant (D.r 6) = false) :
    Calls Try.prog 63 #[.pointer (some ⟨b, 0, none⟩), .int .u8 c] w fun e w' => e = .returned (.tuple #[]) ∧ IdeIn 113 w' b ds lv (D.clean.begin 1) ∧ Keeps (· = b) w w' := by
  have HO := Lib.hid (other_in H)
  have H1 := Lib.hid ho
  have HH := Lib.hid H
  have hr := read_bits c hc
  have hw := write_bits c hc
  have hm := meant_bits (D.r 6) (H.ok.r 6)
  have hm' : (bits .and .u8 ((D.r 6 : Nat) : Int) 64 == 0) = meant (D.r 6) := hm
  clear hm
  rw [h1] at hr
  rw [h2] at hm'
  clear h1 h2 hw
  obtain ⟨-, -, k2, -, -, -, -, k7, -, -, k10, k11, k12, -, kf, klt⟩ := H.facts
  clear ho H
  go_enter Try.func63, Try.ntmps63
  go_wp2_with fail
  refine HO.out.mono ?_
  rintro e w1 ⟨rfl, rfl⟩
  rw [H1.out]
  go_wp2_with fail
  go_region
  have C := clean_in HH.out
  have R6 : D.clean.r 6 = D.r 6 := rfl
  generalize ((((w.setCell ⟨b, 523, none⟩ (.bool false)).setCell ⟨b, 2, none⟩ (.int .u8 0)).setCell ⟨b, 524, none⟩ (.bool false)).setCell ⟨b, 522, none⟩ (.int .i64 0)).drew = w1 at *
  clear k2 k7 k10 k11 k12 kf klt
  obtain ⟨C, KC⟩ := C
  obtain ⟨k0, -, -, -, -, -, -, k7, -, k9, k10, k11, -, -, kf, klt⟩ := C.facts
  rw [R6] at k7
  have HC := Lib.hid C
  clear C R6
  go_wp2_with fail
  refine (begin_in HC.out 1 (by decide) 1 rfl).mono ?_
  rintro e w2 ⟨rfl, H2, K2⟩
  go_wp2_with fail
  go_returns
  exact ⟨rfl, H2, KC.trans K2⟩
set_option maxHeartbeats 2000000 in
theorem cmd_wf (H : IdeIn 113 w b ds lv D) (c : Nat) (hc : c < 256) (ho : D.other = false) (h0 : isRead c = false) (h1 : isWrite c = true) (h2 : meant (D.r 6) = true) :
    Calls Try.prog 63 #[.pointer (some ⟨b, 0, none⟩), .int .u8 c] w fun e w' => e = .returned (.tuple #[]) ∧ IdeIn 113 w' b ds lv (D.clean.fail 4) ∧ Keeps (· = b) w w' := by
  have HO := Lib.hid (other_in H)
  have H1 := Lib.hid ho
  have HH := Lib.hid H
  have hr := read_bits c hc
  have hw := write_bits c hc
  have hm := meant_bits (D.r 6) (H.ok.r 6)
  have hm' : (bits .and .u8 ((D.r 6 : Nat) : Int) 64 == 0) = meant (D.r 6) := hm
  clear hm
  rw [h0] at hr
  rw [h1] at hw
  rw [h2] at hm'
  clear h0 h1 h2
  obtain ⟨-, -, k2, -, -, -, -, k7, -, -, k10, k11, k12, -, kf, klt⟩ := H.facts
  clear ho H
  go_enter Try.func63, Try.ntmps63
  go_wp2_with fail
  refine HO.out.mono ?_
  rintro e w1 ⟨rfl, rfl⟩
  rw [H1.out]
  go_wp2_with fail
  go_region
  have C := clean_in HH.out
  have R6 : D.clean.r 6 = D.r 6 := rfl
  generalize ((((w.setCell ⟨b, 523, none⟩ (.bool false)).setCell ⟨b, 2, none⟩ (.int .u8 0)).setCell ⟨b, 524, none⟩ (.bool false)).setCell ⟨b, 522, none⟩ (.int .i64 0)).drew = w1 at *
  clear k2 k7 k10 k11 k12 kf klt
  obtain ⟨C, KC⟩ := C
  obtain ⟨k0, -, -, -, -, -, -, k7, -, k9, k10, k11, -, -, kf, klt⟩ := C.facts
  rw [R6] at k7
  have HC := Lib.hid C
  clear C R6
  go_wp2_with fail
  refine (fail_in HC.out 4 (by decide)).mono ?_
  rintro e w2 ⟨rfl, H2, K2⟩
  go_wp2_with fail
  go_returns
  exact ⟨rfl, H2, KC.trans K2⟩
set_option maxHeartbeats 2000000 in
theorem cmd_wb (H : IdeIn 113 w b ds lv D) (c : Nat) (hc : c < 256) (ho : D.other = false) (h0 : isRead c = false) (h1 : isWrite c = true) (h2 : meant (D.r 6) = false) :
    Calls Try.prog 63 #[.pointer (some ⟨b, 0, none⟩), .int .u8 c] w fun e w' => e = .returned (.tuple #[]) ∧ IdeIn 113 w' b ds lv (D.clean.begin 2) ∧ Keeps (· = b) w w' := by
  have HO := Lib.hid (other_in H)
  have H1 := Lib.hid ho
  have HH := Lib.hid H
  have hr := read_bits c hc
  have hw := write_bits c hc
  have hm := meant_bits (D.r 6) (H.ok.r 6)
  have hm' : (bits .and .u8 ((D.r 6 : Nat) : Int) 64 == 0) = meant (D.r 6) := hm
  clear hm
  rw [h0] at hr
  rw [h1] at hw
  rw [h2] at hm'
  clear h0 h1 h2
  obtain ⟨-, -, k2, -, -, -, -, k7, -, -, k10, k11, k12, -, kf, klt⟩ := H.facts
  clear ho H
  go_enter Try.func63, Try.ntmps63
  go_wp2_with fail
  refine HO.out.mono ?_
  rintro e w1 ⟨rfl, rfl⟩
  rw [H1.out]
  go_wp2_with fail
  go_region
  have C := clean_in HH.out
  have R6 : D.clean.r 6 = D.r 6 := rfl
  generalize ((((w.setCell ⟨b, 523, none⟩ (.bool false)).setCell ⟨b, 2, none⟩ (.int .u8 0)).setCell ⟨b, 524, none⟩ (.bool false)).setCell ⟨b, 522, none⟩ (.int .i64 0)).drew = w1 at *
  clear k2 k7 k10 k11 k12 kf klt
  obtain ⟨C, KC⟩ := C
  obtain ⟨k0, -, -, -, -, -, -, k7, -, k9, k10, k11, -, -, kf, klt⟩ := C.facts
  rw [R6] at k7
  have HC := Lib.hid C
  clear C R6
  go_wp2_with fail
  refine (begin_in HC.out 2 (by decide) 2 rfl).mono ?_
  rintro e w2 ⟨rfl, H2, K2⟩
  go_wp2_with fail
  go_returns
  exact ⟨rfl, H2, KC.trans K2⟩
set_option maxHeartbeats 2000000 in
theorem cmd_no (H : IdeIn 113 w b ds lv D) (c : Nat) (hc : c < 256) (ho : D.other = false) (h0 : isRead c = false) (h1 : isWrite c = false) (h3 : (c == 236) = false) (h4 : (c == 231) = false) (h5 : (c == 145) = false) :
    Calls Try.prog 63 #[.pointer (some ⟨b, 0, none⟩), .int .u8 c] w fun e w' => e = .returned (.tuple #[]) ∧ IdeIn 113 w' b ds lv (D.clean.fail 4) ∧ Keeps (· = b) w w' := by
  have HO := Lib.hid (other_in H)
  have H1 := Lib.hid ho
  have HH := Lib.hid H
  have hr := read_bits c hc
  have hw := write_bits c hc
  have hm := meant_bits (D.r 6) (H.ok.r 6)
  have hm' : (bits .and .u8 ((D.r 6 : Nat) : Int) 64 == 0) = meant (D.r 6) := hm
  clear hm
  rw [h0] at hr
  rw [h1] at hw
  have g3 : ((c : Int) == 236) = false := by simp at h3 ⊢; omega
  have g4 : ((c : Int) == 231) = false := by simp at h4 ⊢; omega
  have g5 : ((c : Int) == 145) = false := by simp at h5 ⊢; omega
  clear h0 h1 h3 h4 h5
  obtain ⟨-, -, k2, -, -, -, -, k7, -, -, k10, k11, k12, -, kf, klt⟩ := H.facts
  clear ho H
  go_enter Try.func63, Try.ntmps63
  go_wp2_with fail
  refine HO.out.mono ?_
  rintro e w1 ⟨rfl, rfl⟩
  rw [H1.out]
  go_wp2_with fail
  go_region
  have C := clean_in HH.out
  have R6 : D.clean.r 6 = D.r 6 := rfl
  generalize ((((w.setCell ⟨b, 523, none⟩ (.bool false)).setCell ⟨b, 2, none⟩ (.int .u8 0)).setCell ⟨b, 524, none⟩ (.bool false)).setCell ⟨b, 522, none⟩ (.int .i64 0)).drew = w1 at *
  clear k2 k7 k10 k11 k12 kf klt
  obtain ⟨C, KC⟩ := C
  obtain ⟨k0, -, -, -, -, -, -, k7, -, k9, k10, k11, -, -, kf, klt⟩ := C.facts
  rw [R6] at k7
  have HC := Lib.hid C
  clear C R6
  go_wp2_with fail
  refine (fail_in HC.out 4 (by decide)).mono ?_
  rintro e w2 ⟨rfl, H2, K2⟩
  go_wp2_with fail
  go_returns
  exact ⟨rfl, H2, KC.trans K2⟩
set_option maxHeartbeats 2000000 in
theorem cmd_fl1 (H : IdeIn 113 w b ds lv D) (c : Nat) (hc : c < 256) (ho : D.other = false) (h0 : isRead c = false) (h1 : isWrite c = false) (h3 : (c == 236) = false) (h4 : (c == 231) = true) :
    Calls Try.prog 63 #[.pointer (some ⟨b, 0, none⟩), .int .u8 c] w fun e w' => e = .returned (.tuple #[]) ∧ IdeIn 113 w' b ds lv { D.clean with mark := true } ∧ Keeps (· = b) w w' := by
  have HO := Lib.hid (other_in H)
  have H1 := Lib.hid ho
  have HH := Lib.hid H
  have hr := read_bits c hc
  have hw := write_bits c hc
  have hm := meant_bits (D.r 6) (H.ok.r 6)
  have hm' : (bits .and .u8 ((D.r 6 : Nat) : Int) 64 == 0) = meant (D.r 6) := hm
  clear hm
  rw [h0] at hr
  rw [h1] at hw
  have g3 : ((c : Int) == 236) = false := by simp at h3 ⊢; omega
  have g4 : ((c : Int) == 231) = true := by simp at h4 ⊢; omega
  clear h0 h1 h3 h4
  obtain ⟨-, -, k2, -, -, -, -, k7, -, -, k10, k11, k12, -, kf, klt⟩ := H.facts
  clear ho H
  go_enter Try.func63, Try.ntmps63
  go_wp2_with fail
  refine HO.out.mono ?_
  rintro e w1 ⟨rfl, rfl⟩
  rw [H1.out]
  go_wp2_with fail
  go_region
  have C := clean_in HH.out
  have R6 : D.clean.r 6 = D.r 6 := rfl
  generalize ((((w.setCell ⟨b, 523, none⟩ (.bool false)).setCell ⟨b, 2, none⟩ (.int .u8 0)).setCell ⟨b, 524, none⟩ (.bool false)).setCell ⟨b, 522, none⟩ (.int .i64 0)).drew = w1 at *
  clear k2 k7 k10 k11 k12 kf klt
  obtain ⟨C, KC⟩ := C
  obtain ⟨k0, -, -, -, -, -, -, k7, -, k9, k10, k11, -, -, kf, klt⟩ := C.facts
  rw [R6] at k7
  have HC := Lib.hid C
  clear C R6
  go_wp2_with fail
  go_returns
  have E := turned HC.out (Blk.mark (Blk.of HC.out) true) ((Keeps.refl _ _).setOne _ _) (Dk.marked_ok HC.out.ok) rfl rfl rfl
  exact ⟨rfl, E.1, KC.trans E.2⟩
set_option maxHeartbeats 2000000 in
theorem cmd_fl2 (H : IdeIn 113 w b ds lv D) (c : Nat) (hc : c < 256) (ho : D.other = false) (h0 : isRead c = false) (h1 : isWrite c = false) (h3 : (c == 236) = false) (h4 : (c == 231) = false) (h5 : (c == 145) = true) :
    Calls Try.prog 63 #[.pointer (some ⟨b, 0, none⟩), .int .u8 c] w fun e w' => e = .returned (.tuple #[]) ∧ IdeIn 113 w' b ds lv { D.clean with mark := true } ∧ Keeps (· = b) w w' := by
  have HO := Lib.hid (other_in H)
  have H1 := Lib.hid ho
  have HH := Lib.hid H
  have hr := read_bits c hc
  have hw := write_bits c hc
  have hm := meant_bits (D.r 6) (H.ok.r 6)
  have hm' : (bits .and .u8 ((D.r 6 : Nat) : Int) 64 == 0) = meant (D.r 6) := hm
  clear hm
  rw [h0] at hr
  rw [h1] at hw
  have g3 : ((c : Int) == 236) = false := by simp at h3 ⊢; omega
  have g4 : ((c : Int) == 231) = false := by simp at h4 ⊢; omega
  have g5 : ((c : Int) == 145) = true := by simp at h5 ⊢; omega
  clear h0 h1 h3 h4 h5
  obtain ⟨-, -, k2, -, -, -, -, k7, -, -, k10, k11, k12, -, kf, klt⟩ := H.facts
  clear ho H
  go_enter Try.func63, Try.ntmps63
  go_wp2_with fail
  refine HO.out.mono ?_
  rintro e w1 ⟨rfl, rfl⟩
  rw [H1.out]
  go_wp2_with fail
  go_region
  have C := clean_in HH.out
  have R6 : D.clean.r 6 = D.r 6 := rfl
  generalize ((((w.setCell ⟨b, 523, none⟩ (.bool false)).setCell ⟨b, 2, none⟩ (.int .u8 0)).setCell ⟨b, 524, none⟩ (.bool false)).setCell ⟨b, 522, none⟩ (.int .i64 0)).drew = w1 at *
  clear k2 k7 k10 k11 k12 kf klt
  obtain ⟨C, KC⟩ := C
  obtain ⟨k0, -, -, -, -, -, -, k7, -, k9, k10, k11, -, -, kf, klt⟩ := C.facts
  rw [R6] at k7
  have HC := Lib.hid C
  clear C R6
  go_wp2_with fail
  go_returns
  have E := turned HC.out (Blk.mark (Blk.of HC.out) true) ((Keeps.refl _ _).setOne _ _) (Dk.marked_ok HC.out.ok) rfl rfl rfl
  exact ⟨rfl, E.1, KC.trans E.2⟩
set_option maxRecDepth 100000 in
set_option maxHeartbeats 2000000 in
theorem cmd_tell (H : IdeIn 113 w b ds lv D) (c : Nat) (hc : c < 256) (ho : D.other = false) (h0 : isRead c = false) (h1 : isWrite c = false) (h3 : (c == 236) = true) :
    Calls Try.prog 63 #[.pointer (some ⟨b, 0, none⟩), .int .u8 c] w fun e w' => e = .returned (.tuple #[]) ∧ IdeIn 113 w' b ds lv { D.clean with buf := tellBuf D.n, mode := 3, done := 0, mark := true } ∧ Keeps (· = b) w w' := by
  have HO := Lib.hid (other_in H)
  have H1 := Lib.hid ho
  have HH := Lib.hid H
  have hr := read_bits c hc
  have hw := write_bits c hc
  have hm := meant_bits (D.r 6) (H.ok.r 6)
  have hm' : (bits .and .u8 ((D.r 6 : Nat) : Int) 64 == 0) = meant (D.r 6) := hm
  clear hm
  rw [h0] at hr
  rw [h1] at hw
  have g3 : ((c : Int) == 236) = true := by simp at h3 ⊢; omega
  clear h0 h1 h3
  obtain ⟨-, -, k2, -, -, -, -, k7, -, -, k10, k11, k12, -, kf, klt⟩ := H.facts
  clear ho H
  go_enter Try.func63, Try.ntmps63
  go_wp2_with fail
  refine HO.out.mono ?_
  rintro e w1 ⟨rfl, rfl⟩
  rw [H1.out]
  go_wp2_with fail
  go_region
  have C := clean_in HH.out
  have R6 : D.clean.r 6 = D.r 6 := rfl
  generalize ((((w.setCell ⟨b, 523, none⟩ (.bool false)).setCell ⟨b, 2, none⟩ (.int .u8 0)).setCell ⟨b, 524, none⟩ (.bool false)).setCell ⟨b, 522, none⟩ (.int .i64 0)).drew = w1 at *
  clear k2 k7 k10 k11 k12 kf klt
  obtain ⟨C, KC⟩ := C
  obtain ⟨k0, -, -, -, -, -, -, k7, -, k9, k10, k11, -, -, kf, klt⟩ := C.facts
  rw [R6] at k7
  have HC := Lib.hid C
  clear C R6
  obtain ⟨a, cap, hds⟩ := HC.out.disk.len
  rw [hds] at k0
  have hn : D.clean.n = D.n := rfl
  have hn64 := HC.out.ok.n
  rw [hn] at k0 hn64
  have hq : ((D.n * 512 : Nat) : Int) / 512 = (D.n : Int) := by omega
  obtain ⟨W2, hst, B2, K2⟩ := store_buf (Blk.of HC.out) (tellBuf D.n)
  obtain ⟨-, -, -, -, -, -, -, -, -, j9, j10, j11, -, -, jf, jlt⟩ := B2.facts
  have HB := Lib.hid B2
  have HN := Lib.hid hds
  generalize D.n * 512 = L at *
  clear B2 hn hds
  go_wp2_with ((refine wpList_build_eq (o := ⟨some 64, _, _, _, _, _⟩) ?hg0 111 ?pt0 ?ho0 (bytesL 512 (tellBuf D.n)).toArray ?hb0 ?_); (case ho0 => rfl); (case hg0 => rfl); go_loud (case hb0 => (simp only [List.map_toArray, List.map_cons, List.map_nil]; exact built_tell D.n)))
  go_returns
  have K3 : Keeps (· = b) w1 (((W2.setCell ⟨b, 522, none⟩ (.int .i64 3)).setCell ⟨b, 521, none⟩ (.int .i64 0)).setCell ⟨b, 523, none⟩ (.bool true)) := ((K2.setOne _ _).setOne _ _).setOne _ _
  have E := turned HC.out (Blk.mark (Blk.done (Blk.mode HB.out 3 3 rfl) 0 0 rfl) true) K3 (Dk.tell_ok HH.out.ok) rfl rfl rfl
  exact ⟨rfl, E.1, KC.trans E.2⟩
theorem Dk.command_ok {S : Dk} (h : S.ok) (c : Nat) : (S.command c).ok := by
  have hc := Dk.clean_ok h
  rw [Dk.command_eq]
  (repeat' split)
  · exact h
  · exact Dk.fail_ok hc 4 (by decide)
  · exact Dk.begin_ok hc 1 (by decide)
  · exact Dk.fail_ok hc 4 (by decide)
  · exact Dk.begin_ok hc 2 (by decide)
  · exact Dk.tell_ok h
  · exact Dk.marked_ok hc
  · exact Dk.fail_ok hc 4 (by decide)
theorem command_in (H : IdeIn 113 w b ds lv D) (c : Nat) (hc : c < 256) (x : Int) (hx : x = (c : Nat)) :
    Calls Try.prog 63 #[.pointer (some ⟨b, 0, none⟩), .int .u8 x] w fun e w' => e = .returned (.tuple #[]) ∧ IdeIn 113 w' b ds lv (D.command c) ∧ Keeps (· = b) w w' := by
  subst hx
  rw [Dk.command_eq]
  cases ho : D.other
  · rw [if_neg (by decide)]
    cases h0 : isRead c
    · rw [if_neg (by decide)]
      cases h1 : isWrite c
      · rw [if_neg (by decide)]
        cases h3 : c == 236
        · rw [if_neg (by decide)]
          cases h4 : c == 231
          · cases h5 : c == 145
            · rw [if_neg (by decide)]; exact cmd_no H c hc ho h0 h1 h3 h4 h5
            · rw [if_pos (by decide)]; exact cmd_fl2 H c hc ho h0 h1 h3 h4 h5
          · rw [if_pos (by simp)]; exact cmd_fl1 H c hc ho h0 h1 h3 h4
        · rw [if_pos rfl]; exact cmd_tell H c hc ho h0 h1 h3
      · rw [if_pos rfl]
        cases h2 : meant (D.r 6)
        · rw [if_neg (by decide)]; exact cmd_wb H c hc ho h0 h1 h2
        · rw [if_pos rfl]; exact cmd_wf H c hc ho h0 h1 h2
    · rw [if_pos rfl]
      cases h2 : meant (D.r 6)
      · rw [if_neg (by decide)]; exact cmd_rb H c hc ho h0 h2
      · rw [if_pos rfl]; exact cmd_rf H c hc ho h0 h2
  · rw [if_pos rfl]
    refine (cmd_other H c ho).mono ?_
    rintro e w' ⟨rfl, rfl⟩
    exact ⟨rfl, H, Keeps.refl _ _⟩
end
end Go.Proofs.Ytojmpdddfnkffaa.Ide

/- ide: behind a sector. -/
namespace Go.Proofs.Ytojmpdddfnkffaa.Ide
open Go.RowKit
set_option linter.unusedVariables false

theorem Dk.step_eq (S : Dk) : S.step = (((((S.setR 3 ((S.place + 1) % 256)).setR 4 ((S.place + 1) / 256 % 256)).setR 5 ((S.place + 1) / 65536 % 256)).setR 6 (S.r 6 / 16 * 16 + (S.place + 1) / 16777216 % 16)).setR 2 ((S.r 2 + 255) % 256)).setMode 0 := by
  simp only [Dk.setR, Dk.setMode, Dk.step]
theorem Dk.step_ok {S : Dk} (h : S.ok) : S.step.ok :=
  { h with r := upd_lt (upd_lt (upd_lt (upd_lt (upd_lt h.r 3 _ (Nat.mod_lt _ (by decide))) 4 _ (Nat.mod_lt _ (by decide))) 5 _ (Nat.mod_lt _ (by decide))) 6 _ (by have := h.r 6; omega)) 2 _ (Nat.mod_lt _ (by decide)), mode := (by show (0 : Nat) < 4; decide) }
/-- The first k bytes of a number are written to the registers from 3 on. -/
def Dk.regs (S : Dk) (n : Nat) : Nat → Dk
  | 0 => S
  | k + 1 => (S.regs n k).setR (3 + k) (n / 256 ^ k % 256)
theorem Dk.regs_succ (S : Dk) (n k : Nat) : S.regs n (k + 1) = (S.regs n k).setR (3 + k) (n / 256 ^ k % 256) := rfl
theorem shr_nat (n k : Nat) : (n : Int) / 2 ^ (8 * k) % 256 = ((n / 256 ^ k % 256 : Nat) : Int) := by
  have hp : (256 : Nat) ^ k = 2 ^ (8 * k) := by rw [Nat.pow_mul]
  rw [hp]; simp
theorem Blk.reg1 {T : TypeId} {w : World} {b : Nat} {ds lv : Value} {D : Dk} (h : Blk T w b ds lv D) (k v : Nat) (x : Int) (hx : x = (v : Nat)) (hk : k < 7) : Blk T (w.setCell ⟨b, 1 + k, none⟩ (.int .u8 x)) b ds lv (D.setR k v) := by
  rw [Nat.add_comm 1 k]; exact Blk.reg h k v x hx hk
theorem Blk.drew {T : TypeId} {w : World} {b : Nat} {ds lv : Value} {D : Dk} (H : Blk T w b ds lv D) : Blk T w.drew b ds lv D := H
theorem Dk.step_regs (S : Dk) : ((((S.regs (S.place + 1) 3).setR 6 (S.r 6 / 16 * 16 + (S.place + 1) / 16777216 % 16)).setR 2 ((S.r 2 + 255) % 256)).setMode 0) = S.step := by
  rw [Dk.step_eq]
  simp only [Dk.regs, Nat.pow_zero, Nat.div_one, Nat.pow_one, Nat.reducePow, Nat.reduceAdd, Nat.add_zero]
theorem top_bits (x n : Nat) (hx : x < 256) (hn : n < 4611686018427387904) :
    bits .or .u8 (bits .andNot .u8 (x : Int) 15) (bits .and .i64 ((n : Int) / 16777216) 15 % 256) = ((x / 16 * 16 + n / 16777216 % 16 : Nat) : Int) := by
  have e1 : bits .andNot .u8 (x : Int) 15 = ((x / 16 * 16 : Nat) : Int) := by
    have h : bits .andNot .u8 (x : Int) 15 = ((x &&& 240 : Nat) : Int) := u8_andNot_nat x 15 hx (by decide)
    have h2 : ∀ y : Fin 256, y.val &&& 240 = y.val / 16 * 16 := by decide +kernel
    rw [h, h2 ⟨x, hx⟩]
  have e2 : bits .and .i64 ((n : Int) / 16777216) 15 = (n : Int) / 16777216 % 16 := bits_mask .i64 62 (by decide) wraps_i64 4 (by decide) _ (by omega) (by simp only [Int.reducePow]; omega)
  rw [e1, e2, bits_join .u8 8 (by decide) wraps_u8 4 _ _ (by omega) (by simp only [Int.reducePow]; omega) (by simp only [Int.reducePow]; omega) (by omega) (by simp only [Int.reducePow]; omega) (by simp only [Int.reducePow]; omega)]
  omega
section
variable {w : World} {b : Nat} {ds lv : Value} {D : Dk}
set_option maxHeartbeats 2000000 in
theorem next_in (H : IdeIn 113 w b ds lv D) :
    Calls Try.prog 87 #[.pointer (some ⟨b, 0, none⟩)] w fun e w' => e = .returned (.tuple #[]) ∧ IdeIn 113 w' b ds lv D.next ∧ Keeps (· = b) w w' := by
  have HP := Lib.hid (place_in H)
  have hlt := Dk.place_lt H.ok
  have r6 := H.ok.r 6
  have r2 := H.ok.r 2
  obtain ⟨-, -, -, k3, k4, k5, k6, k7, -, -, k10, -, -, -, kf, klt⟩ := H.facts
  have HH := Lib.hid H
  clear H
  have hlt2 := hlt
  obtain ⟨p, hp⟩ : ∃ p, p = D.place := ⟨_, rfl⟩
  rw [← hp] at HP hlt
  have HPE := Lib.hid hp
  clear hp hlt2
  go_enter Try.func87, Try.ntmps87
  go_wp2_with fail
  refine HP.out.mono ?_
  rintro e w1 ⟨rfl, n, rfl⟩
  go_wp2_with fail
  have N0 : (0 : Int) ≤ (p : Int) + 1 := by omega
  obtain ⟨N, hN⟩ : ∃ N : Nat, N = p + 1 := ⟨_, rfl⟩
  have hN2 : (p : Int) + 1 = (N : Int) := by omega
  rw [hN2]
  have HN := Lib.hid hN
  clear hN hN2 N0 hlt HP k4 k5 k6
  go_loopw [8] (fun i wc => ∃ k : Nat, k ≤ 3 ∧ i = .int .i64 k ∧ Blk 113 wc b ds lv (D.regs N k) ∧ Keeps (· = b) w wc) (fun i _ => 3 - (intOf i).toNat)
  case atStart => exact ⟨0, by omega, rfl, Blk.drewN (Blk.of HH.out) n, (Keeps.refl _ w).drewN n⟩
  case round =>
    clear k3 k7 k10 kf klt r6 r2
    obtain ⟨k, hk, rfl, B, K⟩ := hrel
    obtain ⟨-, -, -, -, -, -, -, -, -, -, -, -, -, -, kf, klt⟩ := B.facts
    have HB := Lib.hid B
    clear B
    by_cases h3 : k < 3
    · have hcell : wr.cell? ⟨b, 1 + (3 + k), none⟩ = some (.int .u8 ((D.regs N k).r (3 + k) : Nat)) := HB.out.rcell (3 + k) (by omega)
      have q0 : (0 : Int) ≤ 3 + (k : Int) := by omega
      have q1 : (3 : Int) + (k : Int) < 7 := by omega
      have q2 : (0 : Int) ≤ 8 * (k : Int) := by omega
      have q3 : (8 : Int) * (k : Int) ≤ 64 := by omega
      go_wp2_with fail
      go_region
      go_wp2_with fail
      go_roundw
      case rel => exact ⟨k + 1, by omega, by go_num, by rw [Dk.regs_succ]; exact Blk.drew (Blk.reg1 HB.out (3 + k) _ _ (shr_nat N k) (by omega)), (K.setOne _ _).drew⟩
      case measure => (simp [intOf]) <;> omega
    · have hk3 : k = 3 := by omega
      have e6 : (D.regs N k).r 6 = D.r 6 := by rw [hk3]; rfl
      have e2 : (D.regs N k).r 2 = D.r 2 := by rw [hk3]; rfl
      have em : (D.regs N k).mode = D.mode := by rw [hk3]; rfl
      obtain ⟨-, -, -, k3, -, -, -, k7, -, -, k10, -, -, -, kf, klt⟩ := HB.out.facts
      rw [e6] at k7
      rw [e2] at k3
      rw [em] at k10
      have HK3 := Lib.hid hk3
      clear e6 e2 em hk3
      have HT := Lib.hid (top_bits (D.r 6) N (HH.out.ok.r 6) (by have := HN.out; have := HPE.out; have := Dk.place_lt HH.out.ok; omega))
      have hr2 := HH.out.ok.r 2
      have hv : (((D.r 2 : Nat) : Int) - 1) % 256 = (((D.r 2 + 255) % 256 : Nat) : Int) := by omega
      have B3 : Blk 113 ((((wr.setCell ⟨b, 7, none⟩ (.int .u8 (bits .or .u8 (bits .andNot .u8 ((D.r 6 : Nat) : Int) 15) (bits .and .i64 ((N : Int) / 16777216) 15 % 256)))).setCell ⟨b, 3, none⟩ (.int .u8 ((((D.r 2 : Nat) : Int) - 1) % 256))).setCell ⟨b, 522, none⟩ (.int .i64 0)).drew.drew) b ds lv D.step := by
        rw [← Dk.step_regs]
        have e := HK3.out
        have hp : N = D.place + 1 := by rw [HN.out, HPE.out]
        have HB3 := HB.out
        rw [e] at HB3
        rw [hp] at HB3 HT ⊢
        exact Blk.drew (Blk.drew (Blk.mode (Blk.reg (Blk.reg HB3 6 _ _ HT.out (by decide)) 2 _ _ hv (by decide)) 0 0 rfl))
      have K3 : Keeps (· = b) w ((((wr.setCell ⟨b, 7, none⟩ (.int .u8 (bits .or .u8 (bits .andNot .u8 ((D.r 6 : Nat) : Int) 15) (bits .and .i64 ((N : Int) / 16777216) 15 % 256)))).setCell ⟨b, 3, none⟩ (.int .u8 ((((D.r 2 : Nat) : Int) - 1) % 256))).setCell ⟨b, 522, none⟩ (.int .i64 0)).drew.drew) := ((((K.setOne _ _).setOne _ _).setOne _ _).drew).drew
      have E := turned HH.out B3 K3 (Dk.step_ok HH.out.ok) rfl rfl rfl
      have HE := Lib.hid E
      clear B3 K3 E HT hr2 K
      have hm4 := HH.out.ok.mode
      by_cases hz : (D.r 2 + 255) % 256 = 0
      · have g : ((((D.r 2 : Nat) : Int) - 1) % 256 != 0) = false := by rw [hv, hz]; rfl
        have HZ := Lib.hid hz
        clear hv hz
        go_wp2_with fail
        go_region
        go_wp2_with fail
        go_region
        go_wp2_with fail
        go_returns
        refine ⟨rfl, ?_⟩
        have e : D.next = D.step := by unfold Dk.next; rw [if_pos (show D.step.r 2 = 0 from HZ.out)]
        rw [e]
        exact HE.out
      · have g : ((((D.r 2 : Nat) : Int) - 1) % 256 != 0) = true := by rw [hv]; simp; omega
        have HZ := Lib.hid hz
        clear hv hz
        go_wp2_with fail
        go_region
        go_wp2_with fail
        go_region
        go_wp2_with fail
        refine (begin_in HE.out.1 D.mode hm4 _ rfl).mono ?_
        rintro e w2 ⟨rfl, H2, K2⟩
        go_wp2_with fail
        go_returns
        have e : D.next = D.step.begin D.mode := by unfold Dk.next; rw [if_neg (show ¬ D.step.r 2 = 0 from HZ.out)]
        rw [e]
        exact ⟨rfl, H2, HE.out.2.trans K2⟩
theorem Dk.next_ok (h : D.ok) : D.next.ok := by
  unfold Dk.next
  split
  · exact Dk.step_ok h
  · exact Dk.begin_ok (Dk.step_ok h) _ h.mode
end
end Go.Proofs.Ytojmpdddfnkffaa.Ide

/- ide: a byte of the data is taken, or given. -/
namespace Go.Proofs.Ytojmpdddfnkffaa.Ide
open Go.RowKit
set_option linter.unusedVariables false

theorem room_fail (S : Dk) (e : Nat) : (S.fail e).room := fun h => absurd rfl h
theorem room_begin (S : Dk) (m : Nat) : (S.begin m).room := by
  unfold Dk.begin
  split
  · split <;> exact fun _ => (by show (0 : Nat) < 512; decide)
  · exact room_fail S 16
theorem room_fresh (S : Dk) : S.fresh.room := fun h => absurd rfl h
theorem room_command {S : Dk} (h : S.room) (c : Nat) : (S.command c).room := by
  rw [Dk.command_eq]
  (repeat' split)
  · exact h
  · exact room_fail _ _
  · exact room_begin _ _
  · exact room_fail _ _
  · exact room_begin _ _
  · exact fun _ => (by show (0 : Nat) < 512; decide)
  · exact fun h => absurd rfl h
  · exact room_fail _ _
theorem room_next (S : Dk) : S.next.room := by
  unfold Dk.next
  split
  · exact fun h => absurd rfl h
  · exact room_begin _ _
theorem room_put {S : Dk} (h : S.room) (b : Nat) : (S.putB b).room := by
  unfold Dk.putB
  split
  · split
    · rename_i h1; exact fun _ => h1
    · split
      · exact room_next _
      · exact room_fail _ _
  · exact h
theorem room_get {S : Dk} (h : S.room) : S.getB.room := by
  unfold Dk.getB
  split
  · split
    · rename_i h1; exact fun _ => h1
    · split
      · exact fun h => absurd rfl h
      · exact room_next _
  · exact h
theorem Dk.put1_place (S : Dk) (v : Nat) : (S.put1 v).place = S.place := rfl
theorem Dk.put1_n (S : Dk) (v : Nat) : (S.put1 v).n = S.n := rfl
theorem Dk.putB_full (S : Dk) (v : Nat) (hm : S.mode = 2) (hd : ¬ S.done + 1 < 512) (hp : (S.put1 v).place < (S.put1 v).n) : S.putB v = ({ (S.put1 v).write.next with mark := true } : Dk) := by
  rw [Dk.put1_place, Dk.put1_n] at hp
  unfold Dk.putB
  rw [if_pos hm, if_neg hd, if_pos hp]
theorem Dk.putB_gone (S : Dk) (v : Nat) (hm : S.mode = 2) (hd : ¬ S.done + 1 < 512) (hp : ¬ (S.put1 v).place < (S.put1 v).n) : S.putB v = (S.put1 v).fail 16 := by
  rw [Dk.put1_place, Dk.put1_n] at hp
  unfold Dk.putB
  rw [if_pos hm, if_neg hd, if_neg hp]
section
variable {w : World} {b : Nat} {ds lv : Value} {D : Dk}
set_option maxHeartbeats 1000000 in
theorem put_idle (H : IdeIn 113 w b ds lv D) (v : Int) (hm : D.mode ≠ 2) :
    Calls Try.prog 62 #[.pointer (some ⟨b, 0, none⟩), .int .u8 v] w fun e w' => e = .returned (.tuple #[]) ∧ w = w' := by
  obtain ⟨-, -, -, -, -, -, -, -, -, k9, k10, -, -, -, kf, klt⟩ := H.facts
  have g : (((D.mode : Nat) : Int) != 2) = true := by simp; omega
  clear hm
  go_enter Try.func62, Try.ntmps62
  go_wp2_with fail
  go_returns
  exact ⟨rfl, rfl⟩
theorem Dk.put1_eq (S : Dk) (b : Nat) : S.put1 b = (S.setBuf S.done b).setDone (S.done + 1) := rfl
theorem Dk.put1_ok {S : Dk} (h : S.ok) (b : Nat) (hb : b < 256) (hd : S.done < 512) : (S.put1 b).ok := { h with buf := upd_lt h.buf _ _ hb, done := (by show S.done + 1 ≤ 512; omega) }
theorem Dk.buf_ok {S : Dk} (h : S.ok) (k b : Nat) (hb : b < 256) : (S.setBuf k b).ok := { h with buf := upd_lt h.buf _ _ hb }
/-- The buffer is laid over a sector. -/
theorem laid_lt {d f : Nat → Nat} {o : Nat} (hd : ∀ i, d i < 256) (hf : ∀ i, f i < 256) (i : Nat) : laid d f o i < 256 := by
  unfold laid
  split
  · exact hf _
  · exact hd _
theorem Dk.flushAt_r (S : Dk) (o : Nat) : (S.flushAt o).r = S.r := rfl
theorem Dk.flushAt_log (S : Dk) (o : Nat) : (S.flushAt o).log = S.log := rfl
theorem Dk.put1_log (S : Dk) (v : Nat) : (S.put1 v).log = S.log := rfl
theorem Dk.flushAt_n (S : Dk) (o : Nat) : (S.flushAt o).n = S.n := rfl
theorem Dk.flushAt_place (S : Dk) (o : Nat) : (S.flushAt o).place = S.place := by unfold Dk.place; rw [Dk.flushAt_r]
theorem Dk.flushAt_ok {S : Dk} (h : S.ok) (o : Nat) : (S.flushAt o).ok := { h with d := laid_lt h.d h.buf }
theorem log_lt {L : List Nat} {p : Nat} (h : ∀ x ∈ L, x < 64) (hp : p < 64) : ∀ x ∈ L ++ [p], x < 64 := fun x hx => by
  rw [List.mem_append, List.mem_singleton] at hx
  rcases hx with hx | hx
  · exact h x hx
  · omega
theorem Dk.logAt_ok {S : Dk} (h : S.ok) (p : Nat) (hp : p < 64) : (S.logAt p).ok := { h with log := log_lt h.log hp }
theorem news_one (w : World) (T : TypeId) (x : Int) : ∀ j u, [Value.int .i64 x][j]? = some u → (w.alloc (.cells #[.int .i64 x] T)).cell? ((⟨w.heap.size, 0, none⟩ : Addr).add j) = some u := fun j u h => by
  match j with
  | 0 =>
    have e : u = .int .i64 x := by simpa using h.symm
    rw [e, Go.WideShapes.add_plain, cell_at (heap_new w _)]; rfl
  | j + 1 => simp at h
theorem one_cell_int (x : Int) : ∀ u ∈ [Value.int .i64 x], u.oneCell' = true := fun u h => by
  have e : u = .int .i64 x := by simpa using h
  rw [e]; rfl
theorem c4_alloc {w : World} {b k : Nat} {v : Value} {o : Obj} (h : b < w.heap.size) (c : w.cell? ⟨b, k, none⟩ = some v) : (w.alloc o).cell? ⟨b, k, none⟩ = some v := (World.cell?_alloc_lt w _ _ h).trans c
theorem infoInt : (Try.prog.info? 3).map (fun i => (i.zero, i.size, i.bytes)) = some (some (.int .i64 0), 1, 8) := by kernel_rfl
theorem append_log {T : TypeId} {w4 : World} {b : Nat} {ds lv : Value} {S : Dk} (H : IdeIn T w4 b ds lv S) (p : Nat) (hp : p < 64) (hL : S.log.length < 17592186044416) (ty : TypeId) :
    ∃ v6 w6, (Builtin.append_ #[23, 23] ty #[lv, .slice (some ⟨w4.heap.size, 0, none⟩) 1 1]).run Try.prog (w4.alloc (.cells #[.int .i64 (p : Nat)] 3)) = .ok v6 w6 ∧ w6.cell? ⟨b, 525, none⟩ = some lv ∧
      (∀ k, w6.frozen? ⟨b, k, none⟩ = false) ∧ b < w6.heap.size ∧ Hid (IdeIn T (w6.setCell ⟨b, 525, none⟩ v6) b ds v6 (S.logAt p)) ∧ Hid (Keeps (Held b ds lv) w4 (w6.setCell ⟨b, 525, none⟩ v6) ∧ ∀ k, (v6 : Value).ownBlock = some k → lv.ownBlock = some k ∨ w4.heap.size ≤ k) := by
  obtain ⟨i0, hi, hz0, hz1, hz2⟩ := info_parts infoInt
  obtain ⟨v6, w6, hrun, hown, hgrow, _, hat⟩ := run_append_own_at (P := Try.prog) (w := w4.alloc (.cells #[.int .i64 (p : Nat)] 3)) 0 23 ty 3 i0 (.int .i64 0) 1 8 Try.underlying23 hi hz0 hz1 hz2 (by rfl) (by decide)
    lv S.log.length (S.log.map fun p => Value.int .i64 (p : Nat)) (H.log.alloc _) ⟨w4.heap.size, 0, none⟩ 1 1 [.int .i64 (p : Nat)] (by rfl) (news_one w4 _ _) (one_cell_int _) (by unfold maxLen; omega) (by omega) (Nat.zero_le _)
  have hsz : (w4.alloc (.cells #[.int .i64 (p : Nat)] 3)).heap.size = w4.heap.size + 1 := by simp
  have hbl := heap_lt H.obj
  have hb6 : w6.heap[b]? = some (.cells (S.cells ds lv) T) := (hgrow.block b (by omega) (fun e => H.d2 e.symm)).trans (heap_alloc_lt H.obj)
  have hvb : v6.ownBlock ≠ some b := fun e => by
    rcases hat with h | h
    · exact H.d2 (by rw [← h]; exact e)
    · rw [h] at e; cases e; omega
  have hvd : ∀ k, ds.ownBlock = some k → v6.ownBlock ≠ some k := fun k hk e => by
    rcases hat with h | h
    · exact H.d3 k hk (by rw [← h]; exact e)
    · rw [h] at e; cases e
      have := H.disk.lt hk
      omega
  refine ⟨v6, w6, hrun, by rw [cell_at hb6, S.at ds lv 525 (by decide)]; rfl, fun k => free_at hb6, heap_lt hb6, ?_⟩
  have ho : (w6.setCell ⟨b, 525, none⟩ v6).heap[b]? = some (.cells ((S.logAt p).cells ds v6) T) := by
    rw [heap_set_same v6 hb6, Dk.put_log S ds lv (S.log ++ [p]) v6]; rfl
  have hK : Keeps (Held b ds lv) w4 (w6.setCell ⟨b, 525, none⟩ v6) := by
    refine Keeps.setCell (S := Held b ds lv) (p := ⟨b, 525, none⟩) (show Keeps (Held b ds lv) w4 w6 from ⟨hgrow.os, hgrow.tape, hgrow.output, by have := hgrow.size; omega, fun k hk hn => ?_⟩) (Or.inl (Or.inl rfl)) _
    rw [hgrow.block k (by omega) (fun e => hn (Or.inr (Or.inr e.symm))), Below.heap_alloc _ _ _ hk]
  refine ⟨Lib.hid { obj := ho, disk := ?_, log := ?_, d1 := H.d1, d2 := hvb, d3 := hvd, ok := Dk.logAt_ok H.ok p hp }, Lib.hid ⟨hK, fun k hk => ?_⟩⟩
  · refine H.disk.of_heap fun k hk => ?_
    have hkl := H.disk.lt hk
    rw [Below.heap_setCell _ _ _ _ (fun e => H.d1 (by rw [hk, e])), hgrow.block k (by omega) (fun e => H.d3 k hk e.symm), Below.heap_alloc _ _ _ hkl]
  · have e1 : (S.logAt p).log.length = S.log.length + 1 := by show (S.log ++ [p]).length = _; simp
    have e2 : (S.logAt p).log.map (fun p => Value.int .i64 (p : Nat)) = S.log.map (fun p => Value.int .i64 (p : Nat)) ++ [.int .i64 (p : Nat)] := by show (S.log ++ [p]).map _ = _; simp
    rw [e1, e2]
    exact row_of_heap hown fun k hk => Below.heap_setCell _ _ _ _ (fun e => hvb (by rw [hk, e]))
  · rcases hat with h | h
    · exact .inl (by rw [← h]; exact hk)
    · rw [h] at hk; cases hk; exact .inr (by omega)
theorem row_slice {w : World} {B : Nat} {E : TypeId} {s n : Nat} {v : Value} {xs : List Value} (h : w.ownsRow B E s v n xs) : ∃ a m c, v = .slice a m c := by
  rcases h.2 with ⟨h, _⟩ | ⟨g, cap, cur, h, _⟩
  · exact ⟨_, _, _, h⟩
  · exact ⟨_, _, _, h⟩
/-- The number of a sector is appended, as a step of a region. -/
theorem step_append_log {ops : Array Oper} {o : Oper} {a : Act} {K : Act → World → Prop} {Q : Exit → Act → World → Prop} {E : Prop} {T : TypeId} {w4 : World} {b : Nat} {ds lv : Value} {S : Dk} (H : IdeIn T w4 b ds lv S) (p : Nat) (hp : p < 64) (hL : S.log.length < 17592186044416)
    (hgd : o.guard = none) (s x : Operand) (ho : o.op = .call { callee := .builtin .append, args := #[s, x], argTypes := #[23, 23] }) (hs : a.eval s = lv) (hx : a.eval x = .slice (some ⟨w4.heap.size, 0, none⟩) 1 1)
    (h : ∀ a6 n6 q6 w6, w6.cell? ⟨b, 525, none⟩ = some lv → (∀ k, w6.frozen? ⟨b, k, none⟩ = false) → b < w6.heap.size → Hid (IdeIn T (w6.setCell ⟨b, 525, none⟩ (.slice a6 n6 q6)) b ds (.slice a6 n6 q6) (S.logAt p)) → Hid (Keeps (Held b ds lv) w4 (w6.setCell ⟨b, 525, none⟩ (.slice a6 n6 q6)) ∧ ∀ k, (.slice a6 n6 q6 : Value).ownBlock = some k → lv.ownBlock = some k ∨ w4.heap.size ≤ k) → K (a.put o.dst (.slice a6 n6 q6)) w6) :
    if Region.wanted o (yielded ops a.tmps) = true then Oper.wp Try.prog o a (w4.alloc (.cells #[.int .i64 (p : Nat)] 3)) K Q else E := by
  have hw : Region.wanted o (yielded ops a.tmps) = true := by simp [Region.wanted, hgd]
  rw [if_pos hw]
  obtain ⟨v6, w6, hr, h1, h2, h3, h4, h5⟩ := append_log H p hp hL o.type
  unfold Oper.wp execOp
  simp only [ho, resolve, invoke, builtin, Sem.run_bind, Sem.run_pure, Result.andThen_ok, List.map_toArray, List.map_cons, List.map_nil, hs, hx, hr]
  obtain ⟨a6, n6, q6, rfl⟩ := row_slice h4.out.log
  exact h a6 n6 q6 w6 h1 h2 h3 h4 h5
theorem take_splice {cur : List Value} {m o : Nat} {d f : Nat → Nat} (h : cur.take m = bytesL m d) (ho : o + 512 ≤ m) :
    (cur.take o ++ bytesL 512 f ++ cur.drop (o + 512)).take m = bytesL m (laid d f o) := by
  have hlen : m ≤ cur.length := by
    have := congrArg List.length h
    rw [List.length_take, bytesL_len] at this
    omega
  have hb : (bytesL 512 f).length = 512 := bytesL_len _ _
  have hto : (cur.take o).length = o := by rw [List.length_take]; omega
  apply List.ext_getElem?
  intro j
  by_cases hj : j < m
  · rw [List.getElem?_take_of_lt hj, bytesL_at _ _ _ hj]
    by_cases h1 : j < o
    · rw [List.append_assoc, List.getElem?_append_left (by rw [hto]; exact h1), List.getElem?_take_of_lt h1]
      have e : cur[j]? = (bytesL m d)[j]? := by rw [← h, List.getElem?_take_of_lt hj]
      rw [e, bytesL_at _ _ _ hj]; unfold laid; rw [if_neg (by omega)]
    · by_cases h2 : j < o + 512
      · rw [List.append_assoc, List.getElem?_append_right (by rw [hto]; omega), List.getElem?_append_left (by rw [hb, hto]; omega), hto, bytesL_at _ _ _ (by omega)]; unfold laid; rw [if_pos (by omega)]
      · rw [List.getElem?_append_right (by rw [List.length_append, hb, hto]; omega), List.length_append, hb, hto, List.getElem?_drop, show o + 512 + (j - (o + 512)) = j by omega]
        have e : cur[j]? = (bytesL m d)[j]? := by rw [← h, List.getElem?_take_of_lt hj]
        rw [e, bytesL_at _ _ _ hj]; unfold laid; rw [if_neg (by omega)]
  · rw [List.getElem?_eq_none (by rw [List.length_take]; omega), bytesL_no _ _ _ (by omega)]
theorem copy_out {T : TypeId} {W : World} {S : Dk} (H : IdeIn T W b ds lv S) {o : Nat} (ho : o + 512 ≤ S.n * 512) {g cap : Nat} (hds : ds = .slice (some ⟨g, 0, none⟩) (S.n * 512) cap) :
    ∃ W2, (∀ ty, (Builtin.copy_ #[30, 30] ty #[.slice (some ⟨g, o, none⟩) 512 512, .slice (some ⟨b, 9, none⟩) 512 512]).run Try.prog W = .ok (.int .i64 512) W2) ∧ IdeIn T W2 b ds lv (S.flushAt o) ∧ Keeps (· = g) W W2 := by
  obtain ⟨g', cap', cur, hds', hg, hc, hcm, hsz, htk⟩ := H.disk.open (by omega)
  rw [hds] at hds'
  simp only [Value.slice.injEq, Option.some.injEq, Addr.mk.injEq, and_true, true_and] at hds'
  obtain ⟨rfl, rfl⟩ := hds'
  have hgb : b ≠ g := fun e => H.d1 (by rw [hds, ← e]; rfl)
  have hx : (bytesL 512 S.buf).length = 512 := bytesL_len _ _
  have hl : cur.toList.length = cur.size := Array.length_toList
  have K : Keeps (· = g) W (W.setRow g (cur.toList.take o ++ bytesL 512 S.buf ++ cur.toList.drop (o + 512)).toArray) := ⟨rfl, rfl, rfl, by simp [World.setRow], fun k hk hn => setRow_other W g k _ hn⟩
  have h := fun ty => run_copy_row (P := Try.prog) W 30 30 ty 5 g o 512 512 ⟨b, 9, none⟩ 512 512 cur 5 (bytesL 512 S.buf) Try.underlying30 size8 hg (by rw [bytesL_len]; rfl)
      (fun j v hv => by obtain ⟨hj, rfl⟩ := bytesL_some hv; rw [Go.WideShapes.add_plain]; exact H.buf j hj) (by rw [bytesL_len]; omega) (bytesL_one _ _)
  rw [bytesL_len] at h
  have hd : Bytes (W.setRow g (cur.toList.take o ++ bytesL 512 S.buf ++ cur.toList.drop (o + 512)).toArray) ds S.n (laid S.d S.buf o) := by
    refine ⟨by rw [bytesL_len]; omega, .inr ⟨g, cap, _, hds, Nat.zero_le _, setRow_heap _ _ _ _ _ _ hg, hc, by unfold maxLen; omega, ?_, ?_⟩⟩
    · simp only [List.size_toArray, List.length_append, List.length_take, List.length_drop, hx, hl]
      omega
    · rw [Nat.mul_one, List.toList_toArray]
      exact take_splice htk ho
  exact ⟨_, h, { obj := by rw [K.block b (heap_lt H.obj) hgb]; exact H.obj, disk := hd, log := row_of_heap H.log fun k hk => K.block k (H.log.lt k hk).2 (fun e => H.d3 g (by rw [hds]; rfl) (by rw [← e]; exact hk)), d1 := H.d1, d2 := H.d2, d3 := H.d3, ok := Dk.flushAt_ok H.ok o }, K⟩
set_option maxRecDepth 20000 in
set_option maxHeartbeats 2000000 in
theorem put_live (H : IdeIn 113 w b ds lv D) (v : Nat) (hv : v < 256) (hm : D.mode = 2) (hd : D.done < 512) (hL : D.log.length < 17592186044416) :
    Calls Try.prog 62 #[.pointer (some ⟨b, 0, none⟩), .int .u8 v] w fun e w' => e = .returned (.tuple #[]) ∧ ∃ lv', IdeIn 113 w' b ds lv' (D.putB v) ∧ Keeps (Held b ds lv) w w' ∧ ∀ k, lv'.ownBlock = some k → lv.ownBlock = some k ∨ w.heap.size ≤ k := by
  obtain ⟨-, -, -, -, -, -, -, -, -, k9, k10, -, -, -, kf, klt⟩ := H.facts
  have kb := H.buf D.done hd
  rw [hm] at k10
  have q0 : (0 : Int) ≤ (D.done : Int) := by omega
  have q1 : (D.done : Int) < 512 := by omega
  have E0 := turned H (Blk.drew (Blk.buf (Blk.of H) D.done v _ rfl hd)) ((Keeps.refl _ w).setOne _ _).drew (Dk.buf_ok H.ok _ v hv) rfl rfl rfl
  have HE := Lib.hid E0
  clear E0
  have HM := Lib.hid hm
  have HOK := Lib.hid H.ok
  have HLL := Lib.hid hL
  clear hL
  clear H hm
  generalize D.buf D.done = u at *
  obtain ⟨dn, hdn⟩ : ∃ dn, dn = D.done := ⟨_, rfl⟩
  rw [← hdn] at k9 kb q0 q1 HE
  have HDN := Lib.hid hdn
  clear hdn hd
  go_enter Try.func62, Try.ntmps62
  go_wp2_with fail
  go_region
  have E := HE.out
  clear HE k9 k10 kf klt kb
  generalize (w.setCell ⟨b, 9 + dn, none⟩ (.int .u8 (v : Nat))).drew = w1 at *
  obtain ⟨H1, K1⟩ := E
  have B2 := Blk.done (Blk.of H1) (dn + 1) ((dn : Int) + 1) (by omega)
  obtain ⟨-, -, -, -, -, -, -, -, -, k9, k10, -, -, -, kf, klt⟩ := H1.facts
  have k9' : w1.cell? ⟨b, 521, none⟩ = some (.int .i64 (dn : Nat)) := by rw [k9, HDN.out]; rfl
  have K2 : Keeps (· = b) w (w1.setCell ⟨b, 521, none⟩ (.int .i64 ((dn : Int) + 1))) := K1.setOne _ _
  have e1 : (D.setBuf dn v).setDone (dn + 1) = D.put1 v := by rw [HDN.out]; rfl
  rw [e1] at B2
  have HH1 := Lib.hid H1
  have HB2 := Lib.hid B2
  clear H1 B2 k9 k10 K1 e1
  by_cases hlt : dn + 1 < 512
  · have g : (dn : Int) + 1 < 512 := by omega
    go_wp2_with fail
    go_returns
    have e : D.putB v = D.put1 v := by unfold Dk.putB; rw [if_pos HM.out, if_pos (by rw [← HDN.out]; exact hlt)]
    rw [e]
    have E := turned HH1.out HB2.out ((Keeps.refl _ w1).setOne _ _) (Dk.put1_ok HOK.out v hv (by rw [← HDN.out]; omega)) rfl rfl rfl
    exact ⟨rfl, lv, E.1, K2.mono fun k _ h => .inl h, fun k h => .inl h⟩
  · have hd2 : dn = 511 := by omega
    have E2 := turned HH1.out HB2.out ((Keeps.refl _ w1).setOne _ _) (Dk.put1_ok HOK.out v hv (by rw [← HDN.out]; omega)) rfl rfl rfl
    have HD2 := Lib.hid hd2
    clear hd2
    go_upto_region 3 with (fail)
    clear HH1 HB2 k9' kf klt hlt
    have HK2 := Lib.hid K2
    clear K2
    generalize w1.setCell ⟨b, 521, none⟩ (.int .i64 ((dn : Int) + 1)) = w2 at *
    obtain ⟨H2, -⟩ := E2
    obtain ⟨-, -, -, -, -, -, -, -, -, k9, k10, k11, -, k13, kf, klt⟩ := H2.facts
    have e9 : (D.put1 v).done = 512 := by show D.done + 1 = 512; rw [← HDN.out, HD2.out]
    rw [e9] at k9
    have k9' : w2.cell? ⟨b, 521, none⟩ = some (.int .i64 512) := k9
    clear e9 k9
    have HH2 := Lib.hid H2
    clear H2
    by_cases hp : (D.put1 v).place < (D.put1 v).n
    · have hn64 := HH2.out.ok.n
      obtain ⟨g, cap, cur, hds, hg, hc, hcm, hsz, htk⟩ := HH2.out.disk.open (by omega)
      have HS := Lib.hid (sector_yes HH2.out hp g cap hds hc)
      have hnil : ∀ w o, (binOp .eql 30 (.slice (some ⟨g, o, none⟩) 512 512) (.slice none 0 0)).run Try.prog w = .ok (.bool false) w := fun w o => Lib.run_eql_slice_nil w _ _ _ _ _ _ _ Try.underlying30
      have HDS := Lib.hid hds
      have HPP := Lib.hid hp
      clear hp hds hg hc hcm hsz htk hn64
      go_wp2_with fail
      refine HS.out.mono ?_
      rintro e w3 ⟨rfl, m, rfl⟩
      obtain ⟨W3, hcp, H3, K3⟩ := copy_out (HH2.out.drewN m) (o := (D.put1 v).place * 512) (by have := HPP.out; omega) HDS.out
      have HH3 := Lib.hid H3
      clear H3
      obtain ⟨o, ho⟩ : ∃ o, o = (D.put1 v).place * 512 := ⟨_, rfl⟩
      rw [← ho] at hcp HH3 ⊢
      have HO := Lib.hid ho
      clear ho
      go_upto_region 8 with (fail)
      have hpl : ((D.put1 v).flushAt o).place = (D.put1 v).place := Dk.flushAt_place _ _
      have hplt : (D.put1 v).place < 64 := by have := HPP.out; have := HH2.out.ok.n; omega
      have HPL := Lib.hid hpl
      have HPT := Lib.hid hplt
      have hll : ((D.put1 v).flushAt o).log.length < 17592186044416 := by rw [Dk.flushAt_log, Dk.put1_log]; exact HLL.out
      have HL2 := Lib.hid hll
      clear hll
      have c3 := HH3.out.facts.2.2.2.2.2.2.2.2.2.2.2.2.2.1
      clear hpl hplt k9' k10 k11 k13 kf klt hcp hnil
      go_region_law (first
        | (go_simp; refine (place_in (w := W3.drew) (HH3.out.drewN 1)).mono ?_; rintro e w4 ⟨rfl, m4, hw4⟩; have HH4 := Lib.hid (show IdeIn 113 w4 b ds lv ((D.put1 v).flushAt o) from by rw [hw4]; exact (HH3.out.drewN 1).drewN m4); have c4 := HH4.out.facts.2.2.2.2.2.2.2.2.2.2.2.2.2.1; have hb4 : b < w4.heap.size := HH4.out.facts.2.2.2.2.2.2.2.2.2.2.2.2.2.2.2; rw [HPL.out]; have HW4 := Lib.hid (show Keeps (Held b ds lv) W3 w4 from by rw [hw4]; exact ((Keeps.refl _ W3).drewN 1).drewN m4); clear hw4; dsimp only)
        | (refine step_append_log HH4.out (D.put1 v).place HPT.out HL2.out (by rfl) _ _ (by rfl) (by rfl) (by rfl) ?_; intro a6 n6 q6 w6 c6 f6 l6 H6 X6))
      all_goals
        have e6 : ((D.put1 v).flushAt o).logAt (D.put1 v).place = (D.put1 v).write := by rw [HO.out]; rfl
        have K5 : Keeps (Held b ds lv) w (w6.setCell ⟨b, 525, none⟩ (.slice a6 n6 q6)) := ((((HK2.out.drewN m).mono fun k _ h => Or.inl h).trans (K3.mono fun k _ h => Or.inr (Or.inl (by rw [h, HDS.out]; rfl)))).trans HW4.out).trans X6.out.1
        have N5 : ∀ k, (Value.slice a6 n6 q6).ownBlock = some k → lv.ownBlock = some k ∨ w.heap.size ≤ k := fun k h => (X6.out.2 k h).imp id (fun h => Nat.le_trans (Nat.le_trans HK2.out.size (Nat.le_trans K3.size HW4.out.size)) h)
        rw [e6] at H6
        have HK5 := Lib.hid K5
        have HN5 := Lib.hid N5
        clear X6 c6 f6 l6 c4 hb4 K5 N5 e6
        generalize w6.setCell ⟨b, 525, none⟩ (.slice a6 n6 q6) = w7 at *
        go_wp2_with fail
        refine (next_in H6.out).mono ?_
        rintro e w8 ⟨rfl, H8, K8⟩
        obtain ⟨-, -, -, -, -, -, -, -, -, -, -, j11, -, -, jf, jlt⟩ := H8.facts
        have HH8 := Lib.hid H8
        clear H8
        go_wp2_with fail
        go_end0
        have e : D.putB v = ({ (D.put1 v).write.next with mark := true } : Dk) := Dk.putB_full D v HM.out (by rw [← HDN.out, HD2.out]; decide) HPP.out
        rw [e]
        have E := turned HH8.out (Blk.mark (Blk.of HH8.out) true) ((Keeps.refl _ w8).setOne _ _) (Dk.marked_ok HH8.out.ok) rfl rfl rfl
        exact ⟨rfl, .slice a6 n6 q6, E.1, HK5.out.trans ((K8.trans E.2).mono fun k _ h => .inl h), HN5.out⟩
    · have HS := Lib.hid (sector_no HH2.out hp)
      have hnil : ∀ w, (binOp .eql 30 (.slice none 0 0) (.slice none 0 0)).run Try.prog w = .ok (.bool true) w := fun w => Lib.run_eql_slice_nil w _ _ _ _ _ _ _ Try.underlying30
      have HPP := Lib.hid hp
      clear hp
      go_wp2_with fail
      refine HS.out.mono ?_
      rintro e w3 ⟨rfl, m, rfl⟩
      go_wp2_with fail
      refine (fail_in (HH2.out.drewN m) 16 (by decide)).mono ?_
      rintro e w4 ⟨rfl, H4, K4⟩
      go_wp2_with fail
      go_returns
      have e : D.putB v = (D.put1 v).fail 16 := Dk.putB_gone D v HM.out (by rw [← HDN.out, HD2.out]; decide) HPP.out
      rw [e]
      exact ⟨rfl, lv, H4, ((HK2.out.drewN m).trans K4).mono fun k _ h => .inl h, fun k h => .inl h⟩
end
end Go.Proofs.Ytojmpdddfnkffaa.Ide

/- ide: a byte is given; a disk in its blocks; Out, In. -/
namespace Go.Proofs.Ytojmpdddfnkffaa.Ide
open Go.RowKit
set_option linter.unusedVariables false

section
variable {w : World} {b : Nat} {ds lv : Value} {D : Dk}
theorem Dk.step1_ok {S : Dk} (h : S.ok) (hd : S.done < 512) : (S.setDone (S.done + 1)).ok := { h with done := (by show S.done + 1 ≤ 512; omega) }
set_option maxHeartbeats 1000000 in
theorem get_idle (H : IdeIn 113 w b ds lv D) (h1 : D.mode ≠ 1) (h3 : D.mode ≠ 3) :
    Calls Try.prog 69 #[.pointer (some ⟨b, 0, none⟩)] w fun e w' => e = .returned (.int .u8 255) ∧ w = w' := by
  obtain ⟨-, -, -, -, -, -, -, -, -, k9, k10, -, -, -, kf, klt⟩ := H.facts
  have g1 : (((D.mode : Nat) : Int) != 1) = true := by simp; omega
  have g3 : (((D.mode : Nat) : Int) != 3) = true := by simp; omega
  clear h1 h3
  go_enter Try.func69, Try.ntmps69
  go_wp2_with fail
  go_returns
  exact ⟨rfl, rfl⟩
theorem got_in (H : IdeIn 113 w b ds lv D) (hd : D.done < 512) (n : Nat) (x : Int) (hx : x = (D.done : Int) + 1) : IdeIn 113 ((w.drewN n).setCell ⟨b, 521, none⟩ (.int .i64 x)) b ds lv (D.setDone (D.done + 1)) ∧ Keeps (· = b) w ((w.drewN n).setCell ⟨b, 521, none⟩ (.int .i64 x)) :=
  turned H (Blk.done (Blk.drewN (Blk.of H) n) (D.done + 1) x (by omega)) (((Keeps.refl _ w).drewN n).setOne _ _) (Dk.step1_ok H.ok hd) rfl rfl rfl
/-- The last byte of what is told, or of a sector, or one before it. -/
def gotTo (D : Dk) : Dk := if D.done + 1 < 512 then D.setDone (D.done + 1) else if D.mode = 3 then (D.setDone (D.done + 1)).setMode 0 else (D.setDone (D.done + 1)).next
theorem Dk.idle_ok {S : Dk} (h : S.ok) : (S.setMode 0).ok := { h with mode := (by show (0 : Nat) < 4; decide) }
set_option maxHeartbeats 2000000 in
theorem get_live (H : IdeIn 113 w b ds lv D) (hm : D.mode = 1 ∨ D.mode = 3) (hd : D.done < 512) :
    Calls Try.prog 69 #[.pointer (some ⟨b, 0, none⟩)] w fun e w' => e = .returned (.int .u8 (D.buf D.done : Nat)) ∧ IdeIn 113 w' b ds lv (gotTo D) ∧ Keeps (· = b) w w' := by
  obtain ⟨-, -, -, -, -, -, -, -, -, k9, k10, -, -, -, kf, klt⟩ := H.facts
  have kb := H.buf D.done hd
  have q0 : (0 : Int) ≤ (D.done : Int) := by omega
  have q1 : (D.done : Int) < 512 := by omega
  have HD := Lib.hid hd
  clear hd
  obtain ⟨u, hu⟩ : ∃ u, u = D.buf D.done := ⟨_, rfl⟩
  rw [← hu] at kb
  have HU := Lib.hid hu
  obtain ⟨dn, hdn⟩ : ∃ dn, dn = D.done := ⟨_, rfl⟩
  rw [← hdn] at k9 kb q0 q1
  have HDN := Lib.hid hdn
  have HH := Lib.hid H
  clear hdn hu H
  have HM := Lib.hid hm
  rcases hm with hm | hm
  all_goals
    rw [hm] at k10
    have HM1 := Lib.hid hm
    clear hm
    by_cases hlt : dn + 1 < 512
    · have g : (dn : Int) + 1 < 512 := by omega
      have HL := Lib.hid hlt
      clear hlt
      go_enter Try.func69, Try.ntmps69
      go_wp2_with fail
      go_quiet (fail)
      go_wp2_with fail
      go_ret
      have e : gotTo D = D.setDone (dn + 1) := by unfold gotTo; rw [if_pos (by rw [← HDN.out]; exact HL.out), HDN.out]
      rw [e]
      have E := got_in HH.out HD.out nq ((dn : Int) + 1) (by rw [HDN.out])
      rw [← HDN.out] at E
      refine ⟨?_, E⟩
      rw [← HU.out]; rfl
    · have hd2 : dn = 511 := by omega
      have HD2 := Lib.hid hd2
      clear hd2 hlt
      go_enter Try.func69, Try.ntmps69
      go_wp2_with fail
      go_quiet (fail)
      go_upto_region 6 with (fail)
      have E := got_in HH.out HD.out nq ((dn : Int) + 1) (by rw [HDN.out])
      clear k9 k10 kf klt kb
      generalize (w.drewN nq).setCell ⟨b, 521, none⟩ (.int .i64 ((dn : Int) + 1)) = w1 at *
      obtain ⟨H1, K1⟩ := E
      obtain ⟨-, -, -, -, -, -, -, -, -, k9, k10, -, -, -, kf, klt⟩ := H1.facts
      have e9 : (D.setDone (D.done + 1)).done = 512 := by show D.done + 1 = 512; rw [← HDN.out, HD2.out]
      have e10 : (D.setDone (D.done + 1)).mode = D.mode := rfl
      rw [e9] at k9
      rw [e10, HM1.out] at k10
      have k9' : w1.cell? ⟨b, 521, none⟩ = some (.int .i64 512) := k9
      have HH1 := Lib.hid H1
      have HK1 := Lib.hid K1
      clear e9 e10 k9 H1 K1
      have HNL := Lib.hid (show ¬ D.done + 1 < 512 by rw [← HDN.out, HD2.out]; decide)
      go_wp2_with fail
      first
        | (refine (next_in HH1.out).mono ?_
           rintro e w2 ⟨rfl, H2, K2⟩
           go_wp2_with fail
           go_ret
           have e : gotTo D = (D.setDone (D.done + 1)).next := by unfold gotTo; rw [if_neg HNL.out, if_neg (by rw [HM1.out]; decide)]
           rw [e]
           refine ⟨?_, H2, HK1.out.trans K2⟩
           rw [← HU.out]; rfl)
        | (go_ret
           have e : gotTo D = (D.setDone (D.done + 1)).setMode 0 := by unfold gotTo; rw [if_neg HNL.out, if_pos HM1.out]
           rw [e]
           have E := turned HH1.out (Blk.mode (Blk.of HH1.out) 0 0 rfl) ((Keeps.refl _ w1).setOne _ _) (Dk.idle_ok HH1.out.ok) rfl rfl rfl
           refine ⟨?_, E.1, HK1.out.trans E.2⟩
           rw [← HU.out]; rfl)
theorem Dk.getB_eq (S : Dk) (hm : S.mode = 1 ∨ S.mode = 3) : S.getB = gotTo S := by
  unfold Dk.getB gotTo
  rw [if_pos hm]
  rfl
theorem get_in (H : IdeIn 113 w b ds lv D) (hr : D.room) :
    Calls Try.prog 69 #[.pointer (some ⟨b, 0, none⟩)] w fun e w' => e = .returned (.int .u8 (D.gets : Nat)) ∧ IdeIn 113 w' b ds lv D.getB ∧ Keeps (· = b) w w' := by
  by_cases hm : D.mode = 1 ∨ D.mode = 3
  · have e : D.gets = D.buf D.done := by unfold Dk.gets; rw [if_pos hm]
    rw [e, Dk.getB_eq D hm]
    exact get_live H hm (hr (by omega))
  · have e : D.gets = 255 := by unfold Dk.gets; rw [if_neg hm]
    have e2 : D.getB = D := by unfold Dk.getB; rw [if_neg hm]
    rw [e, e2]
    refine (get_idle H (by omega) (by omega)).mono ?_
    rintro e w' ⟨rfl, rfl⟩
    exact ⟨rfl, H, Keeps.refl _ _⟩
theorem put_in (H : IdeIn 113 w b ds lv D) (hr : D.room) (v : Nat) (hv : v < 256) (hL : D.log.length < 17592186044416) :
    Calls Try.prog 62 #[.pointer (some ⟨b, 0, none⟩), .int .u8 v] w fun e w' => e = .returned (.tuple #[]) ∧ ∃ lv', IdeIn 113 w' b ds lv' (D.putB v) ∧ Keeps (Held b ds lv) w w' ∧ ∀ k, lv'.ownBlock = some k → lv.ownBlock = some k ∨ w.heap.size ≤ k := by
  by_cases hm : D.mode = 2
  · exact put_live H v hv hm (hr (by omega)) hL
  · have e : D.putB v = D := by unfold Dk.putB; rw [if_neg hm]
    rw [e]
    refine (put_idle H v hm).mono ?_
    rintro e w' ⟨rfl, rfl⟩
    exact ⟨rfl, lv, H, Keeps.refl _ _, fun k h => .inl h⟩
end
end Go.Proofs.Ytojmpdddfnkffaa.Ide

