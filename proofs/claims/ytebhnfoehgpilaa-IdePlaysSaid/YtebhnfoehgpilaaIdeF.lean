/- ide: a command. -/
import Derived.Test.YtebhnfoehgpilaaIdeE
import Derived.Deep.MidRow
namespace Go.Proofs.Ytebhnfoehgpilaa
open Go.RowKit
set_option linter.unusedVariables false

def tellCells (n : Nat) : Array Value := (bytesL 512 (tellBuf n)).toArray
set_option maxRecDepth 100000 in
theorem built_tell (n : Nat) : Try.prog.built 49 [(0, .int .u8 64), (99, .int .u8 2), (120, .int .u8 (n : Nat))] = some (tellCells n) := by kernel_rfl
theorem size512 : (Try.prog.info? 49).map (·.size) = some 512 := by kernel_rfl
theorem wpList_build_eq {ops : Array Oper} {rest : List Oper} {o : Oper} {a : Act} {w : World} {Q : Exit → Act → World → Prop} (hg : o.guard = none) (t : TypeId) (parts : Array (Nat × Operand)) (ho : o.op = .build t parts) (cells : Array Value)
    (hc : Try.prog.built t (parts.map fun (i, x) => (i, a.eval x)).toList = some cells) (h : wpList Try.prog ops Q rest (a.put o.dst (.agg cells)) w) : wpList Try.prog ops Q (o :: rest) a w :=
  wpList_build hg t parts ho (by rw [hc]; rfl) (by rw [hc]; exact h)
/-- The block behind a row of cells laid into it. -/
theorem heap_setCells (b : Nat) : ∀ (vs : List Value) (o : Nat) (w : World) (cs : Array Value) (t : TypeId), w.heap[b]? = some (.cells cs t) → o + vs.length ≤ cs.size →
    (w.setCells b o vs).heap[b]? = some (.cells (cs.toList.take o ++ vs ++ cs.toList.drop (o + vs.length)).toArray t)
  | [], o, w, cs, t, h, _ => by rw [World.setCells, h]; simp
  | v :: r, o, w, cs, t, h, hl => by
    rw [World.setCells]
    rw [List.length_cons] at hl
    rw [heap_setCells b r (o + 1) (w.setCell ⟨b, o, none⟩ v) (cs.setIfInBounds o v) t (heap_set_same v h) (by rw [Array.size_setIfInBounds]; omega)]
    congr 2
    apply Array.ext_getElem?
    intro i
    simp only [List.getElem?_toArray, Array.toList_setIfInBounds]
    have hsz : o < cs.toList.length := by rw [Array.length_toList]; omega
    rw [List.take_set, List.drop_set_of_lt (by omega), List.take_succ_eq_append_getElem hsz, List.length_cons, show o + 1 + r.length = o + (r.length + 1) by omega, List.set_append_right _ _ (by rw [List.length_take]; omega), List.length_take, Nat.min_eq_left (by omega), Nat.sub_self]
    simp
theorem keeps_setCells (b : Nat) : ∀ (vs : List Value) (o : Nat) (a w : World), Keeps (· = b) a w → Keeps (· = b) a (w.setCells b o vs)
  | [], _, _, _, h => h
  | v :: r, o, a, w, h => by rw [World.setCells]; exact keeps_setCells b r (o + 1) a _ (h.setOne o v)
/-- The whole buffer is stored. -/
theorem store_buf {T : TypeId} {W : World} {b : Nat} {ds lv : Value} {D : Dk} (hB : Blk T W b ds lv D) (f : Nat → Nat) :
    ∃ W2, (storeCells ⟨b, 9, none⟩ (bytesL 512 f)).run Try.prog W = .ok () W2 ∧ Blk T W2 b ds lv { D with buf := f } ∧ Keeps (· = b) W W2 := by
  refine ⟨W.setCells b 9 (bytesL 512 f), ?_, ?_, keeps_setCells b _ 9 W W (Keeps.refl _ _)⟩
  · exact run_storeCells_cells (P := Try.prog) b 9 (bytesL 512 f) 0 W (fun j hj => by
      rw [bytesL_len] at hj
      rw [hB.cell _ (by omega), Option.isSome_some]) (fun j hj => free_at hB) (bytesL_one _ _)
  · unfold Blk
    rw [heap_setCells b _ 9 W _ T hB (by rw [bytesL_len, Dk.size]; decide), bytesL_len, Dk.over]
theorem Dk.clean_ok {S : Dk} (h : S.ok) : S.clean.ok :=
  { h with r := upd_lt h.r 1 0 (by decide), mode := (by show (0 : Nat) < 4; decide) }
theorem tellBuf_lt {n : Nat} (h : n ≤ 64) (i : Nat) : tellBuf n i < 256 := by
  unfold tellBuf
  (repeat' split) <;> omega
theorem Dk.tell_ok {S : Dk} (h : S.ok) : ({ S.clean with buf := tellBuf S.n, mode := 3, done := 0, mark := true } : Dk).ok :=
  { Dk.clean_ok h with buf := fun i => tellBuf_lt h.n i, done := (by show (0 : Nat) ≤ 512; decide), mode := (by show (3 : Nat) < 4; decide) }
theorem cmd_bits : ∀ x : Fin 256, (x.val &&& 254 == 32) = (x.val == 32 || x.val == 33) ∧ (x.val &&& 254 == 48) = (x.val == 48 || x.val == 49) := by decide +kernel
def isRead (c : Nat) : Bool := c == 32 || c == 33
def isWrite (c : Nat) : Bool := c == 48 || c == 49
theorem read_bits (c : Nat) (h : c < 256) : (bits .andNot .u8 (c : Int) 1 == 32) = isRead c := by
  have e : bits .andNot .u8 (c : Int) 1 = ((c &&& 254 : Nat) : Int) := u8_andNot_nat c 1 h (by decide)
  unfold isRead
  rw [e, ← (cmd_bits ⟨c, h⟩).1, Bool.eq_iff_iff]; simp; omega
theorem write_bits (c : Nat) (h : c < 256) : (bits .andNot .u8 (c : Int) 1 == 48) = isWrite c := by
  have e : bits .andNot .u8 (c : Int) 1 = ((c &&& 254 : Nat) : Int) := u8_andNot_nat c 1 h (by decide)
  unfold isWrite
  rw [e, ← (cmd_bits ⟨c, h⟩).2, Bool.eq_iff_iff]; simp; omega
def meant (x : Nat) : Bool := x / 64 % 2 == 0
/-- What a command is. -/
theorem Dk.command_eq (S : Dk) (c : Nat) : S.command c =
    if S.other then S else if isRead c then (if meant (S.r 6) then S.clean.fail 4 else S.clean.begin 1) else if isWrite c then (if meant (S.r 6) then S.clean.fail 4 else S.clean.begin 2)
      else if c == 236 then { S.clean with buf := tellBuf S.n, mode := 3, done := 0, mark := true } else if (c == 231 || c == 145) then { S.clean with mark := true } else S.clean.fail 4 := by
  unfold Dk.command isRead isWrite meant
  simp only [Bool.or_eq_true, beq_iff_eq]
theorem Dk.marked_ok {S : Dk} (h : S.ok) : ({ S with mark := true } : Dk).ok := { h with }
section
variable {w : World} {b : Nat} {ds lv : Value} {D : Dk}
set_option maxHeartbeats 1000000 in
theorem cmd_other (H : IdeIn 56 w b ds lv D) (c : Nat) (ho : D.other = true) :
    Calls Try.prog 29 #[.pointer (some ⟨b, 0, none⟩), .int .u8 c] w fun e w' => e = .returned (.tuple #[]) ∧ w = w' := by
  have HO := Lib.hid (other_in H)
  have H1 := Lib.hid ho
  clear ho
  go_enter Try.func29, Try.ntmps29
  go_wp2_with fail
  refine HO.out.mono ?_
  rintro e w1 ⟨rfl, rfl⟩
  rw [H1.out]
  go_wp2_with fail
  go_returns
  exact ⟨rfl, rfl⟩
/-- The head of a command: what was told is struck. -/
theorem clean_blk (H : IdeIn 56 w b ds lv D) : Blk 56 ((((w.setCell ⟨b, 523, none⟩ (.bool false)).setCell ⟨b, 2, none⟩ (.int .u8 0)).setCell ⟨b, 524, none⟩ (.bool false)).setCell ⟨b, 522, none⟩ (.int .i64 0)) b ds lv D.clean :=
  Blk.mode (Blk.failed (Blk.reg (Blk.mark (Blk.of H) false) 1 0 0 rfl (by decide)) false) 0 0 rfl
theorem clean_keeps (w : World) (b : Nat) : Keeps (· = b) w ((((w.setCell ⟨b, 523, none⟩ (.bool false)).setCell ⟨b, 2, none⟩ (.int .u8 0)).setCell ⟨b, 524, none⟩ (.bool false)).setCell ⟨b, 522, none⟩ (.int .i64 0)).drew := (((((Keeps.refl _ w).setOne _ _).setOne _ _).setOne _ _).setOne _ _).drew
theorem clean_in (H : IdeIn 56 w b ds lv D) : IdeIn 56 ((((w.setCell ⟨b, 523, none⟩ (.bool false)).setCell ⟨b, 2, none⟩ (.int .u8 0)).setCell ⟨b, 524, none⟩ (.bool false)).setCell ⟨b, 522, none⟩ (.int .i64 0)).drew b ds lv D.clean ∧ Keeps (· = b) w ((((w.setCell ⟨b, 523, none⟩ (.bool false)).setCell ⟨b, 2, none⟩ (.int .u8 0)).setCell ⟨b, 524, none⟩ (.bool false)).setCell ⟨b, 522, none⟩ (.int .i64 0)).drew :=
  turned H (clean_blk H) (clean_keeps w b) (Dk.clean_ok H.ok) rfl rfl rfl
set_option maxHeartbeats 2000000 in
theorem cmd_rf (H : IdeIn 56 w b ds lv D) (c : Nat) (hc : c < 256) (ho : D.other = false) (h1 : isRead c = true) (h2 : meant (D.r 6) = true) :
    Calls Try.prog 29 #[.pointer (some ⟨b, 0, none⟩), .int .u8 c] w fun e w' => e = .returned (.tuple #[]) ∧ IdeIn 56 w' b ds lv (D.clean.fail 4) ∧ Keeps (· = b) w w' := by
  have HO := Lib.hid (other_in H)
  have H1 := Lib.hid ho
  have HH := Lib.hid H
  have hr := read_bits c hc
  have hw := write_bits c hc
  have hm := meant_bits (D.r 6) (H.ok.r 6)
  have hm' : (bits .and .u8 ((D.r 6 : Nat) : Int) 64 == 0) = meant (D.r 6) := hm
  clear hm
  rw [h1] at hr
  rw [h2] at hm'
  clear h1 h2 hw
  obtain ⟨-, -, k2, -, -, -, -, k7, -, -, k10, k11, k12, -, kf, klt⟩ := H.facts
  clear ho H
  go_enter Try.func29, Try.ntmps29
  go_wp2_with fail
  refine HO.out.mono ?_
  rintro e w1 ⟨rfl, rfl⟩
  rw [H1.out]
  go_wp2_with fail
  go_region
  have C := clean_in HH.out
  have R6 : D.clean.r 6 = D.r 6 := rfl
  generalize ((((w.setCell ⟨b, 523, none⟩ (.bool false)).setCell ⟨b, 2, none⟩ (.int .u8 0)).setCell ⟨b, 524, none⟩ (.bool false)).setCell ⟨b, 522, none⟩ (.int .i64 0)).drew = w1 at *
  clear k2 k7 k10 k11 k12 kf klt
  obtain ⟨C, KC⟩ := C
  obtain ⟨k0, -, -, -, -, -, -, k7, -, k9, k10, k11, -, -, kf, klt⟩ := C.facts
  rw [R6] at k7
  have HC := Lib.hid C
  clear C R6
  go_wp2_with fail
  refine (fail_in HC.out 4 (by decide)).mono ?_
  rintro e w2 ⟨rfl, H2, K2⟩
  go_wp2_with fail
  go_returns
  exact ⟨rfl, H2, KC.trans K2⟩
set_option maxHeartbeats 2000000 in
theorem cmd_rb (H : IdeIn 56 w b ds lv D) (c : Nat) (hc : c < 256) (ho : D.other = false) (h1 : isRead c = true) (h2 : meant (D.r 6) = false) :
    Calls Try.prog 29 #[.pointer (some ⟨b, 0, none⟩), .int .u8 c] w fun e w' => e = .returned (.tuple #[]) ∧ IdeIn 56 w' b ds lv (D.clean.begin 1) ∧ Keeps (· = b) w w' := by
  have HO := Lib.hid (other_in H)
  have H1 := Lib.hid ho
  have HH := Lib.hid H
  have hr := read_bits c hc
  have hw := write_bits c hc
  have hm := meant_bits (D.r 6) (H.ok.r 6)
  have hm' : (bits .and .u8 ((D.r 6 : Nat) : Int) 64 == 0) = meant (D.r 6) := hm
  clear hm
  rw [h1] at hr
  rw [h2] at hm'
  clear h1 h2 hw
  obtain ⟨-, -, k2, -, -, -, -, k7, -, -, k10, k11, k12, -, kf, klt⟩ := H.facts
  clear ho H
  go_enter Try.func29, Try.ntmps29
  go_wp2_with fail
  refine HO.out.mono ?_
  rintro e w1 ⟨rfl, rfl⟩
  rw [H1.out]
  go_wp2_with fail
  go_region
  have C := clean_in HH.out
  have R6 : D.clean.r 6 = D.r 6 := rfl
  generalize ((((w.setCell ⟨b, 523, none⟩ (.bool false)).setCell ⟨b, 2, none⟩ (.int .u8 0)).setCell ⟨b, 524, none⟩ (.bool false)).setCell ⟨b, 522, none⟩ (.int .i64 0)).drew = w1 at *
  clear k2 k7 k10 k11 k12 kf klt
  obtain ⟨C, KC⟩ := C
  obtain ⟨k0, -, -, -, -, -, -, k7, -, k9, k10, k11, -, -, kf, klt⟩ := C.facts
  rw [R6] at k7
  have HC := Lib.hid C
  clear C R6
  go_wp2_with fail
  refine (begin_in HC.out 1 (by decide) 1 rfl).mono ?_
  rintro e w2 ⟨rfl, H2, K2⟩
  go_wp2_with fail
  go_returns
  exact ⟨rfl, H2, KC.trans K2⟩
set_option maxHeartbeats 2000000 in
theorem cmd_wf (H : IdeIn 56 w b ds lv D) (c : Nat) (hc : c < 256) (ho : D.other = false) (h0 : isRead c = false) (h1 : isWrite c = true) (h2 : meant (D.r 6) = true) :
    Calls Try.prog 29 #[.pointer (some ⟨b, 0, none⟩), .int .u8 c] w fun e w' => e = .returned (.tuple #[]) ∧ IdeIn 56 w' b ds lv (D.clean.fail 4) ∧ Keeps (· = b) w w' := by
  have HO := Lib.hid (other_in H)
  have H1 := Lib.hid ho
  have HH := Lib.hid H
  have hr := read_bits c hc
  have hw := write_bits c hc
  have hm := meant_bits (D.r 6) (H.ok.r 6)
  have hm' : (bits .and .u8 ((D.r 6 : Nat) : Int) 64 == 0) = meant (D.r 6) := hm
  clear hm
  rw [h0] at hr
  rw [h1] at hw
  rw [h2] at hm'
  clear h0 h1 h2
  obtain ⟨-, -, k2, -, -, -, -, k7, -, -, k10, k11, k12, -, kf, klt⟩ := H.facts
  clear ho H
  go_enter Try.func29, Try.ntmps29
  go_wp2_with fail
  refine HO.out.mono ?_
  rintro e w1 ⟨rfl, rfl⟩
  rw [H1.out]
  go_wp2_with fail
  go_region
  have C := clean_in HH.out
  have R6 : D.clean.r 6 = D.r 6 := rfl
  generalize ((((w.setCell ⟨b, 523, none⟩ (.bool false)).setCell ⟨b, 2, none⟩ (.int .u8 0)).setCell ⟨b, 524, none⟩ (.bool false)).setCell ⟨b, 522, none⟩ (.int .i64 0)).drew = w1 at *
  clear k2 k7 k10 k11 k12 kf klt
  obtain ⟨C, KC⟩ := C
  obtain ⟨k0, -, -, -, -, -, -, k7, -, k9, k10, k11, -, -, kf, klt⟩ := C.facts
  rw [R6] at k7
  have HC := Lib.hid C
  clear C R6
  go_wp2_with fail
  refine (fail_in HC.out 4 (by decide)).mono ?_
  rintro e w2 ⟨rfl, H2, K2⟩
  go_wp2_with fail
  go_returns
  exact ⟨rfl, H2, KC.trans K2⟩
set_option maxHeartbeats 2000000 in
theorem cmd_wb (H : IdeIn 56 w b ds lv D) (c : Nat) (hc : c < 256) (ho : D.other = false) (h0 : isRead c = false) (h1 : isWrite c = true) (h2 : meant (D.r 6) = false) :
    Calls Try.prog 29 #[.pointer (some ⟨b, 0, none⟩), .int .u8 c] w fun e w' => e = .returned (.tuple #[]) ∧ IdeIn 56 w' b ds lv (D.clean.begin 2) ∧ Keeps (· = b) w w' := by
  have HO := Lib.hid (other_in H)
  have H1 := Lib.hid ho
  have HH := Lib.hid H
  have hr := read_bits c hc
  have hw := write_bits c hc
  have hm := meant_bits (D.r 6) (H.ok.r 6)
  have hm' : (bits .and .u8 ((D.r 6 : Nat) : Int) 64 == 0) = meant (D.r 6) := hm
  clear hm
  rw [h0] at hr
  rw [h1] at hw
  rw [h2] at hm'
  clear h0 h1 h2
  obtain ⟨-, -, k2, -, -, -, -, k7, -, -, k10, k11, k12, -, kf, klt⟩ := H.facts
  clear ho H
  go_enter Try.func29, Try.ntmps29
  go_wp2_with fail
  refine HO.out.mono ?_
  rintro e w1 ⟨rfl, rfl⟩
  rw [H1.out]
  go_wp2_with fail
  go_region
  have C := clean_in HH.out
  have R6 : D.clean.r 6 = D.r 6 := rfl
  generalize ((((w.setCell ⟨b, 523, none⟩ (.bool false)).setCell ⟨b, 2, none⟩ (.int .u8 0)).setCell ⟨b, 524, none⟩ (.bool false)).setCell ⟨b, 522, none⟩ (.int .i64 0)).drew = w1 at *
  clear k2 k7 k10 k11 k12 kf klt
  obtain ⟨C, KC⟩ := C
  obtain ⟨k0, -, -, -, -, -, -, k7, -, k9, k10, k11, -, -, kf, klt⟩ := C.facts
  rw [R6] at k7
  have HC := Lib.hid C
  clear C R6
  go_wp2_with fail
  refine (begin_in HC.out 2 (by decide) 2 rfl).mono ?_
  rintro e w2 ⟨rfl, H2, K2⟩
  go_wp2_with fail
  go_returns
  exact ⟨rfl, H2, KC.trans K2⟩
set_option maxHeartbeats 2000000 in
theorem cmd_no (H : IdeIn 56 w b ds lv D) (c : Nat) (hc : c < 256) (ho : D.other = false) (h0 : isRead c = false) (h1 : isWrite c = false) (h3 : (c == 236) = false) (h4 : (c == 231) = false) (h5 : (c == 145) = false) :
    Calls Try.prog 29 #[.pointer (some ⟨b, 0, none⟩), .int .u8 c] w fun e w' => e = .returned (.tuple #[]) ∧ IdeIn 56 w' b ds lv (D.clean.fail 4) ∧ Keeps (· = b) w w' := by
  have HO := Lib.hid (other_in H)
  have H1 := Lib.hid ho
  have HH := Lib.hid H
  have hr := read_bits c hc
  have hw := write_bits c hc
  have hm := meant_bits (D.r 6) (H.ok.r 6)
  have hm' : (bits .and .u8 ((D.r 6 : Nat) : Int) 64 == 0) = meant (D.r 6) := hm
  clear hm
  rw [h0] at hr
  rw [h1] at hw
  have g3 : ((c : Int) == 236) = false := by simp at h3 ⊢; omega
  have g4 : ((c : Int) == 231) = false := by simp at h4 ⊢; omega
  have g5 : ((c : Int) == 145) = false := by simp at h5 ⊢; omega
  clear h0 h1 h3 h4 h5
  obtain ⟨-, -, k2, -, -, -, -, k7, -, -, k10, k11, k12, -, kf, klt⟩ := H.facts
  clear ho H
  go_enter Try.func29, Try.ntmps29
  go_wp2_with fail
  refine HO.out.mono ?_
  rintro e w1 ⟨rfl, rfl⟩
  rw [H1.out]
  go_wp2_with fail
  go_region
  have C := clean_in HH.out
  have R6 : D.clean.r 6 = D.r 6 := rfl
  generalize ((((w.setCell ⟨b, 523, none⟩ (.bool false)).setCell ⟨b, 2, none⟩ (.int .u8 0)).setCell ⟨b, 524, none⟩ (.bool false)).setCell ⟨b, 522, none⟩ (.int .i64 0)).drew = w1 at *
  clear k2 k7 k10 k11 k12 kf klt
  obtain ⟨C, KC⟩ := C
  obtain ⟨k0, -, -, -, -, -, -, k7, -, k9, k10, k11, -, -, kf, klt⟩ := C.facts
  rw [R6] at k7
  have HC := Lib.hid C
  clear C R6
  go_wp2_with fail
  refine (fail_in HC.out 4 (by decide)).mono ?_
  rintro e w2 ⟨rfl, H2, K2⟩
  go_wp2_with fail
  go_returns
  exact ⟨rfl, H2, KC.trans K2⟩
set_option maxHeartbeats 2000000 in
theorem cmd_fl1 (H : IdeIn 56 w b ds lv D) (c : Nat) (hc : c < 256) (ho : D.other = false) (h0 : isRead c = false) (h1 : isWrite c = false) (h3 : (c == 236) = false) (h4 : (c == 231) = true) :
    Calls Try.prog 29 #[.pointer (some ⟨b, 0, none⟩), .int .u8 c] w fun e w' => e = .returned (.tuple #[]) ∧ IdeIn 56 w' b ds lv { D.clean with mark := true } ∧ Keeps (· = b) w w' := by
  have HO := Lib.hid (other_in H)
  have H1 := Lib.hid ho
  have HH := Lib.hid H
  have hr := read_bits c hc
  have hw := write_bits c hc
  have hm := meant_bits (D.r 6) (H.ok.r 6)
  have hm' : (bits .and .u8 ((D.r 6 : Nat) : Int) 64 == 0) = meant (D.r 6) := hm
  clear hm
  rw [h0] at hr
  rw [h1] at hw
  have g3 : ((c : Int) == 236) = false := by simp at h3 ⊢; omega
  have g4 : ((c : Int) == 231) = true := by simp at h4 ⊢; omega
  clear h0 h1 h3 h4
  obtain ⟨-, -, k2, -, -, -, -, k7, -, -, k10, k11, k12, -, kf, klt⟩ := H.facts
  clear ho H
  go_enter Try.func29, Try.ntmps29
  go_wp2_with fail
  refine HO.out.mono ?_
  rintro e w1 ⟨rfl, rfl⟩
  rw [H1.out]
  go_wp2_with fail
  go_region
  have C := clean_in HH.out
  have R6 : D.clean.r 6 = D.r 6 := rfl
  generalize ((((w.setCell ⟨b, 523, none⟩ (.bool false)).setCell ⟨b, 2, none⟩ (.int .u8 0)).setCell ⟨b, 524, none⟩ (.bool false)).setCell ⟨b, 522, none⟩ (.int .i64 0)).drew = w1 at *
  clear k2 k7 k10 k11 k12 kf klt
  obtain ⟨C, KC⟩ := C
  obtain ⟨k0, -, -, -, -, -, -, k7, -, k9, k10, k11, -, -, kf, klt⟩ := C.facts
  rw [R6] at k7
  have HC := Lib.hid C
  clear C R6
  go_wp2_with fail
  go_returns
  have E := turned HC.out (Blk.mark (Blk.of HC.out) true) ((Keeps.refl _ _).setOne _ _) (Dk.marked_ok HC.out.ok) rfl rfl rfl
  exact ⟨rfl, E.1, KC.trans E.2⟩
set_option maxHeartbeats 2000000 in
theorem cmd_fl2 (H : IdeIn 56 w b ds lv D) (c : Nat) (hc : c < 256) (ho : D.other = false) (h0 : isRead c = false) (h1 : isWrite c = false) (h3 : (c == 236) = false) (h4 : (c == 231) = false) (h5 : (c == 145) = true) :
    Calls Try.prog 29 #[.pointer (some ⟨b, 0, none⟩), .int .u8 c] w fun e w' => e = .returned (.tuple #[]) ∧ IdeIn 56 w' b ds lv { D.clean with mark := true } ∧ Keeps (· = b) w w' := by
  have HO := Lib.hid (other_in H)
  have H1 := Lib.hid ho
  have HH := Lib.hid H
  have hr := read_bits c hc
  have hw := write_bits c hc
  have hm := meant_bits (D.r 6) (H.ok.r 6)
  have hm' : (bits .and .u8 ((D.r 6 : Nat) : Int) 64 == 0) = meant (D.r 6) := hm
  clear hm
  rw [h0] at hr
  rw [h1] at hw
  have g3 : ((c : Int) == 236) = false := by simp at h3 ⊢; omega
  have g4 : ((c : Int) == 231) = false := by simp at h4 ⊢; omega
  have g5 : ((c : Int) == 145) = true := by simp at h5 ⊢; omega
  clear h0 h1 h3 h4 h5
  obtain ⟨-, -, k2, -, -, -, -, k7, -, -, k10, k11, k12, -, kf, klt⟩ := H.facts
  clear ho H
  go_enter Try.func29, Try.ntmps29
  go_wp2_with fail
  refine HO.out.mono ?_
  rintro e w1 ⟨rfl, rfl⟩
  rw [H1.out]
  go_wp2_with fail
  go_region
  have C := clean_in HH.out
  have R6 : D.clean.r 6 = D.r 6 := rfl
  generalize ((((w.setCell ⟨b, 523, none⟩ (.bool false)).setCell ⟨b, 2, none⟩ (.int .u8 0)).setCell ⟨b, 524, none⟩ (.bool false)).setCell ⟨b, 522, none⟩ (.int .i64 0)).drew = w1 at *
  clear k2 k7 k10 k11 k12 kf klt
  obtain ⟨C, KC⟩ := C
  obtain ⟨k0, -, -, -, -, -, -, k7, -, k9, k10, k11, -, -, kf, klt⟩ := C.facts
  rw [R6] at k7
  have HC := Lib.hid C
  clear C R6
  go_wp2_with fail
  go_returns
  have E := turned HC.out (Blk.mark (Blk.of HC.out) true) ((Keeps.refl _ _).setOne _ _) (Dk.marked_ok HC.out.ok) rfl rfl rfl
  exact ⟨rfl, E.1, KC.trans E.2⟩
set_option maxRecDepth 100000 in
set_option maxHeartbeats 2000000 in
theorem cmd_tell (H : IdeIn 56 w b ds lv D) (c : Nat) (hc : c < 256) (ho : D.other = false) (h0 : isRead c = false) (h1 : isWrite c = false) (h3 : (c == 236) = true) :
    Calls Try.prog 29 #[.pointer (some ⟨b, 0, none⟩), .int .u8 c] w fun e w' => e = .returned (.tuple #[]) ∧ IdeIn 56 w' b ds lv { D.clean with buf := tellBuf D.n, mode := 3, done := 0, mark := true } ∧ Keeps (· = b) w w' := by
  have HO := Lib.hid (other_in H)
  have H1 := Lib.hid ho
  have HH := Lib.hid H
  have hr := read_bits c hc
  have hw := write_bits c hc
  have hm := meant_bits (D.r 6) (H.ok.r 6)
  have hm' : (bits .and .u8 ((D.r 6 : Nat) : Int) 64 == 0) = meant (D.r 6) := hm
  clear hm
  rw [h0] at hr
  rw [h1] at hw
  have g3 : ((c : Int) == 236) = true := by simp at h3 ⊢; omega
  clear h0 h1 h3
  obtain ⟨-, -, k2, -, -, -, -, k7, -, -, k10, k11, k12, -, kf, klt⟩ := H.facts
  clear ho H
  go_enter Try.func29, Try.ntmps29
  go_wp2_with fail
  refine HO.out.mono ?_
  rintro e w1 ⟨rfl, rfl⟩
  rw [H1.out]
  go_wp2_with fail
  go_region
  have C := clean_in HH.out
  have R6 : D.clean.r 6 = D.r 6 := rfl
  generalize ((((w.setCell ⟨b, 523, none⟩ (.bool false)).setCell ⟨b, 2, none⟩ (.int .u8 0)).setCell ⟨b, 524, none⟩ (.bool false)).setCell ⟨b, 522, none⟩ (.int .i64 0)).drew = w1 at *
  clear k2 k7 k10 k11 k12 kf klt
  obtain ⟨C, KC⟩ := C
  obtain ⟨k0, -, -, -, -, -, -, k7, -, k9, k10, k11, -, -, kf, klt⟩ := C.facts
  rw [R6] at k7
  have HC := Lib.hid C
  clear C R6
  obtain ⟨a, cap, hds⟩ := HC.out.disk.len
  rw [hds] at k0
  have hn : D.clean.n = D.n := rfl
  have hn64 := HC.out.ok.n
  rw [hn] at k0 hn64
  have hq : ((D.n * 512 : Nat) : Int) / 512 = (D.n : Int) := by omega
  obtain ⟨W2, hst, B2, K2⟩ := store_buf (Blk.of HC.out) (tellBuf D.n)
  obtain ⟨-, -, -, -, -, -, -, -, -, j9, j10, j11, -, -, jf, jlt⟩ := B2.facts
  have HB := Lib.hid B2
  have HN := Lib.hid hds
  generalize D.n * 512 = L at *
  clear B2 hn hds
  go_wp2_with ((refine wpList_build_eq (o := ⟨some 64, _, _, _, _, _⟩) ?hg0 49 ?pt0 ?ho0 (bytesL 512 (tellBuf D.n)).toArray ?hb0 ?_); (case ho0 => rfl); (case hg0 => rfl); go_loud (case hb0 => (simp only [List.map_toArray, List.map_cons, List.map_nil]; exact built_tell D.n)))
  go_returns
  have K3 : Keeps (· = b) w1 (((W2.setCell ⟨b, 522, none⟩ (.int .i64 3)).setCell ⟨b, 521, none⟩ (.int .i64 0)).setCell ⟨b, 523, none⟩ (.bool true)) := ((K2.setOne _ _).setOne _ _).setOne _ _
  have E := turned HC.out (Blk.mark (Blk.done (Blk.mode HB.out 3 3 rfl) 0 0 rfl) true) K3 (Dk.tell_ok HH.out.ok) rfl rfl rfl
  exact ⟨rfl, E.1, KC.trans E.2⟩
theorem Dk.command_ok {S : Dk} (h : S.ok) (c : Nat) : (S.command c).ok := by
  have hc := Dk.clean_ok h
  rw [Dk.command_eq]
  (repeat' split)
  · exact h
  · exact Dk.fail_ok hc 4 (by decide)
  · exact Dk.begin_ok hc 1 (by decide)
  · exact Dk.fail_ok hc 4 (by decide)
  · exact Dk.begin_ok hc 2 (by decide)
  · exact Dk.tell_ok h
  · exact Dk.marked_ok hc
  · exact Dk.fail_ok hc 4 (by decide)
theorem command_in (H : IdeIn 56 w b ds lv D) (c : Nat) (hc : c < 256) (x : Int) (hx : x = (c : Nat)) :
    Calls Try.prog 29 #[.pointer (some ⟨b, 0, none⟩), .int .u8 x] w fun e w' => e = .returned (.tuple #[]) ∧ IdeIn 56 w' b ds lv (D.command c) ∧ Keeps (· = b) w w' := by
  subst hx
  rw [Dk.command_eq]
  cases ho : D.other
  · rw [if_neg (by decide)]
    cases h0 : isRead c
    · rw [if_neg (by decide)]
      cases h1 : isWrite c
      · rw [if_neg (by decide)]
        cases h3 : c == 236
        · rw [if_neg (by decide)]
          cases h4 : c == 231
          · cases h5 : c == 145
            · rw [if_neg (by decide)]; exact cmd_no H c hc ho h0 h1 h3 h4 h5
            · rw [if_pos (by decide)]; exact cmd_fl2 H c hc ho h0 h1 h3 h4 h5
          · rw [if_pos (by simp)]; exact cmd_fl1 H c hc ho h0 h1 h3 h4
        · rw [if_pos rfl]; exact cmd_tell H c hc ho h0 h1 h3
      · rw [if_pos rfl]
        cases h2 : meant (D.r 6)
        · rw [if_neg (by decide)]; exact cmd_wb H c hc ho h0 h1 h2
        · rw [if_pos rfl]; exact cmd_wf H c hc ho h0 h1 h2
    · rw [if_pos rfl]
      cases h2 : meant (D.r 6)
      · rw [if_neg (by decide)]; exact cmd_rb H c hc ho h0 h2
      · rw [if_pos rfl]; exact cmd_rf H c hc ho h0 h2
  · rw [if_pos rfl]
    refine (cmd_other H c ho).mono ?_
    rintro e w' ⟨rfl, rfl⟩
    exact ⟨rfl, H, Keeps.refl _ _⟩
end
end Go.Proofs.Ytebhnfoehgpilaa
