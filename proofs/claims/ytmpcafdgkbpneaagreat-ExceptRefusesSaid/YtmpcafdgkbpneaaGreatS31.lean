/- Steps of a proof: UartA, UartB, UartC, UartD, UartE, UartF, together. -/
import Derived.Test.YtmpcafdgkbpneaaGreatRows
import Derived.Test.YtmpcafdgkbpneaaGreatS0
import Derived.Conc.LoneCalls
import Derived.Conc.LoneSelect
import Derived.Conc.LoneSelectN
import Derived.KernelRfl
import Derived.Laws.Rows
import Derived.Laws.BitsAll
import Derived.Lib.Hide
import Derived.Laws.AppendOwn
import Derived.Deep.CutRange
import Derived.Maps.AppendAt
/- uart: a serial port, as what it holds; what its calls do to it, in plain words; a byte that came, and one that comes. -/
set_option maxHeartbeats 4000000
namespace Go.Proofs.YtmpcafdgkbpneaaGreat.Uart
open Go.RowKit Go.Conc
set_option linter.unusedVariables false

def bytesV (L : List Nat) : List Value := L.map fun x => .int .u8 (x : Nat)
structure Ut where
 came : List Nat
 lost : Bool
 on : Bool
 empty : Bool
 d0 : Nat
 d1 : Nat
 lcr : Nat
 mcr : Nat
 scr : Nat
 wanted : Nat
 sent : List Nat
structure Ut.ok (U : Ut) : Prop where
 c1 : U.came.length ≤ 16
 c2 : ∀ x ∈ U.came, x < 256
 d0 : U.d0 < 256
 d1 : U.d1 < 256
 lcr : U.lcr < 256
 mcr : U.mcr < 256
 scr : U.scr < 256
 wanted : U.wanted < 256
 s2 : ∀ x ∈ U.sent, x < 256
def Ut.cells (U : Ut) (q : Nat) (sv : Value) : List Value :=
 [.chan (some q), .bool U.lost, .bool U.on, .bool U.empty, .int .u8 (U.d0 : Nat), .int .u8 (U.d1 : Nat), .int .u8 (U.lcr : Nat), .int .u8 (U.mcr : Nat), .int .u8 (U.scr : Nat), .int .u8 (U.wanted : Nat), sv]
structure UtIn (w : World) (b q : Nat) (sv : Value) (U : Ut) : Prop where
 obj : w.heap[b]? = some (.cells (U.cells q sv).toArray 246)
 chan : ∃ s r, w.heap[q]? = some (.chan 16 (bytesV U.came).toArray false s r false)
 sent : w.ownsRow 0 5 1 sv U.sent.length (bytesV U.sent)
 ok : U.ok
def Held (b q : Nat) (sv : Value) (k : Nat) : Prop := k = b ∨ k = q ∨ sv.ownBlock = some k
section
variable {w w' : World} {b q : Nat} {sv : Value} {U : Ut}
theorem row_of_heap {w w' : World} {B : Nat} {E : TypeId} {s n : Nat} {v : Value} {xs : List Value} (h : w.ownsRow B E s v n xs) (hh : ∀ k, v.ownBlock = some k → w'.heap[k]? = w.heap[k]?) : w'.ownsRow B E s v n xs := by
 refine ⟨h.1, ?_⟩
 rcases h.2 with h2 | ⟨g, cap, cur, rfl, hb, hg, r⟩
 ·exact .inl h2
 ·exact .inr ⟨g, cap, cur, rfl, hb, by rw [hh g rfl]; exact hg, r⟩
theorem UtIn.lt (H : UtIn w b q sv U) {k : Nat} (h : Held b q sv k) : k < w.heap.size := by
 rcases h with rfl | rfl | h
 ·exact heap_lt H.obj
 ·obtain ⟨s, r, hq⟩ := H.chan
  exact heap_lt hq
 ·exact (World.ownsRow.lt H.sent k h).2
theorem UtIn.of_heap (H : UtIn w b q sv U) (h : ∀ k, Held b q sv k → w'.heap[k]? = w.heap[k]?) : UtIn w' b q sv U := by
 obtain ⟨s, r, hq⟩ := H.chan
 exact ⟨by rw [h b (.inl rfl)]; exact H.obj, ⟨s, r, by rw [h q (.inr (.inl rfl))]; exact hq⟩, row_of_heap H.sent fun k hk => h k (.inr (.inr hk)), H.ok⟩
theorem UtIn.facts (H : UtIn w b q sv U) :
    w.cell? ⟨b, 0, none⟩ = some (.chan (some q)) ∧ w.cell? ⟨b, 1, none⟩ = some (.bool U.lost) ∧ w.cell? ⟨b, 2, none⟩ = some (.bool U.on) ∧ w.cell? ⟨b, 3, none⟩ = some (.bool U.empty) ∧
    w.cell? ⟨b, 4, none⟩ = some (.int .u8 (U.d0 : Nat)) ∧ w.cell? ⟨b, 5, none⟩ = some (.int .u8 (U.d1 : Nat)) ∧ w.cell? ⟨b, 6, none⟩ = some (.int .u8 (U.lcr : Nat)) ∧ w.cell? ⟨b, 7, none⟩ = some (.int .u8 (U.mcr : Nat)) ∧
    w.cell? ⟨b, 8, none⟩ = some (.int .u8 (U.scr : Nat)) ∧ w.cell? ⟨b, 9, none⟩ = some (.int .u8 (U.wanted : Nat)) ∧ w.cell? ⟨b, 10, none⟩ = some sv ∧ (∀ k, w.frozen? ⟨b, k, none⟩ = false) ∧ b < w.heap.size := by
 have h := H.obj
 refine ⟨?_, ?_, ?_, ?_, ?_, ?_, ?_, ?_, ?_, ?_, ?_, fun k => free_at h, heap_lt h⟩ <;> (rw [cell_at h]; rfl)
end

end Go.Proofs.YtmpcafdgkbpneaaGreat.Uart

/- uart: a byte that comes. -/
namespace Go.Proofs.YtmpcafdgkbpneaaGreat.Uart
open Go.RowKit Go.Conc
set_option linter.unusedVariables false

section
variable {w : World} {b q : Nat} {sv : Value} {U : Ut}
end
end Go.Proofs.YtmpcafdgkbpneaaGreat.Uart

/- uart: what interrupts; what was sent; a new one. -/
namespace Go.Proofs.YtmpcafdgkbpneaaGreat.Uart
open Go.RowKit Go.Conc
set_option linter.unusedVariables false

theorem masks : ∀ x : Fin 256, (x.val &&& 1) = x.val % 2 ∧ (x.val &&& 2) = x.val / 2 % 2 * 2 ∧ (x.val &&& 128) = x.val / 128 % 2 * 128 ∧ (x.val &&& 15) = x.val % 16 ∧ (x.val &&& 31) = x.val % 32 := by decide +kernel
theorem m1 (x : Nat) (h : x < 256) : bits .and .u8 (x : Int) 1 = ((x % 2 : Nat) : Int) := by
 rw [← (masks ⟨x, h⟩).1]; exact u8_and_nat x 1 h (by decide)
theorem m2 (x : Nat) (h : x < 256) : bits .and .u8 (x : Int) 2 = ((x / 2 % 2 * 2 : Nat) : Int) := by
 rw [← (masks ⟨x, h⟩).2.1]; exact u8_and_nat x 2 h (by decide)
theorem t1 (x : Nat) (h : x < 256) : (bits .and .u8 (x : Int) 1 != 0) = (x % 2 == 1) := by
 rw [m1 x h]
 rcases Nat.mod_two_eq_zero_or_one x with e | e <;> rw [e] <;> rfl
theorem t2 (x : Nat) (h : x < 256) : (bits .and .u8 (x : Int) 2 != 0) = (x / 2 % 2 == 1) := by
 rw [m2 x h]
 rcases Nat.mod_two_eq_zero_or_one (x / 2) with e | e <;> rw [e] <;> rfl
def Ut.rx (U : Ut) : Bool := !U.came.isEmpty && U.wanted % 2 == 1
def Ut.tx (U : Ut) : Bool := U.empty && U.wanted / 2 % 2 == 1
def Ut.why (U : Ut) : Nat := if U.rx then 4 else if U.tx then 2 else 1
section
variable {w : World} {b q : Nat} {sv : Value} {U : Ut}
theorem why_any (H : UtIn w b q sv U) : Calls Tryz.prog 175 #[.pointer (some ⟨b, 0, none⟩)] w fun e w' => e = .returned (.int .u8 (U.why : Nat)) ∧ w = w' := by
 obtain ⟨k0, -, -, k3, -, -, -, -, -, k9, -, kf, kl⟩ := H.facts
 obtain ⟨s, r, hq⟩ := H.chan
 have hlen := fun ty => run_len_chan (P := Tryz.prog) (w := w) 243 ty Tryz.underlying243 hq
 have b1 := t1 U.wanted H.ok.wanted
 have b2 := t2 U.wanted H.ok.wanted
 have hn : ((bytesV U.came).toArray.size : Int) = U.came.length := by simp [bytesV]
 have hw : U.why = if (!U.came.isEmpty && U.wanted % 2 == 1) then 4 else if (U.empty && U.wanted / 2 % 2 == 1) then 2 else 1 := rfl
 generalize (bytesV U.came).toArray.size = n at *
 generalize U.why = y at *
 generalize U.empty = e at *
 generalize U.wanted = wt at *
 generalize (wt % 2 == 1) = c1 at *
 generalize (wt / 2 % 2 == 1) = c2 at *
 clear hq H
 cases hc : U.came with
 | nil =>
  rw [hc] at hw hn
  have hn0 : (n : Int) ≤ 0 := by rw [hn]; simp
  clear hn hc
  cases e <;> cases c2
  all_goals
   simp at hw
   have HW := Lib.hid hw
   clear hw
   go_enter Tryz.func175, Tryz.ntmps175
   go_wp2_with fail
   go_ret
   exact ⟨by rw [HW.out]; rfl, rfl⟩
 | cons x l =>
  rw [hc] at hw hn
  have hn0 : (0 : Int) < (n : Int) := by rw [hn]; simp
  clear hn hc
  cases c1 <;> cases e <;> cases c2
  all_goals
   simp at hw
   have HW := Lib.hid hw
   clear hw
   go_enter Tryz.func175, Tryz.ntmps175
   go_wp2_with fail
   go_ret
   exact ⟨by rw [HW.out]; rfl, rfl⟩
def Ut.line (U : Ut) : Bool := U.rx || U.tx
theorem Ut.line_eq (U : Ut) : ((U.why : Int) != 1) = U.line := by
 unfold Ut.why Ut.line
 cases U.rx <;> cases U.tx <;> rfl
theorem line_any (H : UtIn w b q sv U) : Calls Tryz.prog 134 #[.pointer (some ⟨b, 0, none⟩)] w fun e w' => e = .returned (.bool U.line) ∧ w = w' := by
 have HL := Lib.hid (Ut.line_eq U)
 go_enter Tryz.func134, Tryz.ntmps134
 go_wp2_with fail
 refine (why_any H).mono ?_
 rintro e w1 ⟨rfl, rfl⟩
 go_wp2_with fail
 go_ret
 exact ⟨by rw [HL.out]; rfl, rfl⟩
end
end Go.Proofs.YtmpcafdgkbpneaaGreat.Uart

/- uart: a new one; a register is written. -/
namespace Go.Proofs.YtmpcafdgkbpneaaGreat.Uart
open Go.RowKit Go.Conc
set_option linter.unusedVariables false

def Ut.new : Ut := ⟨[], false, false, false, 0, 0, 0, 0, 0, 0, []⟩
theorem Ut.new_ok : Ut.new.ok := ⟨by decide, (fun x hx => by cases hx), by decide, by decide, by decide, by decide, by decide, by decide, (fun x hx => by cases hx)⟩
theorem bytes8 : ∃ i, Tryz.prog.info? 5 = some i ∧ i.bytes = 1 := by
 have h : (Tryz.prog.info? 5).map (·.bytes) = some 1 := by kernel_rfl
 obtain ⟨i, hi, hb⟩ := Option.map_eq_some_iff.1 h
 exact ⟨i, hi, hb⟩
theorem mk16 (w : World) : (Instr.makeChan 243 (.int .i64 16)).run Tryz.prog w = .ok (.chan (some w.heap.size)) (w.alloc (.chan 16 #[] false 0 0 false)) := by
 obtain ⟨i, hi, hb⟩ := bytes8
 simpa using run_makeChan (P := Tryz.prog) (w := w) Tryz.underlying243 hi .i64 16 (by omega) (by rw [hb]; omega)
theorem new_any (w : World) : Calls Tryz.prog 77 #[] w fun e w' => ∃ b q, e = .returned (.pointer (some ⟨b, 0, none⟩)) ∧ UtIn w' b q (.slice none 0 0) Ut.new ∧ w.heap.size ≤ b ∧ w.heap.size ≤ q ∧ Below w.heap.size w w' := by
 have hmk := mk16
 go_enter Tryz.func77, Tryz.ntmps77
 go_wp2_with fail
 go_ret
 refine ⟨w.heap.size + 1, w.heap.size, rfl, ⟨?_, ⟨0, 0, ?_⟩, World.ownsRow_nil _ _ _ _, Ut.new_ok⟩, by omega, Nat.le_refl _, ((Below.refl _ _).alloc (Nat.le_refl _) _).alloc (by simp) _⟩
 ·have := heap_new (w.alloc (.chan 16 #[] false 0 0 false)) (.cells (Ut.new.cells w.heap.size (.slice none 0 0)).toArray 246)
  rw [World.size_alloc] at this
  exact this
 ·exact heap_alloc_lt (heap_new w _)
end Go.Proofs.YtmpcafdgkbpneaaGreat.Uart

/- uart: a register is written. -/
namespace Go.Proofs.YtmpcafdgkbpneaaGreat.Uart
open Go.RowKit Go.Conc
set_option linter.unusedVariables false

def Went (w : World) (b q : Nat) (sv : Value) (U' : Ut) (w' : World) : Prop :=
 ∃ sv', UtIn w' b q sv' U' ∧ Keeps (Held b q sv) w w' ∧ ∀ k, sv'.ownBlock = some k → sv.ownBlock = some k ∨ w.heap.size ≤ k
section
variable {w w' : World} {b q : Nat} {sv : Value} {U : Ut}
theorem Went.of {U' : Ut} (H : UtIn w' b q sv U') (K : Keeps (Held b q sv) w w') : Went w b q sv U' w' := ⟨sv, H, K, fun k h => .inl h⟩
section
variable {w1 : World} {o : Obj} {v' : Value}
end
end
end Go.Proofs.YtmpcafdgkbpneaaGreat.Uart

/- uart: any write, any read; a port that a law has made. -/
namespace Go.Proofs.YtmpcafdgkbpneaaGreat.Uart
open Go.RowKit Go.Conc
set_option linter.unusedVariables false

section
variable {w w' : World} {b q : Nat} {sv : Value} {U : Ut}
end
end Go.Proofs.YtmpcafdgkbpneaaGreat.Uart

