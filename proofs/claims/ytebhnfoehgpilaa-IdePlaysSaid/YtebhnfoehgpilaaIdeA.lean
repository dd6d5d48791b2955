/- ide: a disk, as what it holds; what its calls do to it, in plain words. -/
import Derived.Test.YtebhnfoehgpilaaObj
namespace Go.Proofs.Ytebhnfoehgpilaa
open Go.RowKit
set_option linter.unusedVariables false

def upd (f : Nat → Nat) (k v : Nat) : Nat → Nat := fun i => if i = k then v else f i
theorem upd_same (f : Nat → Nat) (k v : Nat) : upd f k v k = v := if_pos rfl
theorem upd_ne (f : Nat → Nat) (k v i : Nat) (h : i ≠ k) : upd f k v i = f i := if_neg h

/-- A disk of n sectors, and what it is asked through. -/
structure Dk where
  n : Nat
  d : Nat → Nat
  r : Nat → Nat
  c : Nat
  buf : Nat → Nat
  done : Nat
  mode : Nat
  mark : Bool
  failed : Bool
  log : List Nat
structure Dk.ok (S : Dk) : Prop where
  n : S.n ≤ 64
  d : ∀ i, S.d i < 256
  r : ∀ i, S.r i < 256
  c : S.c < 256
  buf : ∀ i, S.buf i < 256
  done : S.done ≤ 512
  mode : S.mode < 4
  log : ∀ x ∈ S.log, x < 64

def Dk.room (S : Dk) : Prop := S.mode ≠ 0 → S.done < 512

def Dk.setR (S : Dk) (k v : Nat) : Dk := { S with r := upd S.r k v }
def Dk.setC (S : Dk) (v : Nat) : Dk := { S with c := v }
def Dk.setBuf (S : Dk) (k v : Nat) : Dk := { S with buf := upd S.buf k v }
def Dk.allBuf (S : Dk) (f : Nat → Nat) : Dk := { S with buf := f }
def Dk.setDone (S : Dk) (v : Nat) : Dk := { S with done := v }
def Dk.setMode (S : Dk) (v : Nat) : Dk := { S with mode := v }
def Dk.setMark (S : Dk) (v : Bool) : Dk := { S with mark := v }
def Dk.setFailed (S : Dk) (v : Bool) : Dk := { S with failed := v }

def Dk.cell (S : Dk) (ds ws : Value) (i : Nat) : Value :=
  if i = 0 then ds else if i < 8 then .int .u8 (S.r (i - 1) : Nat) else if i = 8 then .int .u8 (S.c : Nat) else if i < 521 then .int .u8 (S.buf (i - 9) : Nat)
  else if i = 521 then .int .i64 (S.done : Nat) else if i = 522 then .int .i64 (S.mode : Nat) else if i = 523 then .bool S.mark else if i = 524 then .bool S.failed else ws
def Dk.cells (S : Dk) (ds ws : Value) : Array Value := Array.ofFn (n := 526) fun i => S.cell ds ws i.val

theorem ofFn_ext {n : Nat} {f g : Nat → Value} (h : ∀ i, i < n → f i = g i) : (Array.ofFn (n := n) fun i => f i.val) = Array.ofFn (n := n) fun i => g i.val := by
  congr 1; funext i; exact h i.val i.isLt
theorem ofFn_set (n : Nat) (f : Nat → Value) (k : Nat) (v : Value) :
    (Array.ofFn (n := n) fun i => f i.val).setIfInBounds k v = Array.ofFn (n := n) fun i => if i.val = k then v else f i.val := by
  apply Array.ext_getElem?
  intro j
  rw [Array.getElem?_setIfInBounds, Array.getElem?_ofFn, Array.getElem?_ofFn]
  by_cases hj : j < n
  · rw [dif_pos hj, dif_pos hj]
    by_cases e : k = j
    · subst e; rw [if_pos rfl, if_pos (by simpa using hj)]; simp
    · rw [if_neg e]; show _ = some (if j = k then v else f j); rw [if_neg (fun h => e h.symm)]
  · rw [dif_neg hj, dif_neg hj]
    by_cases e : k = j
    · rw [if_pos e, if_neg (by simp; omega)]
    · rw [if_neg e]
theorem Dk.at (S : Dk) (ds ws : Value) (i : Nat) (h : i < 526) : (S.cells ds ws)[i]? = some (S.cell ds ws i) := by
  unfold Dk.cells; rw [Array.getElem?_ofFn, dif_pos h]
theorem Dk.size (S : Dk) (ds ws : Value) : (S.cells ds ws).size = 526 := by unfold Dk.cells; exact Array.size_ofFn
section
variable (S : Dk) (ds ws : Value)
theorem Dk.cell_r (k : Nat) (h : k < 7) : S.cell ds ws (1 + k) = .int .u8 (S.r k : Nat) := by
  unfold Dk.cell; rw [if_neg (by omega), if_pos (by omega), Nat.add_sub_cancel_left]
theorem Dk.cell_c : S.cell ds ws 8 = .int .u8 (S.c : Nat) := rfl
theorem Dk.cell_buf (k : Nat) (h : k < 512) : S.cell ds ws (9 + k) = .int .u8 (S.buf k : Nat) := by
  unfold Dk.cell; rw [if_neg (by omega), if_neg (by omega), if_neg (by omega), if_pos (by omega), Nat.add_sub_cancel_left]
/-- A store into one cell: what the cells are behind it. -/
theorem Dk.put (S' : Dk) (ds' ws' : Value) (k : Nat) (v : Value) (hv : S'.cell ds' ws' k = v) (h : ∀ i, i < 526 → i ≠ k → S'.cell ds' ws' i = S.cell ds ws i) :
    (S.cells ds ws).setIfInBounds k v = S'.cells ds' ws' := by
  unfold Dk.cells
  rw [ofFn_set]
  refine ofFn_ext (f := fun i => if i = k then v else S.cell ds ws i) fun i hi => ?_
  by_cases e : i = k
  · subst e; rw [if_pos rfl, hv]
  · rw [if_neg e, h i hi e]
theorem Dk.put_r (k v : Nat) (x : Int) (hx : x = (v : Nat)) (hk : k < 7) : (S.cells ds ws).setIfInBounds (k + 1) (.int .u8 x) = (S.setR k v).cells ds ws := by
  subst hx
  refine Dk.put S ds ws _ _ _ _ _ ?_ fun i hi hne => ?_
  · rw [Nat.add_comm, Dk.cell_r _ _ _ k hk]; show Value.int .u8 ((upd S.r k v k : Nat) : Int) = _; rw [upd_same]
  · unfold Dk.cell
    by_cases h : 1 ≤ i ∧ i < 8
    · have e : (S.setR k v).r (i - 1) = S.r (i - 1) := upd_ne _ _ _ _ (by omega)
      rw [e]; rfl
    · by_cases h0 : i = 0
      · rw [if_pos h0, if_pos h0]
      · rw [if_neg h0, if_neg h0, if_neg (show ¬ i < 8 by omega), if_neg (show ¬ i < 8 by omega)]; rfl
theorem Dk.put_c (v : Nat) (x : Int) (hx : x = (v : Nat)) : (S.cells ds ws).setIfInBounds 8 (.int .u8 x) = (S.setC v).cells ds ws := by
  subst hx
  refine Dk.put S ds ws _ _ _ _ _ rfl fun i hi hne => ?_
  unfold Dk.cell; simp only [hne, if_false]; rfl
theorem Dk.put_buf (k v : Nat) (x : Int) (hx : x = (v : Nat)) (hk : k < 512) : (S.cells ds ws).setIfInBounds (k + 9) (.int .u8 x) = (S.setBuf k v).cells ds ws := by
  subst hx
  refine Dk.put S ds ws _ _ _ _ _ ?_ fun i hi hne => ?_
  · rw [Nat.add_comm, Dk.cell_buf _ _ _ k hk]; show Value.int .u8 ((upd S.buf k v k : Nat) : Int) = _; rw [upd_same]
  · unfold Dk.cell
    by_cases h : 9 ≤ i ∧ i < 521
    · have e : (S.setBuf k v).buf (i - 9) = S.buf (i - 9) := upd_ne _ _ _ _ (by omega)
      rw [e]; rfl
    · by_cases h1 : i < 9
      · by_cases h0 : i = 0
        · rw [if_pos h0, if_pos h0]
        · rw [if_neg h0, if_neg h0]
          by_cases h8 : i < 8
          · rw [if_pos h8, if_pos h8]; rfl
          · have : i = 8 := by omega
            rw [if_neg h8, if_neg h8, if_pos this, if_pos this]; rfl
      · rw [if_neg (show ¬ i = 0 by omega), if_neg (show ¬ i = 0 by omega), if_neg (show ¬ i < 8 by omega), if_neg (show ¬ i < 8 by omega), if_neg (show ¬ i = 8 by omega), if_neg (show ¬ i = 8 by omega), if_neg (show ¬ i < 521 by omega), if_neg (show ¬ i < 521 by omega)]; rfl
theorem Dk.put_done (v : Nat) (x : Int) (hx : x = (v : Nat)) : (S.cells ds ws).setIfInBounds 521 (.int .i64 x) = (S.setDone v).cells ds ws := by
  subst hx
  refine Dk.put S ds ws _ _ _ _ _ rfl fun i hi hne => ?_
  unfold Dk.cell; simp only [hne, if_false]; rfl
theorem Dk.put_mode (v : Nat) (x : Int) (hx : x = (v : Nat)) : (S.cells ds ws).setIfInBounds 522 (.int .i64 x) = (S.setMode v).cells ds ws := by
  subst hx
  refine Dk.put S ds ws _ _ _ _ _ rfl fun i hi hne => ?_
  unfold Dk.cell; simp only [hne, if_false]; rfl
theorem Dk.put_mark (v : Bool) : (S.cells ds ws).setIfInBounds 523 (.bool v) = (S.setMark v).cells ds ws := by
  refine Dk.put S ds ws _ _ _ _ _ rfl fun i hi hne => ?_
  unfold Dk.cell; simp only [hne, if_false]; rfl
theorem Dk.put_failed (v : Bool) : (S.cells ds ws).setIfInBounds 524 (.bool v) = (S.setFailed v).cells ds ws := by
  refine Dk.put S ds ws _ _ _ _ _ rfl fun i hi hne => ?_
  unfold Dk.cell; simp only [hne, if_false]; rfl
theorem Dk.put_log (L : List Nat) (v : Value) : (S.cells ds ws).setIfInBounds 525 v = ({ S with log := L } : Dk).cells ds v := by
  refine Dk.put S ds ws _ _ _ _ _ rfl fun i hi hne => ?_
  unfold Dk.cell
  (repeat' split) <;> first | rfl | omega
end

-- WHAT THE CALLS DO
def Dk.fresh (S : Dk) : Dk := { S with r := upd (upd (upd (upd (upd (upd (upd S.r 0 0) 1 1) 2 1) 3 1) 4 0) 5 0) 6 0, mode := 0, done := 0, mark := false, failed := false }
def Dk.place (S : Dk) : Nat := S.r 3 + S.r 4 * 256 + S.r 5 * 65536 + S.r 6 % 16 * 16777216
def Dk.fail (S : Dk) (e : Nat) : Dk := { S with r := upd S.r 1 e, failed := true, mode := 0, mark := true }
def Dk.begin (S : Dk) (m : Nat) : Dk :=
  if S.place < S.n then (if m = 1 then { S with mode := 1, done := 0, buf := fun i => S.d (S.place * 512 + i), mark := true } else { S with mode := m, done := 0 }) else S.fail 16
def Dk.other (S : Dk) : Bool := S.r 6 / 16 % 2 == 1
def Dk.clean (S : Dk) : Dk := { S with mark := false, r := upd S.r 1 0, failed := false, mode := 0 }
def tellBuf (n : Nat) : Nat → Nat := fun i => if i = 0 then 64 else if i = 99 then 2 else if i = 120 then n else 0
def Dk.command (S : Dk) (c : Nat) : Dk :=
  if S.other then S
  else if c = 32 ∨ c = 33 then (if S.r 6 / 64 % 2 = 0 then S.clean.fail 4 else S.clean.begin 1)
  else if c = 48 ∨ c = 49 then (if S.r 6 / 64 % 2 = 0 then S.clean.fail 4 else S.clean.begin 2)
  else if c = 236 then { S.clean with buf := tellBuf S.n, mode := 3, done := 0, mark := true }
  else if c = 231 ∨ c = 145 then { S.clean with mark := true }
  else S.clean.fail 4
def Dk.step (S : Dk) : Dk :=
  { S with r := upd (upd (upd (upd (upd S.r 3 ((S.place + 1) % 256)) 4 ((S.place + 1) / 256 % 256)) 5 ((S.place + 1) / 65536 % 256)) 6 (S.r 6 / 16 * 16 + (S.place + 1) / 16777216 % 16)) 2 ((S.r 2 + 255) % 256), mode := 0 }
def Dk.next (S : Dk) : Dk := if S.step.r 2 = 0 then S.step else S.step.begin S.mode
/-- A buffer laid over a sector. -/
def laid (d f : Nat → Nat) (o : Nat) : Nat → Nat := fun i => if o ≤ i ∧ i < o + 512 then f (i - o) else d i
def Dk.flushAt (S : Dk) (o : Nat) : Dk := { S with d := laid S.d S.buf o }
def Dk.logAt (S : Dk) (p : Nat) : Dk := { S with log := S.log ++ [p] }
def Dk.write (S : Dk) : Dk := (S.flushAt (S.place * 512)).logAt S.place
def Dk.put1 (S : Dk) (b : Nat) : Dk := { S with buf := upd S.buf S.done b, done := S.done + 1 }
def Dk.putB (S : Dk) (b : Nat) : Dk :=
  if S.mode = 2 then (if S.done + 1 < 512 then S.put1 b else if S.place < S.n then { (S.put1 b).write.next with mark := true } else (S.put1 b).fail 16) else S
def Dk.gets (S : Dk) : Nat := if S.mode = 1 ∨ S.mode = 3 then S.buf S.done else 255
def Dk.getB (S : Dk) : Dk :=
  if S.mode = 1 ∨ S.mode = 3 then (if S.done + 1 < 512 then { S with done := S.done + 1 } else if S.mode = 3 then { S with done := S.done + 1, mode := 0 } else ({ S with done := S.done + 1 } : Dk).next) else S
end Go.Proofs.Ytebhnfoehgpilaa
