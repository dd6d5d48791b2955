/- IdeA IdeB IdeC IdeD IdeE, together. -/
import Derived.Test.YtojmpdddfnkffaaObj
import Derived.Test.YtojmpdddfnkffaaRows
import Derived.Test.YtojmpdddfnkffaaIn
import Derived.BigRegion
import Derived.Deep.RegionWith
import Derived.Deep.RegionHeld3
import Derived.Deep.Cut
import Derived.Lib.Hide
import Derived.Laws.BitsAll
import Derived.Deep.QuietTactic
import Derived.BigQuiet
import Derived.Maps.AppendAt
import Derived.Lib.SliceRun
import Derived.Laws.CopyRow
/- ide: a disk, as what it holds; what its calls do to it, in plain words. -/
namespace Go.Proofs.Ytojmpdddfnkffaa.Ide
open Go.RowKit
set_option linter.unusedVariables false

def upd (f : Nat → Nat) (k v : Nat) : Nat → Nat := fun i => if i = k then v else f i
theorem upd_same (f : Nat → Nat) (k v : Nat) : upd f k v k = v := if_pos rfl
theorem upd_ne (f : Nat → Nat) (k v i : Nat) (h : i ≠ k) : upd f k v i = f i := if_neg h

/-- A disk of n sectors, and what it is asked through. -/
structure Dk where
  n : Nat
  d : Nat → Nat
  r : Nat → Nat
  c : Nat
  buf : Nat → Nat
  done : Nat
  mode : Nat
  mark : Bool
  failed : Bool
  log : List Nat
structure Dk.ok (S : Dk) : Prop where
  n : S.n ≤ 64
  d : ∀ i, S.d i < 256
  r : ∀ i, S.r i < 256
  c : S.c < 256
  buf : ∀ i, S.buf i < 256
  done : S.done ≤ 512
  mode : S.mode < 4
  log : ∀ x ∈ S.log, x < 64

def Dk.room (S : Dk) : Prop := S.mode ≠ 0 → S.done < 512

def Dk.setR (S : Dk) (k v : Nat) : Dk := { S with r := upd S.r k v }
def Dk.setC (S : Dk) (v : Nat) : Dk := { S with c := v }
def Dk.setBuf (S : Dk) (k v : Nat) : Dk := { S with buf := upd S.buf k v }
def Dk.allBuf (S : Dk) (f : Nat → Nat) : Dk := { S with buf := f }
def Dk.setDone (S : Dk) (v : Nat) : Dk := { S with done := v }
def Dk.setMode (S : Dk) (v : Nat) : Dk := { S with mode := v }
def Dk.setMark (S : Dk) (v : Bool) : Dk := { S with mark := v }
def Dk.setFailed (S : Dk) (v : Bool) : Dk := { S with failed := v }

def Dk.cell (S : Dk) (ds ws : Value) (i : Nat) : Value :=
  if i = 0 then ds else if i < 8 then .int .u8 (S.r (i - 1) : Nat) else if i = 8 then .int .u8 (S.c : Nat) else if i < 521 then .int .u8 (S.buf (i - 9) : Nat)
  else if i = 521 then .int .i64 (S.done : Nat) else if i = 522 then .int .i64 (S.mode : Nat) else if i = 523 then .bool S.mark else if i = 524 then .bool S.failed else ws
def Dk.cells (S : Dk) (ds ws : Value) : Array Value := Array.ofFn (n := 526) fun i => S.cell ds ws i.val

theorem ofFn_ext {n : Nat} {f g : Nat → Value} (h : ∀ i, i < n → f i = g i) : (Array.ofFn (n := n) fun i => f i.val) = Array.ofFn (n := n) fun i => g i.val := by
  congr 1; funext i; exact h i.val i.isLt
theorem ofFn_set (n : Nat) (f : Nat → Value) (k : Nat) (v : Value) :
    (Array.ofFn (n := n) fun i => f i.val).setIfInBounds k v = Array.ofFn (n := n) fun i => if i.val = k then v else f i.val := by
  apply Array.ext_getElem?
  intro j
  rw [Array.getElem?_setIfInBounds, Array.getElem?_ofFn, Array.getElem?_ofFn]
  by_cases hj : j < n
  · rw [dif_pos hj, dif_pos hj]
    by_cases e : k = j
    · subst e; rw [if_pos rfl, if_pos (by simpa using hj)]; simp
    · rw [if_neg e]; show _ = some (if j = k then v else f j); rw [if_neg (fun h => e h.symm)]
  · rw [dif_neg hj, dif_neg hj]
    by_cases e : k = j
    · rw [if_pos e, if_neg (by simp; omega)]
    · rw [if_neg e]
theorem Dk.at (S : Dk) (ds ws : Value) (i : Nat) (h : i < 526) : (S.cells ds ws)[i]? = some (S.cell ds ws i) := by
  unfold Dk.cells; rw [Array.getElem?_ofFn, dif_pos h]
theorem Dk.size (S : Dk) (ds ws : Value) : (S.cells ds ws).size = 526 := by unfold Dk.cells; exact Array.size_ofFn
section
variable (S : Dk) (ds ws : Value)
theorem Dk.cell_r (k : Nat) (h : k < 7) : S.cell ds ws (1 + k) = .int .u8 (S.r k : Nat) := by
  unfold Dk.cell; rw [if_neg (by omega), if_pos (by omega), Nat.add_sub_cancel_left]
theorem Dk.cell_c : S.cell ds ws 8 = .int .u8 (S.c : Nat) := rfl
theorem Dk.cell_buf (k : Nat) (h : k < 512) : S.cell ds ws (9 + k) = .int .u8 (S.buf k : Nat) := by
  unfold Dk.cell; rw [if_neg (by omega), if_neg (by omega), if_neg (by omega), if_pos (by omega), Nat.add_sub_cancel_left]
/-- A store into one cell: what the cells are behind it. -/
theorem Dk.put (S' : Dk) (ds' ws' : Value) (k : Nat) (v : Value) (hv : S'.cell ds' ws' k = v) (h : ∀ i, i < 526 → i ≠ k → S'.cell ds' ws' i = S.cell ds ws i) :
    (S.cells ds ws).setIfInBounds k v = S'.cells ds' ws' := by
  unfold Dk.cells
  rw [ofFn_set]
  refine ofFn_ext (f := fun i => if i = k then v else S.cell ds ws i) fun i hi => ?_
  by_cases e : i = k
  · subst e; rw [if_pos rfl, hv]
  · rw [if_neg e, h i hi e]
theorem Dk.put_r (k v : Nat) (x : Int) (hx : x = (v : Nat)) (hk : k < 7) : (S.cells ds ws).setIfInBounds (k + 1) (.int .u8 x) = (S.setR k v).cells ds ws := by
  subst hx
  refine Dk.put S ds ws _ _ _ _ _ ?_ fun i hi hne => ?_
  · rw [Nat.add_comm, Dk.cell_r _ _ _ k hk]; show Value.int .u8 ((upd S.r k v k : Nat) : Int) = _; rw [upd_same]
  · unfold Dk.cell
    by_cases h : 1 ≤ i ∧ i < 8
    · have e : (S.setR k v).r (i - 1) = S.r (i - 1) := upd_ne _ _ _ _ (by omega)
      rw [e]; rfl
    · by_cases h0 : i = 0
      · rw [if_pos h0, if_pos h0]
      · rw [if_neg h0, if_neg h0, if_neg (show ¬ i < 8 by omega), if_neg (show ¬ i < 8 by omega)]; rfl
theorem Dk.put_c (v : Nat) (x : Int) (hx : x = (v : Nat)) : (S.cells ds ws).setIfInBounds 8 (.int .u8 x) = (S.setC v).cells ds ws := by
  subst hx
  refine Dk.put S ds ws _ _ _ _ _ rfl fun i hi hne => ?_
  unfold Dk.cell; simp only [hne, if_false]; rfl
theorem Dk.put_buf (k v : Nat) (x : Int) (hx : x = (v : Nat)) (hk : k < 512) : (S.cells ds ws).setIfInBounds (k + 9) (.int .u8 x) = (S.setBuf k v).cells ds ws := by
  subst hx
  refine Dk.put S ds ws _ _ _ _ _ ?_ fun i hi hne => ?_
  · rw [Nat.add_comm, Dk.cell_buf _ _ _ k hk]; show Value.int .u8 ((upd S.buf k v k : Nat) : Int) = _; rw [upd_same]
  · unfold Dk.cell
    by_cases h : 9 ≤ i ∧ i < 521
    · have e : (S.setBuf k v).buf (i - 9) = S.buf (i - 9) := upd_ne _ _ _ _ (by omega)
      rw [e]; rfl
    · by_cases h1 : i < 9
      · by_cases h0 : i = 0
        · rw [if_pos h0, if_pos h0]
        · rw [if_neg h0, if_neg h0]
          by_cases h8 : i < 8
          · rw [if_pos h8, if_pos h8]; rfl
          · have : i = 8 := by omega
            rw [if_neg h8, if_neg h8, if_pos this, if_pos this]; rfl
      · rw [if_neg (show ¬ i = 0 by omega), if_neg (show ¬ i = 0 by omega), if_neg (show ¬ i < 8 by omega), if_neg (show ¬ i < 8 by omega), if_neg (show ¬ i = 8 by omega), if_neg (show ¬ i = 8 by omega), if_neg (show ¬ i < 521 by omega), if_neg (show ¬ i < 521 by omega)]; rfl
theorem Dk.put_done (v : Nat) (x : Int) (hx : x = (v : Nat)) : (S.cells ds ws).setIfInBounds 521 (.int .i64 x) = (S.setDone v).cells ds ws := by
  subst hx
  refine Dk.put S ds ws _ _ _ _ _ rfl fun i hi hne => ?_
  unfold Dk.cell; simp only [hne, if_false]; rfl
theorem Dk.put_mode (v : Nat) (x : Int) (hx : x = (v : Nat)) : (S.cells ds ws).setIfInBounds 522 (.int .i64 x) = (S.setMode v).cells ds ws := by
  subst hx
  refine Dk.put S ds ws _ _ _ _ _ rfl fun i hi hne => ?_
  unfold Dk.cell; simp only [hne, if_false]; rfl
theorem Dk.put_mark (v : Bool) : (S.cells ds ws).setIfInBounds 523 (.bool v) = (S.setMark v).cells ds ws := by
  refine Dk.put S ds ws _ _ _ _ _ rfl fun i hi hne => ?_
  unfold Dk.cell; simp only [hne, if_false]; rfl
theorem Dk.put_failed (v : Bool) : (S.cells ds ws).setIfInBounds 524 (.bool v) = (S.setFailed v).cells ds ws := by
  refine Dk.put S ds ws _ _ _ _ _ rfl fun i hi hne => ?_
  unfold Dk.cell; simp only [hne, if_false]; rfl
theorem Dk.put_log (L : List Nat) (v : Value) : (S.cells ds ws).setIfInBounds 525 v = ({ S with log := L } : Dk).cells ds v := by
  refine Dk.put S ds ws _ _ _ _ _ rfl fun i hi hne => ?_
  unfold Dk.cell
  (repeat' split) <;> first | rfl | omega
end

-- WHAT THE CALLS DO
def Dk.fresh (S : Dk) : Dk := { S with r := upd (upd (upd (upd (upd (upd (upd S.r 0 0) 1 1) 2 1) 3 1) 4 0) 5 0) 6 0, mode := 0, done := 0, mark := false, failed := false }
def Dk.place (S : Dk) : Nat := S.r 3 + S.r 4 * 256 + S.r 5 * 65536 + S.r 6 % 16 * 16777216
def Dk.fail (S : Dk) (e : Nat) : Dk := { S with r := upd S.r 1 e, failed := true, mode := 0, mark := true }
def Dk.begin (S : Dk) (m : Nat) : Dk :=
  if S.place < S.n then (if m = 1 then { S with mode := 1, done := 0, buf := fun i => S.d (S.place * 512 + i), mark := true } else { S with mode := m, done := 0 }) else S.fail 16
def Dk.other (S : Dk) : Bool := S.r 6 / 16 % 2 == 1
def Dk.clean (S : Dk) : Dk := { S with mark := false, r := upd S.r 1 0, failed := false, mode := 0 }
def tellBuf (n : Nat) : Nat → Nat := fun i => if i = 0 then 64 else if i = 99 then 2 else if i = 120 then n else 0
def Dk.command (S : Dk) (c : Nat) : Dk :=
  if S.other then S
  else if c = 32 ∨ c = 33 then (if S.r 6 / 64 % 2 = 0 then S.clean.fail 4 else S.clean.begin 1)
  else if c = 48 ∨ c = 49 then (if S.r 6 / 64 % 2 = 0 then S.clean.fail 4 else S.clean.begin 2)
  else if c = 236 then { S.clean with buf := tellBuf S.n, mode := 3, done := 0, mark := true }
  else if c = 231 ∨ c = 145 then { S.clean with mark := true }
  else S.clean.fail 4
def Dk.step (S : Dk) : Dk :=
  { S with r := upd (upd (upd (upd (upd S.r 3 ((S.place + 1) % 256)) 4 ((S.place + 1) / 256 % 256)) 5 ((S.place + 1) / 65536 % 256)) 6 (S.r 6 / 16 * 16 + (S.place + 1) / 16777216 % 16)) 2 ((S.r 2 + 255) % 256), mode := 0 }
def Dk.next (S : Dk) : Dk := if S.step.r 2 = 0 then S.step else S.step.begin S.mode
/-- A buffer laid over a sector. -/
def laid (d f : Nat → Nat) (o : Nat) : Nat → Nat := fun i => if o ≤ i ∧ i < o + 512 then f (i - o) else d i
def Dk.flushAt (S : Dk) (o : Nat) : Dk := { S with d := laid S.d S.buf o }
def Dk.logAt (S : Dk) (p : Nat) : Dk := { S with log := S.log ++ [p] }
def Dk.write (S : Dk) : Dk := (S.flushAt (S.place * 512)).logAt S.place
def Dk.put1 (S : Dk) (b : Nat) : Dk := { S with buf := upd S.buf S.done b, done := S.done + 1 }
def Dk.putB (S : Dk) (b : Nat) : Dk :=
  if S.mode = 2 then (if S.done + 1 < 512 then S.put1 b else if S.place < S.n then { (S.put1 b).write.next with mark := true } else (S.put1 b).fail 16) else S
def Dk.gets (S : Dk) : Nat := if S.mode = 1 ∨ S.mode = 3 then S.buf S.done else 255
def Dk.getB (S : Dk) : Dk :=
  if S.mode = 1 ∨ S.mode = 3 then (if S.done + 1 < 512 then { S with done := S.done + 1 } else if S.mode = 3 then { S with done := S.done + 1, mode := 0 } else ({ S with done := S.done + 1 } : Dk).next) else S
end Go.Proofs.Ytojmpdddfnkffaa.Ide

/- ide: the disk as an object; its small functions. -/
namespace Go.Proofs.Ytojmpdddfnkffaa.Ide
open Go.RowKit
set_option linter.unusedVariables false

def bytesL (n : Nat) (d : Nat → Nat) : List Value := (List.range n).map fun i => .int .u8 (d i : Nat)
theorem bytesL_len (n : Nat) (d : Nat → Nat) : (bytesL n d).length = n := by unfold bytesL; simp
theorem bytesL_at (n : Nat) (d : Nat → Nat) (i : Nat) (h : i < n) : (bytesL n d)[i]? = some (.int .u8 (d i : Nat)) := by unfold bytesL; simp [h]
theorem bytesL_no (n : Nat) (d : Nat → Nat) (i : Nat) (h : n ≤ i) : (bytesL n d)[i]? = none := by rw [List.getElem?_eq_none]; rw [bytesL_len]; exact h
theorem bytesL_one (n : Nat) (d : Nat → Nat) : ∀ v ∈ bytesL n d, v.oneCell' = true := by
  intro v hv
  unfold bytesL at hv
  obtain ⟨j, _, rfl⟩ := List.mem_map.1 hv
  rfl
theorem bytesL_some {n : Nat} {d : Nat → Nat} {j : Nat} {v : Value} (h : (bytesL n d)[j]? = some v) : j < n ∧ v = .int .u8 (d j : Nat) := by
  have hj : j < n := by have := (List.getElem?_eq_some_iff.1 h).1; rwa [bytesL_len] at this
  rw [bytesL_at n d j hj] at h
  exact ⟨hj, (Option.some.inj h).symm⟩
theorem bytesL_ext {n : Nat} {d e : Nat → Nat} (h : ∀ i, i < n → d i = e i) : bytesL n d = bytesL n e := by
  unfold bytesL
  refine List.map_congr_left fun i hi => ?_
  rw [h i (by simpa using hi)]
/-- A disk's bytes. -/
def Bytes (w : World) (ds : Value) (n : Nat) (d : Nat → Nat) : Prop := w.ownsRow 0 5 1 ds (n * 512) (bytesL (n * 512) d)
structure IdeIn (T : TypeId) (w : World) (b : Nat) (ds lv : Value) (D : Dk) : Prop where
  obj : w.heap[b]? = some (.cells (D.cells ds lv) T)
  disk : Bytes w ds D.n D.d
  log : w.ownsRow 0 3 1 lv D.log.length (D.log.map fun p => Value.int .i64 (p : Nat))
  d1 : ds.ownBlock ≠ some b
  d2 : lv.ownBlock ≠ some b
  d3 : ∀ k, ds.ownBlock = some k → lv.ownBlock ≠ some k
  ok : D.ok
def Held (b : Nat) (ds lv : Value) (k : Nat) : Prop := k = b ∨ ds.ownBlock = some k ∨ lv.ownBlock = some k
/-- Block b is a disk D, that lies in the blocks S. -/
def Ide (T : TypeId) (w : World) (b : Nat) (S : Nat → Prop) (D : Dk) : Prop := ∃ ds lv, IdeIn T w b ds lv D ∧ ∀ k, S k ↔ Held b ds lv k

section
variable {T : TypeId} {w w' : World} {b : Nat} {ds lv : Value} {D : Dk}
theorem row_of_heap {B : Nat} {E : TypeId} {s n : Nat} {v : Value} {xs : List Value} (h : w.ownsRow B E s v n xs) (hh : ∀ k, v.ownBlock = some k → w'.heap[k]? = w.heap[k]?) : w'.ownsRow B E s v n xs := by
  refine ⟨h.1, ?_⟩
  rcases h.2 with h2 | ⟨g, cap, cur, rfl, hb, hg, r⟩
  · exact .inl h2
  · exact .inr ⟨g, cap, cur, rfl, hb, by rw [hh g rfl]; exact hg, r⟩
theorem row_base {B : Nat} {E : TypeId} {s n : Nat} {v : Value} {xs : List Value} (h : w.ownsRow B E s v n xs) : w.ownsRow 0 E s v n xs := by
  refine ⟨h.1, ?_⟩
  rcases h.2 with h2 | ⟨g, cap, cur, rfl, hb, r⟩
  · exact .inl h2
  · exact .inr ⟨g, cap, cur, rfl, Nat.zero_le _, r⟩
theorem Bytes.lt {n : Nat} {d : Nat → Nat} (h : Bytes w ds n d) {k : Nat} (hk : ds.ownBlock = some k) : k < w.heap.size := (World.ownsRow.lt h k hk).2
theorem Bytes.of_heap {n : Nat} {d : Nat → Nat} (h : Bytes w ds n d) (hh : ∀ k, ds.ownBlock = some k → w'.heap[k]? = w.heap[k]?) : Bytes w' ds n d := row_of_heap h hh
/-- A disk with a sector, at least, is a block. -/
theorem Bytes.open {n : Nat} {d : Nat → Nat} (h : Bytes w ds n d) (h0 : 0 < n) : ∃ g cap cur, ds = .slice (some ⟨g, 0, none⟩) (n * 512) cap ∧ w.heap[g]? = some (.cells cur 5) ∧ n * 512 ≤ cap ∧ cap ≤ 9223372036854775807 ∧ cur.size = cap ∧ cur.toList.take (n * 512) = bytesL (n * 512) d := by
  rcases h.2 with ⟨_, h2⟩ | ⟨g, cap, cur, rfl, _, hg, h1, h2, h3, h4⟩
  · omega
  · unfold maxLen at h2
    exact ⟨g, cap, cur, rfl, hg, h1, h2, by omega, by simpa using h4⟩
theorem Bytes.len {n : Nat} {d : Nat → Nat} (h : Bytes w ds n d) : ∃ a cap, ds = .slice a (n * 512) cap := by
  rcases h.2 with ⟨h1, h2⟩ | ⟨g, cap, cur, rfl, _⟩
  · exact ⟨none, 0, by rw [h1, h2]⟩
  · exact ⟨_, _, rfl⟩
theorem take_at {cur : Array Value} {m : Nat} {d : Nat → Nat} (h : cur.toList.take m = bytesL m d) {i : Nat} (hi : i < m) : cur[i]? = some (.int .u8 (d i : Nat)) := by
  have e : cur.toList[i]? = (bytesL m d)[i]? := by rw [← h, List.getElem?_take_of_lt hi]
  rw [bytesL_at m d i hi] at e
  simpa using e
theorem Held.lt (H : IdeIn T w b ds lv D) {k : Nat} (h : Held b ds lv k) : k < w.heap.size := by
  rcases h with rfl | h | h
  · exact heap_lt H.obj
  · exact H.disk.lt h
  · exact (H.log.lt k h).2
theorem IdeIn.of_heap (H : IdeIn T w b ds lv D) (h : ∀ k, Held b ds lv k → w'.heap[k]? = w.heap[k]?) : IdeIn T w' b ds lv D :=
  { H with
    obj := by rw [h b (.inl rfl)]; exact H.obj
    disk := H.disk.of_heap fun k hk => h k (.inr (.inl hk))
    log := row_of_heap H.log fun k hk => h k (.inr (.inr hk)) }
theorem IdeIn.keeps {S : Nat → Prop} (H : IdeIn T w b ds lv D) (hk : Keeps S w w') (hn : ∀ k, Held b ds lv k → ¬ S k) : IdeIn T w' b ds lv D := H.of_heap fun k h => hk.block k (h.lt H) (hn k h)
theorem IdeIn.drewN (H : IdeIn T w b ds lv D) (n : Nat) : IdeIn T (w.drewN n) b ds lv D := H.of_heap fun _ _ => rfl
/-- The object's own block alone turns. -/
theorem IdeIn.turn (H : IdeIn T w b ds lv D) {D' : Dk} (ho : w'.heap[b]? = some (.cells (D'.cells ds lv) T)) (hk : Keeps (· = b) w w') (ok : D'.ok) (h1 : D'.n = D.n) (h2 : D'.d = D.d) (h3 : D'.log = D.log) : IdeIn T w' b ds lv D' where
  obj := ho
  disk := by rw [h1, h2]; exact H.disk.of_heap fun k hk' => hk.block k (H.disk.lt hk') (fun e => H.d1 (by rw [← e]; exact hk'))
  log := by rw [h3]; exact row_of_heap H.log fun k hk' => hk.block k (H.log.lt k hk').2 (fun e => H.d2 (by rw [← e]; exact hk'))
  d1 := H.d1
  d2 := H.d2
  d3 := H.d3
  ok := ok
theorem IdeIn.cell (H : IdeIn T w b ds lv D) (i : Nat) (h : i < 526) : w.cell? ⟨b, i, none⟩ = some (D.cell ds lv i) := by rw [cell_at H.obj, D.at ds lv i h]
theorem IdeIn.reg (H : IdeIn T w b ds lv D) (k : Nat) (h : k < 7) : w.cell? ⟨b, 1 + k, none⟩ = some (.int .u8 (D.r k : Nat)) := by rw [H.cell _ (by omega), D.cell_r _ _ k h]
theorem IdeIn.buf (H : IdeIn T w b ds lv D) (k : Nat) (h : k < 512) : w.cell? ⟨b, 9 + k, none⟩ = some (.int .u8 (D.buf k : Nat)) := by rw [H.cell _ (by omega), D.cell_buf _ _ k h]
theorem IdeIn.facts (H : IdeIn T w b ds lv D) :
    w.cell? ⟨b, 0, none⟩ = some ds ∧ w.cell? ⟨b, 1, none⟩ = some (.int .u8 (D.r 0 : Nat)) ∧ w.cell? ⟨b, 2, none⟩ = some (.int .u8 (D.r 1 : Nat)) ∧ w.cell? ⟨b, 3, none⟩ = some (.int .u8 (D.r 2 : Nat)) ∧
    w.cell? ⟨b, 4, none⟩ = some (.int .u8 (D.r 3 : Nat)) ∧ w.cell? ⟨b, 5, none⟩ = some (.int .u8 (D.r 4 : Nat)) ∧ w.cell? ⟨b, 6, none⟩ = some (.int .u8 (D.r 5 : Nat)) ∧ w.cell? ⟨b, 7, none⟩ = some (.int .u8 (D.r 6 : Nat)) ∧
    w.cell? ⟨b, 8, none⟩ = some (.int .u8 (D.c : Nat)) ∧ w.cell? ⟨b, 521, none⟩ = some (.int .i64 (D.done : Nat)) ∧ w.cell? ⟨b, 522, none⟩ = some (.int .i64 (D.mode : Nat)) ∧
    w.cell? ⟨b, 523, none⟩ = some (.bool D.mark) ∧ w.cell? ⟨b, 524, none⟩ = some (.bool D.failed) ∧ w.cell? ⟨b, 525, none⟩ = some lv ∧ (∀ k, w.frozen? ⟨b, k, none⟩ = false) ∧ b < w.heap.size :=
  ⟨H.cell 0 (by decide), H.reg 0 (by decide), H.reg 1 (by decide), H.reg 2 (by decide), H.reg 3 (by decide), H.reg 4 (by decide), H.reg 5 (by decide), H.reg 6 (by decide), H.cell 8 (by decide), H.cell 521 (by decide), H.cell 522 (by decide),
    H.cell 523 (by decide), H.cell 524 (by decide), H.cell 525 (by decide), fun k => free_at H.obj, heap_lt H.obj⟩
end

/-- The object's block alone. -/
def Blk (T : TypeId) (w : World) (b : Nat) (ds lv : Value) (D : Dk) : Prop := w.heap[b]? = some (.cells (D.cells ds lv) T)
section
variable {T : TypeId} {w : World} {b : Nat} {ds lv : Value} {D : Dk}
theorem Blk.reg (h : Blk T w b ds lv D) (k v : Nat) (x : Int) (hx : x = (v : Nat)) (hk : k < 7) : Blk T (w.setCell ⟨b, k + 1, none⟩ (.int .u8 x)) b ds lv (D.setR k v) := by
  unfold Blk at h ⊢; rw [heap_set_same _ h, D.put_r ds lv k v x hx hk]
theorem Blk.ctl (h : Blk T w b ds lv D) (v : Nat) (x : Int) (hx : x = (v : Nat)) : Blk T (w.setCell ⟨b, 8, none⟩ (.int .u8 x)) b ds lv (D.setC v) := by
  unfold Blk at h ⊢; rw [heap_set_same _ h, D.put_c ds lv v x hx]
theorem Blk.buf (h : Blk T w b ds lv D) (k v : Nat) (x : Int) (hx : x = (v : Nat)) (hk : k < 512) : Blk T (w.setCell ⟨b, 9 + k, none⟩ (.int .u8 x)) b ds lv (D.setBuf k v) := by
  unfold Blk at h ⊢; rw [heap_set_same _ h, Nat.add_comm 9 k, D.put_buf ds lv k v x hx hk]
theorem Blk.done (h : Blk T w b ds lv D) (v : Nat) (x : Int) (hx : x = (v : Nat)) : Blk T (w.setCell ⟨b, 521, none⟩ (.int .i64 x)) b ds lv (D.setDone v) := by
  unfold Blk at h ⊢; rw [heap_set_same _ h, D.put_done ds lv v x hx]
theorem Blk.mode (h : Blk T w b ds lv D) (v : Nat) (x : Int) (hx : x = (v : Nat)) : Blk T (w.setCell ⟨b, 522, none⟩ (.int .i64 x)) b ds lv (D.setMode v) := by
  unfold Blk at h ⊢; rw [heap_set_same _ h, D.put_mode ds lv v x hx]
theorem Blk.mark (h : Blk T w b ds lv D) (v : Bool) : Blk T (w.setCell ⟨b, 523, none⟩ (.bool v)) b ds lv (D.setMark v) := by
  unfold Blk at h ⊢; rw [heap_set_same _ h, D.put_mark ds lv v]
theorem Blk.failed (h : Blk T w b ds lv D) (v : Bool) : Blk T (w.setCell ⟨b, 524, none⟩ (.bool v)) b ds lv (D.setFailed v) := by
  unfold Blk at h ⊢; rw [heap_set_same _ h, D.put_failed ds lv v]
end

theorem Blk.of {T : TypeId} {w : World} {b : Nat} {ds lv : Value} {D : Dk} (H : IdeIn T w b ds lv D) : Blk T w b ds lv D := H.obj
theorem turned {T : TypeId} {w w' : World} {b : Nat} {ds lv : Value} {D D' : Dk} (H : IdeIn T w b ds lv D) (ho : Blk T w' b ds lv D') (hk : Keeps (· = b) w w') (ok : D'.ok) (h1 : D'.n = D.n) (h2 : D'.d = D.d) (h3 : D'.log = D.log) :
    IdeIn T w' b ds lv D' ∧ Keeps (· = b) w w' := ⟨H.turn ho hk ok h1 h2 h3, hk⟩
theorem upd_lt {f : Nat → Nat} {B : Nat} (h : ∀ i, f i < B) (k v : Nat) (hv : v < B) : ∀ i, upd f k v i < B := fun i => by
  unfold upd; split
  · exact hv
  · exact h i
theorem Dk.fail_ok {S : Dk} (h : S.ok) (e : Nat) (he : e < 256) : (S.fail e).ok :=
  { h with r := upd_lt h.r 1 e he, mode := (by show (0 : Nat) < 4; decide) }

theorem Blk.cell {T : TypeId} {w : World} {b : Nat} {ds lv : Value} {D : Dk} (H : Blk T w b ds lv D) (i : Nat) (h : i < 526) : w.cell? ⟨b, i, none⟩ = some (D.cell ds lv i) := by rw [cell_at H, D.at ds lv i h]
theorem Blk.rcell {T : TypeId} {w : World} {b : Nat} {ds lv : Value} {D : Dk} (H : Blk T w b ds lv D) (k : Nat) (h : k < 7) : w.cell? ⟨b, 1 + k, none⟩ = some (.int .u8 (D.r k : Nat)) := by rw [H.cell _ (by omega), D.cell_r _ _ k h]
theorem Blk.bcell {T : TypeId} {w : World} {b : Nat} {ds lv : Value} {D : Dk} (H : Blk T w b ds lv D) (k : Nat) (h : k < 512) : w.cell? ⟨b, 9 + k, none⟩ = some (.int .u8 (D.buf k : Nat)) := by rw [H.cell _ (by omega), D.cell_buf _ _ k h]
theorem Blk.facts {T : TypeId} {w : World} {b : Nat} {ds lv : Value} {D : Dk} (H : Blk T w b ds lv D) :
    w.cell? ⟨b, 0, none⟩ = some ds ∧ w.cell? ⟨b, 1, none⟩ = some (.int .u8 (D.r 0 : Nat)) ∧ w.cell? ⟨b, 2, none⟩ = some (.int .u8 (D.r 1 : Nat)) ∧ w.cell? ⟨b, 3, none⟩ = some (.int .u8 (D.r 2 : Nat)) ∧
    w.cell? ⟨b, 4, none⟩ = some (.int .u8 (D.r 3 : Nat)) ∧ w.cell? ⟨b, 5, none⟩ = some (.int .u8 (D.r 4 : Nat)) ∧ w.cell? ⟨b, 6, none⟩ = some (.int .u8 (D.r 5 : Nat)) ∧ w.cell? ⟨b, 7, none⟩ = some (.int .u8 (D.r 6 : Nat)) ∧
    w.cell? ⟨b, 8, none⟩ = some (.int .u8 (D.c : Nat)) ∧ w.cell? ⟨b, 521, none⟩ = some (.int .i64 (D.done : Nat)) ∧ w.cell? ⟨b, 522, none⟩ = some (.int .i64 (D.mode : Nat)) ∧
    w.cell? ⟨b, 523, none⟩ = some (.bool D.mark) ∧ w.cell? ⟨b, 524, none⟩ = some (.bool D.failed) ∧ w.cell? ⟨b, 525, none⟩ = some lv ∧ (∀ k, w.frozen? ⟨b, k, none⟩ = false) ∧ b < w.heap.size :=
  ⟨H.cell 0 (by decide), H.rcell 0 (by decide), H.rcell 1 (by decide), H.rcell 2 (by decide), H.rcell 3 (by decide), H.rcell 4 (by decide), H.rcell 5 (by decide), H.rcell 6 (by decide), H.cell 8 (by decide), H.cell 521 (by decide), H.cell 522 (by decide),
    H.cell 523 (by decide), H.cell 524 (by decide), H.cell 525 (by decide), fun k => free_at H, heap_lt H⟩
theorem Blk.drewN {T : TypeId} {w : World} {b : Nat} {ds lv : Value} {D : Dk} (H : Blk T w b ds lv D) (n : Nat) : Blk T (w.drewN n) b ds lv D := H

-- BITS
theorem wraps_i64 (n : Int) (h0 : 0 ≤ n) (h1 : n < 2 ^ 62) : IntKind.i64.wrap n = n := by rw [IntKind.wrap_i64]; omega
theorem or_i64 (x y : Int) (i : Nat) (h0 : 0 ≤ x) (h1 : x < 2 ^ i) (h2 : x < 2 ^ 62) (h3 : 0 ≤ y) (h4 : y % 2 ^ i = 0) (h5 : y < 2 ^ 62) : bits .or .i64 x y = x + y := by
  have hc : bits .or .i64 x y = bits .or .i64 y x := by simp only [bits, BitVec.or_comm]
  rw [hc, bits_join .i64 62 (by decide) wraps_i64 i y x h3 h4 h5 h0 h1 h2, Int.add_comm]
theorem place_bits (a b c d : Nat) (ha : a < 256) (hb : b < 256) (hc : c < 256) (hd : d < 256) :
    bits .or .i64 (bits .or .i64 (bits .or .i64 (a : Int) ((b : Int) * 256)) ((c : Int) * 65536)) ((d : Int) % 16 * 16777216) = ((a + b * 256 + c * 65536 + d % 16 * 16777216 : Nat) : Int) := by
  rw [or_i64 _ ((b : Int) * 256) 8 (by omega) (by simp only [Int.reducePow]; omega) (by simp only [Int.reducePow]; omega) (by omega) (by simp only [Int.reducePow]; omega) (by simp only [Int.reducePow]; omega),
    or_i64 _ ((c : Int) * 65536) 16 (by omega) (by simp only [Int.reducePow]; omega) (by simp only [Int.reducePow]; omega) (by omega) (by simp only [Int.reducePow]; omega) (by simp only [Int.reducePow]; omega),
    or_i64 _ ((d : Int) % 16 * 16777216) 24 (by omega) (by simp only [Int.reducePow]; omega) (by simp only [Int.reducePow]; omega) (by omega) (by simp only [Int.reducePow]; omega) (by simp only [Int.reducePow]; omega)]
  omega
theorem and_bit_u8 : ∀ x : Fin 256, (x.val &&& 16 != 0) = (x.val / 16 % 2 == 1) ∧ (x.val &&& 64 == 0) = (x.val / 64 % 2 == 0) ∧ (x.val &&& 2 == 0) = (x.val / 2 % 2 == 0) := by decide +kernel
theorem other_bits (x : Nat) (h : x < 256) : (bits .and .u8 (x : Int) 16 != 0) = (x / 16 % 2 == 1) := by
  have e : bits .and .u8 (x : Int) 16 = ((x &&& 16 : Nat) : Int) := u8_and_nat x 16 h (by decide)
  rw [e, ← (and_bit_u8 ⟨x, h⟩).1, Bool.eq_iff_iff]; simp
theorem meant_bits (x : Nat) (h : x < 256) : (bits .and .u8 (x : Int) 64 == 0) = (x / 64 % 2 == 0) := by
  have e : bits .and .u8 (x : Int) 64 = ((x &&& 64 : Nat) : Int) := u8_and_nat x 64 h (by decide)
  rw [e, ← (and_bit_u8 ⟨x, h⟩).2.1, Bool.eq_iff_iff]; simp; try omega
theorem quiet_bits (x : Nat) (h : x < 256) : (bits .and .u8 (x : Int) 2 == 0) = (x / 2 % 2 == 0) := by
  have e : bits .and .u8 (x : Int) 2 = ((x &&& 2 : Nat) : Int) := u8_and_nat x 2 h (by decide)
  rw [e, ← (and_bit_u8 ⟨x, h⟩).2.2, Bool.eq_iff_iff]; simp; try omega

set_option maxHeartbeats 1000000 in
theorem other_in {w : World} {b : Nat} {ds lv : Value} {D : Dk} (H : IdeIn 113 w b ds lv D) :
    Calls Try.prog 61 #[.pointer (some ⟨b, 0, none⟩)] w fun e w' => e = .returned (.bool D.other) ∧ w = w' := by
  obtain ⟨-, -, -, -, -, -, -, k7, -⟩ := H.facts
  have hb := other_bits (D.r 6) (H.ok.r 6)
  go_enter Try.func61, Try.ntmps61
  go_wp2_with fail
  go_ret
  exact ⟨rfl, rfl⟩
set_option maxHeartbeats 1000000 in
theorem place_in {w : World} {b : Nat} {ds lv : Value} {D : Dk} (H : IdeIn 113 w b ds lv D) :
    Calls Try.prog 86 #[.pointer (some ⟨b, 0, none⟩)] w fun e w' => e = .returned (.int .i64 (D.place : Nat)) ∧ ∃ n, w' = w.drewN n := by
  obtain ⟨-, -, -, -, k4, k5, k6, k7, -⟩ := H.facts
  have h3 := H.ok.r 3
  have h4 := H.ok.r 4
  have h5 := H.ok.r 5
  have h6 := H.ok.r 6
  have HP := Lib.hid (place_bits (D.r 3) (D.r 4) (D.r 5) (D.r 6) h3 h4 h5 h6)
  go_enter Try.func86, Try.ntmps86
  go_wp2_with fail
  go_quiet (fail)
  go_wp2_with fail
  go_ret
  exact ⟨by rw [HP.out]; rfl, _, rfl⟩
set_option maxHeartbeats 1000000 in
theorem fail_in {w : World} {b : Nat} {ds lv : Value} {D : Dk} (H : IdeIn 113 w b ds lv D) (x : Nat) (hx : x < 256) :
    Calls Try.prog 85 #[.pointer (some ⟨b, 0, none⟩), .int .u8 x] w fun e w' => e = .returned (.tuple #[]) ∧ IdeIn 113 w' b ds lv (D.fail x) ∧ Keeps (· = b) w w' := by
  obtain ⟨-, -, k2, -, -, -, -, -, -, -, k10, k11, k12, -, kf, klt⟩ := H.facts
  have HH := Lib.hid H
  clear H
  go_enter Try.func85, Try.ntmps85
  go_wp2_with fail
  go_end0
  refine ⟨rfl, turned HH.out (Blk.mark (Blk.mode (Blk.failed (Blk.reg (Blk.of HH.out) 1 x _ rfl (by decide)) true) 0 _ rfl) true) ?_ (Dk.fail_ok HH.out.ok x hx) rfl rfl rfl⟩
  (repeat' (first | (with_reducible exact Keeps.refl _ _) | (with_reducible refine Keeps.setOne ?_ _ _)))
end Go.Proofs.Ytojmpdddfnkffaa.Ide

/- ide: slices of bytes are cloned; a disk is made. -/
namespace Go.Proofs.Ytojmpdddfnkffaa.Ide
open Go.RowKit
set_option linter.unusedVariables false

/-- A slice of n bytes that is read. -/
def Reads (w : World) (v : Value) (n : Nat) (d : Nat → Nat) : Prop :=
  ∃ a c, v = .slice a n c ∧ ((n = 0 ∧ (a = none → c = 0)) ∨ ∃ b off, a = some ⟨b, off, none⟩ ∧ b < w.heap.size ∧ ∀ i, i < n → w.cell? ⟨b, off + i, none⟩ = some (.int .u8 (d i : Nat)))
theorem info8 : (Try.prog.info? 5).map (fun i => (i.zero, i.size, i.bytes)) = some (some (.int .u8 0), 1, 1) := by kernel_rfl

set_option maxHeartbeats 1000000 in
theorem clone_some (w : World) (ad : Addr) (n c : Nat) (d : Nat → Nat) (hn : n ≤ 140737488355328) (hc : ∀ i, i < n → w.cell? (ad.add i) = some (.int .u8 (d i : Nat))) :
    Calls Try.prog 72 #[.slice (some ad) n c] w fun e w' => ∃ v, e = .returned v ∧ w'.ownsRow w.heap.size 5 1 v n (bytesL n d) ∧ Below w.heap.size w w' := by
  obtain ⟨i0, hi, hz0, hz1, hz2⟩ := info_parts info8
  have hnil : ∀ w, (binOp .eql 30 (.slice (some ad) n c) (.slice none 0 0)).run Try.prog w = .ok (.bool false) w := fun w => Lib.run_eql_slice_nil w _ _ _ _ _ _ _ Try.underlying30
  have hown : (w.alloc (.cells #[] 5)).ownsRow w.heap.size 5 1 (.slice (some ⟨w.heap.size, 0, none⟩) 0 0) 0 [] := World.ownsRow_made w #[] 0 (Nat.le_refl _) (by decide) (by simp)
  have hnews : ∀ j u, (bytesL n d)[j]? = some u → (w.alloc (.cells #[] 5)).cell? (ad.add j) = some u := fun j u h => by
    obtain ⟨hj, rfl⟩ := bytesL_some h
    rw [World.cell?_alloc_lt _ _ _ (World.block_lt_of_cell? w _ (hc j hj))]
    exact hc j hj
  have HN := Lib.hid hnews
  clear hnews hc
  go_enter Try.func72, Try.ntmps72
  go_wp2_with (at_builtin; refine wpList_append_own _ rfl _ _ 30 rfl w.heap.size 5 i0 (.int .u8 0) 1 1 Try.underlying30 hi hz0 hz1 hz2 rfl (by decide) _ 0 [] rfl hown ad n c (bytesL n d) rfl (by rw [bytesL_len]; omega) HN.out (bytesL_one n d) (by unfold maxLen; omega) (by omega) (by simp) ?_; intro v' w1 hown1 hgrow1 _)
  go_ret
  simp only [Nat.zero_add, List.nil_append] at hown1
  have hg : (w.alloc (.cells #[] 5)).grownBy w1 (some w.heap.size) := hgrow1
  exact ⟨_, rfl, hown1, ((Below.refl _ _).alloc (Nat.le_refl _) _).grown hg (by simp) (by intro k hk; cases hk; exact Nat.le_refl _)⟩
theorem clone_nil (w : World) : Calls Try.prog 72 #[.slice none 0 0] w fun e w' => e = .returned (.slice none 0 0) ∧ w = w' := by
  have hnil : ∀ w, (binOp .eql 30 (.slice none 0 0) (.slice none 0 0)).run Try.prog w = .ok (.bool true) w := fun w => Lib.run_eql_slice_nil w _ _ _ _ _ _ _ Try.underlying30
  go_enter Try.func72, Try.ntmps72
  go_wp2_with fail
  go_ret
  exact ⟨rfl, rfl⟩
/-- A slice that is read is cloned. -/
theorem clone_any {w : World} {v : Value} {n : Nat} {d : Nat → Nat} (H : Reads w v n d) (hn : n ≤ 140737488355328) :
    Calls Try.prog 72 #[v] w fun e w' => ∃ v', e = .returned v' ∧ w'.ownsRow w.heap.size 5 1 v' n (bytesL n d) ∧ Below w.heap.size w w' := by
  obtain ⟨a, c, rfl, h⟩ := H
  cases a with
  | none =>
    rcases h with ⟨rfl, h⟩ | ⟨b, off, h, _⟩
    · rw [h rfl]
      refine (clone_nil w).mono ?_
      rintro e w' ⟨rfl, rfl⟩
      exact ⟨_, rfl, World.ownsRow_nil _ _ _ _, Below.refl _ _⟩
    · cases h
  | some a =>
    rcases h with ⟨rfl, h⟩ | ⟨b, off, h, _, hc⟩
    · exact clone_some w a 0 c d hn (fun i hi => by omega)
    · cases h
      exact clone_some w ⟨b, off, none⟩ n c d hn (fun i hi => by rw [Go.WideShapes.add_plain]; exact hc i hi)
end Go.Proofs.Ytojmpdddfnkffaa.Ide

/- ide: reset, Line, check, a sector, begin. -/
namespace Go.Proofs.Ytojmpdddfnkffaa.Ide
open Go.RowKit
set_option linter.unusedVariables false

theorem Dk.fresh_ok {S : Dk} (h : S.ok) : S.fresh.ok :=
  { h with r := (by unfold Dk.fresh; repeat (first | exact h.r | (refine upd_lt ?_ _ _ (by decide)))), done := (by show (0 : Nat) ≤ 512; decide), mode := (by show (0 : Nat) < 4; decide) }
theorem Dk.fresh_eq (S : Dk) : S.fresh = (((((((((((S.setR 0 0).setR 1 1).setR 2 1).setR 3 1).setR 4 0).setR 5 0).setR 6 0).setMode 0).setDone 0).setMark false).setFailed false) := by
  simp only [Dk.setR, Dk.setMode, Dk.setDone, Dk.setMark, Dk.setFailed, Dk.fresh]
set_option maxHeartbeats 1000000 in
theorem reset_in {w : World} {b : Nat} {ds lv : Value} {D : Dk} (H : IdeIn 113 w b ds lv D) :
    Calls Try.prog 64 #[.pointer (some ⟨b, 0, none⟩)] w fun e w' => e = .returned (.tuple #[]) ∧ IdeIn 113 w' b ds lv D.fresh ∧ Keeps (· = b) w w' := by
  obtain ⟨-, k1, k2, k3, k4, k5, k6, k7, -, k9, k10, k11, k12, -, kf, klt⟩ := H.facts
  have HH := Lib.hid H
  clear H
  go_enter Try.func64, Try.ntmps64
  go_wp2_with fail
  go_end0
  have B1 := Blk.reg (Blk.of HH.out) 0 0 0 rfl (by decide)
  have B2 := Blk.reg B1 1 1 1 rfl (by decide)
  have B3 := Blk.reg B2 2 1 1 rfl (by decide)
  have B4 := Blk.reg B3 3 1 1 rfl (by decide)
  have B5 := Blk.reg B4 4 0 0 rfl (by decide)
  have B6 := Blk.reg B5 5 0 0 rfl (by decide)
  have B7 := Blk.reg B6 6 0 0 rfl (by decide)
  have B8 := Blk.failed (Blk.mark (Blk.done (Blk.mode B7 0 0 rfl) 0 0 rfl) false) false
  rw [← Dk.fresh_eq] at B8
  refine ⟨rfl, turned HH.out B8 ?_ (Dk.fresh_ok HH.out.ok) rfl rfl rfl⟩
  (repeat' (first | (with_reducible exact Keeps.refl _ _) | (with_reducible refine Keeps.setOne ?_ _ _)))
def Dk.line (S : Dk) : Bool := S.mark && (S.c / 2 % 2 == 0)
set_option maxHeartbeats 1000000 in
theorem line_in {w : World} {b : Nat} {ds lv : Value} {D : Dk} (H : IdeIn 113 w b ds lv D) :
    Calls Try.prog 68 #[.pointer (some ⟨b, 0, none⟩)] w fun e w' => e = .returned (.bool D.line) ∧ w = w' := by
  obtain ⟨-, -, -, -, -, -, -, -, k8, -, -, k11, -⟩ := H.facts
  have hb := quiet_bits D.c H.ok.c
  cases hm : D.mark
  all_goals
    rw [hm] at k11
    have HM := Lib.hid hm
    clear hm
    go_enter Try.func68, Try.ntmps68
    go_wp2_with fail
    go_ret
    exact ⟨by unfold Dk.line; rw [HM.out]; rfl, rfl⟩
theorem line_nil (w : World) : Calls Try.prog 68 #[.pointer none] w fun e w' => e = .returned (.bool false) ∧ w = w' := by
  go_enter Try.func68, Try.ntmps68
  go_wp2_with fail
  go_ret
  exact ⟨rfl, rfl⟩
/-- What is wrong with a call. -/
def callErr (reg size : Int) : Int := if reg < 0 ∨ 8 < reg then 1 else if reg = 0 ∧ size ≠ 1 ∧ size ≠ 2 ∧ size ≠ 4 then 2 else 0
theorem check_in {w : World} {b : Nat} (reg size : Int) :
    Calls Try.prog 60 #[.pointer (some ⟨b, 0, none⟩), .int .i64 reg, .int .i64 size] w fun e w' => e = .returned (.int .i64 (callErr reg size)) ∧ w = w' := by
  unfold callErr
  by_cases h0 : reg < 0
  · rw [if_pos (.inl h0)]
    go_enter Try.func60, Try.ntmps60
    go_wp2_with fail
    go_ret
    exact ⟨rfl, rfl⟩
  · by_cases h8 : 8 < reg
    · rw [if_pos (.inr h8)]
      go_enter Try.func60, Try.ntmps60
      go_wp2_with fail
      go_ret
      exact ⟨rfl, rfl⟩
    · rw [if_neg (by omega)]
      by_cases hr : reg = 0
      · subst hr
        by_cases h1 : size = 1
        · subst h1
          rw [if_neg (by decide)]
          go_enter Try.func60, Try.ntmps60
          go_wp2_with fail
          go_ret
          exact ⟨rfl, rfl⟩
        · by_cases h2 : size = 2
          · subst h2
            rw [if_neg (by decide)]
            go_enter Try.func60, Try.ntmps60
            go_wp2_with fail
            go_ret
            exact ⟨rfl, rfl⟩
          · by_cases h4 : size = 4
            · subst h4
              rw [if_neg (by decide)]
              go_enter Try.func60, Try.ntmps60
              go_wp2_with fail
              go_ret
              exact ⟨rfl, rfl⟩
            · rw [if_pos ⟨rfl, h1, h2, h4⟩]
              have g1 : (size != 1) = true := by simpa using h1
              have g2 : (size != 2) = true := by simpa using h2
              have g4 : (size != 4) = true := by simpa using h4
              clear h1 h2 h4
              go_enter Try.func60, Try.ntmps60
              go_wp2_with fail
              go_ret
              exact ⟨rfl, rfl⟩
      · rw [if_neg (fun h => hr h.1)]
        have g1 : (reg == 0) = false := by simpa using hr
        clear hr
        go_enter Try.func60, Try.ntmps60
        go_wp2_with fail
        go_ret
        exact ⟨rfl, rfl⟩
theorem check_nil (w : World) (reg size : Int) :
    Calls Try.prog 60 #[.pointer none, .int .i64 reg, .int .i64 size] w fun e w' => e = .returned (.int .i64 1) ∧ w = w' := by
  go_enter Try.func60, Try.ntmps60
  go_wp2_with fail
  go_ret
  exact ⟨rfl, rfl⟩
theorem Dk.place_lt {S : Dk} (h : S.ok) : S.place < 268435456 := by
  have h3 := h.r 3
  have h4 := h.r 4
  have h5 := h.r 5
  unfold Dk.place; omega
set_option maxHeartbeats 1000000 in
theorem sector_no {w : World} {b : Nat} {ds lv : Value} {D : Dk} (H : IdeIn 113 w b ds lv D) (hp : ¬ D.place < D.n) :
    Calls Try.prog 84 #[.pointer (some ⟨b, 0, none⟩)] w fun e w' => e = .returned (.slice none 0 0) ∧ ∃ n, w' = w.drewN n := by
  have HP := Lib.hid (place_in H)
  have hlt := Dk.place_lt H.ok
  obtain ⟨a, cap, hds⟩ := H.disk.len
  obtain ⟨k0, -⟩ := H.facts
  rw [hds] at k0
  have hn := H.ok.n
  have HH := Lib.hid H
  clear H hds
  generalize D.place = p at *
  generalize D.n = n at *
  go_enter Try.func84, Try.ntmps84
  go_wp2_with fail
  refine HP.out.mono ?_
  rintro e w1 ⟨rfl, m, rfl⟩
  go_wp2_with fail
  go_ret
  exact ⟨rfl, m, rfl⟩
set_option maxHeartbeats 1000000 in
theorem sector_at {w : World} {b : Nat} {ds lv : Value} {D : Dk} (H : IdeIn 113 w b ds lv D) (g L cap o : Nat) (hds : ds = .slice (some ⟨g, 0, none⟩) L cap) (hc : L ≤ cap) (ho : o = D.place * 512) (hL : o + 512 ≤ L) :
    Calls Try.prog 84 #[.pointer (some ⟨b, 0, none⟩)] w fun e w' => e = .returned (.slice (some ⟨g, o, none⟩) (o + 512 - o) (o + 512 - o)) ∧ ∃ n, w' = w.drewN n := by
  have HP := Lib.hid (place_in H)
  have hlt := Dk.place_lt H.ok
  obtain ⟨k0, -⟩ := H.facts
  rw [hds] at k0
  clear H hds
  generalize D.place = p at *
  have hm : (p : Int) * 512 = (o : Int) := by omega
  have q0 : o < L := by omega
  have q1 : (o : Int) + 512 ≤ (cap : Int) := by omega
  have q2 : (o : Int) ≤ (cap : Int) := by omega
  have q3 : ¬ cap = o := by omega
  clear ho hL hc
  go_enter Try.func84, Try.ntmps84
  go_wp2_with fail
  refine HP.out.mono ?_
  rintro e w1 ⟨rfl, m, rfl⟩
  go_wp2_with fail
  go_ret
  exact ⟨rfl, m, rfl⟩
theorem sector_yes {w : World} {b : Nat} {ds lv : Value} {D : Dk} (H : IdeIn 113 w b ds lv D) (hp : D.place < D.n) (g cap : Nat) (hds : ds = .slice (some ⟨g, 0, none⟩) (D.n * 512) cap) (hc : D.n * 512 ≤ cap) :
    Calls Try.prog 84 #[.pointer (some ⟨b, 0, none⟩)] w fun e w' => e = .returned (.slice (some ⟨g, D.place * 512, none⟩) 512 512) ∧ ∃ n, w' = w.drewN n := by
  obtain ⟨o, ho⟩ : ∃ o, o = D.place * 512 := ⟨_, rfl⟩
  have h := sector_at H g (D.n * 512) cap o hds hc ho (by omega)
  rw [Nat.add_sub_cancel_left, ho] at h
  exact h
end Go.Proofs.Ytojmpdddfnkffaa.Ide

/- ide: begin. -/
namespace Go.Proofs.Ytojmpdddfnkffaa.Ide
open Go.RowKit
set_option linter.unusedVariables false

theorem size8 : (Try.prog.info? 5).map (·.size) = some 1 := by kernel_rfl
/-- Cells laid over the buffer. -/
theorem Dk.over (S : Dk) (ds ws : Value) (f : Nat → Nat) : ((S.cells ds ws).toList.take 9 ++ bytesL 512 f ++ (S.cells ds ws).toList.drop (9 + 512)).toArray = ({ S with buf := f } : Dk).cells ds ws := by
  have hsz : (S.cells ds ws).toList.length = 526 := by rw [Array.length_toList, Dk.size]
  have hl : (bytesL 512 f).length = 512 := bytesL_len _ _
  apply Array.ext_getElem?
  intro j
  rw [List.getElem?_toArray]
  by_cases hj : j < 526
  · rw [Dk.at _ _ _ j hj]
    by_cases h1 : j < 9
    · rw [List.append_assoc, List.getElem?_append_left (by rw [List.length_take]; omega), List.getElem?_take_of_lt h1, Array.getElem?_toList, Dk.at _ _ _ j hj]
      refine congrArg some ?_
      unfold Dk.cell
      (repeat' split) <;> first | rfl | omega
    · by_cases h2 : j < 521
      · rw [List.append_assoc, List.getElem?_append_right (by rw [List.length_take]; omega), List.getElem?_append_left (by rw [hl, List.length_take]; omega), List.length_take, Nat.min_eq_left (by omega), bytesL_at _ _ _ (by omega)]
        refine congrArg some ?_
        unfold Dk.cell
        rw [if_neg (by omega), if_neg (by omega), if_neg (by omega), if_pos h2]
      · rw [List.getElem?_append_right (by rw [List.length_append, hl, List.length_take]; omega), List.length_append, hl, List.length_take, Nat.min_eq_left (by omega), List.getElem?_drop, Array.getElem?_toList, show 9 + 512 + (j - (9 + 512)) = j by omega, Dk.at _ _ _ j hj]
        refine congrArg some ?_
        unfold Dk.cell
        (repeat' split) <;> first | rfl | omega
  · rw [List.getElem?_eq_none, Array.getElem?_eq_none]
    · rw [Dk.size]; omega
    · simp only [List.length_append, List.length_take, List.length_drop, hsz, hl]; omega
/-- A sector is copied into the buffer. -/
theorem copy_buf {T : TypeId} {W : World} {b g o : Nat} {ds lv : Value} {D : Dk} (hB : Blk T W b ds lv D) (f : Nat → Nat) (hc : ∀ j, j < 512 → W.cell? ⟨g, o + j, none⟩ = some (.int .u8 (f j : Nat))) :
    ∃ W2, (∀ ty, (Builtin.copy_ #[30, 30] ty #[.slice (some ⟨b, 9, none⟩) 512 512, .slice (some ⟨g, o, none⟩) 512 512]).run Try.prog W = .ok (.int .i64 512) W2) ∧ Blk T W2 b ds lv { D with buf := f } ∧ Keeps (· = b) W W2 := by
  refine ⟨W.setRow b (({ D with buf := f } : Dk).cells ds lv), fun ty => ?_, setRow_heap _ _ _ _ _ _ hB, ⟨rfl, rfl, rfl, by simp [World.setRow], fun k hk hn => setRow_other W b k _ hn⟩⟩
  have h := run_copy_row (P := Try.prog) W 30 30 ty 5 b 9 512 512 ⟨g, o, none⟩ 512 512 (D.cells ds lv) T (bytesL 512 f) Try.underlying30 size8 hB (by rw [bytesL_len]; rfl)
    (fun j v hv => by obtain ⟨hj, rfl⟩ := bytesL_some hv; rw [Go.WideShapes.add_plain]; exact hc j hj) (by rw [bytesL_len, Dk.size]; decide) (bytesL_one _ _)
  rw [bytesL_len, Dk.over] at h
  exact h
theorem Dk.fill_ok {S : Dk} (h : S.ok) : ({ S with mode := 1, done := 0, buf := fun i => S.d (S.place * 512 + i), mark := true } : Dk).ok :=
  { h with buf := fun i => h.d _, done := (by show (0 : Nat) ≤ 512; decide), mode := (by show (1 : Nat) < 4; decide) }
theorem Dk.open_ok {S : Dk} (h : S.ok) (m : Nat) (hm : m < 4) : ({ S with mode := m, done := 0 } : Dk).ok :=
  { h with done := (by show (0 : Nat) ≤ 512; decide), mode := hm }
set_option maxHeartbeats 1000000 in
theorem begin_no {w : World} {b : Nat} {ds lv : Value} {D : Dk} (H : IdeIn 113 w b ds lv D) (m : Int) (hp : ¬ D.place < D.n) :
    Calls Try.prog 88 #[.pointer (some ⟨b, 0, none⟩), .int .i64 m] w fun e w' => e = .returned (.tuple #[]) ∧ IdeIn 113 w' b ds lv (D.fail 16) ∧ Keeps (· = b) w w' := by
  have HS := Lib.hid (sector_no H hp)
  have hnil : ∀ w, (binOp .eql 30 (.slice none 0 0) (.slice none 0 0)).run Try.prog w = .ok (.bool true) w := fun w => Lib.run_eql_slice_nil w _ _ _ _ _ _ _ Try.underlying30
  go_enter Try.func88, Try.ntmps88
  go_wp2_with fail
  refine HS.out.mono ?_
  rintro e w1 ⟨rfl, n, rfl⟩
  go_wp2_with fail
  refine (fail_in (H.drewN n) 16 (by decide)).mono ?_
  rintro e w2 ⟨rfl, H2, K2⟩
  go_wp2_with fail
  go_returns
  exact ⟨rfl, H2, ((Keeps.refl _ w).drewN n).trans K2⟩
set_option maxHeartbeats 1000000 in
theorem begin_two {w : World} {b : Nat} {ds lv : Value} {D : Dk} (H : IdeIn 113 w b ds lv D) (m : Nat) (hm : m < 4) (h1 : m ≠ 1) (hp : D.place < D.n) :
    Calls Try.prog 88 #[.pointer (some ⟨b, 0, none⟩), .int .i64 m] w fun e w' => e = .returned (.tuple #[]) ∧ IdeIn 113 w' b ds lv { D with mode := m, done := 0 } ∧ Keeps (· = b) w w' := by
  obtain ⟨g, cap, cur, hds, hg, hc, hcm, hsz, htk⟩ := H.disk.open (by omega)
  have HS := Lib.hid (sector_yes H hp g cap hds hc)
  have hnil : ∀ w o, (binOp .eql 30 (.slice (some ⟨g, o, none⟩) 512 512) (.slice none 0 0)).run Try.prog w = .ok (.bool false) w := fun w o => Lib.run_eql_slice_nil w _ _ _ _ _ _ _ Try.underlying30
  have hm1 : ((m : Int) == 1) = false := by simp; omega
  obtain ⟨-, -, -, -, -, -, -, -, -, k9, k10, -, -, -, kf, klt⟩ := H.facts
  have HH := Lib.hid H
  clear H hg hc hcm hsz htk hds hp
  generalize D.place * 512 = o at *
  go_enter Try.func88, Try.ntmps88
  go_wp2_with fail
  refine HS.out.mono ?_
  rintro e w1 ⟨rfl, n, rfl⟩
  go_wp2_with fail
  go_end0
  refine ⟨rfl, turned HH.out (Blk.done (Blk.mode (Blk.drewN (Blk.of HH.out) n) m _ rfl) 0 _ rfl) ?_ (Dk.open_ok HH.out.ok m hm) rfl rfl rfl⟩
  (repeat' (first | (with_reducible exact Keeps.refl _ _) | (with_reducible refine Keeps.setOne ?_ _ _) | (with_reducible refine Keeps.drewN ?_ _)))
set_option maxHeartbeats 1000000 in
theorem begin_one {w : World} {b : Nat} {ds lv : Value} {D : Dk} (H : IdeIn 113 w b ds lv D) (hp : D.place < D.n) :
    Calls Try.prog 88 #[.pointer (some ⟨b, 0, none⟩), .int .i64 1] w fun e w' => e = .returned (.tuple #[]) ∧ IdeIn 113 w' b ds lv { D with mode := 1, done := 0, buf := fun i => D.d (D.place * 512 + i), mark := true } ∧ Keeps (· = b) w w' := by
  obtain ⟨g, cap, cur, hds, hg, hc, hcm, hsz, htk⟩ := H.disk.open (by omega)
  have HS := Lib.hid (sector_yes H hp g cap hds hc)
  have hnil : ∀ w o, (binOp .eql 30 (.slice (some ⟨g, o, none⟩) 512 512) (.slice none 0 0)).run Try.prog w = .ok (.bool false) w := fun w o => Lib.run_eql_slice_nil w _ _ _ _ _ _ _ Try.underlying30
  have hgb : g ≠ b := fun e => H.d1 (by rw [hds, e]; rfl)
  have hcells : ∀ j, j < 512 → w.cell? ⟨g, D.place * 512 + j, none⟩ = some (.int .u8 (D.d (D.place * 512 + j) : Nat)) := fun j hj => by rw [cell_at hg]; exact take_at htk (by omega)
  obtain ⟨-, -, -, -, -, -, -, -, -, k9, k10, -, -, -, kf, klt⟩ := H.facts
  have HH := Lib.hid H
  have HC := Lib.hid hcells
  clear H hg hc hcm hsz htk hds hp hcells
  have ok := Lib.hid (Dk.fill_ok HH.out.ok)
  generalize D.place * 512 = o at *
  go_enter Try.func88, Try.ntmps88
  go_wp2_with fail
  refine HS.out.mono ?_
  rintro e w1 ⟨rfl, n, rfl⟩
  have B1 := Blk.done (Blk.mode (Blk.drewN (Blk.of HH.out) n) 1 1 rfl) 0 0 rfl
  have K1 : Keeps (· = b) w (((w.drewN n).setCell ⟨b, 522, none⟩ (.int .i64 1)).setCell ⟨b, 521, none⟩ (.int .i64 0)) := (((Keeps.refl _ w).drewN n).setOne _ _).setOne _ _
  obtain ⟨W2, hcp, B2, K2⟩ := copy_buf B1 (fun j => D.d (o + j)) (g := g) (o := o) (fun j hj => by rw [K1.cell (p := ⟨g, o + j, none⟩) (cell_block_lt (HC.out j hj)) hgb]; exact HC.out j hj)
  obtain ⟨-, -, -, -, -, -, -, -, -, -, -, j11, -, -, jf, jlt⟩ := B2.facts
  have HB := Lib.hid B2
  clear B1 B2
  go_wp2_with fail
  go_end0
  refine ⟨rfl, turned HH.out (Blk.mark HB.out true) ?_ ok.out rfl rfl rfl⟩
  exact (K1.trans K2).setOne _ _
theorem Dk.begin_ok {S : Dk} (h : S.ok) (m : Nat) (hm : m < 4) : (S.begin m).ok := by
  unfold Dk.begin
  split
  · split
    · exact Dk.fill_ok h
    · exact Dk.open_ok h m hm
  · exact Dk.fail_ok h 16 (by decide)
theorem begin_in {w : World} {b : Nat} {ds lv : Value} {D : Dk} (H : IdeIn 113 w b ds lv D) (m : Nat) (hm : m < 4) (x : Int) (hx : x = (m : Nat)) :
    Calls Try.prog 88 #[.pointer (some ⟨b, 0, none⟩), .int .i64 x] w fun e w' => e = .returned (.tuple #[]) ∧ IdeIn 113 w' b ds lv (D.begin m) ∧ Keeps (· = b) w w' := by
  subst hx
  unfold Dk.begin
  by_cases hp : D.place < D.n
  · rw [if_pos hp]
    by_cases h1 : m = 1
    · subst h1; rw [if_pos rfl]; exact begin_one H hp
    · rw [if_neg h1]; exact begin_two H m hm h1 hp
  · rw [if_neg hp]; exact begin_no H m hp
end Go.Proofs.Ytojmpdddfnkffaa.Ide

