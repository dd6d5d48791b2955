/- Steps of a proof: IdeA, IdeB, IdeC, IdeD, IdeE, IdeF, IdeG, IdeH, IdeI, IdeJ, IdeK, IdeL, IdeM, IdeN, together. -/
import Derived.Test.YtmpcafdgkbpneaaGreatS0
import Derived.Test.YtmpcafdgkbpneaaGreatRows
import Derived.Test.YtmpcafdgkbpneaaGreatS32
import Derived.BigRegion
import Derived.Deep.RegionWith
import Derived.Deep.RegionHeld3
import Derived.Deep.Cut
import Derived.Lib.Hide
import Derived.Laws.BitsAll
import Derived.Deep.QuietTactic
import Derived.BigQuiet
import Derived.Maps.AppendAt
import Derived.Lib.SliceRun
import Derived.Laws.CopyRow
import Derived.Deep.MidRow
import Derived.Deep.AppendLies
import Derived.Deep.RegionLaw
import Derived.Laws.MakeOwn
/- ide: a disk, as what it holds; what its calls do to it, in plain words. -/
set_option maxHeartbeats 4000000
set_option maxRecDepth 20000
namespace Go.Proofs.YtmpcafdgkbpneaaGreat.Ide
open Go.RowKit
set_option linter.unusedVariables false

def upd (f : Nat → Nat) (k v : Nat) : Nat → Nat := fun i => if i = k then v else f i
theorem upd_same (f : Nat → Nat) (k v : Nat) : upd f k v k = v := if_pos rfl
theorem upd_ne (f : Nat → Nat) (k v i : Nat) (h : i ≠ k) : upd f k v i = f i := if_neg h

structure Dk where
 n : Nat
 d : Nat → Nat
 r : Nat → Nat
 c : Nat
 buf : Nat → Nat
 done : Nat
 mode : Nat
 mark : Bool
 failed : Bool
 log : List Nat
structure Dk.ok (S : Dk) : Prop where
 n : S.n ≤ 64
 d : ∀ i, S.d i < 256
 r : ∀ i, S.r i < 256
 c : S.c < 256
 buf : ∀ i, S.buf i < 256
 done : S.done ≤ 512
 mode : S.mode < 4
 log : ∀ x ∈ S.log, x < 64

def Dk.room (S : Dk) : Prop := S.mode ≠ 0 → S.done < 512

def Dk.setR (S : Dk) (k v : Nat) : Dk := { S with r := upd S.r k v }
def Dk.setDone (S : Dk) (v : Nat) : Dk := { S with done := v }
def Dk.setMode (S : Dk) (v : Nat) : Dk := { S with mode := v }
def Dk.setMark (S : Dk) (v : Bool) : Dk := { S with mark := v }
def Dk.setFailed (S : Dk) (v : Bool) : Dk := { S with failed := v }

def Dk.cell (S : Dk) (ds ws : Value) (i : Nat) : Value :=
 if i = 0 then ds else if i < 8 then .int .u8 (S.r (i - 1) : Nat) else if i = 8 then .int .u8 (S.c : Nat) else if i < 521 then .int .u8 (S.buf (i - 9) : Nat)
 else if i = 521 then .int .i64 (S.done : Nat) else if i = 522 then .int .i64 (S.mode : Nat) else if i = 523 then .bool S.mark else if i = 524 then .bool S.failed else ws
def Dk.cells (S : Dk) (ds ws : Value) : Array Value := Array.ofFn (n := 526) fun i => S.cell ds ws i.val

theorem ofFn_ext {n : Nat} {f g : Nat → Value} (h : ∀ i, i < n → f i = g i) : (Array.ofFn (n := n) fun i => f i.val) = Array.ofFn (n := n) fun i => g i.val := by
 congr 1; funext i; exact h i.val i.isLt
theorem ofFn_set (n : Nat) (f : Nat → Value) (k : Nat) (v : Value) :
    (Array.ofFn (n := n) fun i => f i.val).setIfInBounds k v = Array.ofFn (n := n) fun i => if i.val = k then v else f i.val := by
 apply Array.ext_getElem?
 intro j
 rw [Array.getElem?_setIfInBounds, Array.getElem?_ofFn, Array.getElem?_ofFn]
 by_cases hj : j < n
 ·rw [dif_pos hj, dif_pos hj]
  by_cases e : k = j
  ·subst e; rw [if_pos rfl, if_pos (by simpa using hj)]; simp
  ·rw [if_neg e]; show _ = some (if j = k then v else f j); rw [if_neg (fun h => e h.symm)]
 ·rw [dif_neg hj, dif_neg hj]
  by_cases e : k = j
  ·rw [if_pos e, if_neg (by simp; omega)]
  ·rw [if_neg e]
theorem Dk.at (S : Dk) (ds ws : Value) (i : Nat) (h : i < 526) : (S.cells ds ws)[i]? = some (S.cell ds ws i) := by
 unfold Dk.cells; rw [Array.getElem?_ofFn, dif_pos h]
section
variable (S : Dk) (ds ws : Value)
theorem Dk.cell_r (k : Nat) (h : k < 7) : S.cell ds ws (1 + k) = .int .u8 (S.r k : Nat) := by
 unfold Dk.cell; rw [if_neg (by omega), if_pos (by omega), Nat.add_sub_cancel_left]
theorem Dk.put (S' : Dk) (ds' ws' : Value) (k : Nat) (v : Value) (hv : S'.cell ds' ws' k = v) (h : ∀ i, i < 526 → i ≠ k → S'.cell ds' ws' i = S.cell ds ws i) :
    (S.cells ds ws).setIfInBounds k v = S'.cells ds' ws' := by
 unfold Dk.cells
 rw [ofFn_set]
 refine ofFn_ext (f := fun i => if i = k then v else S.cell ds ws i) fun i hi => ?_
 by_cases e : i = k
 ·subst e; rw [if_pos rfl, hv]
 ·rw [if_neg e, h i hi e]
theorem Dk.put_r (k v : Nat) (x : Int) (hx : x = (v : Nat)) (hk : k < 7) : (S.cells ds ws).setIfInBounds (k + 1) (.int .u8 x) = (S.setR k v).cells ds ws := by
 subst hx
 refine Dk.put S ds ws _ _ _ _ _ ?_ fun i hi hne => ?_
 ·rw [Nat.add_comm, Dk.cell_r _ _ _ k hk]; show Value.int .u8 ((upd S.r k v k : Nat) : Int) = _; rw [upd_same]
 ·unfold Dk.cell
  by_cases h : 1 ≤ i ∧ i < 8
  ·have e : (S.setR k v).r (i - 1) = S.r (i - 1) := upd_ne _ _ _ _ (by omega)
   rw [e]; rfl
  ·by_cases h0 : i = 0
   ·rw [if_pos h0, if_pos h0]
   ·rw [if_neg h0, if_neg h0, if_neg (show ¬ i < 8 by omega), if_neg (show ¬ i < 8 by omega)]; rfl
theorem Dk.put_done (v : Nat) (x : Int) (hx : x = (v : Nat)) : (S.cells ds ws).setIfInBounds 521 (.int .i64 x) = (S.setDone v).cells ds ws := by
 subst hx
 refine Dk.put S ds ws _ _ _ _ _ rfl fun i hi hne => ?_
 unfold Dk.cell; simp only [hne, if_false]; rfl
theorem Dk.put_mode (v : Nat) (x : Int) (hx : x = (v : Nat)) : (S.cells ds ws).setIfInBounds 522 (.int .i64 x) = (S.setMode v).cells ds ws := by
 subst hx
 refine Dk.put S ds ws _ _ _ _ _ rfl fun i hi hne => ?_
 unfold Dk.cell; simp only [hne, if_false]; rfl
theorem Dk.put_mark (v : Bool) : (S.cells ds ws).setIfInBounds 523 (.bool v) = (S.setMark v).cells ds ws := by
 refine Dk.put S ds ws _ _ _ _ _ rfl fun i hi hne => ?_
 unfold Dk.cell; simp only [hne, if_false]; rfl
theorem Dk.put_failed (v : Bool) : (S.cells ds ws).setIfInBounds 524 (.bool v) = (S.setFailed v).cells ds ws := by
 refine Dk.put S ds ws _ _ _ _ _ rfl fun i hi hne => ?_
 unfold Dk.cell; simp only [hne, if_false]; rfl
end

-- WHAT THE CALLS DO
def Dk.fresh (S : Dk) : Dk := { S with r := upd (upd (upd (upd (upd (upd (upd S.r 0 0) 1 1) 2 1) 3 1) 4 0) 5 0) 6 0, mode := 0, done := 0, mark := false, failed := false }
def laid (d f : Nat → Nat) (o : Nat) : Nat → Nat := fun i => if o ≤ i ∧ i < o + 512 then f (i - o) else d i
end Go.Proofs.YtmpcafdgkbpneaaGreat.Ide

/- ide: the disk as an object; its small functions. -/
namespace Go.Proofs.YtmpcafdgkbpneaaGreat.Ide
open Go.RowKit
set_option linter.unusedVariables false

def bytesL (n : Nat) (d : Nat → Nat) : List Value := (List.range n).map fun i => .int .u8 (d i : Nat)
theorem bytesL_len (n : Nat) (d : Nat → Nat) : (bytesL n d).length = n := by unfold bytesL; simp
theorem bytesL_at (n : Nat) (d : Nat → Nat) (i : Nat) (h : i < n) : (bytesL n d)[i]? = some (.int .u8 (d i : Nat)) := by unfold bytesL; simp [h]
theorem bytesL_no (n : Nat) (d : Nat → Nat) (i : Nat) (h : n ≤ i) : (bytesL n d)[i]? = none := by rw [List.getElem?_eq_none]; rw [bytesL_len]; exact h
theorem bytesL_one (n : Nat) (d : Nat → Nat) : ∀ v ∈ bytesL n d, v.oneCell' = true := by
 intro v hv
 unfold bytesL at hv
 obtain ⟨j, _, rfl⟩ := List.mem_map.1 hv
 rfl
theorem bytesL_some {n : Nat} {d : Nat → Nat} {j : Nat} {v : Value} (h : (bytesL n d)[j]? = some v) : j < n ∧ v = .int .u8 (d j : Nat) := by
 have hj : j < n := by have := (List.getElem?_eq_some_iff.1 h).1; rwa [bytesL_len] at this
 rw [bytesL_at n d j hj] at h
 exact ⟨hj, (Option.some.inj h).symm⟩
def Bytes (w : World) (ds : Value) (n : Nat) (d : Nat → Nat) : Prop := w.ownsRow 0 5 1 ds (n * 512) (bytesL (n * 512) d)
structure IdeIn (T : TypeId) (w : World) (b : Nat) (ds lv : Value) (D : Dk) : Prop where
 obj : w.heap[b]? = some (.cells (D.cells ds lv) T)
 disk : Bytes w ds D.n D.d
 log : w.ownsRow 0 3 1 lv D.log.length (D.log.map fun p => Value.int .i64 (p : Nat))
 d1 : ds.ownBlock ≠ some b
 d2 : lv.ownBlock ≠ some b
 d3 : ∀ k, ds.ownBlock = some k → lv.ownBlock ≠ some k
 ok : D.ok
def Held (b : Nat) (ds lv : Value) (k : Nat) : Prop := k = b ∨ ds.ownBlock = some k ∨ lv.ownBlock = some k
section
variable {T : TypeId} {w w' : World} {b : Nat} {ds lv : Value} {D : Dk}
theorem row_of_heap {B : Nat} {E : TypeId} {s n : Nat} {v : Value} {xs : List Value} (h : w.ownsRow B E s v n xs) (hh : ∀ k, v.ownBlock = some k → w'.heap[k]? = w.heap[k]?) : w'.ownsRow B E s v n xs := by
 refine ⟨h.1, ?_⟩
 rcases h.2 with h2 | ⟨g, cap, cur, rfl, hb, hg, r⟩
 ·exact .inl h2
 ·exact .inr ⟨g, cap, cur, rfl, hb, by rw [hh g rfl]; exact hg, r⟩
theorem row_base {B : Nat} {E : TypeId} {s n : Nat} {v : Value} {xs : List Value} (h : w.ownsRow B E s v n xs) : w.ownsRow 0 E s v n xs := by
 refine ⟨h.1, ?_⟩
 rcases h.2 with h2 | ⟨g, cap, cur, rfl, hb, r⟩
 ·exact .inl h2
 ·exact .inr ⟨g, cap, cur, rfl, Nat.zero_le _, r⟩
theorem Bytes.lt {n : Nat} {d : Nat → Nat} (h : Bytes w ds n d) {k : Nat} (hk : ds.ownBlock = some k) : k < w.heap.size := (World.ownsRow.lt h k hk).2
theorem Bytes.of_heap {n : Nat} {d : Nat → Nat} (h : Bytes w ds n d) (hh : ∀ k, ds.ownBlock = some k → w'.heap[k]? = w.heap[k]?) : Bytes w' ds n d := row_of_heap h hh
theorem take_at {cur : Array Value} {m : Nat} {d : Nat → Nat} (h : cur.toList.take m = bytesL m d) {i : Nat} (hi : i < m) : cur[i]? = some (.int .u8 (d i : Nat)) := by
 have e : cur.toList[i]? = (bytesL m d)[i]? := by rw [← h, List.getElem?_take_of_lt hi]
 rw [bytesL_at m d i hi] at e
 simpa using e
theorem Held.lt (H : IdeIn T w b ds lv D) {k : Nat} (h : Held b ds lv k) : k < w.heap.size := by
 rcases h with rfl | h | h
 ·exact heap_lt H.obj
 ·exact H.disk.lt h
 ·exact (H.log.lt k h).2
theorem IdeIn.of_heap (H : IdeIn T w b ds lv D) (h : ∀ k, Held b ds lv k → w'.heap[k]? = w.heap[k]?) : IdeIn T w' b ds lv D :=
 {H with
  obj := by rw [h b (.inl rfl)]; exact H.obj
  disk := H.disk.of_heap fun k hk => h k (.inr (.inl hk))
  log := row_of_heap H.log fun k hk => h k (.inr (.inr hk)) }
theorem IdeIn.turn (H : IdeIn T w b ds lv D) {D' : Dk} (ho : w'.heap[b]? = some (.cells (D'.cells ds lv) T)) (hk : Keeps (· = b) w w') (ok : D'.ok) (h1 : D'.n = D.n) (h2 : D'.d = D.d) (h3 : D'.log = D.log) : IdeIn T w' b ds lv D' where
 obj := ho
 disk := by rw [h1, h2]; exact H.disk.of_heap fun k hk' => hk.block k (H.disk.lt hk') (fun e => H.d1 (by rw [← e]; exact hk'))
 log := by rw [h3]; exact row_of_heap H.log fun k hk' => hk.block k (H.log.lt k hk').2 (fun e => H.d2 (by rw [← e]; exact hk'))
 d1 := H.d1
 d2 := H.d2
 d3 := H.d3
 ok := ok
theorem IdeIn.cell (H : IdeIn T w b ds lv D) (i : Nat) (h : i < 526) : w.cell? ⟨b, i, none⟩ = some (D.cell ds lv i) := by rw [cell_at H.obj, D.at ds lv i h]
theorem IdeIn.reg (H : IdeIn T w b ds lv D) (k : Nat) (h : k < 7) : w.cell? ⟨b, 1 + k, none⟩ = some (.int .u8 (D.r k : Nat)) := by rw [H.cell _ (by omega), D.cell_r _ _ k h]
theorem IdeIn.facts (H : IdeIn T w b ds lv D) :
    w.cell? ⟨b, 0, none⟩ = some ds ∧ w.cell? ⟨b, 1, none⟩ = some (.int .u8 (D.r 0 : Nat)) ∧ w.cell? ⟨b, 2, none⟩ = some (.int .u8 (D.r 1 : Nat)) ∧ w.cell? ⟨b, 3, none⟩ = some (.int .u8 (D.r 2 : Nat)) ∧
    w.cell? ⟨b, 4, none⟩ = some (.int .u8 (D.r 3 : Nat)) ∧ w.cell? ⟨b, 5, none⟩ = some (.int .u8 (D.r 4 : Nat)) ∧ w.cell? ⟨b, 6, none⟩ = some (.int .u8 (D.r 5 : Nat)) ∧ w.cell? ⟨b, 7, none⟩ = some (.int .u8 (D.r 6 : Nat)) ∧
    w.cell? ⟨b, 8, none⟩ = some (.int .u8 (D.c : Nat)) ∧ w.cell? ⟨b, 521, none⟩ = some (.int .i64 (D.done : Nat)) ∧ w.cell? ⟨b, 522, none⟩ = some (.int .i64 (D.mode : Nat)) ∧
    w.cell? ⟨b, 523, none⟩ = some (.bool D.mark) ∧ w.cell? ⟨b, 524, none⟩ = some (.bool D.failed) ∧ w.cell? ⟨b, 525, none⟩ = some lv ∧ (∀ k, w.frozen? ⟨b, k, none⟩ = false) ∧ b < w.heap.size :=
 ⟨H.cell 0 (by decide), H.reg 0 (by decide), H.reg 1 (by decide), H.reg 2 (by decide), H.reg 3 (by decide), H.reg 4 (by decide), H.reg 5 (by decide), H.reg 6 (by decide), H.cell 8 (by decide), H.cell 521 (by decide), H.cell 522 (by decide),
  H.cell 523 (by decide), H.cell 524 (by decide), H.cell 525 (by decide), fun k => free_at H.obj, heap_lt H.obj⟩
end

def Blk (T : TypeId) (w : World) (b : Nat) (ds lv : Value) (D : Dk) : Prop := w.heap[b]? = some (.cells (D.cells ds lv) T)
section
variable {T : TypeId} {w : World} {b : Nat} {ds lv : Value} {D : Dk}
theorem Blk.reg (h : Blk T w b ds lv D) (k v : Nat) (x : Int) (hx : x = (v : Nat)) (hk : k < 7) : Blk T (w.setCell ⟨b, k + 1, none⟩ (.int .u8 x)) b ds lv (D.setR k v) := by
 unfold Blk at h ⊢; rw [heap_set_same _ h, D.put_r ds lv k v x hx hk]
theorem Blk.done (h : Blk T w b ds lv D) (v : Nat) (x : Int) (hx : x = (v : Nat)) : Blk T (w.setCell ⟨b, 521, none⟩ (.int .i64 x)) b ds lv (D.setDone v) := by
 unfold Blk at h ⊢; rw [heap_set_same _ h, D.put_done ds lv v x hx]
theorem Blk.mode (h : Blk T w b ds lv D) (v : Nat) (x : Int) (hx : x = (v : Nat)) : Blk T (w.setCell ⟨b, 522, none⟩ (.int .i64 x)) b ds lv (D.setMode v) := by
 unfold Blk at h ⊢; rw [heap_set_same _ h, D.put_mode ds lv v x hx]
theorem Blk.mark (h : Blk T w b ds lv D) (v : Bool) : Blk T (w.setCell ⟨b, 523, none⟩ (.bool v)) b ds lv (D.setMark v) := by
 unfold Blk at h ⊢; rw [heap_set_same _ h, D.put_mark ds lv v]
theorem Blk.failed (h : Blk T w b ds lv D) (v : Bool) : Blk T (w.setCell ⟨b, 524, none⟩ (.bool v)) b ds lv (D.setFailed v) := by
 unfold Blk at h ⊢; rw [heap_set_same _ h, D.put_failed ds lv v]
end

theorem Blk.of {T : TypeId} {w : World} {b : Nat} {ds lv : Value} {D : Dk} (H : IdeIn T w b ds lv D) : Blk T w b ds lv D := H.obj
theorem turned {T : TypeId} {w w' : World} {b : Nat} {ds lv : Value} {D D' : Dk} (H : IdeIn T w b ds lv D) (ho : Blk T w' b ds lv D') (hk : Keeps (· = b) w w') (ok : D'.ok) (h1 : D'.n = D.n) (h2 : D'.d = D.d) (h3 : D'.log = D.log) :
    IdeIn T w' b ds lv D' ∧ Keeps (· = b) w w' := ⟨H.turn ho hk ok h1 h2 h3, hk⟩
theorem upd_lt {f : Nat → Nat} {B : Nat} (h : ∀ i, f i < B) (k v : Nat) (hv : v < B) : ∀ i, upd f k v i < B := fun i => by
 unfold upd; split
 ·exact hv
 ·exact h i
theorem and_bit_u8 : ∀ x : Fin 256, (x.val &&& 16 != 0) = (x.val / 16 % 2 == 1) ∧ (x.val &&& 64 == 0) = (x.val / 64 % 2 == 0) ∧ (x.val &&& 2 == 0) = (x.val / 2 % 2 == 0) := by decide +kernel
theorem quiet_bits (x : Nat) (h : x < 256) : (bits .and .u8 (x : Int) 2 == 0) = (x / 2 % 2 == 0) := by
 have e : bits .and .u8 (x : Int) 2 = ((x &&& 2 : Nat) : Int) := u8_and_nat x 2 h (by decide)
 rw [e, ← (and_bit_u8 ⟨x, h⟩).2.2, Bool.eq_iff_iff]; simp; try omega

end Go.Proofs.YtmpcafdgkbpneaaGreat.Ide

/- ide: slices of bytes are cloned; a disk is made. -/
namespace Go.Proofs.YtmpcafdgkbpneaaGreat.Ide
open Go.RowKit
set_option linter.unusedVariables false

def Reads (w : World) (v : Value) (n : Nat) (d : Nat → Nat) : Prop :=
 ∃ a c, v = .slice a n c ∧ ((n = 0 ∧ (a = none → c = 0)) ∨ ∃ b off, a = some ⟨b, off, none⟩ ∧ b < w.heap.size ∧ ∀ i, i < n → w.cell? ⟨b, off + i, none⟩ = some (.int .u8 (d i : Nat)))
theorem info8 : (Tryz.prog.info? 5).map (fun i => (i.zero, i.size, i.bytes)) = some (some (.int .u8 0), 1, 1) := by kernel_rfl

theorem clone_some (w : World) (ad : Addr) (n c : Nat) (d : Nat → Nat) (hn : n ≤ 140737488355328) (hc : ∀ i, i < n → w.cell? (ad.add i) = some (.int .u8 (d i : Nat))) :
    Calls Tryz.prog 142 #[.slice (some ad) n c] w fun e w' => ∃ v, e = .returned v ∧ w'.ownsRow w.heap.size 5 1 v n (bytesL n d) ∧ Below w.heap.size w w' := by
 obtain ⟨i0, hi, hz0, hz1, hz2⟩ := info_parts info8
 have hnil : ∀ w, (binOp .eql 97 (.slice (some ad) n c) (.slice none 0 0)).run Tryz.prog w = .ok (.bool false) w := fun w => Lib.run_eql_slice_nil w _ _ _ _ _ _ _ Tryz.underlying97
 have hown : (w.alloc (.cells #[] 5)).ownsRow w.heap.size 5 1 (.slice (some ⟨w.heap.size, 0, none⟩) 0 0) 0 [] := World.ownsRow_made w #[] 0 (Nat.le_refl _) (by decide) (by simp)
 have hnews : ∀ j u, (bytesL n d)[j]? = some u → (w.alloc (.cells #[] 5)).cell? (ad.add j) = some u := fun j u h => by
  obtain ⟨hj, rfl⟩ := bytesL_some h
  rw [World.cell?_alloc_lt _ _ _ (World.block_lt_of_cell? w _ (hc j hj))]
  exact hc j hj
 have HN := Lib.hid hnews
 clear hnews hc
 go_enter Tryz.func142, Tryz.ntmps142
 go_wp2_with (at_builtin; refine wpList_append_own _ rfl _ _ 97 rfl w.heap.size 5 i0 (.int .u8 0) 1 1 Tryz.underlying97 hi hz0 hz1 hz2 rfl (by decide) _ 0 [] rfl hown ad n c (bytesL n d) rfl (by rw [bytesL_len]; omega) HN.out (bytesL_one n d) (by unfold maxLen; omega) (by omega) (by simp) ?_; intro v' w1 hown1 hgrow1 _)
 go_ret
 simp only [Nat.zero_add, List.nil_append] at hown1
 have hg : (w.alloc (.cells #[] 5)).grownBy w1 (some w.heap.size) := hgrow1
 exact ⟨_, rfl, hown1, ((Below.refl _ _).alloc (Nat.le_refl _) _).grown hg (by simp) (by intro k hk; cases hk; exact Nat.le_refl _)⟩
theorem clone_nil (w : World) : Calls Tryz.prog 142 #[.slice none 0 0] w fun e w' => e = .returned (.slice none 0 0) ∧ w = w' := by
 have hnil : ∀ w, (binOp .eql 97 (.slice none 0 0) (.slice none 0 0)).run Tryz.prog w = .ok (.bool true) w := fun w => Lib.run_eql_slice_nil w _ _ _ _ _ _ _ Tryz.underlying97
 go_enter Tryz.func142, Tryz.ntmps142
 go_wp2_with fail
 go_ret
 exact ⟨rfl, rfl⟩
theorem clone_any {w : World} {v : Value} {n : Nat} {d : Nat → Nat} (H : Reads w v n d) (hn : n ≤ 140737488355328) :
    Calls Tryz.prog 142 #[v] w fun e w' => ∃ v', e = .returned v' ∧ w'.ownsRow w.heap.size 5 1 v' n (bytesL n d) ∧ Below w.heap.size w w' := by
 obtain ⟨a, c, rfl, h⟩ := H
 cases a with
 | none =>
  rcases h with ⟨rfl, h⟩ | ⟨b, off, h, _⟩
  ·rw [h rfl]
   refine (clone_nil w).mono ?_
   rintro e w' ⟨rfl, rfl⟩
   exact ⟨_, rfl, World.ownsRow_nil _ _ _ _, Below.refl _ _⟩
  ·cases h
 | some a =>
  rcases h with ⟨rfl, h⟩ | ⟨b, off, h, _, hc⟩
  ·exact clone_some w a 0 c d hn (fun i hi => by omega)
  ·cases h
   exact clone_some w ⟨b, off, none⟩ n c d hn (fun i hi => by rw [Go.WideShapes.add_plain]; exact hc i hi)
end Go.Proofs.YtmpcafdgkbpneaaGreat.Ide

/- ide: reset, Line, check, a sector, begin. -/
namespace Go.Proofs.YtmpcafdgkbpneaaGreat.Ide
open Go.RowKit
set_option linter.unusedVariables false

theorem Dk.fresh_ok {S : Dk} (h : S.ok) : S.fresh.ok :=
 {h with r := (by unfold Dk.fresh; repeat (first | exact h.r | (refine upd_lt ?_ _ _ (by decide)))), done := (by show (0 : Nat) ≤ 512; decide), mode := (by show (0 : Nat) < 4; decide) }
theorem Dk.fresh_eq (S : Dk) : S.fresh = (((((((((((S.setR 0 0).setR 1 1).setR 2 1).setR 3 1).setR 4 0).setR 5 0).setR 6 0).setMode 0).setDone 0).setMark false).setFailed false) := by
 simp only [Dk.setR, Dk.setMode, Dk.setDone, Dk.setMark, Dk.setFailed, Dk.fresh]
theorem reset_in {w : World} {b : Nat} {ds lv : Value} {D : Dk} (H : IdeIn 218 w b ds lv D) :
    Calls Tryz.prog 131 #[.pointer (some ⟨b, 0, none⟩)] w fun e w' => e = .returned (.tuple #[]) ∧ IdeIn 218 w' b ds lv D.fresh ∧ Keeps (· = b) w w' := by
 obtain ⟨-, k1, k2, k3, k4, k5, k6, k7, -, k9, k10, k11, k12, -, kf, klt⟩ := H.facts
 have HH := Lib.hid H
 clear H
 go_enter Tryz.func131, Tryz.ntmps131
 go_wp2_with fail
 go_end0
 have B1 := Blk.reg (Blk.of HH.out) 0 0 0 rfl (by decide)
 have B2 := Blk.reg B1 1 1 1 rfl (by decide)
 have B3 := Blk.reg B2 2 1 1 rfl (by decide)
 have B4 := Blk.reg B3 3 1 1 rfl (by decide)
 have B5 := Blk.reg B4 4 0 0 rfl (by decide)
 have B6 := Blk.reg B5 5 0 0 rfl (by decide)
 have B7 := Blk.reg B6 6 0 0 rfl (by decide)
 have B8 := Blk.failed (Blk.mark (Blk.done (Blk.mode B7 0 0 rfl) 0 0 rfl) false) false
 rw [← Dk.fresh_eq] at B8
 refine ⟨rfl, turned HH.out B8 ?_ (Dk.fresh_ok HH.out.ok) rfl rfl rfl⟩
 (repeat' (first | (with_reducible exact Keeps.refl _ _) | (with_reducible refine Keeps.setOne ?_ _ _)))
def Dk.line (S : Dk) : Bool := S.mark && (S.c / 2 % 2 == 0)
theorem line_in {w : World} {b : Nat} {ds lv : Value} {D : Dk} (H : IdeIn 218 w b ds lv D) :
    Calls Tryz.prog 135 #[.pointer (some ⟨b, 0, none⟩)] w fun e w' => e = .returned (.bool D.line) ∧ w = w' := by
 obtain ⟨-, -, -, -, -, -, -, -, k8, -, -, k11, -⟩ := H.facts
 have hb := quiet_bits D.c H.ok.c
 cases hm : D.mark
 all_goals
  rw [hm] at k11
  have HM := Lib.hid hm
  clear hm
  go_enter Tryz.func135, Tryz.ntmps135
  go_wp2_with fail
  go_ret
  exact ⟨by unfold Dk.line; rw [HM.out]; rfl, rfl⟩
end Go.Proofs.YtmpcafdgkbpneaaGreat.Ide

/- ide: begin. -/
namespace Go.Proofs.YtmpcafdgkbpneaaGreat.Ide
open Go.RowKit
set_option linter.unusedVariables false

end Go.Proofs.YtmpcafdgkbpneaaGreat.Ide

/- ide: a command. -/
namespace Go.Proofs.YtmpcafdgkbpneaaGreat.Ide
open Go.RowKit
set_option linter.unusedVariables false

theorem wpList_build_eq {ops : Array Oper} {rest : List Oper} {o : Oper} {a : Act} {w : World} {Q : Exit → Act → World → Prop} (hg : o.guard = none) (t : TypeId) (parts : Array (Nat × Operand)) (ho : o.op = .build t parts) (cells : Array Value)
    (hc : Tryz.prog.built t (parts.map fun (i, x) => (i, a.eval x)).toList = some cells) (h : wpList Tryz.prog ops Q rest (a.put o.dst (.agg cells)) w) : wpList Tryz.prog ops Q (o :: rest) a w :=
 wpList_build hg t parts ho (by rw [hc]; rfl) (by rw [hc]; exact h)
section
variable {w : World} {b : Nat} {ds lv : Value} {D : Dk}
end
end Go.Proofs.YtmpcafdgkbpneaaGreat.Ide

/- ide: behind a sector. -/
namespace Go.Proofs.YtmpcafdgkbpneaaGreat.Ide
open Go.RowKit
set_option linter.unusedVariables false

section
variable {w : World} {b : Nat} {ds lv : Value} {D : Dk}
end
end Go.Proofs.YtmpcafdgkbpneaaGreat.Ide

/- ide: a byte of the data is taken, or given. -/
namespace Go.Proofs.YtmpcafdgkbpneaaGreat.Ide
open Go.RowKit
set_option linter.unusedVariables false

theorem room_fresh (S : Dk) : S.fresh.room := fun h => absurd rfl h
section
variable {w : World} {b : Nat} {ds lv : Value} {D : Dk}
theorem row_slice {w : World} {B : Nat} {E : TypeId} {s n : Nat} {v : Value} {xs : List Value} (h : w.ownsRow B E s v n xs) : ∃ a m c, v = .slice a m c := by
 rcases h.2 with ⟨h, _⟩ | ⟨g, cap, cur, h, _⟩
 ·exact ⟨_, _, _, h⟩
 ·exact ⟨_, _, _, h⟩
end
end Go.Proofs.YtmpcafdgkbpneaaGreat.Ide

/- ide: a byte is given; a disk in its blocks; Out, In. -/
namespace Go.Proofs.YtmpcafdgkbpneaaGreat.Ide
open Go.RowKit
set_option linter.unusedVariables false

section
variable {w : World} {b : Nat} {ds lv : Value} {D : Dk}
end
end Go.Proofs.YtmpcafdgkbpneaaGreat.Ide

/- ide: Out. -/
namespace Go.Proofs.YtmpcafdgkbpneaaGreat.Ide
open Go.RowKit
set_option linter.unusedVariables false

def Went (w : World) (b : Nat) (ds lv : Value) (D : Dk) (wr : World) : Prop :=
 ∃ lv', IdeIn 218 wr b ds lv' D ∧ Keeps (Held b ds lv) w wr ∧ ∀ k, lv'.ownBlock = some k → lv.ownBlock = some k ∨ w.heap.size ≤ k
theorem Went.of {w wr : World} {b : Nat} {ds lv : Value} {D : Dk} (H : IdeIn 218 wr b ds lv D) (K : Keeps (· = b) w wr) : Went w b ds lv D wr := ⟨lv, H, K.mono fun k _ h => Or.inl h, fun k h => .inl h⟩
section
variable {w : World} {b : Nat} {ds lv : Value} {D : Dk}
end
end Go.Proofs.YtmpcafdgkbpneaaGreat.Ide

/- ide: In. -/
namespace Go.Proofs.YtmpcafdgkbpneaaGreat.Ide
open Go.RowKit
set_option linter.unusedVariables false

section
variable {w : World} {b : Nat} {ds lv : Value} {D : Dk}
end
end Go.Proofs.YtmpcafdgkbpneaaGreat.Ide

/- ide: New, Written, Disk. -/
namespace Go.Proofs.YtmpcafdgkbpneaaGreat.Ide
open Go.RowKit
set_option linter.unusedVariables false

def Dk.made (n : Nat) (d : Nat → Nat) : Dk := ⟨n, d, fun _ => 0, 0, fun _ => 0, 0, 0, false, false, []⟩
theorem Dk.made_ok {n : Nat} {d : Nat → Nat} (hn : n ≤ 64) (hd : ∀ i, d i < 256) : (Dk.made n d).ok :=
 ⟨hn, hd, fun _ => (by show (0 : Nat) < 256; decide), (by show (0 : Nat) < 256; decide), fun _ => (by show (0 : Nat) < 256; decide), (by show (0 : Nat) ≤ 512; decide), (by show (0 : Nat) < 4; decide), fun x hx => by cases hx⟩
def blank : Dk := Dk.made 0 fun _ => 0
set_option maxRecDepth 100000 in
theorem built_new (a : Option Addr) (m c : Nat) : Tryz.prog.built 218 [(0, .slice a m c)] = some (blank.cells (.slice a m c) (.slice none 0 0)) := by kernel_rfl
def Dk.new (n : Nat) (d : Nat → Nat) : Dk := (Dk.made n d).fresh
theorem new_yes {w : World} {v : Value} {n : Nat} {d : Nat → Nat} (H : Reads w v (n * 512) d) (hn : n ≤ 64) (hd : ∀ i, d i < 256) :
    Calls Tryz.prog 74 #[v] w fun e w' => ∃ b ds, e = .returned (.tuple #[.pointer (some ⟨b, 0, none⟩), .int .i64 0]) ∧ IdeIn 218 w' b ds (.slice none 0 0) (Dk.new n d) ∧ w.heap.size ≤ b ∧ (∀ k, ds.ownBlock = some k → w.heap.size ≤ k) ∧ Below w.heap.size w w' := by
 have HC := Lib.hid (clone_any H (by omega))
 obtain ⟨a, c, rfl, hx⟩ := H
 clear hx
 have q1 : ((n * 512 : Nat) : Int) % 512 = 0 := by omega
 have q2 : ((n * 512 : Nat) : Int) ≤ 32768 := by omega
 obtain ⟨L, hL⟩ : ∃ L, L = n * 512 := ⟨_, rfl⟩
 rw [← hL] at q1 q2 HC ⊢
 have HL := Lib.hid hL
 clear hL hn
 go_enter Tryz.func74, Tryz.ntmps74
 go_wp2_with fail
 refine HC.out.mono ?_
 rintro e w1 ⟨ds, rfl, hown, hb⟩
 obtain ⟨a', m', c', rfl⟩ := row_slice hown
 have HW := Lib.hid hown
 clear hown
 go_wp2_with ((refine wpList_build_eq (o := ⟨some 16, _, _, _, _, _⟩) ?hg0 218 ?pt0 ?ho0 (blank.cells (.slice a' m' c') (.slice none 0 0)) ?hb0 ?_); (case ho0 => rfl); (case hg0 => rfl); (case hb0 => (simp only [List.map_toArray, List.map_cons, List.map_nil]; exact built_new a' m' c')))
 have H1 : IdeIn 218 (w1.alloc (.cells (blank.cells (.slice a' m' c') (.slice none 0 0)) 218)) w1.heap.size (.slice a' m' c') (.slice none 0 0) (Dk.made n d) := by
  have hlt := World.ownsRow.lt HW.out
  refine { obj := heap_new w1 _, disk := ?_, log := World.ownsRow_nil _ _ _ _, d1 := fun e => ?_, d2 := (fun e => by cases e), d3 := (fun k _ e => by cases e), ok := Dk.made_ok (by have := HL.out; omega) hd }
  ·have hr := row_base HW.out
   rw [HL.out] at hr
   exact hr.alloc _
  ·exact Nat.lt_irrefl _ (hlt _ e).2
 have HH1 := Lib.hid H1
 clear H1
 refine (reset_in HH1.out).mono ?_
 rintro e w2 ⟨rfl, H2, K2⟩
 have HH2 := Lib.hid H2
 clear H2
 go_wp2_with fail
 go_ret2
 refine ⟨w1.heap.size, .slice a' m' c', rfl, HH2.out, hb.size, fun k hk => (World.ownsRow.lt HW.out k hk).1, ?_⟩
 exact Keeps.toBelow (hb.alloc hb.size _) K2 (by simp; have := hb.size; omega) (fun i h => by rw [h]; exact hb.size)
section
variable {w : World} {b : Nat} {ds lv : Value} {D : Dk}
theorem reads_row {w : World} {v : Value} {n : Nat} {d : Nat → Nat} {B : Nat} (h : w.ownsRow B 5 1 v n (bytesL n d)) : Reads w v n d := by
 rcases h.2 with ⟨rfl, rfl⟩ | ⟨g, cap, cur, rfl, _, hg, h1, h2, h3, h4⟩
 ·exact ⟨none, 0, rfl, .inl ⟨rfl, fun _ => rfl⟩⟩
 ·rw [Nat.mul_one] at h4
  exact ⟨_, _, rfl, .inr ⟨g, 0, rfl, heap_lt hg, fun i hi => by rw [cell_at hg, Nat.zero_add]; exact take_at h4 hi⟩⟩
end
end Go.Proofs.YtmpcafdgkbpneaaGreat.Ide

/- ide's laws: a disk's bytes; a command at a place; two lists. -/
namespace Go.Proofs.YtmpcafdgkbpneaaGreat.Ide
open Go.RowKit
set_option linter.unusedVariables false

def fresh (n : Nat) (z : Value) : Array Value := Array.replicate n z
theorem made_fresh (z : Value) (n : Nat) (hz : z.cells = #[z]) : madeCells z.cells (n * 1) = fresh n z := by
 rw [hz]
 apply Array.ext_getElem?
 intro j
 unfold madeCells fresh
 simp [Array.getElem?_replicate, Array.getElem?_map, Array.getElem?_range]
 by_cases h : j < n <;> simp [h, Nat.mod_one]
theorem make_run (w : World) (T E : TypeId) (z : Value) (bytes n : Nat) (hT : Tryz.prog.underlying T = some (.slice E)) (hi : (Tryz.prog.info? E).map (fun i => (i.zero, i.size, i.bytes)) = some (some z, 1, bytes)) (hz : z.cells = #[z])
    (hb : bytes * n ≤ 281474976710656) (hn : n ≤ 9223372036854775807) (x y : Int) (hx : x = (n : Int)) (hy : y = (n : Int)) :
    (Instr.makeSlice T (.int .i64 x) (.int .i64 y)).run Tryz.prog w = .ok (.slice (some ⟨w.heap.size, 0, .none⟩) n n) (w.alloc (.cells (fresh n z) E)) := by
 subst hx hy
 cases h : Tryz.prog.info? E with
 | none => rw [h] at hi; cases hi
 | some i =>
  rw [h] at hi
  simp only [Option.map_some, Option.some.injEq, Prod.mk.injEq] at hi
  obtain ⟨h1, h2, h3⟩ := hi
  have hb' : (i.bytes : Int) * (n : Int) ≤ 281474976710656 := by
   have : ((bytes * n : Nat) : Int) ≤ 281474976710656 := by omega
   rw [h3]; rwa [Int.natCast_mul] at this
  have := run_make (P := Tryz.prog) w T E i z hT h h1 .i64 .i64 (n : Int) (n : Int) (by omega) (Int.le_refl _) hb' (by omega)
  rw [this, h2, Int.toNat_natCast, made_fresh z n hz]
theorem make_bytes (w : World) (n : Nat) (h : n ≤ 281474976710656) (x y : Int) (hx : x = (n : Int)) (hy : y = (n : Int)) :
    (Instr.makeSlice 97 (.int .i64 x) (.int .i64 y)).run Tryz.prog w = .ok (.slice (some ⟨w.heap.size, 0, .none⟩) n n) (w.alloc (.cells (fresh n (.int .u8 0)) 5)) :=
 make_run w _ _ _ 1 n Tryz.underlying97 (by kernel_rfl) rfl (by omega) (by omega) x y hx hy

def dsk (seed i : Nat) : Nat := ((i / 512 + 1) * 16 + i % 7 + seed) % 256
theorem dsk_lt (seed i : Nat) : dsk seed i < 256 := Nat.mod_lt _ (by decide)
def dskCells (m seed k : Nat) : Array Value := Array.ofFn (n := m) fun i => .int .u8 ((if i.val < k then dsk seed i.val else 0 : Nat) : Int)
theorem dsk_zero (m seed : Nat) : fresh m (.int .u8 0) = dskCells m seed 0 := by
 apply Array.ext_getElem?
 intro j
 unfold dskCells fresh
 rw [Array.getElem?_replicate, Array.getElem?_ofFn]
 by_cases h : j < m <;> simp [h]
theorem dsk_set (m seed k : Nat) (hk : k < m) : (dskCells m seed k).setIfInBounds k (.int .u8 (dsk seed k : Nat)) = dskCells m seed (k + 1) := by
 unfold dskCells
 rw [ofFn_set m (fun i => .int .u8 ((if i < k then dsk seed i else 0 : Nat) : Int)) k]
 refine ofFn_ext (f := fun i => if i = k then .int .u8 (dsk seed k : Nat) else .int .u8 ((if i < k then dsk seed i else 0 : Nat) : Int)) (g := fun i => .int .u8 ((if i < k + 1 then dsk seed i else 0 : Nat) : Int)) fun i hi => ?_
 by_cases e : i = k
 ·subst e; rw [if_pos rfl, if_pos (Nat.lt_succ_self _)]
 ·rw [if_neg e]
  by_cases h : i < k
  ·rw [if_pos h, if_pos (by omega)]
  ·rw [if_neg h, if_neg (by omega)]
theorem dsk_full (m seed : Nat) : (dskCells m seed m).toList = bytesL m (dsk seed) := by
 apply List.ext_getElem?
 intro j
 rw [Array.getElem?_toList]
 unfold dskCells
 rw [Array.getElem?_ofFn]
 by_cases h : j < m
 ·rw [dif_pos h, bytesL_at _ _ _ h]; show some (Value.int .u8 ((if j < m then dsk seed j else 0 : Nat) : Int)) = _; rw [if_pos h]
 ·rw [dif_neg h, bytesL_no _ _ _ (by omega)]
theorem dsk_cell {w : World} {g m seed k i : Nat} {T : TypeId} (h : w.heap[g]? = some (.cells (dskCells m seed k) T)) (hi : i < m) : ∃ x, w.cell? ⟨g, i, none⟩ = some (.int .u8 x) := by
 rw [cell_at h]; unfold dskCells; rw [Array.getElem?_ofFn, dif_pos hi]; exact ⟨_, rfl⟩
def secs (s : Int) : Nat := ((if s < 0 then -(s + 1) else s) % 5).toNat
theorem secs_lt (s : Int) : secs s < 5 := by unfold secs; omega
theorem lawdisk_any (s : Int) (h0 : -9223372036854775808 ≤ s) (h1 : s ≤ 9223372036854775807) (seed : Nat) (hs : seed < 256) (w : World) :
    Calls Tryz.prog 39 #[.int .i64 s, .int .u8 seed] w fun e w' => ∃ v, e = .returned v ∧ w'.ownsRow w.heap.size 5 1 v (secs s * 512) (bytesL (secs s * 512) (dsk seed)) ∧ Below w.heap.size w w' := by
 obtain ⟨n, hn⟩ : ∃ n, n = secs s := ⟨_, rfl⟩
 rw [← hn]
 have hn5 : n < 5 := by rw [hn]; exact secs_lt s
 have HN := Lib.hid hn
 have main : ∀ t : Int, (t = if s < 0 then -(s + 1) else s) → 0 ≤ t ∧ t % 5 = (n : Int) := fun t ht => by
  have := HN.out
  unfold secs at this
  rw [← ht] at this
  by_cases h : s < 0
  ·rw [if_pos h] at ht; omega
  ·rw [if_neg h] at ht; omega
 have HM := Lib.hid main
 obtain ⟨m, hm⟩ : ∃ m, m = n * 512 := ⟨_, rfl⟩
 rw [← hm]
 have hm2 : m ≤ 2048 := by omega
 have HMM := Lib.hid hm
 clear hn main hm
 go_enter Tryz.func39, Tryz.ntmps39
 go_upto_if 8 with (fail)
 go_cut [0] from 7 (fun x wc => ∃ t : Int, x = .int .i64 t ∧ (0 ≤ t ∧ t % 5 = (n : Int)) ∧ w = wc)
 case first =>
  by_cases hneg : s < 0
  ·have q : 0 ≤ -(s + 1) := by omega
   go_wp2_with fail
   go_meet
   exact ⟨_, rfl, HM.out _ (if_pos hneg).symm, rfl⟩
  ·go_wp2_with fail
   go_meet
   exact ⟨_, rfl, HM.out _ (if_neg (by omega)).symm, rfl⟩
 case rest =>
  obtain ⟨t, rfl, ⟨t0, t5⟩, rfl⟩ := hcut
  have hq : t % 5 * 512 = (m : Int) := by have := HMM.out; omega
  have hmk := make_bytes w m (by omega) (t % 5 * 512) (t % 5 * 512) hq hq
  clear hq t5 h0 h1 hn5
  go_wp2_with fail
  have HS0 := Lib.hid (dsk_zero m seed)
  rw [HS0.out]
  clear hmk
  go_loopw [6] (fun i wr => ∃ k : Nat, k ≤ m ∧ i = .int .i64 k ∧ wr.heap[w.heap.size]? = some (.cells (dskCells m seed k) 5) ∧ Below w.heap.size w wr) (fun i _ => m - (intOf i).toNat)
  case atStart => exact ⟨0, by omega, rfl, heap_new w _, (Below.refl _ _).alloc (Nat.le_refl _) _⟩
  case round =>
   obtain ⟨k, hk, rfl, hg, hB⟩ := hrel
   have hfz : ∀ j, wr.frozen? ⟨w.heap.size, j, none⟩ = false := fun j => free_at hg
   have hl := heap_lt hg
   by_cases hlt : k < m
   ·obtain ⟨x, hx⟩ := dsk_cell hg hlt
    have HG := Lib.hid hg
    have q1 : (0 : Int) ≤ (k : Int) := by omega
    have q2 : (k : Int) < (m : Int) := by omega
    have q3 : (k : Int) < 2048 := by omega
    clear hg
    go_wp2_with fail
    go_roundw
    case rel =>
     refine ⟨k + 1, by omega, by go_num, ?_, hB.setCell (Nat.le_refl _) _⟩
     rw [← dsk_set m seed k hlt]
     have := heap_set_same (.int .u8 (dsk seed k : Nat)) (k := k) HG.out
     trace_state
     exact this
    case measure => (simp [intOf]) <;> omega
   ·have hk2 : k = m := by omega
    have HK := Lib.hid hk2
    have HG := Lib.hid hg
    clear hk2 hg
    go_wp2_with fail
    go_ret
    have hg2 := HG.out
    rw [HK.out] at hg2
    refine ⟨_, rfl, ⟨by rw [bytesL_len]; omega, .inr ⟨w.heap.size, m, _, rfl, Nat.le_refl _, hg2, Nat.le_refl _, by unfold maxLen; omega, ?_, ?_⟩⟩, hB⟩
    ·unfold dskCells; rw [Array.size_ofFn]; omega
    ·rw [dsk_full, Nat.mul_one, List.take_of_length_le (by rw [bytesL_len]; exact Nat.le_refl _)]
end Go.Proofs.YtmpcafdgkbpneaaGreat.Ide

/- ide: any write and any read of a register, as one; a disk that a law has made. -/
namespace Go.Proofs.YtmpcafdgkbpneaaGreat.Ide
open Go.RowKit
set_option linter.unusedVariables false

section
variable {w : World} {b : Nat} {ds lv : Value} {D : Dk}
end

section
variable {w0 w w' : World} {b : Nat} {D : Dk}
end
end Go.Proofs.YtmpcafdgkbpneaaGreat.Ide

