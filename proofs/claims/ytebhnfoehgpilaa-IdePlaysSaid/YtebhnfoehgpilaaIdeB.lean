/- ide: the disk as an object; its small functions. -/
import Derived.Test.YtebhnfoehgpilaaIdeA
import Derived.Test.YtebhnfoehgpilaaRows
import Derived.Test.YtebhnfoehgpilaaIn
import Derived.BigRegion
import Derived.Deep.RegionWith
import Derived.Deep.RegionHeld3
import Derived.Deep.Cut
import Derived.Lib.Hide
import Derived.Laws.BitsAll
import Derived.Deep.QuietTactic
import Derived.BigQuiet
import Derived.Maps.AppendAt
namespace Go.Proofs.Ytebhnfoehgpilaa
open Go.RowKit
set_option linter.unusedVariables false

def bytesL (n : Nat) (d : Nat → Nat) : List Value := (List.range n).map fun i => .int .u8 (d i : Nat)
theorem bytesL_len (n : Nat) (d : Nat → Nat) : (bytesL n d).length = n := by unfold bytesL; simp
theorem bytesL_at (n : Nat) (d : Nat → Nat) (i : Nat) (h : i < n) : (bytesL n d)[i]? = some (.int .u8 (d i : Nat)) := by unfold bytesL; simp [h]
theorem bytesL_no (n : Nat) (d : Nat → Nat) (i : Nat) (h : n ≤ i) : (bytesL n d)[i]? = none := by rw [List.getElem?_eq_none]; rw [bytesL_len]; exact h
theorem bytesL_one (n : Nat) (d : Nat → Nat) : ∀ v ∈ bytesL n d, v.oneCell' = true := by
  intro v hv
  unfold bytesL at hv
  obtain ⟨j, _, rfl⟩ := List.mem_map.1 hv
  rfl
theorem bytesL_some {n : Nat} {d : Nat → Nat} {j : Nat} {v : Value} (h : (bytesL n d)[j]? = some v) : j < n ∧ v = .int .u8 (d j : Nat) := by
  have hj : j < n := by have := (List.getElem?_eq_some_iff.1 h).1; rwa [bytesL_len] at this
  rw [bytesL_at n d j hj] at h
  exact ⟨hj, (Option.some.inj h).symm⟩
theorem bytesL_ext {n : Nat} {d e : Nat → Nat} (h : ∀ i, i < n → d i = e i) : bytesL n d = bytesL n e := by
  unfold bytesL
  refine List.map_congr_left fun i hi => ?_
  rw [h i (by simpa using hi)]
/-- A disk's bytes. -/
def Bytes (w : World) (ds : Value) (n : Nat) (d : Nat → Nat) : Prop := w.ownsRow 0 5 1 ds (n * 512) (bytesL (n * 512) d)
structure IdeIn (T : TypeId) (w : World) (b : Nat) (ds lv : Value) (D : Dk) : Prop where
  obj : w.heap[b]? = some (.cells (D.cells ds lv) T)
  disk : Bytes w ds D.n D.d
  log : w.ownsRow 0 3 1 lv D.log.length (D.log.map fun p => Value.int .i64 (p : Nat))
  d1 : ds.ownBlock ≠ some b
  d2 : lv.ownBlock ≠ some b
  d3 : ∀ k, ds.ownBlock = some k → lv.ownBlock ≠ some k
  ok : D.ok
def Held (b : Nat) (ds lv : Value) (k : Nat) : Prop := k = b ∨ ds.ownBlock = some k ∨ lv.ownBlock = some k
/-- Block b is a disk D, that lies in the blocks S. -/
def Ide (T : TypeId) (w : World) (b : Nat) (S : Nat → Prop) (D : Dk) : Prop := ∃ ds lv, IdeIn T w b ds lv D ∧ ∀ k, S k ↔ Held b ds lv k

section
variable {T : TypeId} {w w' : World} {b : Nat} {ds lv : Value} {D : Dk}
theorem row_of_heap {B : Nat} {E : TypeId} {s n : Nat} {v : Value} {xs : List Value} (h : w.ownsRow B E s v n xs) (hh : ∀ k, v.ownBlock = some k → w'.heap[k]? = w.heap[k]?) : w'.ownsRow B E s v n xs := by
  refine ⟨h.1, ?_⟩
  rcases h.2 with h2 | ⟨g, cap, cur, rfl, hb, hg, r⟩
  · exact .inl h2
  · exact .inr ⟨g, cap, cur, rfl, hb, by rw [hh g rfl]; exact hg, r⟩
theorem row_base {B : Nat} {E : TypeId} {s n : Nat} {v : Value} {xs : List Value} (h : w.ownsRow B E s v n xs) : w.ownsRow 0 E s v n xs := by
  refine ⟨h.1, ?_⟩
  rcases h.2 with h2 | ⟨g, cap, cur, rfl, hb, r⟩
  · exact .inl h2
  · exact .inr ⟨g, cap, cur, rfl, Nat.zero_le _, r⟩
theorem Bytes.lt {n : Nat} {d : Nat → Nat} (h : Bytes w ds n d) {k : Nat} (hk : ds.ownBlock = some k) : k < w.heap.size := (World.ownsRow.lt h k hk).2
theorem Bytes.of_heap {n : Nat} {d : Nat → Nat} (h : Bytes w ds n d) (hh : ∀ k, ds.ownBlock = some k → w'.heap[k]? = w.heap[k]?) : Bytes w' ds n d := row_of_heap h hh
/-- A disk with a sector, at least, is a block. -/
theorem Bytes.open {n : Nat} {d : Nat → Nat} (h : Bytes w ds n d) (h0 : 0 < n) : ∃ g cap cur, ds = .slice (some ⟨g, 0, none⟩) (n * 512) cap ∧ w.heap[g]? = some (.cells cur 5) ∧ n * 512 ≤ cap ∧ cap ≤ 9223372036854775807 ∧ cur.size = cap ∧ cur.toList.take (n * 512) = bytesL (n * 512) d := by
  rcases h.2 with ⟨_, h2⟩ | ⟨g, cap, cur, rfl, _, hg, h1, h2, h3, h4⟩
  · omega
  · unfold maxLen at h2
    exact ⟨g, cap, cur, rfl, hg, h1, h2, by omega, by simpa using h4⟩
theorem Bytes.len {n : Nat} {d : Nat → Nat} (h : Bytes w ds n d) : ∃ a cap, ds = .slice a (n * 512) cap := by
  rcases h.2 with ⟨h1, h2⟩ | ⟨g, cap, cur, rfl, _⟩
  · exact ⟨none, 0, by rw [h1, h2]⟩
  · exact ⟨_, _, rfl⟩
theorem take_at {cur : Array Value} {m : Nat} {d : Nat → Nat} (h : cur.toList.take m = bytesL m d) {i : Nat} (hi : i < m) : cur[i]? = some (.int .u8 (d i : Nat)) := by
  have e : cur.toList[i]? = (bytesL m d)[i]? := by rw [← h, List.getElem?_take_of_lt hi]
  rw [bytesL_at m d i hi] at e
  simpa using e
theorem Held.lt (H : IdeIn T w b ds lv D) {k : Nat} (h : Held b ds lv k) : k < w.heap.size := by
  rcases h with rfl | h | h
  · exact heap_lt H.obj
  · exact H.disk.lt h
  · exact (H.log.lt k h).2
theorem IdeIn.of_heap (H : IdeIn T w b ds lv D) (h : ∀ k, Held b ds lv k → w'.heap[k]? = w.heap[k]?) : IdeIn T w' b ds lv D :=
  { H with
    obj := by rw [h b (.inl rfl)]; exact H.obj
    disk := H.disk.of_heap fun k hk => h k (.inr (.inl hk))
    log := row_of_heap H.log fun k hk => h k (.inr (.inr hk)) }
theorem IdeIn.keeps {S : Nat → Prop} (H : IdeIn T w b ds lv D) (hk : Keeps S w w') (hn : ∀ k, Held b ds lv k → ¬ S k) : IdeIn T w' b ds lv D := H.of_heap fun k h => hk.block k (h.lt H) (hn k h)
theorem IdeIn.drewN (H : IdeIn T w b ds lv D) (n : Nat) : IdeIn T (w.drewN n) b ds lv D := H.of_heap fun _ _ => rfl
/-- The object's own block alone turns. -/
theorem IdeIn.turn (H : IdeIn T w b ds lv D) {D' : Dk} (ho : w'.heap[b]? = some (.cells (D'.cells ds lv) T)) (hk : Keeps (· = b) w w') (ok : D'.ok) (h1 : D'.n = D.n) (h2 : D'.d = D.d) (h3 : D'.log = D.log) : IdeIn T w' b ds lv D' where
  obj := ho
  disk := by rw [h1, h2]; exact H.disk.of_heap fun k hk' => hk.block k (H.disk.lt hk') (fun e => H.d1 (by rw [← e]; exact hk'))
  log := by rw [h3]; exact row_of_heap H.log fun k hk' => hk.block k (H.log.lt k hk').2 (fun e => H.d2 (by rw [← e]; exact hk'))
  d1 := H.d1
  d2 := H.d2
  d3 := H.d3
  ok := ok
theorem IdeIn.cell (H : IdeIn T w b ds lv D) (i : Nat) (h : i < 526) : w.cell? ⟨b, i, none⟩ = some (D.cell ds lv i) := by rw [cell_at H.obj, D.at ds lv i h]
theorem IdeIn.reg (H : IdeIn T w b ds lv D) (k : Nat) (h : k < 7) : w.cell? ⟨b, 1 + k, none⟩ = some (.int .u8 (D.r k : Nat)) := by rw [H.cell _ (by omega), D.cell_r _ _ k h]
theorem IdeIn.buf (H : IdeIn T w b ds lv D) (k : Nat) (h : k < 512) : w.cell? ⟨b, 9 + k, none⟩ = some (.int .u8 (D.buf k : Nat)) := by rw [H.cell _ (by omega), D.cell_buf _ _ k h]
theorem IdeIn.facts (H : IdeIn T w b ds lv D) :
    w.cell? ⟨b, 0, none⟩ = some ds ∧ w.cell? ⟨b, 1, none⟩ = some (.int .u8 (D.r 0 : Nat)) ∧ w.cell? ⟨b, 2, none⟩ = some (.int .u8 (D.r 1 : Nat)) ∧ w.cell? ⟨b, 3, none⟩ = some (.int .u8 (D.r 2 : Nat)) ∧
    w.cell? ⟨b, 4, none⟩ = some (.int .u8 (D.r 3 : Nat)) ∧ w.cell? ⟨b, 5, none⟩ = some (.int .u8 (D.r 4 : Nat)) ∧ w.cell? ⟨b, 6, none⟩ = some (.int .u8 (D.r 5 : Nat)) ∧ w.cell? ⟨b, 7, none⟩ = some (.int .u8 (D.r 6 : Nat)) ∧
    w.cell? ⟨b, 8, none⟩ = some (.int .u8 (D.c : Nat)) ∧ w.cell? ⟨b, 521, none⟩ = some (.int .i64 (D.done : Nat)) ∧ w.cell? ⟨b, 522, none⟩ = some (.int .i64 (D.mode : Nat)) ∧
    w.cell? ⟨b, 523, none⟩ = some (.bool D.mark) ∧ w.cell? ⟨b, 524, none⟩ = some (.bool D.failed) ∧ w.cell? ⟨b, 525, none⟩ = some lv ∧ (∀ k, w.frozen? ⟨b, k, none⟩ = false) ∧ b < w.heap.size :=
  ⟨H.cell 0 (by decide), H.reg 0 (by decide), H.reg 1 (by decide), H.reg 2 (by decide), H.reg 3 (by decide), H.reg 4 (by decide), H.reg 5 (by decide), H.reg 6 (by decide), H.cell 8 (by decide), H.cell 521 (by decide), H.cell 522 (by decide),
    H.cell 523 (by decide), H.cell 524 (by decide), H.cell 525 (by decide), fun k => free_at H.obj, heap_lt H.obj⟩
end

/-- The object's block alone. -/
def Blk (T : TypeId) (w : World) (b : Nat) (ds lv : Value) (D : Dk) : Prop := w.heap[b]? = some (.cells (D.cells ds lv) T)
section
variable {T : TypeId} {w : World} {b : Nat} {ds lv : Value} {D : Dk}
theorem Blk.reg (h : Blk T w b ds lv D) (k v : Nat) (x : Int) (hx : x = (v : Nat)) (hk : k < 7) : Blk T (w.setCell ⟨b, k + 1, none⟩ (.int .u8 x)) b ds lv (D.setR k v) := by
  unfold Blk at h ⊢; rw [heap_set_same _ h, D.put_r ds lv k v x hx hk]
theorem Blk.ctl (h : Blk T w b ds lv D) (v : Nat) (x : Int) (hx : x = (v : Nat)) : Blk T (w.setCell ⟨b, 8, none⟩ (.int .u8 x)) b ds lv (D.setC v) := by
  unfold Blk at h ⊢; rw [heap_set_same _ h, D.put_c ds lv v x hx]
theorem Blk.buf (h : Blk T w b ds lv D) (k v : Nat) (x : Int) (hx : x = (v : Nat)) (hk : k < 512) : Blk T (w.setCell ⟨b, 9 + k, none⟩ (.int .u8 x)) b ds lv (D.setBuf k v) := by
  unfold Blk at h ⊢; rw [heap_set_same _ h, Nat.add_comm 9 k, D.put_buf ds lv k v x hx hk]
theorem Blk.done (h : Blk T w b ds lv D) (v : Nat) (x : Int) (hx : x = (v : Nat)) : Blk T (w.setCell ⟨b, 521, none⟩ (.int .i64 x)) b ds lv (D.setDone v) := by
  unfold Blk at h ⊢; rw [heap_set_same _ h, D.put_done ds lv v x hx]
theorem Blk.mode (h : Blk T w b ds lv D) (v : Nat) (x : Int) (hx : x = (v : Nat)) : Blk T (w.setCell ⟨b, 522, none⟩ (.int .i64 x)) b ds lv (D.setMode v) := by
  unfold Blk at h ⊢; rw [heap_set_same _ h, D.put_mode ds lv v x hx]
theorem Blk.mark (h : Blk T w b ds lv D) (v : Bool) : Blk T (w.setCell ⟨b, 523, none⟩ (.bool v)) b ds lv (D.setMark v) := by
  unfold Blk at h ⊢; rw [heap_set_same _ h, D.put_mark ds lv v]
theorem Blk.failed (h : Blk T w b ds lv D) (v : Bool) : Blk T (w.setCell ⟨b, 524, none⟩ (.bool v)) b ds lv (D.setFailed v) := by
  unfold Blk at h ⊢; rw [heap_set_same _ h, D.put_failed ds lv v]
end

theorem Blk.of {T : TypeId} {w : World} {b : Nat} {ds lv : Value} {D : Dk} (H : IdeIn T w b ds lv D) : Blk T w b ds lv D := H.obj
theorem turned {T : TypeId} {w w' : World} {b : Nat} {ds lv : Value} {D D' : Dk} (H : IdeIn T w b ds lv D) (ho : Blk T w' b ds lv D') (hk : Keeps (· = b) w w') (ok : D'.ok) (h1 : D'.n = D.n) (h2 : D'.d = D.d) (h3 : D'.log = D.log) :
    IdeIn T w' b ds lv D' ∧ Keeps (· = b) w w' := ⟨H.turn ho hk ok h1 h2 h3, hk⟩
theorem upd_lt {f : Nat → Nat} {B : Nat} (h : ∀ i, f i < B) (k v : Nat) (hv : v < B) : ∀ i, upd f k v i < B := fun i => by
  unfold upd; split
  · exact hv
  · exact h i
theorem Dk.fail_ok {S : Dk} (h : S.ok) (e : Nat) (he : e < 256) : (S.fail e).ok :=
  { h with r := upd_lt h.r 1 e he, mode := (by show (0 : Nat) < 4; decide) }

theorem Blk.cell {T : TypeId} {w : World} {b : Nat} {ds lv : Value} {D : Dk} (H : Blk T w b ds lv D) (i : Nat) (h : i < 526) : w.cell? ⟨b, i, none⟩ = some (D.cell ds lv i) := by rw [cell_at H, D.at ds lv i h]
theorem Blk.rcell {T : TypeId} {w : World} {b : Nat} {ds lv : Value} {D : Dk} (H : Blk T w b ds lv D) (k : Nat) (h : k < 7) : w.cell? ⟨b, 1 + k, none⟩ = some (.int .u8 (D.r k : Nat)) := by rw [H.cell _ (by omega), D.cell_r _ _ k h]
theorem Blk.bcell {T : TypeId} {w : World} {b : Nat} {ds lv : Value} {D : Dk} (H : Blk T w b ds lv D) (k : Nat) (h : k < 512) : w.cell? ⟨b, 9 + k, none⟩ = some (.int .u8 (D.buf k : Nat)) := by rw [H.cell _ (by omega), D.cell_buf _ _ k h]
theorem Blk.facts {T : TypeId} {w : World} {b : Nat} {ds lv : Value} {D : Dk} (H : Blk T w b ds lv D) :
    w.cell? ⟨b, 0, none⟩ = some ds ∧ w.cell? ⟨b, 1, none⟩ = some (.int .u8 (D.r 0 : Nat)) ∧ w.cell? ⟨b, 2, none⟩ = some (.int .u8 (D.r 1 : Nat)) ∧ w.cell? ⟨b, 3, none⟩ = some (.int .u8 (D.r 2 : Nat)) ∧
    w.cell? ⟨b, 4, none⟩ = some (.int .u8 (D.r 3 : Nat)) ∧ w.cell? ⟨b, 5, none⟩ = some (.int .u8 (D.r 4 : Nat)) ∧ w.cell? ⟨b, 6, none⟩ = some (.int .u8 (D.r 5 : Nat)) ∧ w.cell? ⟨b, 7, none⟩ = some (.int .u8 (D.r 6 : Nat)) ∧
    w.cell? ⟨b, 8, none⟩ = some (.int .u8 (D.c : Nat)) ∧ w.cell? ⟨b, 521, none⟩ = some (.int .i64 (D.done : Nat)) ∧ w.cell? ⟨b, 522, none⟩ = some (.int .i64 (D.mode : Nat)) ∧
    w.cell? ⟨b, 523, none⟩ = some (.bool D.mark) ∧ w.cell? ⟨b, 524, none⟩ = some (.bool D.failed) ∧ w.cell? ⟨b, 525, none⟩ = some lv ∧ (∀ k, w.frozen? ⟨b, k, none⟩ = false) ∧ b < w.heap.size :=
  ⟨H.cell 0 (by decide), H.rcell 0 (by decide), H.rcell 1 (by decide), H.rcell 2 (by decide), H.rcell 3 (by decide), H.rcell 4 (by decide), H.rcell 5 (by decide), H.rcell 6 (by decide), H.cell 8 (by decide), H.cell 521 (by decide), H.cell 522 (by decide),
    H.cell 523 (by decide), H.cell 524 (by decide), H.cell 525 (by decide), fun k => free_at H, heap_lt H⟩
theorem Blk.drewN {T : TypeId} {w : World} {b : Nat} {ds lv : Value} {D : Dk} (H : Blk T w b ds lv D) (n : Nat) : Blk T (w.drewN n) b ds lv D := H

-- BITS
theorem wraps_i64 (n : Int) (h0 : 0 ≤ n) (h1 : n < 2 ^ 62) : IntKind.i64.wrap n = n := by rw [IntKind.wrap_i64]; omega
theorem or_i64 (x y : Int) (i : Nat) (h0 : 0 ≤ x) (h1 : x < 2 ^ i) (h2 : x < 2 ^ 62) (h3 : 0 ≤ y) (h4 : y % 2 ^ i = 0) (h5 : y < 2 ^ 62) : bits .or .i64 x y = x + y := by
  have hc : bits .or .i64 x y = bits .or .i64 y x := by simp only [bits, BitVec.or_comm]
  rw [hc, bits_join .i64 62 (by decide) wraps_i64 i y x h3 h4 h5 h0 h1 h2, Int.add_comm]
theorem place_bits (a b c d : Nat) (ha : a < 256) (hb : b < 256) (hc : c < 256) (hd : d < 256) :
    bits .or .i64 (bits .or .i64 (bits .or .i64 (a : Int) ((b : Int) * 256)) ((c : Int) * 65536)) ((d : Int) % 16 * 16777216) = ((a + b * 256 + c * 65536 + d % 16 * 16777216 : Nat) : Int) := by
  rw [or_i64 _ ((b : Int) * 256) 8 (by omega) (by simp only [Int.reducePow]; omega) (by simp only [Int.reducePow]; omega) (by omega) (by simp only [Int.reducePow]; omega) (by simp only [Int.reducePow]; omega),
    or_i64 _ ((c : Int) * 65536) 16 (by omega) (by simp only [Int.reducePow]; omega) (by simp only [Int.reducePow]; omega) (by omega) (by simp only [Int.reducePow]; omega) (by simp only [Int.reducePow]; omega),
    or_i64 _ ((d : Int) % 16 * 16777216) 24 (by omega) (by simp only [Int.reducePow]; omega) (by simp only [Int.reducePow]; omega) (by omega) (by simp only [Int.reducePow]; omega) (by simp only [Int.reducePow]; omega)]
  omega
theorem and_bit_u8 : ∀ x : Fin 256, (x.val &&& 16 != 0) = (x.val / 16 % 2 == 1) ∧ (x.val &&& 64 == 0) = (x.val / 64 % 2 == 0) ∧ (x.val &&& 2 == 0) = (x.val / 2 % 2 == 0) := by decide +kernel
theorem other_bits (x : Nat) (h : x < 256) : (bits .and .u8 (x : Int) 16 != 0) = (x / 16 % 2 == 1) := by
  have e : bits .and .u8 (x : Int) 16 = ((x &&& 16 : Nat) : Int) := u8_and_nat x 16 h (by decide)
  rw [e, ← (and_bit_u8 ⟨x, h⟩).1, Bool.eq_iff_iff]; simp
theorem meant_bits (x : Nat) (h : x < 256) : (bits .and .u8 (x : Int) 64 == 0) = (x / 64 % 2 == 0) := by
  have e : bits .and .u8 (x : Int) 64 = ((x &&& 64 : Nat) : Int) := u8_and_nat x 64 h (by decide)
  rw [e, ← (and_bit_u8 ⟨x, h⟩).2.1, Bool.eq_iff_iff]; simp; try omega
theorem quiet_bits (x : Nat) (h : x < 256) : (bits .and .u8 (x : Int) 2 == 0) = (x / 2 % 2 == 0) := by
  have e : bits .and .u8 (x : Int) 2 = ((x &&& 2 : Nat) : Int) := u8_and_nat x 2 h (by decide)
  rw [e, ← (and_bit_u8 ⟨x, h⟩).2.2, Bool.eq_iff_iff]; simp; try omega

set_option maxHeartbeats 1000000 in
theorem other_in {w : World} {b : Nat} {ds lv : Value} {D : Dk} (H : IdeIn 56 w b ds lv D) :
    Calls Try.prog 27 #[.pointer (some ⟨b, 0, none⟩)] w fun e w' => e = .returned (.bool D.other) ∧ w = w' := by
  obtain ⟨-, -, -, -, -, -, -, k7, -⟩ := H.facts
  have hb := other_bits (D.r 6) (H.ok.r 6)
  go_enter Try.func27, Try.ntmps27
  go_wp2_with fail
  go_ret
  exact ⟨rfl, rfl⟩
set_option maxHeartbeats 1000000 in
theorem place_in {w : World} {b : Nat} {ds lv : Value} {D : Dk} (H : IdeIn 56 w b ds lv D) :
    Calls Try.prog 37 #[.pointer (some ⟨b, 0, none⟩)] w fun e w' => e = .returned (.int .i64 (D.place : Nat)) ∧ ∃ n, w' = w.drewN n := by
  obtain ⟨-, -, -, -, k4, k5, k6, k7, -⟩ := H.facts
  have h3 := H.ok.r 3
  have h4 := H.ok.r 4
  have h5 := H.ok.r 5
  have h6 := H.ok.r 6
  have HP := Lib.hid (place_bits (D.r 3) (D.r 4) (D.r 5) (D.r 6) h3 h4 h5 h6)
  go_enter Try.func37, Try.ntmps37
  go_wp2_with fail
  go_quiet (fail)
  go_wp2_with fail
  go_ret
  exact ⟨by rw [HP.out]; rfl, _, rfl⟩
set_option maxHeartbeats 1000000 in
theorem fail_in {w : World} {b : Nat} {ds lv : Value} {D : Dk} (H : IdeIn 56 w b ds lv D) (x : Nat) (hx : x < 256) :
    Calls Try.prog 36 #[.pointer (some ⟨b, 0, none⟩), .int .u8 x] w fun e w' => e = .returned (.tuple #[]) ∧ IdeIn 56 w' b ds lv (D.fail x) ∧ Keeps (· = b) w w' := by
  obtain ⟨-, -, k2, -, -, -, -, -, -, -, k10, k11, k12, -, kf, klt⟩ := H.facts
  have HH := Lib.hid H
  clear H
  go_enter Try.func36, Try.ntmps36
  go_wp2_with fail
  go_end0
  refine ⟨rfl, turned HH.out (Blk.mark (Blk.mode (Blk.failed (Blk.reg (Blk.of HH.out) 1 x _ rfl (by decide)) true) 0 _ rfl) true) ?_ (Dk.fail_ok HH.out.ok x hx) rfl rfl rfl⟩
  (repeat' (first | (with_reducible exact Keeps.refl _ _) | (with_reducible refine Keeps.setOne ?_ _ _)))
end Go.Proofs.Ytebhnfoehgpilaa
