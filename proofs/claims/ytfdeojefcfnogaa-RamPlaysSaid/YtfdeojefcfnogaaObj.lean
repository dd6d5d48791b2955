/- Objects of a few blocks: what a call may have turned ('Keeps'), and what a block holds behind stores. -/
import Derived.WalkKit
import Derived.WalkSpells
import Derived.WalkLawsBesides
import Derived.Handy
import Derived.Below
import Derived.MapKept
namespace Go.Proofs.Ytfdeojefcfnogaa
open Go.RowKit
set_option linter.unusedVariables false

/-- Of what was there, only the blocks of S may have turned. -/
structure Keeps (S : Nat → Prop) (w w' : World) : Prop where
  os : w'.os = w.os
  tape : w'.tape = w.tape
  output : w'.output = w.output
  size : w.heap.size ≤ w'.heap.size
  block : ∀ k, k < w.heap.size → ¬ S k → w'.heap[k]? = w.heap[k]?

theorem Keeps.refl (S : Nat → Prop) (w : World) : Keeps S w w := ⟨rfl, rfl, rfl, Nat.le_refl _, fun _ _ _ => rfl⟩
theorem Keeps.trans {S : Nat → Prop} {a b c : World} (h : Keeps S a b) (k : Keeps S b c) : Keeps S a c :=
  ⟨k.os.trans h.os, k.tape.trans h.tape, k.output.trans h.output, Nat.le_trans h.size k.size, fun i hi hn => (k.block i (Nat.lt_of_lt_of_le hi h.size) hn).trans (h.block i hi hn)⟩
theorem Keeps.drew {S : Nat → Prop} {a w : World} (h : Keeps S a w) : Keeps S a w.drew := ⟨h.os, h.tape, h.output, h.size, h.block⟩
theorem Keeps.drewN {S : Nat → Prop} {a w : World} (h : Keeps S a w) (n : Nat) : Keeps S a (w.drewN n) := ⟨h.os, h.tape, h.output, h.size, h.block⟩
theorem Keeps.alloc {S : Nat → Prop} {a w : World} (h : Keeps S a w) (o : Obj) : Keeps S a (w.alloc o) :=
  h.trans ⟨rfl, rfl, rfl, by simp, fun k hk _ => Below.heap_alloc _ _ _ hk⟩
theorem Keeps.setCell {S : Nat → Prop} {a w : World} (h : Keeps S a w) {p : Addr} (hp : S p.block ∨ a.heap.size ≤ p.block) (u : Value) : Keeps S a (w.setCell p u) := by
  refine ⟨h.os, h.tape, h.output, by simpa using h.size, fun k hk hn => ?_⟩
  rw [Below.heap_setCell _ _ _ _ (fun e => by subst e; rcases hp with hp | hp; exact hn hp; omega)]
  exact h.block k hk hn
theorem Keeps.setOne {b : Nat} {a w : World} (h : Keeps (· = b) a w) (k : Nat) (u : Value) : Keeps (· = b) a (w.setCell ⟨b, k, none⟩ u) := h.setCell (.inl rfl) u
theorem Keeps.setNew {S : Nat → Prop} {a w : World} (h : Keeps S a w) (k : Nat) (u : Value) {n : Nat} (hn : a.heap.size ≤ n) : Keeps S a (w.setCell ⟨n, k, none⟩ u) := h.setCell (.inr hn) u
theorem Keeps.below {S : Nat → Prop} {a w w' : World} (h : Keeps S a w) (hb : Below w.heap.size w w') : Keeps S a w' :=
  h.trans ⟨hb.os, hb.tape, hb.output, hb.size, fun k hk _ => hb.block k hk⟩
theorem Keeps.mono {S S' : Nat → Prop} {w w' : World} (h : Keeps S w w') (hs : ∀ k, k < w.heap.size → S k → S' k) : Keeps S' w w' :=
  ⟨h.os, h.tape, h.output, h.size, fun k hk hn => h.block k hk (fun hS => hn (hs k hk hS))⟩
theorem Keeps.andThen {S S' : Nat → Prop} {a b c : World} (h : Keeps S a b) (k : Keeps S' b c) (hs : ∀ i, i < a.heap.size → S' i → S i) : Keeps S a c :=
  ⟨k.os.trans h.os, k.tape.trans h.tape, k.output.trans h.output, Nat.le_trans h.size k.size, fun i hi hn => (k.block i (Nat.lt_of_lt_of_le hi h.size) (fun hS => hn (hs i hi hS))).trans (h.block i hi hn)⟩
theorem Keeps.toBelow {S : Nat → Prop} {B : Nat} {a w w' : World} (h : Below B a w) (k : Keeps S w w') (hB : B ≤ w.heap.size) (hs : ∀ i, S i → B ≤ i) : Below B a w' :=
  h.trans ⟨k.os, k.tape, k.output, k.size, fun i hi => k.block i (by omega) (fun hS => by have := hs i hS; omega)⟩
theorem Keeps.ofBelow {S : Nat → Prop} {w w' : World} (hb : Below w.heap.size w w') : Keeps S w w' := (Keeps.refl S w).below hb
theorem Keeps.cell {S : Nat → Prop} {w w' : World} (h : Keeps S w w') {p : Addr} (hp : p.block < w.heap.size) (hn : ¬ S p.block) : w'.cell? p = w.cell? p := World.cell?_of_block (w := w) (h.block p.block hp hn)

theorem step_below {B : Nat} {w a b : World} (h : Below B w a) (hb : Below a.heap.size a b) (hB : B ≤ w.heap.size) : Below B w b :=
  h.trans (hb.mono (Nat.le_trans hB h.size))
theorem bcell {W w1 : World} (hb : Below W.heap.size W w1) : (∀ b o, b < W.heap.size → w1.cell? ⟨b, o, none⟩ = W.cell? ⟨b, o, none⟩) ∧ (∀ b o, b < W.heap.size → w1.frozen? ⟨b, o, none⟩ = W.frozen? ⟨b, o, none⟩) :=
  ⟨fun b o h => hb.cell (p := ⟨b, o, none⟩) h, fun b o h => hb.frozen (p := ⟨b, o, none⟩) h⟩
theorem bcellB {B : Nat} {W w1 : World} (hb : Below B W w1) : (∀ b o, b < B → w1.cell? ⟨b, o, none⟩ = W.cell? ⟨b, o, none⟩) ∧ (∀ b o, b < B → w1.frozen? ⟨b, o, none⟩ = W.frozen? ⟨b, o, none⟩) :=
  ⟨fun b o h => hb.cell (p := ⟨b, o, none⟩) h, fun b o h => hb.frozen (p := ⟨b, o, none⟩) h⟩

-- WHAT A BLOCK HOLDS
theorem heap_lt {w : World} {b : Nat} {o : Obj} (h : w.heap[b]? = some o) : b < w.heap.size := (Array.getElem?_eq_some_iff.1 h).1
theorem cell_at {w : World} {b k : Nat} {cs : Array Value} {t : TypeId} {fz : Nat × Nat} (h : w.heap[b]? = some (.cells cs t fz)) : w.cell? ⟨b, k, none⟩ = cs[k]? := by simp [World.cell?, h]
theorem free_at {w : World} {b k : Nat} {cs : Array Value} {t : TypeId} (h : w.heap[b]? = some (.cells cs t (0, 0))) : w.frozen? ⟨b, k, none⟩ = false := by simp [World.frozen?, h]
theorem heap_set_same {w : World} {b k : Nat} {cs : Array Value} {t : TypeId} {fz : Nat × Nat} (v : Value) (h : w.heap[b]? = some (.cells cs t fz)) :
    (w.setCell ⟨b, k, none⟩ v).heap[b]? = some (.cells (cs.setIfInBounds k v) t fz) := by
  simp [World.setCell, Array.getElem?_modify, h]
theorem heap_set_other {w : World} {b : Nat} {p : Addr} (v : Value) (hne : b ≠ p.block) : (w.setCell p v).heap[b]? = w.heap[b]? := Below.heap_setCell _ _ _ _ hne
theorem heap_alloc_lt {w : World} {b : Nat} {o o' : Obj} (h : w.heap[b]? = some o) : (w.alloc o').heap[b]? = some o := by
  rw [Below.heap_alloc _ _ _ (heap_lt h)]; exact h
theorem heap_drew (w : World) : w.drew.heap = w.heap := rfl
theorem heap_below {W w1 : World} {b : Nat} {o : Obj} (hb : Below W.heap.size W w1) (h : W.heap[b]? = some o) : w1.heap[b]? = some o := by
  rw [hb.block b (heap_lt h)]; exact h
theorem heap_keeps {S : Nat → Prop} {W w1 : World} {b : Nat} {o : Obj} (hk : Keeps S W w1) (hn : ¬ S b) (h : W.heap[b]? = some o) : w1.heap[b]? = some o := by
  rw [hk.block b (heap_lt h) hn]; exact h
theorem heap_new (w : World) (o : Obj) : (w.alloc o).heap[w.heap.size]? = some o := (MapKept.heap_alloc w o).1

/-- A store into a block, as the block sees it. -/
def putObj (k : Nat) (v : Value) : Obj → Obj
  | .cells c t f => .cells (c.setIfInBounds k v) t f
  | o => o
theorem putObj_cells (k : Nat) (v : Value) (l : List Value) (t : TypeId) (f : Nat × Nat) : putObj k v (.cells l.toArray t f) = .cells (l.set k v).toArray t f := by simp [putObj]
theorem heap_set_map (w : World) (b k : Nat) (v : Value) : (w.setCell ⟨b, k, none⟩ v).heap[b]? = (w.heap[b]?).map (putObj k v) := by
  simp only [World.setCell, Array.getElem?_modify, if_true]
  congr 1
theorem heap_set_ne (w : World) (b b' k : Nat) (v : Value) (h : b ≠ b') : (w.setCell ⟨b', k, none⟩ v).heap[b]? = w.heap[b]? := Below.heap_setCell _ _ _ _ h
theorem heap_alloc_c (w : World) (o : Obj) (b : Nat) (h : b < w.heap.size) : (w.alloc o).heap[b]? = w.heap[b]? := Below.heap_alloc _ _ _ h
end Go.Proofs.Ytfdeojefcfnogaa
