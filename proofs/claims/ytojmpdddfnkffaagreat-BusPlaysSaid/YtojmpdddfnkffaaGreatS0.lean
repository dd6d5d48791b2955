/- Steps of a proof: End, Frame, Obj, Map, RamA, RamB, Heap, PicA, together. -/
import Derived.Test.YtojmpdddfnkffaaGreatRows
import Derived.WalkKit
import Derived.ProofKit
import Derived.OpenShut
import Derived.Below
import Derived.Carry
import Derived.WalkSpells
import Derived.WalkLawsBesides
import Derived.Handy
import Derived.MapKept
import Derived.Maps.Own
import Derived.Maps.OwnOps
import Derived.Maps.OwnSet
import Derived.BigRegion
import Derived.Deep.RegionWith
import Derived.Deep.RegionHeld3
import Derived.Deep.Cut
import Derived.Lib.Hide
import Derived.Laws.BitsAll
import Derived.Deep.QuietTactic
import Derived.BigQuiet
import Derived.Lib.BitFns
/- The row's last step, where 'Below' alone is known of the world behind the call. -/
set_option maxHeartbeats 4000000
set_option maxRecDepth 20000
namespace Go.Proofs.YtojmpdddfnkffaaGreat
open Go.RowKit Go.WideShapes Go.ChangeShapes

theorem own : ownKnob Tryz.prog.godebug = none := by kernel_rfl

end Go.Proofs.YtojmpdddfnkffaaGreat

/- The frame of every law of this house: arguments opened by their types alone, read again behind the call by 'Below'. -/
namespace Go.Proofs.YtojmpdddfnkffaaGreat
open Go.RowKit Go.WideShapes Go.ChangeShapes

section
variable {H : Type} {enc : TypeId × Value → H} {P : Program}

theorem trodAll_below (hl : laidOutB P = true) {W W' : World} (hb : Below W.heap.size W W') : ∀ (ts : List TypeId) (vs : List Value) (ds : List (DataW H)) (ps : List MemPlace),
    ts.all (fun t => P.readableRec t && decide (t < P.types.size)) = true → DataW.TrodAll enc P W 0 (fun _ => true) true ts vs ds ps → (∀ p ∈ ps, p.block < W.heap.size) →
    DataW.TrodAll enc P W' 0 (fun b => decide (b < W.heap.size)) true ts vs ds ps
 | [], [], [], ps, _, h, _ => h
 | t :: ts, v :: vs, d :: ds, ps, hr, h, hlt => by
  obtain ⟨p, q, h1, h2, rfl⟩ := h
  simp only [List.all_cons, Bool.and_eq_true, decide_eq_true_eq] at hr
  exact ⟨p, q, Below.trod hl hr.1.1 hr.1.2 h1 hb (fun x hx => hlt x (by simp [hx])), trodAll_below hl hb ts vs ds q (by simpa using hr.2) h2 (fun x hx => hlt x (by simp [hx])), rfl⟩
 | [], _ :: _, _, _, _, h, _ => h.elim
 | [], [], _ :: _, _, _, h, _ => h.elim
 | _ :: _, [], _, _, _, h, _ => h.elim
 | _ :: _, _ :: _, [], _, _, h, _ => h.elim

theorem law_end (hl : laidOutB P = true) {f : Func} {s : ChangeSpec} {apart : Bool} {W : World} {args : Array Value} {ds gs : List (DataW H)} {before : List MemPlace} {n : Nat} {tb : TypeId}
    (hW : DataW.Whole enc P f.params.toList s.vars apart W args.toList ds gs before) (hvars : s.vars = [])
    (hr : f.params.toList.all (fun t => P.readableRec t && decide (t < P.types.size)) = true) (htb : P.underlying tb = some .bool) (hrt : f.resultTypes = #[tb])
    (hs : s.fn H ds = { results := [.lit (.bool true)], args := ds })
    (hw : Calls P n args W fun e W' => e = .returned (.bool true) ∧ Below W.heap.size W W') :
    Calls P n args W fun e W' => ∃ v, e = .returned v ∧ s.post enc P f apart true false false W args v W' := by
 refine hw.mono fun e W' ⟨he, hb⟩ => ⟨_, he, ?_⟩
 have hW2 := hW
 obtain ⟨p, q, hA, hV, hpq, _, _⟩ := hW
 rw [hvars] at hV
 have hgs : gs = [] ∧ q = [] := by
  cases gs with
  | nil => exact ⟨rfl, hV⟩
  | cons g gs => exact hV.elim
 obtain ⟨rfl, rfl⟩ := hgs
 simp only [List.append_nil] at hpq
 subst hpq
 have hlt : ∀ x ∈ before, x.block < W.heap.size := fun x hx => hW2.lt x hx
 refine ⟨ds, [], before, [], before, [], hW2, ?_, ?_, ?_, World.keptBut_mono (fun x hx => ⟨hx, Or.inr (by simpa using hx)⟩) (hb.frame (· ∈ before)), fun h => by cases h⟩
 ·rw [List.append_nil, hs, hrt]
  exact trodAll_cons_mk (shut_bool htb _) trodAll_mk0
 ·rw [List.append_nil, hs]
  exact trodAll_below hl hb _ _ _ _ hr hA hlt
 ·rw [hvars, List.append_nil, hs]; exact rfl

variable {w : World} {r : Reach} {base : Nat} {t : TypeId} {v : Value}
end
end Go.Proofs.YtojmpdddfnkffaaGreat

/- Objects of a few blocks: what a call may have turned ('Keeps'), and what a block holds behind stores. -/
namespace Go.Proofs.YtojmpdddfnkffaaGreat
open Go.RowKit
set_option linter.unusedVariables false

structure Keeps (S : Nat → Prop) (w w' : World) : Prop where
 os : w'.os = w.os
 tape : w'.tape = w.tape
 output : w'.output = w.output
 size : w.heap.size ≤ w'.heap.size
 block : ∀ k, k < w.heap.size → ¬ S k → w'.heap[k]? = w.heap[k]?

theorem Keeps.refl (S : Nat → Prop) (w : World) : Keeps S w w := ⟨rfl, rfl, rfl, Nat.le_refl _, fun _ _ _ => rfl⟩
theorem Keeps.trans {S : Nat → Prop} {a b c : World} (h : Keeps S a b) (k : Keeps S b c) : Keeps S a c :=
 ⟨k.os.trans h.os, k.tape.trans h.tape, k.output.trans h.output, Nat.le_trans h.size k.size, fun i hi hn => (k.block i (Nat.lt_of_lt_of_le hi h.size) hn).trans (h.block i hi hn)⟩
theorem Keeps.drew {S : Nat → Prop} {a w : World} (h : Keeps S a w) : Keeps S a w.drew := ⟨h.os, h.tape, h.output, h.size, h.block⟩
theorem Keeps.drewN {S : Nat → Prop} {a w : World} (h : Keeps S a w) (n : Nat) : Keeps S a (w.drewN n) := ⟨h.os, h.tape, h.output, h.size, h.block⟩
theorem Keeps.alloc {S : Nat → Prop} {a w : World} (h : Keeps S a w) (o : Obj) : Keeps S a (w.alloc o) :=
 h.trans ⟨rfl, rfl, rfl, by simp, fun k hk _ => Below.heap_alloc _ _ _ hk⟩
theorem Keeps.setCell {S : Nat → Prop} {a w : World} (h : Keeps S a w) {p : Addr} (hp : S p.block ∨ a.heap.size ≤ p.block) (u : Value) : Keeps S a (w.setCell p u) := by
 refine ⟨h.os, h.tape, h.output, by simpa using h.size, fun k hk hn => ?_⟩
 rw [Below.heap_setCell _ _ _ _ (fun e => by subst e; rcases hp with hp | hp; exact hn hp; omega)]
 exact h.block k hk hn
theorem Keeps.setOne {b : Nat} {a w : World} (h : Keeps (· = b) a w) (k : Nat) (u : Value) : Keeps (· = b) a (w.setCell ⟨b, k, none⟩ u) := h.setCell (.inl rfl) u
theorem Keeps.below {S : Nat → Prop} {a w w' : World} (h : Keeps S a w) (hb : Below w.heap.size w w') : Keeps S a w' :=
 h.trans ⟨hb.os, hb.tape, hb.output, hb.size, fun k hk _ => hb.block k hk⟩
theorem Keeps.mono {S S' : Nat → Prop} {w w' : World} (h : Keeps S w w') (hs : ∀ k, k < w.heap.size → S k → S' k) : Keeps S' w w' :=
 ⟨h.os, h.tape, h.output, h.size, fun k hk hn => h.block k hk (fun hS => hn (hs k hk hS))⟩
theorem Keeps.andThen {S S' : Nat → Prop} {a b c : World} (h : Keeps S a b) (k : Keeps S' b c) (hs : ∀ i, i < a.heap.size → S' i → S i) : Keeps S a c :=
 ⟨k.os.trans h.os, k.tape.trans h.tape, k.output.trans h.output, Nat.le_trans h.size k.size, fun i hi hn => (k.block i (Nat.lt_of_lt_of_le hi h.size) (fun hS => hn (hs i hi hS))).trans (h.block i hi hn)⟩
theorem Keeps.toBelow {S : Nat → Prop} {B : Nat} {a w w' : World} (h : Below B a w) (k : Keeps S w w') (hB : B ≤ w.heap.size) (hs : ∀ i, S i → B ≤ i) : Below B a w' :=
 h.trans ⟨k.os, k.tape, k.output, k.size, fun i hi => k.block i (by omega) (fun hS => by have := hs i hS; omega)⟩
theorem Keeps.ofBelow {S : Nat → Prop} {w w' : World} (hb : Below w.heap.size w w') : Keeps S w w' := (Keeps.refl S w).below hb
theorem Keeps.cell {S : Nat → Prop} {w w' : World} (h : Keeps S w w') {p : Addr} (hp : p.block < w.heap.size) (hn : ¬ S p.block) : w'.cell? p = w.cell? p := World.cell?_of_block (w := w) (h.block p.block hp hn)

theorem step_below {B : Nat} {w a b : World} (h : Below B w a) (hb : Below a.heap.size a b) (hB : B ≤ w.heap.size) : Below B w b :=
 h.trans (hb.mono (Nat.le_trans hB h.size))
theorem bcell {W w1 : World} (hb : Below W.heap.size W w1) : (∀ b o, b < W.heap.size → w1.cell? ⟨b, o, none⟩ = W.cell? ⟨b, o, none⟩) ∧ (∀ b o, b < W.heap.size → w1.frozen? ⟨b, o, none⟩ = W.frozen? ⟨b, o, none⟩) :=
 ⟨fun b o h => hb.cell (p := ⟨b, o, none⟩) h, fun b o h => hb.frozen (p := ⟨b, o, none⟩) h⟩
theorem heap_lt {w : World} {b : Nat} {o : Obj} (h : w.heap[b]? = some o) : b < w.heap.size := (Array.getElem?_eq_some_iff.1 h).1
theorem cell_at {w : World} {b k : Nat} {cs : Array Value} {t : TypeId} {fz : Nat × Nat} (h : w.heap[b]? = some (.cells cs t fz)) : w.cell? ⟨b, k, none⟩ = cs[k]? := by simp [World.cell?, h]
theorem free_at {w : World} {b k : Nat} {cs : Array Value} {t : TypeId} (h : w.heap[b]? = some (.cells cs t (0, 0))) : w.frozen? ⟨b, k, none⟩ = false := by simp [World.frozen?, h]
theorem heap_set_same {w : World} {b k : Nat} {cs : Array Value} {t : TypeId} {fz : Nat × Nat} (v : Value) (h : w.heap[b]? = some (.cells cs t fz)) :
    (w.setCell ⟨b, k, none⟩ v).heap[b]? = some (.cells (cs.setIfInBounds k v) t fz) := by
 simp [World.setCell, Array.getElem?_modify, h]
theorem heap_set_other {w : World} {b : Nat} {p : Addr} (v : Value) (hne : b ≠ p.block) : (w.setCell p v).heap[b]? = w.heap[b]? := Below.heap_setCell _ _ _ _ hne
theorem heap_alloc_lt {w : World} {b : Nat} {o o' : Obj} (h : w.heap[b]? = some o) : (w.alloc o').heap[b]? = some o := by
 rw [Below.heap_alloc _ _ _ (heap_lt h)]; exact h
theorem heap_drew (w : World) : w.drew.heap = w.heap := rfl
theorem heap_below {W w1 : World} {b : Nat} {o : Obj} (hb : Below W.heap.size W w1) (h : W.heap[b]? = some o) : w1.heap[b]? = some o := by
 rw [hb.block b (heap_lt h)]; exact h
theorem heap_keeps {S : Nat → Prop} {W w1 : World} {b : Nat} {o : Obj} (hk : Keeps S W w1) (hn : ¬ S b) (h : W.heap[b]? = some o) : w1.heap[b]? = some o := by
 rw [hk.block b (heap_lt h) hn]; exact h
theorem heap_new (w : World) (o : Obj) : (w.alloc o).heap[w.heap.size]? = some o := (MapKept.heap_alloc w o).1

def putObj (k : Nat) (v : Value) : Obj → Obj
 | .cells c t f => .cells (c.setIfInBounds k v) t f
 | o => o
theorem putObj_cells (k : Nat) (v : Value) (l : List Value) (t : TypeId) (f : Nat × Nat) : putObj k v (.cells l.toArray t f) = .cells (l.set k v).toArray t f := by simp [putObj]
theorem heap_set_map (w : World) (b k : Nat) (v : Value) : (w.setCell ⟨b, k, none⟩ v).heap[b]? = (w.heap[b]?).map (putObj k v) := by
 simp only [World.setCell, Array.getElem?_modify, if_true]
 congr 1
theorem heap_set_ne (w : World) (b b' k : Nat) (v : Value) (h : b ≠ b') : (w.setCell ⟨b', k, none⟩ v).heap[b]? = w.heap[b]? := Below.heap_setCell _ _ _ _ h
end Go.Proofs.YtojmpdddfnkffaaGreat

/- Maps by numbers: what a map's block holds as a function of the key, and what the operations do to it. -/
namespace Go.Proofs.YtojmpdddfnkffaaGreat
open Go.RowKit Go.MapKept
set_option linter.unusedVariables false

def MapAt (w : World) (r : Nat) (q : IntKind) (f : Nat → Option Value) : Prop :=
 ∃ es clock, w.heap[r]? = some (.map es clock) ∧ Stamped es clock ∧ (∀ x ∈ es.toList, ∃ n : Nat, x.key = .int q n) ∧
  ∀ (n : Nat) v, f n = some v ↔ ∃ x ∈ es.toList, x.key = .int q n ∧ x.val = v

section
variable {P : Program} {w w' : World} {r : Nat} {q : IntKind} {f : Nat → Option Value} {t k e : TypeId}

theorem MapAt.lt (h : MapAt w r q f) : r < w.heap.size := by
 obtain ⟨es, clock, hb, _⟩ := h
 exact heap_lt hb
theorem MapAt.of_heap (h : MapAt w r q f) (hh : w'.heap[r]? = w.heap[r]?) : MapAt w' r q f := by
 obtain ⟨es, clock, hb, h1, h2, h3⟩ := h
 exact ⟨es, clock, by rw [hh]; exact hb, h1, h2, h3⟩
theorem MapAt.below {B : Nat} (h : MapAt w r q f) (hb : Below B w w') (hr : r < B) : MapAt w' r q f := h.of_heap (hb.block r hr)
theorem MapAt.keeps {S : Nat → Prop} (h : MapAt w r q f) (hk : Keeps S w w') (hn : ¬ S r) : MapAt w' r q f := h.of_heap (hk.block r h.lt hn)
theorem MapAt.alloc (h : MapAt w r q f) (o : Obj) : MapAt (w.alloc o) r q f := h.of_heap (Below.heap_alloc _ _ _ h.lt)
theorem MapAt.drewN (h : MapAt w r q f) (n : Nat) : MapAt (w.drewN n) r q f := h.of_heap rfl
theorem MapAt.drew (h : MapAt w r q f) : MapAt w.drew r q f := h.of_heap rfl
theorem MapAt.setCell (h : MapAt w r q f) (p : Addr) (v : Value) : MapAt (w.setCell p v) r q f := by
 by_cases e : r = p.block
 ·obtain ⟨es, clock, hb, h1, h2, h3⟩ := h
  refine ⟨es, clock, ?_, h1, h2, h3⟩
  subst e
  simp [World.setCell, Array.getElem?_modify, hb]
 ·exact h.of_heap (Below.heap_setCell _ _ _ _ e)
theorem MapAt.ext {g : Nat → Option Value} (h : MapAt w r q f) (e : ∀ n, g n = f n) : MapAt w r q g := by
 obtain ⟨es, clock, hb, h1, h2, h3⟩ := h
 exact ⟨es, clock, hb, h1, h2, fun n v => by rw [e n]; exact h3 n v⟩
theorem MapAt.new (w : World) (q : IntKind) : MapAt (w.alloc (.map #[] 0)) w.heap.size q (fun _ => none) :=
 ⟨#[], 0, heap_new w _, stamped_empty 0, by simp, by simp⟩

theorem keyed {es : Array MapEntry} (h : ∀ x ∈ es.toList, ∃ n : Nat, x.key = .int q n) : ∀ x ∈ es.toList, IsKey (.int q) x.key := by
 intro x hx
 obtain ⟨n, hn⟩ := h x hx
 rw [hn]; exact rfl
theorem eq_of_key : ∀ {l : List MapEntry}, (l.map (·.key)).Nodup → ∀ {x y : MapEntry}, x ∈ l → y ∈ l → x.key = y.key → x = y
 | [], _, _, _, hx, _, _ => by cases hx
 | a :: l, hn, x, y, hx, hy, e => by
  rw [List.map_cons, List.nodup_cons] at hn
  rcases List.mem_cons.1 hx with e1 | h1
  ·rcases List.mem_cons.1 hy with e2 | h2
   ·rw [e1, e2]
   ·exact absurd (List.mem_map.2 ⟨y, h2, by rw [← e, e1]⟩) hn.1
  ·rcases List.mem_cons.1 hy with e2 | h2
   ·exact absurd (List.mem_map.2 ⟨x, h1, by rw [e, e2]⟩) hn.1
   ·exact eq_of_key hn.2 h1 h2 e
theorem idx_inj : ∀ {l : List MapEntry}, (l.map (·.key)).Nodup → ∀ {i j : Nat} {y : MapEntry}, l[i]? = some y → l[j]? = some y → i = j
 | [], _, _, _, _, hi, _ => by simp at hi
 | a :: l, hn, i, j, y, hi, hj => by
  rw [List.map_cons, List.nodup_cons] at hn
  rcases i with _ | i <;> rcases j with _ | j
  ·rfl
  ·rw [List.getElem?_cons_zero, Option.some.injEq] at hi
   rw [List.getElem?_cons_succ] at hj
   exact absurd (List.mem_map.2 ⟨y, List.mem_of_getElem? hj, by rw [hi]⟩) hn.1
  ·rw [List.getElem?_cons_zero, Option.some.injEq] at hj
   rw [List.getElem?_cons_succ] at hi
   exact absurd (List.mem_map.2 ⟨y, List.mem_of_getElem? hi, by rw [hj]⟩) hn.1
  ·rw [List.getElem?_cons_succ] at hi hj
   rw [idx_inj hn.2 hi hj]
theorem unique {es : Array MapEntry} {clock : Nat} (hs : Stamped es clock) {x y : MapEntry} (hx : x ∈ es.toList) (hy : y ∈ es.toList) (e : x.key = y.key) : x = y := by
 exact eq_of_key hs.2.2 hx hy e

theorem MapAt.find (h : MapAt w r q f) (n : Nat) : ∃ es clock, w.heap[r]? = some (.map es clock) ∧ Stamped es clock ∧ (∀ x ∈ es.toList, ∃ n : Nat, x.key = .int q n) ∧ (∀ (n : Nat) v, f n = some v ↔ ∃ x ∈ es.toList, x.key = .int q n ∧ x.val = v) ∧
    ((Instr.findNow (.int q) (.int q (n : Int)) es.toList 0 = some none ∧ f n = none ∧ ∀ x ∈ es.toList, x.key ≠ .int q n) ∨
     ∃ j x, Instr.findNow (.int q) (.int q (n : Int)) es.toList 0 = some (some (j, x.val)) ∧ es.toList[j]? = some x ∧ x.key = .int q n ∧ f n = some x.val) := by
 obtain ⟨es, clock, hb, h1, h2, h3⟩ := h
 refine ⟨es, clock, hb, h1, h2, h3, ?_⟩
 rcases findNow_spec (d := .int q) (k := .int q (n : Int)) rfl es.toList 0 (keyed h2) with ⟨g1, g2⟩ | ⟨j, x, g1, g2, g3⟩
 ·refine .inl ⟨g1, ?_, g2⟩
  cases hf : f n with
  | none => rfl
  | some v =>
   obtain ⟨x, hx, hk, _⟩ := (h3 n v).1 hf
   exact absurd hk (g2 x hx)
 ·refine .inr ⟨j, x, by simpa using g1, g2, g3, ?_⟩
  exact (h3 n x.val).2 ⟨x, List.mem_of_getElem? g2, g3, rfl⟩

theorem MapAt.lookup (h : MapAt w r q f) (ht : P.underlying t = some (.map k e)) (hk : P.underlying k = some (.int q)) {z : Value} (hz : (zeroValue e).run P w = .ok z w) (n : Nat) (x : Int) (hx : x = (n : Int)) :
    (Instr.lookup t (.map (some r)) (.int q x) false).run P w = .ok ((f n).getD z) w := by
 subst hx
 obtain ⟨es, clock, hb, h1, h2, h3, ⟨g, gf, _⟩ | ⟨j, x, g, _, _, gf⟩⟩ := h.find n
 ·simp [Instr.lookup, run_underlying ht, MapKept.run_getObj_map hb, MapKept.run_checkKey hk (d := .int q) (k := .int q (n : Int)) rfl, MapKept.run_findKey hk g, hz, Result.andThen, gf]
 ·simp [Instr.lookup, run_underlying ht, MapKept.run_getObj_map hb, MapKept.run_checkKey hk (d := .int q) (k := .int q (n : Int)) rfl, MapKept.run_findKey hk g, Result.andThen, gf]
theorem MapAt.lookupOk (h : MapAt w r q f) (ht : P.underlying t = some (.map k e)) (hk : P.underlying k = some (.int q)) {z : Value} (hz : (zeroValue e).run P w = .ok z w) (n : Nat) (x : Int) (hx : x = (n : Int)) :
    (Instr.lookup t (.map (some r)) (.int q x) true).run P w = .ok (.tuple #[(f n).getD z, .bool (f n).isSome]) w := by
 subst hx
 obtain ⟨es, clock, hb, h1, h2, h3, ⟨g, gf, _⟩ | ⟨j, x, g, _, _, gf⟩⟩ := h.find n
 ·simp [Instr.lookup, run_underlying ht, MapKept.run_getObj_map hb, MapKept.run_checkKey hk (d := .int q) (k := .int q (n : Int)) rfl, MapKept.run_findKey hk g, hz, Result.andThen, gf]
 ·simp [Instr.lookup, run_underlying ht, MapKept.run_getObj_map hb, MapKept.run_checkKey hk (d := .int q) (k := .int q (n : Int)) rfl, MapKept.run_findKey hk g, Result.andThen, gf]

theorem keeps_set {o o' : Obj} (hb : w.heap[r]? = some o) : Keeps (· = r) w { w with heap := w.heap.setIfInBounds r o' } :=
 ⟨rfl, rfl, rfl, by simp, fun i hi hn => (heap_set hb).2 i hn⟩

theorem modify_mem {es : Array MapEntry} {j : Nat} {x : MapEntry} {g : MapEntry → MapEntry} (hj : es.toList[j]? = some x) {y : MapEntry} (hy : y ∈ (es.modify j g).toList) : y = g x ∨ (y ∈ es.toList ∧ ∃ i, i ≠ j ∧ es.toList[i]? = some y) := by
 obtain ⟨i, hi⟩ := List.getElem?_of_mem hy
 rw [Array.getElem?_toList, Array.getElem?_modify] at hi
 by_cases e : j = i
 ·subst e
  rw [if_pos rfl] at hi
  rw [Array.getElem?_toList] at hj
  rw [hj] at hi
  exact .inl (by simpa using hi.symm)
 ·rw [if_neg e, ← Array.getElem?_toList] at hi
  exact .inr ⟨List.mem_of_getElem? hi, i, fun e' => e e'.symm, hi⟩
theorem modify_at {es : Array MapEntry} {j : Nat} {x : MapEntry} {g : MapEntry → MapEntry} (hj : es.toList[j]? = some x) : g x ∈ (es.modify j g).toList := by
 refine List.mem_of_getElem? (i := j) ?_
 rw [Array.getElem?_toList] at hj
 rw [Array.getElem?_toList, Array.getElem?_modify, if_pos rfl, hj]; rfl
theorem modify_other {es : Array MapEntry} {i j : Nat} {y : MapEntry} {g : MapEntry → MapEntry} (hi : es.toList[i]? = some y) (hne : i ≠ j) : y ∈ (es.modify j g).toList := by
 refine List.mem_of_getElem? (i := i) ?_
 rw [Array.getElem?_toList] at hi
 rw [Array.getElem?_toList, Array.getElem?_modify, if_neg (fun e => hne e.symm), hi]

theorem MapAt.update (h : MapAt w r q f) (ht : P.underlying t = some (.map k e)) (hk : P.underlying k = some (.int q)) (n : Nat) (x : Int) (hx : x = (n : Int)) (v : Value) :
    ∃ w', (Instr.mapUpdate t (.map (some r)) (.int q x) v).run P w = .ok () w' ∧ MapAt w' r q (fun m => if m = n then some v else f m) ∧ Keeps (· = r) w w' := by
 subst hx
 have hkey : IsKey (.int q) (.int q (n : Int)) := rfl
 obtain ⟨es, clock, hb, h1, h2, h3, ⟨g, gf, gn⟩ | ⟨j, x, g, gj, gk, gf⟩⟩ := h.find n
 ·refine ⟨{ w with heap := w.heap.setIfInBounds r (.map (es.push { key := .int q n, val := v, born := clock }) (clock + 1)) }, ?_, ?_, keeps_set hb⟩
  ·simp [Instr.mapUpdate, run_underlying ht, MapKept.run_getObj_map hb, MapKept.run_checkKey hk hkey, MapKept.run_findKey hk g, MapKept.run_setObj_map _ hb, Result.andThen]
  ·refine ⟨_, _, (heap_set hb).1, stamped_push h1 gn, ?_, ?_⟩
   ·intro y hy
    simp only [Array.toList_push, List.mem_append, List.mem_singleton] at hy
    rcases hy with hy | rfl
    ·exact h2 y hy
    ·exact ⟨n, rfl⟩
   ·intro m u
    simp only [Array.toList_push, List.mem_append, List.mem_singleton]
    by_cases e : m = n
    ·subst e
     rw [if_pos rfl]
     constructor
     ·intro hu
      simp only [Option.some.injEq] at hu
      exact ⟨_, .inr rfl, rfl, hu⟩
     ·rintro ⟨y, hy | rfl, hyk, hyv⟩
      ·exact absurd hyk (gn y hy)
      ·rw [← hyv]
    ·rw [if_neg e, h3 m u]
     constructor
     ·rintro ⟨y, hy, hyk, hyv⟩
      exact ⟨y, .inl hy, hyk, hyv⟩
     ·rintro ⟨y, hy | rfl, hyk, hyv⟩
      ·exact ⟨y, hy, hyk, hyv⟩
      ·simp only [Value.int.injEq, true_and] at hyk
       exact absurd (by omega) e
 ·have hj : es[j]? = some x := by rw [← Array.getElem?_toList]; exact gj
  refine ⟨{ w with heap := w.heap.setIfInBounds r (.map (es.modify j fun e => { e with key := .int q n, val := v }) clock) }, ?_, ?_, keeps_set hb⟩
  ·simp [Instr.mapUpdate, run_underlying ht, MapKept.run_getObj_map hb, MapKept.run_checkKey hk hkey, MapKept.run_findKey hk g, hj, gk, MapKept.run_keyThatStays hkey, MapKept.run_setObj_map _ hb, Result.andThen]
  ·have hkey' : ∀ e', es[j]? = some e' → ({ e' with key := .int q n, val := v } : MapEntry).key = e'.key := fun e' he' => by rw [hj] at he'; cases he'; exact gk.symm
   refine ⟨_, _, (heap_set hb).1, stamped_modify h1 _ _ (fun _ _ => rfl) (fun e' _ he' => hkey' e' he'), ?_, ?_⟩
   ·intro y hy
    rcases modify_mem gj hy with rfl | ⟨hy, _⟩
    ·exact ⟨n, rfl⟩
    ·exact h2 y hy
   ·intro m u
    show (if m = n then some v else f m) = some u ↔ _
    by_cases e : m = n
    ·subst e
     rw [if_pos rfl]
     constructor
     ·intro hu
      simp only [Option.some.injEq] at hu
      exact ⟨_, modify_at gj, rfl, hu⟩
     ·rintro ⟨y, hy, hyk, hyv⟩
      rcases modify_mem gj hy with rfl | ⟨hy, i, hij, hi⟩
      ·rw [← hyv]
      ·have : y = x := unique h1 hy (List.mem_of_getElem? gj) (by rw [hyk, gk])
       subst this
       exfalso
       exact hij (idx_inj h1.2.2 hi gj)
    ·rw [if_neg e, h3 m u]
     constructor
     ·rintro ⟨y, hy, hyk, hyv⟩
      obtain ⟨i, hi⟩ := List.getElem?_of_mem hy
      have hij : i ≠ j := by
       rintro rfl
       rw [gj] at hi
       cases hi
       rw [gk] at hyk
       simp only [Value.int.injEq, true_and] at hyk
       exact e (by omega)
      exact ⟨y, modify_other hi hij, hyk, hyv⟩
     ·rintro ⟨y, hy, hyk, hyv⟩
      rcases modify_mem gj hy with rfl | ⟨hy, _⟩
      ·simp only [Value.int.injEq, true_and] at hyk
       exact absurd (by omega) e
      ·exact ⟨y, hy, hyk, hyv⟩

theorem MapAt.delete (h : MapAt w r q f) (ht : P.underlying t = some (.map k e)) (hk : P.underlying k = some (.int q)) (n : Nat) (x : Int) (hx : x = (n : Int)) (t' : TypeId) (ty : TypeId) :
    ∃ w', (Builtin.delete_ #[t, t'] ty #[.map (some r), .int q x]).run P w = .ok (.tuple #[]) w' ∧ MapAt w' r q (fun m => if m = n then none else f m) ∧ Keeps (· = r) w w' := by
 subst hx
 have hkey : IsKey (.int q) (.int q (n : Int)) := rfl
 obtain ⟨es, clock, hb, h1, h2, h3, ⟨g, gf, gn⟩ | ⟨j, x, g, gj, gk, gf⟩⟩ := h.find n
 ·refine ⟨{ w with heap := w.heap.setIfInBounds r (.map es clock) }, ?_, ?_, keeps_set hb⟩
  ·simp [Builtin.delete_, run_underlying ht, MapKept.run_getObj_map hb, MapKept.run_checkKey hk hkey, MapKept.run_findKey hk g, MapKept.run_setObj_map _ hb, Result.andThen]
  ·refine ⟨_, _, (heap_set hb).1, h1, h2, ?_⟩
   intro m u
   show (if m = n then none else f m) = some u ↔ _
   by_cases e : m = n
   ·subst e
    rw [if_pos rfl]
    constructor
    ·intro hu; cases hu
    ·rintro ⟨y, hy, hyk, _⟩
     exact absurd hyk (gn y hy)
   ·rw [if_neg e]; exact h3 m u
 ·have hjl : j < es.size := by
    obtain ⟨hj1, _⟩ := List.getElem?_eq_some_iff.1 gj
    simpa using hj1
  refine ⟨{ w with heap := w.heap.setIfInBounds r (.map (es.eraseIdxIfInBounds j) clock) }, ?_, ?_, keeps_set hb⟩
  ·simp [Builtin.delete_, run_underlying ht, MapKept.run_getObj_map hb, MapKept.run_checkKey hk hkey, MapKept.run_findKey hk g, MapKept.run_setObj_map _ hb, Result.andThen]
  ·have hl : (es.eraseIdxIfInBounds j).toList = es.toList.eraseIdx j := by
     unfold Array.eraseIdxIfInBounds
     rw [dif_pos hjl, Array.toList_eraseIdx]
   have hsub : ∀ y, y ∈ (es.eraseIdxIfInBounds j).toList → y ∈ es.toList ∧ y ≠ x := by
    intro y hy
    rw [hl] at hy
    refine ⟨List.mem_of_mem_eraseIdx hy, ?_⟩
    rintro rfl
    obtain ⟨i, hij, hi⟩ := List.mem_eraseIdx_iff_getElem?.1 hy
    exact hij (idx_inj h1.2.2 hi gj)
   refine ⟨_, _, (heap_set hb).1, stamped_erase h1 j, fun y hy => h2 y (hsub y hy).1, ?_⟩
   intro m u
   show (if m = n then none else f m) = some u ↔ _
   by_cases e : m = n
   ·subst e
    rw [if_pos rfl]
    constructor
    ·intro hu; cases hu
    ·rintro ⟨y, hy, hyk, _⟩
     obtain ⟨y1, y2⟩ := hsub y hy
     exact absurd (unique h1 y1 (List.mem_of_getElem? gj) (by rw [hyk, gk])) y2
   ·rw [if_neg e, h3 m u]
    constructor
    ·rintro ⟨y, hy, hyk, hyv⟩
     obtain ⟨i, hi⟩ := List.getElem?_of_mem hy
     have hij : i ≠ j := by
      rintro rfl
      rw [gj] at hi
      cases hi
      rw [gk] at hyk
      simp only [Value.int.injEq, true_and] at hyk
      exact e (by omega)
     exact ⟨y, by rw [hl]; exact List.mem_eraseIdx_iff_getElem?.2 ⟨i, hij, hi⟩, hyk, hyv⟩
    ·rintro ⟨y, hy, hyk, hyv⟩
     exact ⟨y, (hsub y hy).1, hyk, hyv⟩
theorem MapAt.clear (h : MapAt w r q f) (ht : P.underlying t = some (.map k e)) (ty : TypeId) :
    ∃ w', (Builtin.clear_ #[t] ty #[.map (some r)]).run P w = .ok (.tuple #[]) w' ∧ MapAt w' r q (fun _ => none) ∧ Keeps (· = r) w w' := by
 obtain ⟨es, clock, hb, h1, h2, h3⟩ := h
 refine ⟨{ w with heap := w.heap.setIfInBounds r (.map #[] clock) }, ?_, ⟨_, _, (heap_set hb).1, stamped_empty _, by simp, by simp⟩, keeps_set hb⟩
 simp [Builtin.clear_, run_underlying ht, MapKept.run_getObj_map hb, MapKept.run_setObj_map _ hb, Result.andThen]
end
end Go.Proofs.YtojmpdddfnkffaaGreat

/- ram: physical memory, as what it holds; what it is in memory. -/
namespace Go.Proofs.YtojmpdddfnkffaaGreat
open Go.RowKit Go.MapKept
set_option linter.unusedVariables false

structure RS where
 pages : Nat
 closed : Bool
 byte : Nat → Nat
 only : Nat → Bool
 watched : Nat → Bool
 noted : Nat → Bool
def RS.size (R : RS) : Nat := R.pages * 4096
def RS.place (R : RS) (a : Nat) : Nat := if R.closed then a &&& 4293918719 else a
def RS.get (R : RS) (a : Nat) : Nat := if R.place a < R.size then R.byte (R.place a) else 255
def RS.lay (R : RS) (n v : Nat) : RS :=
 {R with
  byte := fun i => if i = n then v else R.byte i
  watched := fun g => if g = n / 64 then false else R.watched g
  noted := fun k => if k = n / 64 * 64 ∧ R.watched (n / 64) = true then true else R.noted k }
def RS.put (R : RS) (a v : Nat) : RS := if R.place a < R.size then R.lay (R.place a) v else R
def RS.wr (R : RS) (a v : Nat) : RS := if R.place a < R.size ∧ R.only (R.place a / 4096) = false then R.lay (R.place a) v else R

structure RS.ok (R : RS) : Prop where
 p1 : 1 ≤ R.pages
 p2 : R.pages ≤ 256
 b : ∀ n, R.byte n < 256

theorem RS.place_le (R : RS) (a : Nat) : R.place a ≤ a := by
 unfold RS.place; split
 ·exact Nat.and_le_left
 ·exact Nat.le_refl _
theorem RS.get_lt {R : RS} (h : R.ok) (a : Nat) : R.get a < 256 := by unfold RS.get; split; exact h.b _; decide
theorem RS.size_le {R : RS} (h : R.ok) : R.size ≤ 1048576 := by have := h.p2; unfold RS.size; omega
theorem RS.lay_ok {R : RS} (h : R.ok) (n v : Nat) (hv : v < 256) : (R.lay n v).ok := ⟨h.p1, h.p2, fun i => by
 show (if i = n then v else R.byte i) < 256
 split
 ·exact hv
 ·exact h.b i⟩
theorem RS.put_ok {R : RS} (h : R.ok) (a v : Nat) (hv : v < 256) : (R.put a v).ok := by
 unfold RS.put; split
 ·exact RS.lay_ok h _ _ hv
 ·exact h
def MarkAt (w : World) (r : Nat) (g : Nat → Bool) : Prop := ∃ f, MapAt w r .u32 f ∧ ∀ n, (f n = none ∧ g n = false) ∨ f n = some (.bool (g n))
def SetAt (w : World) (r : Nat) (g : Nat → Bool) : Prop := MapAt w r .u32 (fun n => if g n then some (.bool true) else none)
def pageCells (byte : Nat → Nat) (k : Nat) : Array Value := Array.ofFn (n := 4096) fun i => .int .u8 (byte (k * 4096 + i.val))
def pagePtr (pg : Nat → Option Nat) (n : Nat) : Option Value := (pg n).map fun q => .pointer (some ⟨q, 0, none⟩)

structure RamIn (w : World) (b bp bo bw bn : Nat) (pg : Nat → Option Nat) (R : RS) : Prop where
 obj : w.heap[b]? = some (.cells #[.int .u32 R.size, .map (some bp), .map (some bo), .map (some bw), .map (some bn), .bool R.closed] 70)
 mp : MapAt w bp .u32 (pagePtr pg)
 mo : MarkAt w bo R.only
 mw : SetAt w bw R.watched
 mn : SetAt w bn R.noted
 page : ∀ k q, pg k = some q → w.heap[q]? = some (.cells (pageCells R.byte k) 158)
 zero : ∀ k, pg k = .none → ∀ i, i < 4096 → R.byte (k * 4096 + i) = 0
 inj : ∀ k k' q, pg k = some q → pg k' = some q → k = k'
 inside : ∀ k q, pg k = some q → k < R.pages
 d1 : bp ≠ bo
 d2 : bp ≠ bw
 d3 : bp ≠ bn
 d4 : bo ≠ bw
 d5 : bo ≠ bn
 d6 : bw ≠ bn
 ok : R.ok

def Owned (b bp bo bw bn : Nat) (pg : Nat → Option Nat) (k : Nat) : Prop := k = b ∨ k = bp ∨ k = bo ∨ k = bw ∨ k = bn ∨ ∃ j, pg j = some k
def Ram (w : World) (b : Nat) (S : Nat → Prop) (R : RS) : Prop := ∃ bp bo bw bn pg, RamIn w b bp bo bw bn pg R ∧ ∀ k, S k ↔ Owned b bp bo bw bn pg k

section
variable {w w' : World} {b bp bo bw bn : Nat} {pg : Nat → Option Nat} {R : RS}
theorem RamIn.b_p (H : RamIn w b bp bo bw bn pg R) : b ≠ bp := by
 rintro rfl; obtain ⟨es, c, h, _⟩ := H.mp; rw [H.obj] at h; cases h
theorem RamIn.b_o (H : RamIn w b bp bo bw bn pg R) : b ≠ bo := by
 rintro rfl; obtain ⟨f, ⟨es, c, h, _⟩, _⟩ := H.mo; rw [H.obj] at h; cases h
theorem RamIn.b_w (H : RamIn w b bp bo bw bn pg R) : b ≠ bw := by
 rintro rfl; obtain ⟨es, c, h, _⟩ := H.mw; rw [H.obj] at h; cases h
theorem RamIn.b_n (H : RamIn w b bp bo bw bn pg R) : b ≠ bn := by
 rintro rfl; obtain ⟨es, c, h, _⟩ := H.mn; rw [H.obj] at h; cases h
theorem RamIn.q_b (H : RamIn w b bp bo bw bn pg R) {k q : Nat} (hq : pg k = some q) : q ≠ b := by
 rintro rfl; have h := H.page k q hq; rw [H.obj] at h; simp at h
theorem RamIn.q_p (H : RamIn w b bp bo bw bn pg R) {k q : Nat} (hq : pg k = some q) : q ≠ bp := by
 rintro rfl; obtain ⟨es, c, h, _⟩ := H.mp; rw [H.page k q hq] at h; cases h
theorem RamIn.q_w (H : RamIn w b bp bo bw bn pg R) {k q : Nat} (hq : pg k = some q) : q ≠ bw := by
 rintro rfl; obtain ⟨es, c, h, _⟩ := H.mw; rw [H.page k q hq] at h; cases h
theorem RamIn.q_n (H : RamIn w b bp bo bw bn pg R) {k q : Nat} (hq : pg k = some q) : q ≠ bn := by
 rintro rfl; obtain ⟨es, c, h, _⟩ := H.mn; rw [H.page k q hq] at h; cases h
theorem Owned.lt (H : RamIn w b bp bo bw bn pg R) {k : Nat} (h : Owned b bp bo bw bn pg k) : k < w.heap.size := by
 obtain ⟨f, mo, _⟩ := H.mo
 rcases h with rfl | rfl | rfl | rfl | rfl | ⟨j, hj⟩
 ·exact heap_lt H.obj
 ·exact H.mp.lt
 ·exact mo.lt
 ·exact MapAt.lt H.mw
 ·exact MapAt.lt H.mn
 ·exact heap_lt (H.page j k hj)
theorem RamIn.of_heap (H : RamIn w b bp bo bw bn pg R) (h : ∀ k, Owned b bp bo bw bn pg k → w'.heap[k]? = w.heap[k]?) : RamIn w' b bp bo bw bn pg R := by
 obtain ⟨f, mo, hf⟩ := H.mo
 exact { H with
  obj := by rw [h b (.inl rfl)]; exact H.obj
  mp := H.mp.of_heap (h bp (.inr (.inl rfl)))
  mo := ⟨f, mo.of_heap (h bo (.inr (.inr (.inl rfl)))), hf⟩
  mw := MapAt.of_heap H.mw (h bw (.inr (.inr (.inr (.inl rfl)))))
  mn := MapAt.of_heap H.mn (h bn (.inr (.inr (.inr (.inr (.inl rfl))))))
  page := fun k q hq => by rw [h q (.inr (.inr (.inr (.inr (.inr ⟨k, hq⟩)))))]; exact H.page k q hq }
theorem RamIn.alloc (H : RamIn w b bp bo bw bn pg R) (o : Obj) : RamIn (w.alloc o) b bp bo bw bn pg R := H.of_heap fun k hk => Below.heap_alloc _ _ _ (hk.lt H)
theorem RamIn.drewN (H : RamIn w b bp bo bw bn pg R) (n : Nat) : RamIn (w.drewN n) b bp bo bw bn pg R := H.of_heap fun _ _ => rfl
theorem RamIn.keeps {S : Nat → Prop} (H : RamIn w b bp bo bw bn pg R) (hk : Keeps S w w') (hn : ∀ k, Owned b bp bo bw bn pg k → ¬ S k) : RamIn w' b bp bo bw bn pg R :=
 H.of_heap fun k hk' => hk.block k (hk'.lt H) (hn k hk')
theorem RamIn.facts (H : RamIn w b bp bo bw bn pg R) :
    w.cell? ⟨b, 0, none⟩ = some (.int .u32 R.size) ∧ w.cell? ⟨b, 1, none⟩ = some (.map (some bp)) ∧ w.cell? ⟨b, 2, none⟩ = some (.map (some bo)) ∧ w.cell? ⟨b, 3, none⟩ = some (.map (some bw)) ∧
    w.cell? ⟨b, 4, none⟩ = some (.map (some bn)) ∧ w.cell? ⟨b, 5, none⟩ = some (.bool R.closed) ∧ (∀ k, w.frozen? ⟨b, k, none⟩ = false) ∧ b < w.heap.size := by
 have h := H.obj
 refine ⟨?_, ?_, ?_, ?_, ?_, ?_, fun k => free_at h, heap_lt h⟩ <;> (rw [cell_at h]; rfl)
theorem page_cell {byte : Nat → Nat} {k q i : Nat} {T : TypeId} (h : w.heap[q]? = some (.cells (pageCells byte k) T)) (hi : i < 4096) : w.cell? ⟨q, i, none⟩ = some (.int .u8 (byte (k * 4096 + i))) := by
 rw [cell_at h]
 unfold pageCells
 rw [Array.getElem?_ofFn, dif_pos hi]
theorem MarkAt.lookup {g : Nat → Bool} {r n : Nat} (h : MarkAt w r g) (x : Int) (hx : x = (n : Int)) : (Instr.lookup 68 (.map (some r)) (.int .u32 x) false).run Tryz.prog w = .ok (.bool (g n)) w := by
 obtain ⟨f, m, hf⟩ := h
 rw [m.lookup Tryz.underlying68 Tryz.underlying42 (z := .bool false) (by kernel_rfl) n x hx]
 rcases hf n with ⟨h1, h2⟩ | h1
 ·rw [h1, h2]; rfl
 ·rw [h1]; rfl
theorem SetAt.lookup {g : Nat → Bool} {r n : Nat} (h : SetAt w r g) (x : Int) (hx : x = (n : Int)) : (Instr.lookup 68 (.map (some r)) (.int .u32 x) false).run Tryz.prog w = .ok (.bool (g n)) w := by
 rw [MapAt.lookup h Tryz.underlying68 Tryz.underlying42 (z := .bool false) (by kernel_rfl) n x hx]
 cases g n <;> rfl
theorem pages_lookup {r n : Nat} (h : MapAt w r .u32 (pagePtr pg)) (x : Int) (hx : x = (n : Int)) : (Instr.lookup 67 (.map (some r)) (.int .u32 x) false).run Tryz.prog w = .ok (.pointer ((pg n).map fun q => ⟨q, 0, none⟩)) w := by
 rw [h.lookup Tryz.underlying67 Tryz.underlying42 (z := .pointer none) (by kernel_rfl) n x hx]
 unfold pagePtr
 cases pg n <;> rfl
end

theorem place_any {w : World} {b bp bo bw bn : Nat} {pg : Nat → Option Nat} {R : RS} (H : RamIn w b bp bo bw bn pg R) (a : Nat) (ha : a < 4294967296) :
    Calls Tryz.prog 53 #[.pointer (some ⟨b, 0, none⟩), .int .u32 a] w fun e w' => e = .returned (.tuple #[.int .u32 (R.place a : Nat), .bool (decide (R.place a < R.size))]) ∧ ∃ n, w' = w.drewN n := by
 obtain ⟨k0, -, -, -, -, k5, kf, klt⟩ := H.facts
 have e : bits .andNot .u32 (a : Int) 1048576 = ((a &&& 4293918719 : Nat) : Int) := u32_andNot_nat a 1048576 ha (by decide)
 cases hc : R.closed
 all_goals
  rw [hc] at k5
  go_enter Tryz.func53, Tryz.ntmps53
  go_wp2_with fail
  go_quiet (fail)
  go_wp2_with fail
  go_ret2
  refine ⟨?_, _, rfl⟩
  unfold RS.place
  rw [hc]
  simp
end Go.Proofs.YtojmpdddfnkffaaGreat

/- ram: a byte is read; a byte is laid. -/
namespace Go.Proofs.YtojmpdddfnkffaaGreat
open Go.RowKit Go.MapKept
set_option linter.unusedVariables false

def Moves (S S' : Nat → Prop) (w w' : World) : Prop := Keeps S w w' ∧ ∀ k, S' k → S k ∨ w.heap.size ≤ k
theorem Moves.refl (S : Nat → Prop) (w : World) : Moves S S w w := ⟨Keeps.refl S w, fun k h => .inl h⟩
theorem Moves.drewN (S : Nat → Prop) (w : World) (n : Nat) : Moves S S w (w.drewN n) := ⟨(Keeps.refl S w).drewN n, fun k h => .inl h⟩
theorem Moves.trans {S S' S'' : Nat → Prop} {a b c : World} (h : Moves S S' a b) (k : Moves S' S'' b c) : Moves S S'' a c := by
 refine ⟨h.1.andThen k.1 fun i hi hS => ?_, fun i hi => ?_⟩
 ·rcases h.2 i hS with h1 | h1
  ·exact h1
  ·omega
 ·rcases k.2 i hi with h1 | h1
  ·exact h.2 i h1
  ·exact .inr (Nat.le_trans h.1.size h1)

theorem page_set (byte : Nat → Nat) (k i v : Nat) (hi : i < 4096) :
    (pageCells byte k).setIfInBounds i (.int .u8 v) = pageCells (fun m => if m = k * 4096 + i then v else byte m) k := by
 apply Array.ext_getElem?
 intro j
 unfold pageCells
 rw [Array.getElem?_setIfInBounds, Array.getElem?_ofFn, Array.getElem?_ofFn]
 by_cases hj : j < 4096
 ·rw [dif_pos hj, dif_pos hj]
  by_cases e : i = j
  ·subst e
   rw [if_pos rfl, if_pos (by simpa using hi)]
   simp
  ·rw [if_neg e]
   have : ¬ k * 4096 + j = k * 4096 + i := by omega
   show _ = some (Value.int .u8 ((if k * 4096 + j = k * 4096 + i then v else byte (k * 4096 + j) : Nat) : Int))
   rw [if_neg this]
 ·rw [dif_neg hj, dif_neg hj]
  by_cases e : i = j
  ·omega
  ·rw [if_neg e]
theorem page_else (byte : Nat → Nat) (k n v : Nat) (h : n / 4096 ≠ k) : pageCells (fun m => if m = n then v else byte m) k = pageCells byte k := by
 unfold pageCells
 congr 1
 funext i
 have : ¬ k * 4096 + i.val = n := by have := i.isLt; omega
 show Value.int .u8 ((if k * 4096 + i.val = n then v else byte (k * 4096 + i.val) : Nat) : Int) = _
 rw [if_neg this]
def zeroCells : Array Value := Array.replicate 4096 (.int .u8 0)
set_option maxRecDepth 100000 in
theorem zero_page (W : World) : (zeroValue 158).run Tryz.prog W = .ok (.agg zeroCells) W := by kernel_rfl
theorem page_zero : pageCells (fun _ => 0) 0 = zeroCells := by
 apply Array.ext_getElem?
 intro j
 unfold pageCells zeroCells
 rw [Array.getElem?_ofFn, Array.getElem?_replicate]
 rfl

section
variable {w w' : World} {b bp bo bw bn : Nat} {pg : Nat → Option Nat} {R : RS}
theorem RamIn.store (H : RamIn w b bp bo bw bn pg R) (n v q : Nat) (hv : v < 256) (hq : pg (n / 4096) = some q) :
    RamIn (w.setCell ⟨q, n % 4096, .none⟩ (.int .u8 v)) b bp bo bw bn pg { R with byte := fun i => if i = n then v else R.byte i } := by
 have en : n / 4096 * 4096 + n % 4096 = n := by omega
 obtain ⟨f, mo, hf⟩ := H.mo
 refine { H with
  obj := by rw [heap_set_ne _ _ _ _ _ (H.q_b hq).symm]; exact H.obj
  mp := H.mp.setCell _ _
  mo := ⟨f, mo.setCell _ _, hf⟩
  mw := MapAt.setCell H.mw _ _
  mn := MapAt.setCell H.mn _ _
  page := ?_
  zero := ?_
  ok := ⟨H.ok.p1, H.ok.p2, fun i => ?_⟩ }
 ·intro k q' hq'
  by_cases e : q' = q
  ·subst e
   have hk := H.inj _ _ _ hq hq'
   subst hk
   rw [heap_set_map, H.page _ _ hq]
   show some (Obj.cells _ _ _) = _
   rw [page_set _ _ _ _ (Nat.mod_lt _ (by decide)), en]
  ·rw [heap_set_ne _ _ _ _ _ e, H.page k q' hq', page_else]
   intro hk
   subst hk
   rw [hq] at hq'
   exact e (by cases hq'; rfl)
 ·intro k hk i hi
  have : ¬ k * 4096 + i = n := by
   intro e
   have : n / 4096 = k := by omega
   rw [this, hk] at hq
   cases hq
  show (if k * 4096 + i = n then v else _) = 0
  rw [if_neg this]
  exact H.zero k hk i hi
 ·show (if i = n then v else R.byte i) < 256
  split
  ·exact hv
  ·exact H.ok.b i
theorem RamIn.newPage (H : RamIn w b bp bo bw bn pg R) (k : Nat) (hk : pg k = .none) (hk2 : k < R.pages) {w1 : World} (hm : MapAt w1 bp .u32 (fun m => if m = k then some (.pointer (some ⟨w.heap.size, 0, .none⟩)) else pagePtr pg m))
    (hk1 : Keeps (· = bp) (w.alloc (.cells zeroCells 158)) w1) :
    RamIn w1 b bp bo bw bn (fun m => if m = k then some w.heap.size else pg m) R := by
 have hin := fun m hm => Owned.lt H (k := m) hm
 have hh : ∀ m, m < w.heap.size → m ≠ bp → w1.heap[m]? = w.heap[m]? := fun m h1 h2 => by
  rw [hk1.block m (by simp; omega) h2, Below.heap_alloc _ _ _ h1]
 obtain ⟨f, mo, hf⟩ := H.mo
 refine { H with
  obj := by rw [hh b (hin b (.inl rfl)) H.b_p]; exact H.obj
  mp := hm.ext fun m => ?_
  mo := ⟨f, mo.of_heap (hh bo mo.lt H.d1.symm), hf⟩
  mw := MapAt.of_heap H.mw (hh bw (MapAt.lt H.mw) H.d2.symm)
  mn := MapAt.of_heap H.mn (hh bn (MapAt.lt H.mn) H.d3.symm)
  page := ?_
  zero := ?_
  inj := ?_
  inside := ?_ }
 ·unfold pagePtr
  by_cases e : m = k
  ·simp [e]
  ·simp [e]
 ·intro k' q hq
  by_cases e : k' = k
  ·subst e
   simp only [if_true, Option.some.injEq] at hq
   subst hq
   rw [hk1.block _ (by simp) (by have := H.mp.lt; omega), heap_new]
   have : pageCells R.byte k' = zeroCells := by
    rw [← page_zero]
    unfold pageCells
    congr 1
    funext i
    rw [H.zero k' hk i.val i.isLt]
   rw [this]
  ·simp only [e, if_false] at hq
   rw [hh q (hin q (.inr (.inr (.inr (.inr (.inr ⟨k', hq⟩)))))) (H.q_p hq)]
   exact H.page k' q hq
 ·intro k' hk' i hi
  by_cases e : k' = k
  ·simp [e] at hk'
  ·simp only [e, if_false] at hk'
   exact H.zero k' hk' i hi
 ·intro k1 k2 q h1 h2
  by_cases e1 : k1 = k
  ·by_cases e2 : k2 = k
   ·rw [e1, e2]
   ·simp only [e1, e2, if_true, if_false, Option.some.injEq] at h1 h2
    have := hin q (.inr (.inr (.inr (.inr (.inr ⟨k2, h2⟩)))))
    omega
  ·by_cases e2 : k2 = k
   ·simp only [e1, e2, if_true, if_false, Option.some.injEq] at h1 h2
    have := hin q (.inr (.inr (.inr (.inr (.inr ⟨k1, h1⟩)))))
    omega
   ·simp only [e1, e2, if_false] at h1 h2
    exact H.inj k1 k2 q h1 h2
 ·intro k' q hq
  by_cases e : k' = k
  ·rw [e]; exact hk2
  ·simp only [e, if_false] at hq
   exact H.inside k' q hq
theorem RamIn.turnWatched (H : RamIn w b bp bo bw bn pg R) {g : Nat → Bool} (hm : SetAt w' bw g) (hk : Keeps (· = bw) w w') : RamIn w' b bp bo bw bn pg { R with watched := g } := by
 have hin := fun m hm => Owned.lt H (k := m) hm
 obtain ⟨f, mo, hf⟩ := H.mo
 exact { H with
  obj := by rw [hk.block b (hin b (.inl rfl)) H.b_w]; exact H.obj
  mp := H.mp.of_heap (hk.block _ H.mp.lt H.d2)
  mo := ⟨f, mo.of_heap (hk.block _ mo.lt H.d4), hf⟩
  mw := hm
  mn := MapAt.of_heap H.mn (hk.block _ (MapAt.lt H.mn) H.d6.symm)
  page := fun k q hq => by rw [hk.block q (heap_lt (H.page k q hq)) (H.q_w hq)]; exact H.page k q hq
  ok := ⟨H.ok.p1, H.ok.p2, H.ok.b⟩ }
theorem RamIn.turnNoted (H : RamIn w b bp bo bw bn pg R) {g : Nat → Bool} (hm : SetAt w' bn g) (hk : Keeps (· = bn) w w') : RamIn w' b bp bo bw bn pg { R with noted := g } := by
 have hin := fun m hm => Owned.lt H (k := m) hm
 obtain ⟨f, mo, hf⟩ := H.mo
 exact { H with
  obj := by rw [hk.block b (hin b (.inl rfl)) H.b_n]; exact H.obj
  mp := H.mp.of_heap (hk.block _ H.mp.lt H.d3)
  mo := ⟨f, mo.of_heap (hk.block _ mo.lt H.d5), hf⟩
  mw := MapAt.of_heap H.mw (hk.block _ (MapAt.lt H.mw) H.d6)
  mn := hm
  page := fun k q hq => by rw [hk.block q (heap_lt (H.page k q hq)) (H.q_n hq)]; exact H.page k q hq
  ok := ⟨H.ok.p1, H.ok.p2, H.ok.b⟩ }
theorem Owned.newPage {k m : Nat} (n : Nat) (h : Owned b bp bo bw bn (fun m => if m = k then some n else pg m) m) : Owned b bp bo bw bn pg m ∨ m = n := by
 rcases h with h | h | h | h | h | ⟨j, hj⟩
 ·exact .inl (.inl h)
 ·exact .inl (.inr (.inl h))
 ·exact .inl (.inr (.inr (.inl h)))
 ·exact .inl (.inr (.inr (.inr (.inl h))))
 ·exact .inl (.inr (.inr (.inr (.inr (.inl h)))))
 ·by_cases e : j = k
  ·simp only [e, if_true, Option.some.injEq] at hj
   exact .inr hj.symm
  ·simp only [e, if_false] at hj
   exact .inl (.inr (.inr (.inr (.inr (.inr ⟨j, hj⟩)))))
end

theorem get_any {w : World} {b bp bo bw bn : Nat} {pg : Nat → Option Nat} {R : RS} (H : RamIn w b bp bo bw bn pg R) (a : Nat) (ha : a < 4294967296) :
    Calls Tryz.prog 55 #[.pointer (some ⟨b, 0, .none⟩), .int .u32 a] w fun e w' => e = .returned (.int .u8 (R.get a : Nat)) ∧ ∃ n, w' = w.drewN n := by
 obtain ⟨-, k1, -, -, -, -, kf, klt⟩ := H.facts
 have hpl := R.place_le a
 have hsz := RS.size_le H.ok
 have hpa := place_any H a ha
 have hg : R.get a = if R.place a < R.size then R.byte (R.place a) else 255 := rfl
 have HG := Lib.hid hg
 clear hg
 generalize R.place a = p at *
 have HP := Lib.hid hpa
 clear hpa
 by_cases hs : p < R.size
 ·have hd : decide (p < R.size) = true := decide_eq_true hs
  have hx : ((p : Int) / 4096) = ((p / 4096 : Nat) : Int) := by omega
  have hm : ((p : Int) % 4096) = ((p % 4096 : Nat) : Int) := by omega
  rcases hq : pg (p / 4096) with _ | q
  ·have hb : R.byte p = 0 := by
     have := H.zero _ hq (p % 4096) (Nat.mod_lt _ (by decide))
     rwa [show p / 4096 * 4096 + p % 4096 = p by omega] at this
   go_enter Tryz.func55, Tryz.ntmps55
   go_wp2_with fail
   refine HP.out.mono ?_
   rintro e w1 ⟨rfl, n, rfl⟩
   rw [hd]
   have hl := pages_lookup (H.mp.drewN n) _ hx
   rw [hq] at hl
   clear hx hm hd hq
   go_wp2_with fail
   go_ret
   refine ⟨?_, n, rfl⟩
   rw [HG.out, if_pos hs, hb]; rfl
  ·have hc := page_cell (H.page _ _ hq) (Nat.mod_lt p (show 0 < 4096 by decide))
   rw [show p / 4096 * 4096 + p % 4096 = p by omega] at hc
   have hb := H.ok.b p
   go_enter Tryz.func55, Tryz.ntmps55
   go_wp2_with fail
   refine HP.out.mono ?_
   rintro e w1 ⟨rfl, n, rfl⟩
   rw [hd]
   have hl := pages_lookup (H.mp.drewN n) _ hx
   rw [hq, Option.map_some] at hl
   have HQ := Lib.hid hq
   clear hx hd hm hq
   go_wp2_with fail
   go_ret
   refine ⟨?_, n, rfl⟩
   rw [HG.out, if_pos hs]; rfl
 ·have hd : decide (p < R.size) = false := decide_eq_false hs
  go_enter Tryz.func55, Tryz.ntmps55
  go_wp2_with fail
  refine HP.out.mono ?_
  rintro e w1 ⟨rfl, n, rfl⟩
  rw [hd]
  clear hd
  go_wp2_with fail
  go_ret
  refine ⟨?_, n, rfl⟩
  rw [HG.out, if_neg hs]; rfl
end Go.Proofs.YtojmpdddfnkffaaGreat

/- Objects side by side, any number of them: each with blocks of its own. -/
namespace Go.Proofs.YtojmpdddfnkffaaGreat
open Go.RowKit
set_option linter.unusedVariables false

structure Ob where
 P : World → (Nat → Prop) → Prop
 loc : ∀ {w w' : World} {H : Nat → Prop}, P w H → (∀ k, H k → w'.heap[k]? = w.heap[k]?) → P w' H
 lt : ∀ {w : World} {H : Nat → Prop}, P w H → ∀ k, H k → k < w.heap.size

def Side : List Ob → World → (Nat → Prop) → Prop
 | [], _, H => ∀ k, ¬ H k
 | o :: os, w, H => ∃ A B, o.P w A ∧ Side os w B ∧ (∀ k, A k → ¬ B k) ∧ ∀ k, H k ↔ A k ∨ B k

theorem Side.lt : ∀ (os : List Ob) {w : World} {H : Nat → Prop}, Side os w H → ∀ k, H k → k < w.heap.size
 | [], w, H, S => fun k hk => (S k hk).elim
 | o :: os, w, H, S => fun k hk => by
  obtain ⟨A, B, a, b, d, e⟩ := S
  rcases (e k).1 hk with h | h
  ·exact o.lt a k h
  ·exact Side.lt os b k h
theorem Side.loc : ∀ (os : List Ob) {w w' : World} {H : Nat → Prop}, Side os w H → (∀ k, H k → w'.heap[k]? = w.heap[k]?) → Side os w' H
 | [], w, w', H, S, h => S
 | o :: os, w, w', H, S, h => by
  obtain ⟨A, B, a, b, d, e⟩ := S
  exact ⟨A, B, o.loc a fun k hk => h k ((e k).2 (.inl hk)), Side.loc os b fun k hk => h k ((e k).2 (.inr hk)), d, e⟩
def Ob.all (os : List Ob) : Ob := ⟨Side os, fun h g => Side.loc os h g, fun h => Side.lt os h⟩
def Ob.any {α : Type} (o : α → Ob) : Ob := ⟨fun w H => ∃ a, (o a).P w H, fun ⟨a, h⟩ g => ⟨a, (o a).loc h g⟩, fun ⟨a, h⟩ => (o a).lt h⟩
def Ob.and (o : Ob) (p : Prop) : Ob := ⟨fun w H => o.P w H ∧ p, fun h g => ⟨o.loc h.1 g, h.2⟩, fun h => o.lt h.1⟩
def Ob.box (b : Nat) (x : Obj) : Ob := ⟨fun w H => w.heap[b]? = some x ∧ ∀ k, H k ↔ k = b, fun h g => ⟨(g b ((h.2 b).2 rfl)).trans h.1, h.2⟩, fun h k hk => by rw [(h.2 k).1 hk]; exact heap_lt h.1⟩

theorem Side.split : ∀ (os : List Ob) (i : Nat) {o : Ob} {w : World} {H : Nat → Prop}, os[i]? = some o → Side os w H →
    ∃ A, o.P w A ∧ (∀ k, A k → H k) ∧ ∀ (w' : World) (A' : Nat → Prop) (o' : Ob), o'.P w' A' → Moves A A' w w' → ∃ H', Side (os.set i o') w' H' ∧ Moves H H' w w'
 | [], i, o, w, H, hi, S => by simp at hi
 | x :: os, 0, o, w, H, hi, S => by
  have hx : x = o := by simpa using hi
  subst hx
  obtain ⟨A, B, a, b, d, e⟩ := S
  refine ⟨A, a, fun k hk => (e k).2 (.inl hk), fun w' A' o' a' M => ⟨fun k => A' k ∨ B k, ⟨A', B, a', Side.loc os b fun k hk => M.1.block k (Side.lt os b k hk) fun h => d k h hk, fun k h1 h2 => ?_, fun k => Iff.rfl⟩, M.1.mono fun k _ h => (e k).2 (.inl h), fun k hk => ?_⟩⟩
  ·rcases M.2 k h1 with h | h
   ·exact d k h h2
   ·have := Side.lt os b k h2; omega
  ·rcases hk with hk | hk
   ·exact (M.2 k hk).imp (fun h => (e k).2 (.inl h)) id
   ·exact .inl ((e k).2 (.inr hk))
 | x :: os, i + 1, o, w, H, hi, S => by
  obtain ⟨A, B, a, b, d, e⟩ := S
  obtain ⟨C, c, cb, h⟩ := Side.split os i (by simpa using hi) b
  refine ⟨C, c, fun k hk => (e k).2 (.inr (cb k hk)), fun w' C' o' c' M => ?_⟩
  obtain ⟨B', b', N⟩ := h w' C' o' c' M
  refine ⟨fun k => A k ∨ B' k, ⟨A, B', x.loc a fun k hk => N.1.block k (x.lt a k hk) (d k hk), b', fun k h1 h2 => ?_, fun k => Iff.rfl⟩, N.1.mono fun k _ h => (e k).2 (.inr h), fun k hk => ?_⟩
  ·rcases N.2 k h2 with h | h
   ·exact d k h1 h
   ·have := x.lt a k h1; omega
  ·rcases hk with hk | hk
   ·exact .inl ((e k).2 (.inl hk))
   ·exact (N.2 k hk).imp (fun h => (e k).2 (.inr h)) id
theorem Side.snoc {o : Ob} : ∀ (os : List Ob) {w : World} {H A : Nat → Prop}, Side os w H → o.P w A → (∀ k, H k → ¬ A k) → Side (os ++ [o]) w (fun k => H k ∨ A k)
 | [], w, H, A, S, a, d => ⟨A, H, a, S, fun k _ h => S k h, fun k => ⟨fun h => h.symm, fun h => h.symm⟩⟩
 | x :: os, w, H, A, S, a, d => by
  obtain ⟨C, B, c, b, f, e⟩ := S
  refine ⟨C, fun k => B k ∨ A k, c, Side.snoc os b a fun k h => d k ((e k).2 (.inr h)), fun k h1 h2 => ?_, fun k => ?_⟩
  ·rcases h2 with h2 | h2
   ·exact f k h1 h2
   ·exact d k ((e k).2 (.inl h1)) h2
  ·show (H k ∨ A k) ↔ _
   rw [e k, or_assoc]

def Hp (w0 : World) (A0 : Nat → Prop) (w : World) (os : List Ob) : Prop := ∃ A, Side os w A ∧ Moves A0 A w0 w
section
variable {w0 w w' : World} {A0 : Nat → Prop} {os : List Ob} {o : Ob}
theorem Hp.zero (w : World) : Hp w (fun _ => False) w [] := ⟨fun _ => False, fun _ h => h, Moves.refl _ _⟩
theorem Hp.start {A : Nat → Prop} (h : (Ob.all os).P w A) : Hp w A w os := ⟨A, h, Moves.refl _ _⟩
theorem Hp.end_ (T : Hp w0 A0 w os) : ∃ A, (Ob.all os).P w A ∧ Moves A0 A w0 w := T
theorem Hp.as (T : Hp w0 A0 w os) (h : ∀ A, Side os w A → o.P w A) : Hp w0 A0 w [o] := by
 obtain ⟨A, a, M⟩ := T
 exact ⟨A, ⟨A, fun _ => False, h A a, fun _ h => h, fun _ _ h => h, fun k => ⟨.inl, fun h => h.elim id False.elim⟩⟩, M⟩
theorem Hp.below (T : Hp w0 (fun _ => False) w os) : Below w0.heap.size w0 w := by
 obtain ⟨A, a, M⟩ := T
 exact Keeps.toBelow (Below.refl _ _) M.1 (Nat.le_refl _) fun k h => h.elim
theorem Hp.grow (T : Hp w0 A0 w os) (hb : Below w.heap.size w w') : Hp w0 A0 w' os := by
 obtain ⟨A, a, M⟩ := T
 exact ⟨A, Side.loc os a fun k hk => hb.block k (Side.lt os a k hk), M.1.below hb, M.2⟩
theorem Hp.alloc (T : Hp w0 A0 w os) (x : Obj) : Hp w0 A0 (w.alloc x) os := T.grow ((Below.refl _ _).alloc (Nat.le_refl _) _)
theorem Hp.drew (T : Hp w0 A0 w os) : Hp w0 A0 w.drew os := T.grow ⟨rfl, rfl, rfl, Nat.le_refl _, fun _ _ => rfl⟩
theorem Hp.drewN (T : Hp w0 A0 w os) (n : Nat) : Hp w0 A0 (w.drewN n) os := T.grow ⟨rfl, rfl, rfl, Nat.le_refl _, fun _ _ => rfl⟩
theorem Hp.get (T : Hp w0 A0 w os) (i : Nat) (h : os[i]? = some o) : ∃ A, o.P w A := by
 obtain ⟨A, a, M⟩ := T
 obtain ⟨C, c, _⟩ := Side.split os i h a
 exact ⟨C, c⟩
theorem Hp.turn (T : Hp w0 A0 w os) (i : Nat) (h : os[i]? = some o) : ∃ A, o.P w A ∧ ∀ (w' : World) (A' : Nat → Prop) (o' : Ob), o'.P w' A' → Moves A A' w w' → Hp w0 A0 w' (os.set i o') := by
 obtain ⟨A, a, M⟩ := T
 obtain ⟨C, c, _, g⟩ := Side.split os i h a
 refine ⟨C, c, fun w' C' o' c' N => ?_⟩
 obtain ⟨H', s', M'⟩ := g w' C' o' c' N
 exact ⟨H', s', M.trans M'⟩
theorem Hp.call (T : Hp w0 A0 w os) (i : Nat) {f : FuncId} {args : Array Value} {Q : Ending → Ob → Prop} (h : os[i]? = some o)
    (hc : ∀ A, o.P w A → Calls Tryz.prog f args w fun e w' => ∃ o', Q e o' ∧ ∃ A', o'.P w' A' ∧ Moves A A' w w') :
    Calls Tryz.prog f args w fun e w' => ∃ o', Q e o' ∧ Hp w0 A0 w' (os.set i o') := by
 obtain ⟨C, c, g⟩ := T.turn i h
 refine (hc C c).mono ?_
 rintro e w' ⟨o', q, A', a', M⟩
 exact ⟨o', q, g _ _ _ a' M⟩
theorem Hp.new {A : Nat → Prop} (T : Hp w0 A0 w os) (hb : Below w.heap.size w w') (a : o.P w' A) (hA : ∀ k, A k → w.heap.size ≤ k) : Hp w0 A0 w' (os ++ [o]) := by
 obtain ⟨H, s, M⟩ := T
 have s' := Side.loc os s fun k hk => hb.block k (Side.lt os s k hk)
 refine ⟨fun k => H k ∨ A k, s'.snoc os a fun k h1 h2 => by have := Side.lt os s k h1; have := hA k h2; omega, M.1.below hb, fun k hk => ?_⟩
 rcases hk with hk | hk
 ·exact M.2 k hk
 ·exact .inr (Nat.le_trans M.1.size (hA k hk))
theorem Hp.make (T : Hp w0 A0 w os) (x : Obj) : Hp w0 A0 (w.alloc x) (os ++ [Ob.box w.heap.size x]) :=
 T.new ((Below.refl _ _).alloc (Nat.le_refl _) _) (A := fun k => k = w.heap.size) ⟨heap_new w x, fun k => Iff.rfl⟩ fun k h => by omega
theorem Hp.box (T : Hp w0 A0 w os) (i : Nat) {b : Nat} {x : Obj} (h : os[i]? = some (Ob.box b x)) : w.heap[b]? = some x := by
 obtain ⟨A, a⟩ := T.get i h; exact a.1
theorem Hp.set (T : Hp w0 A0 w os) (i : Nat) {b : Nat} {xs : Array Value} {T0 : TypeId} (h : os[i]? = some (Ob.box b (.cells xs T0))) (k : Nat) (v : Value) :
    Hp w0 A0 (w.setCell ⟨b, k, none⟩ v) (os.set i (Ob.box b (.cells (xs.setIfInBounds k v) T0))) := by
 obtain ⟨A, ⟨a, e⟩, g⟩ := T.turn i h
 refine g _ A _ ⟨?_, e⟩ ⟨((Keeps.refl _ _).setCell (.inl ((e b).2 rfl)) _), fun k hk => .inl hk⟩
 rw [heap_set_map, a]; rfl
end
def Acts (f : FuncId) (args : Array Value) (o : Ob) (r : Value) (o' : Ob) : Prop := ∀ w A, o.P w A → Calls Tryz.prog f args w fun e w' => e = .returned r ∧ ∃ A', o'.P w' A' ∧ Moves A A' w w'
theorem Hp.act {w0 w : World} {A0 : Nat → Prop} {os : List Ob} {o o' : Ob} {f : FuncId} {args : Array Value} {r : Value} (T : Hp w0 A0 w os) (i : Nat) (h : os[i]? = some o) (c : Acts f args o r o') :
    Calls Tryz.prog f args w fun e w' => e = .returned r ∧ Hp w0 A0 w' (os.set i o') := by
 obtain ⟨C, a, g⟩ := T.turn i h
 refine (c _ C a).mono ?_
 rintro e w' ⟨rfl, A', a', M⟩
 exact ⟨rfl, g _ _ _ a' M⟩
end Go.Proofs.YtojmpdddfnkffaaGreat

/- pic: trailing zeros; a pair of chips as an object; which line asks, which is told. -/
namespace Go.Proofs.YtojmpdddfnkffaaGreat.Pic
open Go.RowKit
set_option linter.unusedVariables false

def tz8 (x : Nat) : Nat := Lib.trailingZeros8 x
theorem tz8_le (x : Nat) (hx : x < 256) : tz8 x ≤ 8 := by
 have h : ∀ y : Fin 256, tz8 y.val ≤ 8 := by decide +kernel
 exact h ⟨x, hx⟩

set_option maxRecDepth 100000 in
theorem tz_int (x : Int) (h0 : 0 ≤ x) (h1 : x ≤ 255) (w : World) : Calls Tryz.prog 123 #[.int .u8 x] w fun e w' => e = .returned (.int .i64 (Lib.trailingZeros8 x.toNat)) ∧ w = w' := by
 rw [← Lib.ntz8_int x h0 h1]
 go_enter Tryz.func123, Tryz.ntmps123
 go_wp2
 go_ret
 exact ⟨by kernel_rfl, rfl⟩
theorem tz_any (x : Nat) (hx : x < 256) (w : World) : Calls Tryz.prog 123 #[.int .u8 x] w fun e w' => e = .returned (.int .i64 (tz8 x)) ∧ w = w' := by
 have h := tz_int x (by omega) (by omega) w
 rw [Int.toNat_natCast] at h
 exact h

structure Chip where
 asks : Nat
 served : Nat
 masked : Nat
 up : Nat
 base : Nat
 told : Bool
 ends : Bool
 stage : Nat
 second : Bool
 last : Bool
structure Chip.ok (c : Chip) : Prop where
 asks : c.asks < 256
 served : c.served < 256
 masked : c.masked < 256
 up : c.up < 256
 base : c.base < 256
 stage : c.stage < 4
def Chip.cells (c : Chip) : List Value := [.int .u8 c.asks, .int .u8 c.served, .int .u8 c.masked, .int .u8 c.up, .int .u8 c.base, .bool c.told, .bool c.ends, .int .i64 c.stage, .bool c.second, .bool c.last]

def Pair (w : World) (b : Nat) (c d : Chip) : Prop := w.heap[b]? = some (.cells (c.cells ++ d.cells).toArray 120)
theorem Pair.below {w w1 : World} {b : Nat} {c d : Chip} (H : Pair w b c d) (hb : Below w.heap.size w w1) : Pair w1 b c d := heap_below hb H
theorem Pair.facts {w : World} {b : Nat} {c d : Chip} (H : Pair w b c d) :
    w.cell? ⟨b, 0, none⟩ = some (.int .u8 c.asks) ∧ w.cell? ⟨b, 1, none⟩ = some (.int .u8 c.served) ∧ w.cell? ⟨b, 2, none⟩ = some (.int .u8 c.masked) ∧ w.cell? ⟨b, 3, none⟩ = some (.int .u8 c.up) ∧ w.cell? ⟨b, 4, none⟩ = some (.int .u8 c.base) ∧
    w.cell? ⟨b, 5, none⟩ = some (.bool c.told) ∧ w.cell? ⟨b, 6, none⟩ = some (.bool c.ends) ∧ w.cell? ⟨b, 7, none⟩ = some (.int .i64 c.stage) ∧ w.cell? ⟨b, 8, none⟩ = some (.bool c.second) ∧ w.cell? ⟨b, 9, none⟩ = some (.bool c.last) ∧
    w.cell? ⟨b, 10, none⟩ = some (.int .u8 d.asks) ∧ w.cell? ⟨b, 11, none⟩ = some (.int .u8 d.served) ∧ w.cell? ⟨b, 12, none⟩ = some (.int .u8 d.masked) ∧ w.cell? ⟨b, 13, none⟩ = some (.int .u8 d.up) ∧ w.cell? ⟨b, 14, none⟩ = some (.int .u8 d.base) ∧
    w.cell? ⟨b, 15, none⟩ = some (.bool d.told) ∧ w.cell? ⟨b, 16, none⟩ = some (.bool d.ends) ∧ w.cell? ⟨b, 17, none⟩ = some (.int .i64 d.stage) ∧ w.cell? ⟨b, 18, none⟩ = some (.bool d.second) ∧ w.cell? ⟨b, 19, none⟩ = some (.bool d.last) ∧
    (∀ k, w.frozen? ⟨b, k, none⟩ = false) ∧ b < w.heap.size := by
 unfold Pair at H
 refine ⟨?_, ?_, ?_, ?_, ?_, ?_, ?_, ?_, ?_, ?_, ?_, ?_, ?_, ?_, ?_, ?_, ?_, ?_, ?_, ?_, fun k => free_at H, heap_lt H⟩ <;> (rw [cell_at H]; rfl)

theorem andNot_lt (a m : Nat) (ha : a < 256) : a &&& (255 - m) < 256 := Nat.lt_of_le_of_lt Nat.and_le_left ha

theorem asking1_any (b : Nat) (c d : Chip) (w : World) (H : Pair w b c d) :
    Calls Tryz.prog 104 #[.pointer (some ⟨b, 0, none⟩), .int .i64 1] w fun e w' => e = .returned (.int .u8 d.asks) ∧ w = w' := by
 have k10 := H.facts.2.2.2.2.2.2.2.2.2.2.1
 go_enter Tryz.func104, Tryz.ntmps104
 go_wp2_with fail
 go_ret
 exact ⟨rfl, rfl⟩

def isTold (a m s : Nat) : Bool := decide (tz8 (a &&& (255 - m)) < tz8 s)
def left (a m : Nat) : Nat := a &&& (255 - m)
theorem left_lt {a m : Nat} (ha : a < 256) : left a m < 256 := andNot_lt a m ha

theorem tells1_any (b : Nat) (c d : Chip) (hd : d.ok) (w : World) (H : Pair w b c d) :
    Calls Tryz.prog 90 #[.pointer (some ⟨b, 0, none⟩), .int .i64 1] w fun e w' =>
     e = .returned (.tuple #[.int .i64 (tz8 (left d.asks d.masked)), .bool (isTold d.asks d.masked d.served)]) ∧ ∃ n, w' = w.drewN n := by
 obtain ⟨-, -, -, -, -, -, -, -, -, -, k10, k11, k12, -, -, -, -, -, -, -, kf, klt⟩ := H.facts
 have ha := hd.asks
 have hm := hd.masked
 have hs := hd.served
 have hbit := u8_andNot_nat d.asks d.masked ha hm
 have hbit2 : bits .andNot .u8 (d.asks : Int) (d.masked : Int) = ((left d.asks d.masked : Nat) : Int) := hbit
 clear hbit
 have hl := left_lt (m := d.masked) ha
 go_enter Tryz.func90, Tryz.ntmps90
 have t0 : 0 ≤ (tz8 (left d.asks d.masked) : Int) := Int.natCast_nonneg _
 go_wp2_with fail
 go_quiet ((first | (go_at_call 104; exact Calls.quiet_of_same ((asking1_any b c d (World.drewN w _) H).mono fun e w' h => ⟨h.1, h.2.symm⟩)) | (go_at_call 123; exact Calls.quiet_of_same ((tz_any _ hl _).mono fun e w' h => ⟨h.1, h.2.symm⟩))))
 go_wp2_with fail
 refine (tz_any _ hs _).mono ?_
 rintro e w1 ⟨rfl, rfl⟩
 go_wp2_with fail
 go_ret2
 exact ⟨rfl, _, rfl⟩

def ask0 (c d : Chip) : Nat := if isTold d.asks d.masked d.served then (c.asks &&& 251) ||| 4 else c.asks &&& 251
theorem ask0_lt (c d : Chip) (hc : c.asks < 256) : ask0 c d < 256 := by
 have h : c.asks &&& 251 < 256 := Nat.lt_of_le_of_lt Nat.and_le_left hc
 unfold ask0
 split
 ·exact Nat.or_lt_two_pow (n := 8) h (by decide)
 ·exact h

theorem asking0_any (b : Nat) (c d : Chip) (hc : c.ok) (hd : d.ok) (w : World) (H : Pair w b c d) :
    Calls Tryz.prog 104 #[.pointer (some ⟨b, 0, none⟩), .int .i64 0] w fun e w' => e = .returned (.int .u8 (ask0 c d)) ∧ ∃ n, w' = w.drewN n := by
 have k0 := H.facts.1
 have ha := hc.asks
 have e1 : bits .andNot .u8 (c.asks : Int) 4 = ((c.asks &&& 251 : Nat) : Int) := u8_andNot_nat c.asks 4 ha (by decide)
 have hlt : c.asks &&& 251 < 256 := Nat.lt_of_le_of_lt Nat.and_le_left ha
 have e2 : bits .or .u8 ((c.asks &&& 251 : Nat) : Int) 4 = (((c.asks &&& 251) ||| 4 : Nat) : Int) := u8_or_nat (c.asks &&& 251) 4 hlt (by decide)
 have E1 := Lib.hid e1
 have E2 := Lib.hid e2
 have HD := Lib.hid hd
 clear e1 e2 hc hd
 cases ht : isTold d.asks d.masked d.served
 all_goals
  have HT := Lib.hid ht
  clear ht
  go_enter Tryz.func104, Tryz.ntmps104
  go_wp2_with fail
  rw [E1.out]
  refine (tells1_any b c d HD.out _ H).mono ?_
  rintro e w1 ⟨rfl, n, rfl⟩
  rw [HT.out]
  go_wp2_with fail
  go_ret
  refine ⟨?_, n, rfl⟩
  unfold ask0
  rw [HT.out]
  first | rfl | (rw [if_pos rfl, ← E2.out]; rfl)

theorem tells0_any (b : Nat) (c d : Chip) (hc : c.ok) (hd : d.ok) (w : World) (H : Pair w b c d) :
    Calls Tryz.prog 90 #[.pointer (some ⟨b, 0, none⟩), .int .i64 0] w fun e w' =>
     e = .returned (.tuple #[.int .i64 (tz8 (left (ask0 c d) c.masked)), .bool (isTold (ask0 c d) c.masked c.served)]) ∧ ∃ n, w' = w.drewN n := by
 obtain ⟨k0, k1, k2, -, -, -, -, -, -, -, -, -, -, -, -, -, -, -, -, -, kf, klt⟩ := H.facts
 have ha := ask0_lt c d hc.asks
 have hm := hc.masked
 have hs := hc.served
 have hbit2 : bits .andNot .u8 (ask0 c d : Int) (c.masked : Int) = ((left (ask0 c d) c.masked : Nat) : Int) := u8_andNot_nat (ask0 c d) c.masked ha hm
 have hl := left_lt (m := c.masked) ha
 have HC := Lib.hid hc
 have HD := Lib.hid hd
 clear hc hd
 have t0 : 0 ≤ (tz8 (left (ask0 c d) c.masked) : Int) := Int.natCast_nonneg _
 go_enter Tryz.func90, Tryz.ntmps90
 go_wp2_with fail
 go_quiet ((first | (go_at_call 104; exact Calls.quiet_of (asking0_any b c d HC.out HD.out (World.drewN w _) H)) | (go_at_call 123; exact Calls.quiet_of_same ((tz_any _ hl _).mono fun e w' h => ⟨h.1, h.2.symm⟩))))
 go_wp2_with fail
 refine (tz_any _ hs _).mono ?_
 rintro e w1 ⟨rfl, rfl⟩
 go_wp2_with fail
 go_ret2
 exact ⟨rfl, _, rfl⟩

theorem pending_any (b : Nat) (c d : Chip) (hc : c.ok) (hd : d.ok) (w : World) (H : Pair w b c d) :
    Calls Tryz.prog 51 #[.pointer (some ⟨b, 0, none⟩)] w fun e w' => e = .returned (.bool (isTold (ask0 c d) c.masked c.served)) ∧ ∃ n, w' = w.drewN n := by
 go_enter Tryz.func51, Tryz.ntmps51
 go_wp2_with fail
 refine (tells0_any b c d hc hd _ H).mono ?_
 rintro e w1 ⟨rfl, n, rfl⟩
 go_wp2_with fail
 go_ret
 exact ⟨rfl, n, rfl⟩
end Go.Proofs.YtojmpdddfnkffaaGreat.Pic

