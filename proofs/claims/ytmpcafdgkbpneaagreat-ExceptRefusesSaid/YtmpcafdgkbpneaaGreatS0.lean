/- Steps of a proof: End, Frame, Obj, Map, RamA, together. -/
import Derived.Test.YtmpcafdgkbpneaaGreatRows
import Derived.WalkKit
import Derived.ProofKit
import Derived.OpenShut
import Derived.Below
import Derived.Carry
import Derived.WalkSpells
import Derived.WalkLawsBesides
import Derived.Handy
import Derived.MapKept
import Derived.Maps.Own
import Derived.Maps.OwnOps
import Derived.Maps.OwnSet
import Derived.BigRegion
import Derived.Deep.RegionWith
import Derived.Deep.RegionHeld3
import Derived.Deep.Cut
import Derived.Lib.Hide
import Derived.Laws.BitsAll
import Derived.Deep.QuietTactic
import Derived.BigQuiet
/- The row's last step, where 'Below' alone is known of the world behind the call. -/
set_option maxHeartbeats 4000000
namespace Go.Proofs.YtmpcafdgkbpneaaGreat
open Go.RowKit Go.WideShapes Go.ChangeShapes

theorem own : ownKnob Tryz.prog.godebug = none := by kernel_rfl

end Go.Proofs.YtmpcafdgkbpneaaGreat

/- The frame of every law of this house: arguments opened by their types alone, read again behind the call by 'Below'. -/
namespace Go.Proofs.YtmpcafdgkbpneaaGreat
open Go.RowKit Go.WideShapes Go.ChangeShapes

section
variable {H : Type} {enc : TypeId × Value → H} {P : Program}

theorem trodAll_below (hl : laidOutB P = true) {W W' : World} (hb : Below W.heap.size W W') : ∀ (ts : List TypeId) (vs : List Value) (ds : List (DataW H)) (ps : List MemPlace),
    ts.all (fun t => P.readableRec t && decide (t < P.types.size)) = true → DataW.TrodAll enc P W 0 (fun _ => true) true ts vs ds ps → (∀ p ∈ ps, p.block < W.heap.size) →
    DataW.TrodAll enc P W' 0 (fun b => decide (b < W.heap.size)) true ts vs ds ps
 | [], [], [], ps, _, h, _ => h
 | t :: ts, v :: vs, d :: ds, ps, hr, h, hlt => by
  obtain ⟨p, q, h1, h2, rfl⟩ := h
  simp only [List.all_cons, Bool.and_eq_true, decide_eq_true_eq] at hr
  exact ⟨p, q, Below.trod hl hr.1.1 hr.1.2 h1 hb (fun x hx => hlt x (by simp [hx])), trodAll_below hl hb ts vs ds q (by simpa using hr.2) h2 (fun x hx => hlt x (by simp [hx])), rfl⟩
 | [], _ :: _, _, _, _, h, _ => h.elim
 | [], [], _ :: _, _, _, h, _ => h.elim
 | _ :: _, [], _, _, _, h, _ => h.elim
 | _ :: _, _ :: _, [], _, _, h, _ => h.elim

theorem law_end (hl : laidOutB P = true) {f : Func} {s : ChangeSpec} {apart : Bool} {W : World} {args : Array Value} {ds gs : List (DataW H)} {before : List MemPlace} {n : Nat} {tb : TypeId}
    (hW : DataW.Whole enc P f.params.toList s.vars apart W args.toList ds gs before) (hvars : s.vars = [])
    (hr : f.params.toList.all (fun t => P.readableRec t && decide (t < P.types.size)) = true) (htb : P.underlying tb = some .bool) (hrt : f.resultTypes = #[tb])
    (hs : s.fn H ds = { results := [.lit (.bool true)], args := ds })
    (hw : Calls P n args W fun e W' => e = .returned (.bool true) ∧ Below W.heap.size W W') :
    Calls P n args W fun e W' => ∃ v, e = .returned v ∧ s.post enc P f apart true false false W args v W' := by
 refine hw.mono fun e W' ⟨he, hb⟩ => ⟨_, he, ?_⟩
 have hW2 := hW
 obtain ⟨p, q, hA, hV, hpq, _, _⟩ := hW
 rw [hvars] at hV
 have hgs : gs = [] ∧ q = [] := by
  cases gs with
  | nil => exact ⟨rfl, hV⟩
  | cons g gs => exact hV.elim
 obtain ⟨rfl, rfl⟩ := hgs
 simp only [List.append_nil] at hpq
 subst hpq
 have hlt : ∀ x ∈ before, x.block < W.heap.size := fun x hx => hW2.lt x hx
 refine ⟨ds, [], before, [], before, [], hW2, ?_, ?_, ?_, World.keptBut_mono (fun x hx => ⟨hx, Or.inr (by simpa using hx)⟩) (hb.frame (· ∈ before)), fun h => by cases h⟩
 ·rw [List.append_nil, hs, hrt]
  exact trodAll_cons_mk (shut_bool htb _) trodAll_mk0
 ·rw [List.append_nil, hs]
  exact trodAll_below hl hb _ _ _ _ hr hA hlt
 ·rw [hvars, List.append_nil, hs]; exact rfl

variable {w : World} {r : Reach} {base : Nat} {t : TypeId} {v : Value}
theorem arg_int {k : IntKind} (ht : P.underlying t = some (.int k)) (h : Value.okWide P w r base t v) : ∃ n, v = .int k n ∧ k.min ≤ n ∧ n ≤ k.max := by
 simp only [Value.okWide, ht, Cell.okWide, Cell.ok] at h
 cases v <;> simp at h
 obtain ⟨rfl, h⟩ := h
 simp only [IntKind.has] at h
 exact ⟨_, rfl, h⟩
theorem arg_bool (ht : P.underlying t = some .bool) (h : Value.okWide P w r base t v) : ∃ x, v = .bool x := by
 simp only [Value.okWide, ht, Cell.okWide, Cell.ok] at h
 cases v <;> simp at h
 exact ⟨_, rfl⟩
theorem cell_int {k : IntKind} (ht : P.underlying t = some (.int k)) (h : Cell.okWide P w r base t v) : ∃ n, v = .int k n ∧ k.min ≤ n ∧ n ≤ k.max := by
 simp only [ht, Cell.okWide, Cell.ok] at h
 cases v <;> simp at h
 obtain ⟨rfl, h⟩ := h
 simp only [IntKind.has] at h
 exact ⟨_, rfl, h⟩
theorem cell_bool (ht : P.underlying t = some .bool) (h : Cell.okWide P w r base t v) : ∃ x, v = .bool x := by
 simp only [ht, Cell.okWide, Cell.ok] at h
 cases v <;> simp at h
 exact ⟨_, rfl⟩
theorem arg_agg {fs : Array Field} {ts : List TypeId} (ht : P.underlying t = some (.struct fs)) (hc : P.cellTypes P.depth t = some ts) (hn : P.cellsOf t = ts.length) (h : Value.okWide P w r base t v) :
    ∃ cs : List Value, v = .agg cs.toArray ∧ cs.length = ts.length ∧ ∀ (i : Nat) (c : Value) (u : TypeId), cs[i]? = some c → ts[i]? = some u → Cell.okWide P w r base u c := by
 simp only [Value.okWide, ht] at h
 obtain ⟨cs, rfl, hsz, ts', hts, _, hall⟩ := h
 rw [hc] at hts
 obtain rfl := Option.some.inj hts
 refine ⟨cs.toList, by simp, by simp [hsz, hn], fun i c u hi hu => ?_⟩
 have hi' : cs[i]? = some c := by simpa using hi
 obtain ⟨u', hu', hok⟩ := hall i c hi'
 have hlt : i < ts.length := (List.getElem?_eq_some_iff.1 hu).1
 rw [Nat.mod_eq_of_lt hlt, hu] at hu'
 obtain rfl := Option.some.inj hu'
 exact hok
end
end Go.Proofs.YtmpcafdgkbpneaaGreat

/- Objects of a few blocks: what a call may have turned ('Keeps'), and what a block holds behind stores. -/
namespace Go.Proofs.YtmpcafdgkbpneaaGreat
open Go.RowKit
set_option linter.unusedVariables false

structure Keeps (S : Nat → Prop) (w w' : World) : Prop where
 os : w'.os = w.os
 tape : w'.tape = w.tape
 output : w'.output = w.output
 size : w.heap.size ≤ w'.heap.size
 block : ∀ k, k < w.heap.size → ¬ S k → w'.heap[k]? = w.heap[k]?

theorem Keeps.refl (S : Nat → Prop) (w : World) : Keeps S w w := ⟨rfl, rfl, rfl, Nat.le_refl _, fun _ _ _ => rfl⟩
theorem Keeps.trans {S : Nat → Prop} {a b c : World} (h : Keeps S a b) (k : Keeps S b c) : Keeps S a c :=
 ⟨k.os.trans h.os, k.tape.trans h.tape, k.output.trans h.output, Nat.le_trans h.size k.size, fun i hi hn => (k.block i (Nat.lt_of_lt_of_le hi h.size) hn).trans (h.block i hi hn)⟩
theorem Keeps.drew {S : Nat → Prop} {a w : World} (h : Keeps S a w) : Keeps S a w.drew := ⟨h.os, h.tape, h.output, h.size, h.block⟩
theorem Keeps.drewN {S : Nat → Prop} {a w : World} (h : Keeps S a w) (n : Nat) : Keeps S a (w.drewN n) := ⟨h.os, h.tape, h.output, h.size, h.block⟩
theorem Keeps.alloc {S : Nat → Prop} {a w : World} (h : Keeps S a w) (o : Obj) : Keeps S a (w.alloc o) :=
 h.trans ⟨rfl, rfl, rfl, by simp, fun k hk _ => Below.heap_alloc _ _ _ hk⟩
theorem Keeps.setCell {S : Nat → Prop} {a w : World} (h : Keeps S a w) {p : Addr} (hp : S p.block ∨ a.heap.size ≤ p.block) (u : Value) : Keeps S a (w.setCell p u) := by
 refine ⟨h.os, h.tape, h.output, by simpa using h.size, fun k hk hn => ?_⟩
 rw [Below.heap_setCell _ _ _ _ (fun e => by subst e; rcases hp with hp | hp; exact hn hp; omega)]
 exact h.block k hk hn
theorem Keeps.setOne {b : Nat} {a w : World} (h : Keeps (· = b) a w) (k : Nat) (u : Value) : Keeps (· = b) a (w.setCell ⟨b, k, none⟩ u) := h.setCell (.inl rfl) u
theorem Keeps.below {S : Nat → Prop} {a w w' : World} (h : Keeps S a w) (hb : Below w.heap.size w w') : Keeps S a w' :=
 h.trans ⟨hb.os, hb.tape, hb.output, hb.size, fun k hk _ => hb.block k hk⟩
theorem Keeps.mono {S S' : Nat → Prop} {w w' : World} (h : Keeps S w w') (hs : ∀ k, k < w.heap.size → S k → S' k) : Keeps S' w w' :=
 ⟨h.os, h.tape, h.output, h.size, fun k hk hn => h.block k hk (fun hS => hn (hs k hk hS))⟩
theorem Keeps.andThen {S S' : Nat → Prop} {a b c : World} (h : Keeps S a b) (k : Keeps S' b c) (hs : ∀ i, i < a.heap.size → S' i → S i) : Keeps S a c :=
 ⟨k.os.trans h.os, k.tape.trans h.tape, k.output.trans h.output, Nat.le_trans h.size k.size, fun i hi hn => (k.block i (Nat.lt_of_lt_of_le hi h.size) (fun hS => hn (hs i hi hS))).trans (h.block i hi hn)⟩
theorem Keeps.toBelow {S : Nat → Prop} {B : Nat} {a w w' : World} (h : Below B a w) (k : Keeps S w w') (hB : B ≤ w.heap.size) (hs : ∀ i, S i → B ≤ i) : Below B a w' :=
 h.trans ⟨k.os, k.tape, k.output, k.size, fun i hi => k.block i (by omega) (fun hS => by have := hs i hS; omega)⟩
theorem Keeps.ofBelow {S : Nat → Prop} {w w' : World} (hb : Below w.heap.size w w') : Keeps S w w' := (Keeps.refl S w).below hb
theorem step_below {B : Nat} {w a b : World} (h : Below B w a) (hb : Below a.heap.size a b) (hB : B ≤ w.heap.size) : Below B w b :=
 h.trans (hb.mono (Nat.le_trans hB h.size))
theorem bcell {W w1 : World} (hb : Below W.heap.size W w1) : (∀ b o, b < W.heap.size → w1.cell? ⟨b, o, none⟩ = W.cell? ⟨b, o, none⟩) ∧ (∀ b o, b < W.heap.size → w1.frozen? ⟨b, o, none⟩ = W.frozen? ⟨b, o, none⟩) :=
 ⟨fun b o h => hb.cell (p := ⟨b, o, none⟩) h, fun b o h => hb.frozen (p := ⟨b, o, none⟩) h⟩
theorem bcellB {B : Nat} {W w1 : World} (hb : Below B W w1) : (∀ b o, b < B → w1.cell? ⟨b, o, none⟩ = W.cell? ⟨b, o, none⟩) ∧ (∀ b o, b < B → w1.frozen? ⟨b, o, none⟩ = W.frozen? ⟨b, o, none⟩) :=
 ⟨fun b o h => hb.cell (p := ⟨b, o, none⟩) h, fun b o h => hb.frozen (p := ⟨b, o, none⟩) h⟩

-- WHAT A BLOCK HOLDS
theorem heap_lt {w : World} {b : Nat} {o : Obj} (h : w.heap[b]? = some o) : b < w.heap.size := (Array.getElem?_eq_some_iff.1 h).1
theorem cell_at {w : World} {b k : Nat} {cs : Array Value} {t : TypeId} {fz : Nat × Nat} (h : w.heap[b]? = some (.cells cs t fz)) : w.cell? ⟨b, k, none⟩ = cs[k]? := by simp [World.cell?, h]
theorem free_at {w : World} {b k : Nat} {cs : Array Value} {t : TypeId} (h : w.heap[b]? = some (.cells cs t (0, 0))) : w.frozen? ⟨b, k, none⟩ = false := by simp [World.frozen?, h]
theorem heap_set_same {w : World} {b k : Nat} {cs : Array Value} {t : TypeId} {fz : Nat × Nat} (v : Value) (h : w.heap[b]? = some (.cells cs t fz)) :
    (w.setCell ⟨b, k, none⟩ v).heap[b]? = some (.cells (cs.setIfInBounds k v) t fz) := by
 simp [World.setCell, Array.getElem?_modify, h]
theorem heap_set_other {w : World} {b : Nat} {p : Addr} (v : Value) (hne : b ≠ p.block) : (w.setCell p v).heap[b]? = w.heap[b]? := Below.heap_setCell _ _ _ _ hne
theorem heap_alloc_lt {w : World} {b : Nat} {o o' : Obj} (h : w.heap[b]? = some o) : (w.alloc o').heap[b]? = some o := by
 rw [Below.heap_alloc _ _ _ (heap_lt h)]; exact h
theorem heap_drew (w : World) : w.drew.heap = w.heap := rfl
theorem heap_below {W w1 : World} {b : Nat} {o : Obj} (hb : Below W.heap.size W w1) (h : W.heap[b]? = some o) : w1.heap[b]? = some o := by
 rw [hb.block b (heap_lt h)]; exact h
theorem heap_keeps {S : Nat → Prop} {W w1 : World} {b : Nat} {o : Obj} (hk : Keeps S W w1) (hn : ¬ S b) (h : W.heap[b]? = some o) : w1.heap[b]? = some o := by
 rw [hk.block b (heap_lt h) hn]; exact h
theorem heap_new (w : World) (o : Obj) : (w.alloc o).heap[w.heap.size]? = some o := (MapKept.heap_alloc w o).1

def putObj (k : Nat) (v : Value) : Obj → Obj
 | .cells c t f => .cells (c.setIfInBounds k v) t f
 | o => o
theorem putObj_cells (k : Nat) (v : Value) (l : List Value) (t : TypeId) (f : Nat × Nat) : putObj k v (.cells l.toArray t f) = .cells (l.set k v).toArray t f := by simp [putObj]
theorem heap_set_map (w : World) (b k : Nat) (v : Value) : (w.setCell ⟨b, k, none⟩ v).heap[b]? = (w.heap[b]?).map (putObj k v) := by
 simp only [World.setCell, Array.getElem?_modify, if_true]
 congr 1
theorem heap_set_ne (w : World) (b b' k : Nat) (v : Value) (h : b ≠ b') : (w.setCell ⟨b', k, none⟩ v).heap[b]? = w.heap[b]? := Below.heap_setCell _ _ _ _ h
end Go.Proofs.YtmpcafdgkbpneaaGreat

/- Maps by numbers: what a map's block holds as a function of the key, and what the operations do to it. -/
namespace Go.Proofs.YtmpcafdgkbpneaaGreat
open Go.RowKit Go.MapKept
set_option linter.unusedVariables false

def MapAt (w : World) (r : Nat) (q : IntKind) (f : Nat → Option Value) : Prop :=
 ∃ es clock, w.heap[r]? = some (.map es clock) ∧ Stamped es clock ∧ (∀ x ∈ es.toList, ∃ n : Nat, x.key = .int q n) ∧
  ∀ (n : Nat) v, f n = some v ↔ ∃ x ∈ es.toList, x.key = .int q n ∧ x.val = v

section
variable {P : Program} {w w' : World} {r : Nat} {q : IntKind} {f : Nat → Option Value} {t k e : TypeId}

theorem MapAt.lt (h : MapAt w r q f) : r < w.heap.size := by
 obtain ⟨es, clock, hb, _⟩ := h
 exact heap_lt hb
theorem MapAt.of_heap (h : MapAt w r q f) (hh : w'.heap[r]? = w.heap[r]?) : MapAt w' r q f := by
 obtain ⟨es, clock, hb, h1, h2, h3⟩ := h
 exact ⟨es, clock, by rw [hh]; exact hb, h1, h2, h3⟩
theorem MapAt.alloc (h : MapAt w r q f) (o : Obj) : MapAt (w.alloc o) r q f := h.of_heap (Below.heap_alloc _ _ _ h.lt)
theorem MapAt.drewN (h : MapAt w r q f) (n : Nat) : MapAt (w.drewN n) r q f := h.of_heap rfl
theorem MapAt.setCell (h : MapAt w r q f) (p : Addr) (v : Value) : MapAt (w.setCell p v) r q f := by
 by_cases e : r = p.block
 ·obtain ⟨es, clock, hb, h1, h2, h3⟩ := h
  refine ⟨es, clock, ?_, h1, h2, h3⟩
  subst e
  simp [World.setCell, Array.getElem?_modify, hb]
 ·exact h.of_heap (Below.heap_setCell _ _ _ _ e)
theorem MapAt.ext {g : Nat → Option Value} (h : MapAt w r q f) (e : ∀ n, g n = f n) : MapAt w r q g := by
 obtain ⟨es, clock, hb, h1, h2, h3⟩ := h
 exact ⟨es, clock, hb, h1, h2, fun n v => by rw [e n]; exact h3 n v⟩
theorem MapAt.new (w : World) (q : IntKind) : MapAt (w.alloc (.map #[] 0)) w.heap.size q (fun _ => none) :=
 ⟨#[], 0, heap_new w _, stamped_empty 0, by simp, by simp⟩

theorem keyed {es : Array MapEntry} (h : ∀ x ∈ es.toList, ∃ n : Nat, x.key = .int q n) : ∀ x ∈ es.toList, IsKey (.int q) x.key := by
 intro x hx
 obtain ⟨n, hn⟩ := h x hx
 rw [hn]; exact rfl
theorem eq_of_key : ∀ {l : List MapEntry}, (l.map (·.key)).Nodup → ∀ {x y : MapEntry}, x ∈ l → y ∈ l → x.key = y.key → x = y
 | [], _, _, _, hx, _, _ => by cases hx
 | a :: l, hn, x, y, hx, hy, e => by
  rw [List.map_cons, List.nodup_cons] at hn
  rcases List.mem_cons.1 hx with e1 | h1
  ·rcases List.mem_cons.1 hy with e2 | h2
   ·rw [e1, e2]
   ·exact absurd (List.mem_map.2 ⟨y, h2, by rw [← e, e1]⟩) hn.1
  ·rcases List.mem_cons.1 hy with e2 | h2
   ·exact absurd (List.mem_map.2 ⟨x, h1, by rw [e, e2]⟩) hn.1
   ·exact eq_of_key hn.2 h1 h2 e
theorem idx_inj : ∀ {l : List MapEntry}, (l.map (·.key)).Nodup → ∀ {i j : Nat} {y : MapEntry}, l[i]? = some y → l[j]? = some y → i = j
 | [], _, _, _, _, hi, _ => by simp at hi
 | a :: l, hn, i, j, y, hi, hj => by
  rw [List.map_cons, List.nodup_cons] at hn
  rcases i with _ | i <;> rcases j with _ | j
  ·rfl
  ·rw [List.getElem?_cons_zero, Option.some.injEq] at hi
   rw [List.getElem?_cons_succ] at hj
   exact absurd (List.mem_map.2 ⟨y, List.mem_of_getElem? hj, by rw [hi]⟩) hn.1
  ·rw [List.getElem?_cons_zero, Option.some.injEq] at hj
   rw [List.getElem?_cons_succ] at hi
   exact absurd (List.mem_map.2 ⟨y, List.mem_of_getElem? hi, by rw [hj]⟩) hn.1
  ·rw [List.getElem?_cons_succ] at hi hj
   rw [idx_inj hn.2 hi hj]
theorem unique {es : Array MapEntry} {clock : Nat} (hs : Stamped es clock) {x y : MapEntry} (hx : x ∈ es.toList) (hy : y ∈ es.toList) (e : x.key = y.key) : x = y := by
 exact eq_of_key hs.2.2 hx hy e

theorem MapAt.find (h : MapAt w r q f) (n : Nat) : ∃ es clock, w.heap[r]? = some (.map es clock) ∧ Stamped es clock ∧ (∀ x ∈ es.toList, ∃ n : Nat, x.key = .int q n) ∧ (∀ (n : Nat) v, f n = some v ↔ ∃ x ∈ es.toList, x.key = .int q n ∧ x.val = v) ∧
    ((Instr.findNow (.int q) (.int q (n : Int)) es.toList 0 = some none ∧ f n = none ∧ ∀ x ∈ es.toList, x.key ≠ .int q n) ∨
     ∃ j x, Instr.findNow (.int q) (.int q (n : Int)) es.toList 0 = some (some (j, x.val)) ∧ es.toList[j]? = some x ∧ x.key = .int q n ∧ f n = some x.val) := by
 obtain ⟨es, clock, hb, h1, h2, h3⟩ := h
 refine ⟨es, clock, hb, h1, h2, h3, ?_⟩
 rcases findNow_spec (d := .int q) (k := .int q (n : Int)) rfl es.toList 0 (keyed h2) with ⟨g1, g2⟩ | ⟨j, x, g1, g2, g3⟩
 ·refine .inl ⟨g1, ?_, g2⟩
  cases hf : f n with
  | none => rfl
  | some v =>
   obtain ⟨x, hx, hk, _⟩ := (h3 n v).1 hf
   exact absurd hk (g2 x hx)
 ·refine .inr ⟨j, x, by simpa using g1, g2, g3, ?_⟩
  exact (h3 n x.val).2 ⟨x, List.mem_of_getElem? g2, g3, rfl⟩

theorem MapAt.lookup (h : MapAt w r q f) (ht : P.underlying t = some (.map k e)) (hk : P.underlying k = some (.int q)) {z : Value} (hz : (zeroValue e).run P w = .ok z w) (n : Nat) (x : Int) (hx : x = (n : Int)) :
    (Instr.lookup t (.map (some r)) (.int q x) false).run P w = .ok ((f n).getD z) w := by
 subst hx
 obtain ⟨es, clock, hb, h1, h2, h3, ⟨g, gf, _⟩ | ⟨j, x, g, _, _, gf⟩⟩ := h.find n
 ·simp [Instr.lookup, run_underlying ht, MapKept.run_getObj_map hb, MapKept.run_checkKey hk (d := .int q) (k := .int q (n : Int)) rfl, MapKept.run_findKey hk g, hz, Result.andThen, gf]
 ·simp [Instr.lookup, run_underlying ht, MapKept.run_getObj_map hb, MapKept.run_checkKey hk (d := .int q) (k := .int q (n : Int)) rfl, MapKept.run_findKey hk g, Result.andThen, gf]
theorem MapAt.lookupOk (h : MapAt w r q f) (ht : P.underlying t = some (.map k e)) (hk : P.underlying k = some (.int q)) {z : Value} (hz : (zeroValue e).run P w = .ok z w) (n : Nat) (x : Int) (hx : x = (n : Int)) :
    (Instr.lookup t (.map (some r)) (.int q x) true).run P w = .ok (.tuple #[(f n).getD z, .bool (f n).isSome]) w := by
 subst hx
 obtain ⟨es, clock, hb, h1, h2, h3, ⟨g, gf, _⟩ | ⟨j, x, g, _, _, gf⟩⟩ := h.find n
 ·simp [Instr.lookup, run_underlying ht, MapKept.run_getObj_map hb, MapKept.run_checkKey hk (d := .int q) (k := .int q (n : Int)) rfl, MapKept.run_findKey hk g, hz, Result.andThen, gf]
 ·simp [Instr.lookup, run_underlying ht, MapKept.run_getObj_map hb, MapKept.run_checkKey hk (d := .int q) (k := .int q (n : Int)) rfl, MapKept.run_findKey hk g, Result.andThen, gf]

theorem keeps_set {o o' : Obj} (hb : w.heap[r]? = some o) : Keeps (· = r) w { w with heap := w.heap.setIfInBounds r o' } :=
 ⟨rfl, rfl, rfl, by simp, fun i hi hn => (heap_set hb).2 i hn⟩

theorem modify_mem {es : Array MapEntry} {j : Nat} {x : MapEntry} {g : MapEntry → MapEntry} (hj : es.toList[j]? = some x) {y : MapEntry} (hy : y ∈ (es.modify j g).toList) : y = g x ∨ (y ∈ es.toList ∧ ∃ i, i ≠ j ∧ es.toList[i]? = some y) := by
 obtain ⟨i, hi⟩ := List.getElem?_of_mem hy
 rw [Array.getElem?_toList, Array.getElem?_modify] at hi
 by_cases e : j = i
 ·subst e
  rw [if_pos rfl] at hi
  rw [Array.getElem?_toList] at hj
  rw [hj] at hi
  exact .inl (by simpa using hi.symm)
 ·rw [if_neg e, ← Array.getElem?_toList] at hi
  exact .inr ⟨List.mem_of_getElem? hi, i, fun e' => e e'.symm, hi⟩
theorem modify_at {es : Array MapEntry} {j : Nat} {x : MapEntry} {g : MapEntry → MapEntry} (hj : es.toList[j]? = some x) : g x ∈ (es.modify j g).toList := by
 refine List.mem_of_getElem? (i := j) ?_
 rw [Array.getElem?_toList] at hj
 rw [Array.getElem?_toList, Array.getElem?_modify, if_pos rfl, hj]; rfl
theorem modify_other {es : Array MapEntry} {i j : Nat} {y : MapEntry} {g : MapEntry → MapEntry} (hi : es.toList[i]? = some y) (hne : i ≠ j) : y ∈ (es.modify j g).toList := by
 refine List.mem_of_getElem? (i := i) ?_
 rw [Array.getElem?_toList] at hi
 rw [Array.getElem?_toList, Array.getElem?_modify, if_neg (fun e => hne e.symm), hi]

theorem MapAt.update (h : MapAt w r q f) (ht : P.underlying t = some (.map k e)) (hk : P.underlying k = some (.int q)) (n : Nat) (x : Int) (hx : x = (n : Int)) (v : Value) :
    ∃ w', (Instr.mapUpdate t (.map (some r)) (.int q x) v).run P w = .ok () w' ∧ MapAt w' r q (fun m => if m = n then some v else f m) ∧ Keeps (· = r) w w' := by
 subst hx
 have hkey : IsKey (.int q) (.int q (n : Int)) := rfl
 obtain ⟨es, clock, hb, h1, h2, h3, ⟨g, gf, gn⟩ | ⟨j, x, g, gj, gk, gf⟩⟩ := h.find n
 ·refine ⟨{ w with heap := w.heap.setIfInBounds r (.map (es.push { key := .int q n, val := v, born := clock }) (clock + 1)) }, ?_, ?_, keeps_set hb⟩
  ·simp [Instr.mapUpdate, run_underlying ht, MapKept.run_getObj_map hb, MapKept.run_checkKey hk hkey, MapKept.run_findKey hk g, MapKept.run_setObj_map _ hb, Result.andThen]
  ·refine ⟨_, _, (heap_set hb).1, stamped_push h1 gn, ?_, ?_⟩
   ·intro y hy
    simp only [Array.toList_push, List.mem_append, List.mem_singleton] at hy
    rcases hy with hy | rfl
    ·exact h2 y hy
    ·exact ⟨n, rfl⟩
   ·intro m u
    simp only [Array.toList_push, List.mem_append, List.mem_singleton]
    by_cases e : m = n
    ·subst e
     rw [if_pos rfl]
     constructor
     ·intro hu
      simp only [Option.some.injEq] at hu
      exact ⟨_, .inr rfl, rfl, hu⟩
     ·rintro ⟨y, hy | rfl, hyk, hyv⟩
      ·exact absurd hyk (gn y hy)
      ·rw [← hyv]
    ·rw [if_neg e, h3 m u]
     constructor
     ·rintro ⟨y, hy, hyk, hyv⟩
      exact ⟨y, .inl hy, hyk, hyv⟩
     ·rintro ⟨y, hy | rfl, hyk, hyv⟩
      ·exact ⟨y, hy, hyk, hyv⟩
      ·simp only [Value.int.injEq, true_and] at hyk
       exact absurd (by omega) e
 ·have hj : es[j]? = some x := by rw [← Array.getElem?_toList]; exact gj
  refine ⟨{ w with heap := w.heap.setIfInBounds r (.map (es.modify j fun e => { e with key := .int q n, val := v }) clock) }, ?_, ?_, keeps_set hb⟩
  ·simp [Instr.mapUpdate, run_underlying ht, MapKept.run_getObj_map hb, MapKept.run_checkKey hk hkey, MapKept.run_findKey hk g, hj, gk, MapKept.run_keyThatStays hkey, MapKept.run_setObj_map _ hb, Result.andThen]
  ·have hkey' : ∀ e', es[j]? = some e' → ({ e' with key := .int q n, val := v } : MapEntry).key = e'.key := fun e' he' => by rw [hj] at he'; cases he'; exact gk.symm
   refine ⟨_, _, (heap_set hb).1, stamped_modify h1 _ _ (fun _ _ => rfl) (fun e' _ he' => hkey' e' he'), ?_, ?_⟩
   ·intro y hy
    rcases modify_mem gj hy with rfl | ⟨hy, _⟩
    ·exact ⟨n, rfl⟩
    ·exact h2 y hy
   ·intro m u
    show (if m = n then some v else f m) = some u ↔ _
    by_cases e : m = n
    ·subst e
     rw [if_pos rfl]
     constructor
     ·intro hu
      simp only [Option.some.injEq] at hu
      exact ⟨_, modify_at gj, rfl, hu⟩
     ·rintro ⟨y, hy, hyk, hyv⟩
      rcases modify_mem gj hy with rfl | ⟨hy, i, hij, hi⟩
      ·rw [← hyv]
      ·have : y = x := unique h1 hy (List.mem_of_getElem? gj) (by rw [hyk, gk])
       subst this
       exfalso
       exact hij (idx_inj h1.2.2 hi gj)
    ·rw [if_neg e, h3 m u]
     constructor
     ·rintro ⟨y, hy, hyk, hyv⟩
      obtain ⟨i, hi⟩ := List.getElem?_of_mem hy
      have hij : i ≠ j := by
       rintro rfl
       rw [gj] at hi
       cases hi
       rw [gk] at hyk
       simp only [Value.int.injEq, true_and] at hyk
       exact e (by omega)
      exact ⟨y, modify_other hi hij, hyk, hyv⟩
     ·rintro ⟨y, hy, hyk, hyv⟩
      rcases modify_mem gj hy with rfl | ⟨hy, _⟩
      ·simp only [Value.int.injEq, true_and] at hyk
       exact absurd (by omega) e
      ·exact ⟨y, hy, hyk, hyv⟩

theorem MapAt.delete (h : MapAt w r q f) (ht : P.underlying t = some (.map k e)) (hk : P.underlying k = some (.int q)) (n : Nat) (x : Int) (hx : x = (n : Int)) (t' : TypeId) (ty : TypeId) :
    ∃ w', (Builtin.delete_ #[t, t'] ty #[.map (some r), .int q x]).run P w = .ok (.tuple #[]) w' ∧ MapAt w' r q (fun m => if m = n then none else f m) ∧ Keeps (· = r) w w' := by
 subst hx
 have hkey : IsKey (.int q) (.int q (n : Int)) := rfl
 obtain ⟨es, clock, hb, h1, h2, h3, ⟨g, gf, gn⟩ | ⟨j, x, g, gj, gk, gf⟩⟩ := h.find n
 ·refine ⟨{ w with heap := w.heap.setIfInBounds r (.map es clock) }, ?_, ?_, keeps_set hb⟩
  ·simp [Builtin.delete_, run_underlying ht, MapKept.run_getObj_map hb, MapKept.run_checkKey hk hkey, MapKept.run_findKey hk g, MapKept.run_setObj_map _ hb, Result.andThen]
  ·refine ⟨_, _, (heap_set hb).1, h1, h2, ?_⟩
   intro m u
   show (if m = n then none else f m) = some u ↔ _
   by_cases e : m = n
   ·subst e
    rw [if_pos rfl]
    constructor
    ·intro hu; cases hu
    ·rintro ⟨y, hy, hyk, _⟩
     exact absurd hyk (gn y hy)
   ·rw [if_neg e]; exact h3 m u
 ·have hjl : j < es.size := by
    obtain ⟨hj1, _⟩ := List.getElem?_eq_some_iff.1 gj
    simpa using hj1
  refine ⟨{ w with heap := w.heap.setIfInBounds r (.map (es.eraseIdxIfInBounds j) clock) }, ?_, ?_, keeps_set hb⟩
  ·simp [Builtin.delete_, run_underlying ht, MapKept.run_getObj_map hb, MapKept.run_checkKey hk hkey, MapKept.run_findKey hk g, MapKept.run_setObj_map _ hb, Result.andThen]
  ·have hl : (es.eraseIdxIfInBounds j).toList = es.toList.eraseIdx j := by
     unfold Array.eraseIdxIfInBounds
     rw [dif_pos hjl, Array.toList_eraseIdx]
   have hsub : ∀ y, y ∈ (es.eraseIdxIfInBounds j).toList → y ∈ es.toList ∧ y ≠ x := by
    intro y hy
    rw [hl] at hy
    refine ⟨List.mem_of_mem_eraseIdx hy, ?_⟩
    rintro rfl
    obtain ⟨i, hij, hi⟩ := List.mem_eraseIdx_iff_getElem?.1 hy
    exact hij (idx_inj h1.2.2 hi gj)
   refine ⟨_, _, (heap_set hb).1, stamped_erase h1 j, fun y hy => h2 y (hsub y hy).1, ?_⟩
   intro m u
   show (if m = n then none else f m) = some u ↔ _
   by_cases e : m = n
   ·subst e
    rw [if_pos rfl]
    constructor
    ·intro hu; cases hu
    ·rintro ⟨y, hy, hyk, _⟩
     obtain ⟨y1, y2⟩ := hsub y hy
     exact absurd (unique h1 y1 (List.mem_of_getElem? gj) (by rw [hyk, gk])) y2
   ·rw [if_neg e, h3 m u]
    constructor
    ·rintro ⟨y, hy, hyk, hyv⟩
     obtain ⟨i, hi⟩ := List.getElem?_of_mem hy
     have hij : i ≠ j := by
      rintro rfl
      rw [gj] at hi
      cases hi
      rw [gk] at hyk
      simp only [Value.int.injEq, true_and] at hyk
      exact e (by omega)
     exact ⟨y, by rw [hl]; exact List.mem_eraseIdx_iff_getElem?.2 ⟨i, hij, hi⟩, hyk, hyv⟩
    ·rintro ⟨y, hy, hyk, hyv⟩
     exact ⟨y, (hsub y hy).1, hyk, hyv⟩
end
end Go.Proofs.YtmpcafdgkbpneaaGreat

/- ram: physical memory, as what it holds; what it is in memory. -/
namespace Go.Proofs.YtmpcafdgkbpneaaGreat
open Go.RowKit Go.MapKept
set_option linter.unusedVariables false

structure RS where
 pages : Nat
 closed : Bool
 byte : Nat → Nat
 only : Nat → Bool
 watched : Nat → Bool
 noted : Nat → Bool
def RS.size (R : RS) : Nat := R.pages * 4096
def RS.place (R : RS) (a : Nat) : Nat := if R.closed then a &&& 4293918719 else a
def RS.get (R : RS) (a : Nat) : Nat := if R.place a < R.size then R.byte (R.place a) else 255
def RS.lay (R : RS) (n v : Nat) : RS :=
 {R with
  byte := fun i => if i = n then v else R.byte i
  watched := fun g => if g = n / 64 then false else R.watched g
  noted := fun k => if k = n / 64 * 64 ∧ R.watched (n / 64) = true then true else R.noted k }
def RS.put (R : RS) (a v : Nat) : RS := if R.place a < R.size then R.lay (R.place a) v else R
def RS.wr (R : RS) (a v : Nat) : RS := if R.place a < R.size ∧ R.only (R.place a / 4096) = false then R.lay (R.place a) v else R

structure RS.ok (R : RS) : Prop where
 p1 : 1 ≤ R.pages
 p2 : R.pages ≤ 256
 b : ∀ n, R.byte n < 256

theorem RS.place_le (R : RS) (a : Nat) : R.place a ≤ a := by
 unfold RS.place; split
 ·exact Nat.and_le_left
 ·exact Nat.le_refl _
theorem RS.get_lt {R : RS} (h : R.ok) (a : Nat) : R.get a < 256 := by unfold RS.get; split; exact h.b _; decide
theorem RS.size_le {R : RS} (h : R.ok) : R.size ≤ 1048576 := by have := h.p2; unfold RS.size; omega
theorem RS.lay_ok {R : RS} (h : R.ok) (n v : Nat) (hv : v < 256) : (R.lay n v).ok := ⟨h.p1, h.p2, fun i => by
 show (if i = n then v else R.byte i) < 256
 split
 ·exact hv
 ·exact h.b i⟩
theorem RS.wr_ok {R : RS} (h : R.ok) (a v : Nat) (hv : v < 256) : (R.wr a v).ok := by
 unfold RS.wr; split
 ·exact RS.lay_ok h _ _ hv
 ·exact h

def MarkAt (w : World) (r : Nat) (g : Nat → Bool) : Prop := ∃ f, MapAt w r .u32 f ∧ ∀ n, (f n = none ∧ g n = false) ∨ f n = some (.bool (g n))
def SetAt (w : World) (r : Nat) (g : Nat → Bool) : Prop := MapAt w r .u32 (fun n => if g n then some (.bool true) else none)
def pageCells (byte : Nat → Nat) (k : Nat) : Array Value := Array.ofFn (n := 4096) fun i => .int .u8 (byte (k * 4096 + i.val))
def pagePtr (pg : Nat → Option Nat) (n : Nat) : Option Value := (pg n).map fun q => .pointer (some ⟨q, 0, none⟩)

structure RamIn (w : World) (b bp bo bw bn : Nat) (pg : Nat → Option Nat) (R : RS) : Prop where
 obj : w.heap[b]? = some (.cells #[.int .u32 R.size, .map (some bp), .map (some bo), .map (some bw), .map (some bn), .bool R.closed] 152)
 mp : MapAt w bp .u32 (pagePtr pg)
 mo : MarkAt w bo R.only
 mw : SetAt w bw R.watched
 mn : SetAt w bn R.noted
 page : ∀ k q, pg k = some q → w.heap[q]? = some (.cells (pageCells R.byte k) 291)
 zero : ∀ k, pg k = .none → ∀ i, i < 4096 → R.byte (k * 4096 + i) = 0
 inj : ∀ k k' q, pg k = some q → pg k' = some q → k = k'
 inside : ∀ k q, pg k = some q → k < R.pages
 d1 : bp ≠ bo
 d2 : bp ≠ bw
 d3 : bp ≠ bn
 d4 : bo ≠ bw
 d5 : bo ≠ bn
 d6 : bw ≠ bn
 ok : R.ok

def Owned (b bp bo bw bn : Nat) (pg : Nat → Option Nat) (k : Nat) : Prop := k = b ∨ k = bp ∨ k = bo ∨ k = bw ∨ k = bn ∨ ∃ j, pg j = some k
def Ram (w : World) (b : Nat) (S : Nat → Prop) (R : RS) : Prop := ∃ bp bo bw bn pg, RamIn w b bp bo bw bn pg R ∧ ∀ k, S k ↔ Owned b bp bo bw bn pg k

section
variable {w w' : World} {b bp bo bw bn : Nat} {pg : Nat → Option Nat} {R : RS}
theorem RamIn.b_p (H : RamIn w b bp bo bw bn pg R) : b ≠ bp := by
 rintro rfl; obtain ⟨es, c, h, _⟩ := H.mp; rw [H.obj] at h; cases h
theorem RamIn.b_o (H : RamIn w b bp bo bw bn pg R) : b ≠ bo := by
 rintro rfl; obtain ⟨f, ⟨es, c, h, _⟩, _⟩ := H.mo; rw [H.obj] at h; cases h
theorem RamIn.b_w (H : RamIn w b bp bo bw bn pg R) : b ≠ bw := by
 rintro rfl; obtain ⟨es, c, h, _⟩ := H.mw; rw [H.obj] at h; cases h
theorem RamIn.b_n (H : RamIn w b bp bo bw bn pg R) : b ≠ bn := by
 rintro rfl; obtain ⟨es, c, h, _⟩ := H.mn; rw [H.obj] at h; cases h
theorem RamIn.q_b (H : RamIn w b bp bo bw bn pg R) {k q : Nat} (hq : pg k = some q) : q ≠ b := by
 rintro rfl; have h := H.page k q hq; rw [H.obj] at h; simp at h
theorem RamIn.q_p (H : RamIn w b bp bo bw bn pg R) {k q : Nat} (hq : pg k = some q) : q ≠ bp := by
 rintro rfl; obtain ⟨es, c, h, _⟩ := H.mp; rw [H.page k q hq] at h; cases h
theorem RamIn.q_o (H : RamIn w b bp bo bw bn pg R) {k q : Nat} (hq : pg k = some q) : q ≠ bo := by
 rintro rfl; obtain ⟨f, ⟨es, c, h, _⟩, _⟩ := H.mo; rw [H.page k q hq] at h; cases h
theorem RamIn.q_w (H : RamIn w b bp bo bw bn pg R) {k q : Nat} (hq : pg k = some q) : q ≠ bw := by
 rintro rfl; obtain ⟨es, c, h, _⟩ := H.mw; rw [H.page k q hq] at h; cases h
theorem RamIn.q_n (H : RamIn w b bp bo bw bn pg R) {k q : Nat} (hq : pg k = some q) : q ≠ bn := by
 rintro rfl; obtain ⟨es, c, h, _⟩ := H.mn; rw [H.page k q hq] at h; cases h
theorem Owned.lt (H : RamIn w b bp bo bw bn pg R) {k : Nat} (h : Owned b bp bo bw bn pg k) : k < w.heap.size := by
 obtain ⟨f, mo, _⟩ := H.mo
 rcases h with rfl | rfl | rfl | rfl | rfl | ⟨j, hj⟩
 ·exact heap_lt H.obj
 ·exact H.mp.lt
 ·exact mo.lt
 ·exact MapAt.lt H.mw
 ·exact MapAt.lt H.mn
 ·exact heap_lt (H.page j k hj)
theorem RamIn.of_heap (H : RamIn w b bp bo bw bn pg R) (h : ∀ k, Owned b bp bo bw bn pg k → w'.heap[k]? = w.heap[k]?) : RamIn w' b bp bo bw bn pg R := by
 obtain ⟨f, mo, hf⟩ := H.mo
 exact { H with
  obj := by rw [h b (.inl rfl)]; exact H.obj
  mp := H.mp.of_heap (h bp (.inr (.inl rfl)))
  mo := ⟨f, mo.of_heap (h bo (.inr (.inr (.inl rfl)))), hf⟩
  mw := MapAt.of_heap H.mw (h bw (.inr (.inr (.inr (.inl rfl)))))
  mn := MapAt.of_heap H.mn (h bn (.inr (.inr (.inr (.inr (.inl rfl))))))
  page := fun k q hq => by rw [h q (.inr (.inr (.inr (.inr (.inr ⟨k, hq⟩)))))]; exact H.page k q hq }
theorem RamIn.alloc (H : RamIn w b bp bo bw bn pg R) (o : Obj) : RamIn (w.alloc o) b bp bo bw bn pg R := H.of_heap fun k hk => Below.heap_alloc _ _ _ (hk.lt H)
theorem RamIn.drewN (H : RamIn w b bp bo bw bn pg R) (n : Nat) : RamIn (w.drewN n) b bp bo bw bn pg R := H.of_heap fun _ _ => rfl
theorem RamIn.keeps {S : Nat → Prop} (H : RamIn w b bp bo bw bn pg R) (hk : Keeps S w w') (hn : ∀ k, Owned b bp bo bw bn pg k → ¬ S k) : RamIn w' b bp bo bw bn pg R :=
 H.of_heap fun k hk' => hk.block k (hk'.lt H) (hn k hk')
theorem RamIn.facts (H : RamIn w b bp bo bw bn pg R) :
    w.cell? ⟨b, 0, none⟩ = some (.int .u32 R.size) ∧ w.cell? ⟨b, 1, none⟩ = some (.map (some bp)) ∧ w.cell? ⟨b, 2, none⟩ = some (.map (some bo)) ∧ w.cell? ⟨b, 3, none⟩ = some (.map (some bw)) ∧
    w.cell? ⟨b, 4, none⟩ = some (.map (some bn)) ∧ w.cell? ⟨b, 5, none⟩ = some (.bool R.closed) ∧ (∀ k, w.frozen? ⟨b, k, none⟩ = false) ∧ b < w.heap.size := by
 have h := H.obj
 refine ⟨?_, ?_, ?_, ?_, ?_, ?_, fun k => free_at h, heap_lt h⟩ <;> (rw [cell_at h]; rfl)
theorem page_cell {byte : Nat → Nat} {k q i : Nat} {T : TypeId} (h : w.heap[q]? = some (.cells (pageCells byte k) T)) (hi : i < 4096) : w.cell? ⟨q, i, none⟩ = some (.int .u8 (byte (k * 4096 + i))) := by
 rw [cell_at h]
 unfold pageCells
 rw [Array.getElem?_ofFn, dif_pos hi]
theorem MarkAt.lookup {g : Nat → Bool} {r n : Nat} (h : MarkAt w r g) (x : Int) (hx : x = (n : Int)) : (Instr.lookup 150 (.map (some r)) (.int .u32 x) false).run Tryz.prog w = .ok (.bool (g n)) w := by
 obtain ⟨f, m, hf⟩ := h
 rw [m.lookup Tryz.underlying150 Tryz.underlying22 (z := .bool false) (by kernel_rfl) n x hx]
 rcases hf n with ⟨h1, h2⟩ | h1
 ·rw [h1, h2]; rfl
 ·rw [h1]; rfl
theorem SetAt.lookup {g : Nat → Bool} {r n : Nat} (h : SetAt w r g) (x : Int) (hx : x = (n : Int)) : (Instr.lookup 150 (.map (some r)) (.int .u32 x) false).run Tryz.prog w = .ok (.bool (g n)) w := by
 rw [MapAt.lookup h Tryz.underlying150 Tryz.underlying22 (z := .bool false) (by kernel_rfl) n x hx]
 cases g n <;> rfl
theorem pages_lookup {r n : Nat} (h : MapAt w r .u32 (pagePtr pg)) (x : Int) (hx : x = (n : Int)) : (Instr.lookup 149 (.map (some r)) (.int .u32 x) false).run Tryz.prog w = .ok (.pointer ((pg n).map fun q => ⟨q, 0, none⟩)) w := by
 rw [h.lookup Tryz.underlying149 Tryz.underlying22 (z := .pointer none) (by kernel_rfl) n x hx]
 unfold pagePtr
 cases pg n <;> rfl
end

theorem place_any {w : World} {b bp bo bw bn : Nat} {pg : Nat → Option Nat} {R : RS} (H : RamIn w b bp bo bw bn pg R) (a : Nat) (ha : a < 4294967296) :
    Calls Tryz.prog 66 #[.pointer (some ⟨b, 0, none⟩), .int .u32 a] w fun e w' => e = .returned (.tuple #[.int .u32 (R.place a : Nat), .bool (decide (R.place a < R.size))]) ∧ ∃ n, w' = w.drewN n := by
 obtain ⟨k0, -, -, -, -, k5, kf, klt⟩ := H.facts
 have e : bits .andNot .u32 (a : Int) 1048576 = ((a &&& 4293918719 : Nat) : Int) := u32_andNot_nat a 1048576 ha (by decide)
 cases hc : R.closed
 all_goals
  rw [hc] at k5
  go_enter Tryz.func66, Tryz.ntmps66
  go_wp2_with fail
  go_quiet (fail)
  go_wp2_with fail
  go_ret2
  refine ⟨?_, _, rfl⟩
  unfold RS.place
  rw [hc]
  simp
end Go.Proofs.YtmpcafdgkbpneaaGreat

