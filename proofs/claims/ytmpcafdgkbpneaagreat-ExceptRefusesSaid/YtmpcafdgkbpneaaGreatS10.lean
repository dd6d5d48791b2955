/- Steps of a proof: Base, SegRights, SegW1, SegW2, SegW3, together. -/
import Derived.WalkKit
import Derived.WalkSpells
import Derived.WalkLawsBesides
import Derived.Handy
import Derived.BigQuiet
import Derived.Deep.QuietTactic
import Derived.Test.YtmpcafdgkbpneaaGreatRows
import Derived.BigRegion
import Derived.Deep.RegionWith
import Derived.Lib.Hide
import Derived.Test.YtmpcafdgkbpneaaGreatS0
/- Small general lemmas: a region that draws its order, walked by an invariant over what has come up. -/
set_option maxHeartbeats 4000000
set_option maxRecDepth 20000
namespace Go.Proofs.YtmpcafdgkbpneaaGreat
open Go.RowKit

section
variable {P : Program} {ops : Array Oper} {Q : Exit → Act → World → Prop}

def StepInv (P : Program) (ops : Array Oper) (Q : Exit → Act → World → Prop) (I : Array Bool → Act → World → Prop) (i : Nat) : Prop :=
 ∀ (l : Array Bool) (a : Act) (w : World), l.size = ops.size → l.getD i true = false →
  (∀ o, ops[i]? = some o → ∀ e ∈ o.after.toList, l.getD e.on false = true) → I l a w → wpOp P ops Q i (I (l.setIfInBounds i true)) a w

def allBind (ops : Array Oper) : Bool := ops.toList.zipIdx.all fun (o, i) => o.after.toList.all fun e => Region.binds .any e && decide (e.on < i)

theorem allBind_spec (h : allBind ops = true) {i : Nat} {o : Oper} (ho : ops[i]? = some o) : ∀ e ∈ o.after.toList, Region.binds .any e = true ∧ e.on < i := by
 intro e he
 unfold allBind at h
 rw [List.all_eq_true] at h
 have := h (o, i) (by
  rw [List.mem_zipIdx_iff_getElem?]
  simpa using ho)
 simp only [List.all_eq_true] at this
 simpa using this e he

theorem ready_mem {l : Array Bool} {i : Nat} (h : i ∈ Region.ready .any ops l) : i < ops.size ∧ l.getD i true = false ∧
    ∀ o, ops[i]? = some o → ∀ e ∈ o.after.toList, Region.binds .any e = true → l.getD e.on false = true := by
 unfold Region.ready at h
 simp only [List.mem_filter, List.mem_range, Bool.and_eq_true, Bool.not_eq_true'] at h
 refine ⟨h.1, h.2.1, fun o ho e he hb => ?_⟩
 have h2 := h.2.2
 simp only [ho, Option.map_some, Option.getD_some, Array.all_eq_true] at h2
 obtain ⟨k, hk, hke⟩ := List.getElem_of_mem he
 have := h2 k (by simpa using hk)
 have e' : o.after[k]'(by simpa using hk) = e := by simpa using hke
 rw [e'] at this
 simpa [hb] using this

theorem getD_mk (l : Array Bool) (i : Nat) (d : Bool) : l.getD i d = (l[i]?).getD d := by
 simp [Array.getD_eq_getD_getElem?]

theorem ready_all (hb : allBind ops = true) {l : Array Bool} (hl : l.size = ops.size) (h : Region.ready .any ops l = []) : ∀ i, i < ops.size → l.getD i false = true := by
 intro i
 induction i using Nat.strongRecOn with
 | ind i ih =>
  intro hi
  cases hc : l.getD i false with
  | true => rfl
  | false =>
   exfalso
   have hm : i ∈ Region.ready .any ops l := by
    unfold Region.ready
    simp only [List.mem_filter, List.mem_range, Bool.and_eq_true, Bool.not_eq_true']
    have ht : l.getD i true = false := by
     rw [getD_mk] at hc ⊢
     have : i < l.size := by omega
     simp [this] at hc ⊢
     exact hc
    refine ⟨hi, ht, ?_⟩
    have ho : ops[i]? = some ops[i] := by simp [hi]
    simp only [ho, Option.map_some, Option.getD_some, Array.all_eq_true]
    intro k hk
    have hsp := allBind_spec hb ho (ops[i].after[k]) (by simp)
    have := ih _ hsp.2 (by omega)
    simp [this]
   rw [h] at hm
   cases hm

theorem wpAny_inv (hb : allBind ops = true) {I : Array Bool → Act → World → Prop} (hs : ∀ i, i < ops.size → StepInv P ops Q I i)
    (hf : ∀ l a w, (∀ i, i < ops.size → l.getD i false = true) → I l a w → Q .normal a w) :
    ∀ (fuel : Nat) (l : Array Bool) (a : Act) (w : World), l.size = ops.size → (l.toList.countP (· == false)) ≤ fuel → I l a w → wpAny P .any ops Q fuel l a w := by
 intro fuel
 induction fuel with
 | zero =>
  intro l a w hl hc hI
  have hall : ∀ i, i < ops.size → l.getD i false = true := by
   intro i hi
   have : ∀ x ∈ l.toList, x = true := by
    intro x hx
    cases x with
    | true => rfl
    | false =>
     exfalso
     have := List.countP_pos_iff (p := (· == false)) (l := l.toList) |>.2 ⟨false, hx, rfl⟩
     omega
   have hi' : i < l.size := by omega
   rw [getD_mk]; simp [hi']
   exact this _ (by simp)
  refine ⟨?_, hf l a w hall hI⟩
  cases hr : Region.ready .any ops l with
  | nil => rfl
  | cons i rs =>
   exfalso
   have hm := ready_mem (ops := ops) (l := l) (i := i) (by rw [hr]; simp)
   have h1 := hall i hm.1
   have h2 := hm.2.1
   rw [getD_mk] at h1 h2
   have : i < l.size := by omega
   simp [this] at h1 h2
   rw [h1] at h2; cases h2
 | succ fuel ih =>
  intro l a w hl hc hI
  refine ⟨fun hr => hf l a w (ready_all hb hl hr) hI, fun i hi => ?_⟩
  obtain ⟨h1, h2, h3⟩ := ready_mem hi
  have hstep := hs i h1 l a w hl h2 (fun o ho e he => h3 o ho e he (allBind_spec hb ho e he).1) hI
  refine wpOp_mono (fun a' w' hI' => ih _ a' w' (by simp [hl]) ?_ hI') hstep
  have hlt : i < l.size := by omega
  have hli : l.toList[i]'(by simpa using hlt) = false := by
   rw [getD_mk] at h2
   simp [hlt] at h2
   simpa using h2
  have : (l.setIfInBounds i true).toList = l.toList.set i true := by simp
  rw [this]
  have hcount : (l.toList.set i true).countP (· == false) + 1 = l.toList.countP (· == false) := by
   rw [List.countP_set (h := by simpa using hlt)]
   simp only [hli, beq_self_eq_true, if_true]
   have : 0 < l.toList.countP (· == false) := List.countP_pos_iff.2 ⟨false, by rw [← hli]; simp, rfl⟩
   have h0 : (if (true == false) = true then 1 else 0) = 0 := rfl
   rw [h0]
   omega
  omega

theorem wp_region_inv {id : Nat} {a : Act} {w : World} (hm : P.follows .mixedOrders = true) (hb : allBind ops = true) (I : Array Bool → Act → World → Prop)
    (h0 : I (Array.replicate ops.size false) a w.drew) (hs : ∀ i, i < ops.size → StepInv P ops Q I i)
    (hf : ∀ l a w, (∀ i, i < ops.size → l.getD i false = true) → I l a w → Q .normal a w) : (Code.region id ops true).wp P Q a w := by
 refine wp_region_any hm (wpAny_inv hb hs hf _ _ _ _ (by simp) ?_ h0)
 have : (Array.replicate ops.size false).toList.countP (· == false) ≤ (Array.replicate ops.size false).toList.length := List.countP_le_length
 simpa using this
end
end Go.Proofs.YtmpcafdgkbpneaaGreat

/- segment.rights: the table of what each kind of segment lets, in whatever order its entries are laid. -/
namespace Go.Proofs.YtmpcafdgkbpneaaGreat
open Go.RowKit

def kv (c t s : Bool) : Value := .agg #[.bool c, .bool t, .bool s]
def lv (r w d c : Bool) : Value := .agg #[.bool r, .bool w, .bool d, .bool c]
def tab (c t s : Bool) : Value := lv (!c || s) (!c && s) (!c && t) (c && t)

theorem eq_kv (c t s c' t' s' : Bool) (w : World) : (Op.equal 323 (kv c t s) (kv c' t' s')).run Tryz.prog w = .ok (c == c' && t == t' && s == s') w := by
 cases c <;> cases t <;> cases s <;> cases c' <;> cases t' <;> cases s' <;> kernel_rfl

theorem kv_inj {c t s c' t' s' : Bool} : kv c t s = kv c' t' s' ↔ (c == c' && t == t' && s == s') = true := by
 cases c <;> cases t <;> cases s <;> cases c' <;> cases t' <;> cases s' <;> simp [kv]

theorem findNow_struct {fs : Array Field} {k : Value} (e : MapEntry) (es : List MapEntry) (i : Nat) : Instr.findNow (.struct fs) k (e :: es) i = none := by
 simp [Instr.findNow, Instr.sameNow]

theorem asking_none (c t s : Bool) (w : World) : ∀ (es : List MapEntry) (i : Nat), (∀ e ∈ es, ∃ c' t' s', e.key = kv c' t' s' ∧ e.key ≠ kv c t s) →
    (Instr.findAsking 323 (kv c t s) es i).run Tryz.prog w = .ok none w := by
 intro es
 induction es with
 | nil => intro i _; rfl
 | cons e es ih =>
  intro i h
  obtain ⟨c', t', s', hk, hne⟩ := h e (by simp)
  have hb : (c == c' && t == t' && s == s') = false := by
   rw [hk] at hne
   cases hb : (c == c' && t == t' && s == s') with
   | false => rfl
   | true => exact absurd (kv_inj.2 hb).symm hne
  have hi := ih (i + 1) (fun e' he' => h e' (by simp [he']))
  simp only [Instr.findAsking, hk]
  simp [go_sem, eq_kv, hb, hi]

theorem asking_some (c t s : Bool) (w : World) : ∀ (es : List MapEntry) (i : Nat), (∀ e ∈ es, ∃ c' t' s', e.key = kv c' t' s' ∧ e.val = tab c' t' s') →
    (∃ e ∈ es, e.key = kv c t s) → ∃ k, (Instr.findAsking 323 (kv c t s) es i).run Tryz.prog w = .ok (some (k, tab c t s)) w := by
 intro es
 induction es with
 | nil => intro i _ h; obtain ⟨e, he, _⟩ := h; cases he
 | cons e es ih =>
  intro i h hex
  obtain ⟨c', t', s', hk, hv⟩ := h e (by simp)
  cases hb : (c == c' && t == t' && s == s') with
  | true =>
   refine ⟨i, ?_⟩
   have he : tab c' t' s' = tab c t s := by
    simp only [Bool.and_eq_true, beq_iff_eq] at hb
    obtain ⟨⟨rfl, rfl⟩, rfl⟩ := hb; rfl
   simp only [Instr.findAsking, hk]
   simp [go_sem, eq_kv, hb, hv, he]
  | false =>
   obtain ⟨e', he', hk'⟩ := hex
   have hmem : e' ∈ es := by
    rcases List.mem_cons.1 he' with rfl | h'
    ·rw [hk] at hk'
     have := kv_inj.1 hk'.symm
     rw [hb] at this; cases this
    ·exact h'
   obtain ⟨k, hi⟩ := ih (i + 1) (fun e' he' => h e' (by simp [he'])) ⟨e', hmem, hk'⟩
   refine ⟨k, ?_⟩
   simp only [Instr.findAsking, hk]
   simp [go_sem, eq_kv, hb, hi]

def IsTab (w : World) (b : Nat) : Prop := ∃ es ck, w.heap[b]? = some (.map es ck) ∧
 (∀ e ∈ es.toList, ∃ c t s, e.key = kv c t s ∧ e.val = tab c t s) ∧ (∀ c t s, (c && !t && !s) = false → ∃ e ∈ es.toList, e.key = kv c t s) ∧
 (∀ e ∈ es.toList, e.key ≠ kv true false false)

theorem run_checkKey (b : Bool) (c t s : Bool) (w : World) : (Instr.checkKey b 10000 323 (kv c t s)).run Tryz.prog w = .ok () w := by
 cases b <;> cases c <;> cases t <;> cases s <;> kernel_rfl

theorem findKey_kv (c t s : Bool) (w : World) (es : List MapEntry) (r : Option (Nat × Value)) (h0 : es = [] → r = none)
    (h : (Instr.findAsking 323 (kv c t s) es).run Tryz.prog w = .ok r w) : (Instr.findKey 323 (kv c t s) es).run Tryz.prog w = .ok r w := by
 cases es with
 | nil =>
  obtain rfl := h0 rfl
  simp [Instr.findKey, go_sem, Instr.findNow]
 | cons e es =>
  simp [Instr.findKey, go_sem, findNow_struct, h]

theorem tab_lookup (b : Nat) (c t s : Bool) (w : World) (h : IsTab w b) :
    (Instr.lookup 326 (.map (some b)) (.agg #[.bool c, .bool t, .bool s]) false).run Tryz.prog w = .ok (tab c t s) w := by
 change (Instr.lookup 326 (.map (some b)) (kv c t s) false).run Tryz.prog w = .ok (tab c t s) w
 obtain ⟨es, ck, hb, h1, h2, h3⟩ := h
 by_cases hc : (c && !t && !s) = true
 ·have ha := asking_none c t s w es.toList 0 (fun e he => by
    obtain ⟨c', t', s', hk, _⟩ := h1 e he
    refine ⟨c', t', s', hk, fun hk' => h3 e he ?_⟩
    rw [hk']; cases c <;> cases t <;> cases s <;> simp_all)
  have hf := findKey_kv c t s w es.toList none (fun _ => rfl) ha
  have hz : (zeroValue 303).run Tryz.prog w = .ok (tab c t s) w := by
   cases c <;> cases t <;> cases s <;> simp at hc <;> kernel_rfl
  simp [Instr.lookup, go_sem, MapKept.run_getObj_map hb, run_checkKey, hf, hz]
 ·have hx := h2 c t s (by simpa using hc)
  obtain ⟨k, ha⟩ := asking_some c t s w es.toList 0 h1 hx
  have hf := findKey_kv c t s w es.toList _ (fun e0 => by rw [e0] at hx; obtain ⟨e, he, _⟩ := hx; cases he) ha
  simp [Instr.lookup, go_sem, MapKept.run_getObj_map hb, run_checkKey, hf]

theorem tab_update (b : Nat) (c t s : Bool) (v : Value) (w : World) (es : Array MapEntry) (ck : Nat) (hb : w.heap[b]? = some (.map es ck))
    (h : ∀ e ∈ es.toList, ∃ c' t' s', e.key = kv c' t' s' ∧ e.key ≠ kv c t s) :
    (Instr.mapUpdate 326 (.map (some b)) (kv c t s) v).run Tryz.prog w =
     .ok () { w with heap := w.heap.setIfInBounds b (.map (es.push { key := kv c t s, val := v, born := ck }) (ck + 1)) } := by
 have ha := asking_none c t s w es.toList 0 h
 have hf := findKey_kv c t s w es.toList none (fun _ => rfl) ha
 simp [Instr.mapUpdate, go_sem, MapKept.run_getObj_map hb, run_checkKey, hf, MapKept.run_setObj_map _ hb]

-- THE REGION
def opOf : Nat → Nat
 | 1 => 0 | 2 => 1 | 3 => 2 | 4 => 4 | 5 => 5 | 6 => 7 | 7 => 8 | 8 => 10 | 9 => 11 | 10 => 13 | 11 => 14 | 12 => 16 | 13 => 17 | 14 => 19 | 15 => 20 | 16 => 22 | _ => 23
def ins : Nat → Option (Bool × Bool × Bool)
 | 3 => some (false, false, false) | 6 => some (false, false, true) | 9 => some (false, true, false) | 12 => some (false, true, true)
 | 15 => some (true, false, true) | 18 => some (true, true, false) | 21 => some (true, true, true) | _ => none
def vals (N : Nat) : Nat → Value
 | 2 => kv false false false | 3 => tab false false false | 4 => kv false false true | 5 => tab false false true
 | 6 => kv false true false | 7 => tab false true false | 8 => kv false true true | 9 => tab false true true
 | 10 => kv true false true | 11 => tab true false true | 12 => kv true true false | 13 => tab true true false
 | 14 => kv true true true | 15 => tab true true true | _ => .map (some N)

def Fr (N : Nat) (l : Array Bool) (a : Act) : Prop := a.tmps.size = 17 ∧ a.defers = [] ∧ ∀ d, d < 17 → l.getD (opOf d) false = true → a.tmps.getD d undef = vals N d
def Wd (w0 : World) (l : Array Bool) (w : World) : Prop := Below w0.heap.size w0 w ∧ (l.getD 0 false = false → w.heap.size = w0.heap.size ∧ ∀ j c t s, ins j = some (c, t, s) → l.getD j false = false) ∧
 (l.getD 0 false = true → ∃ es ck, w.heap[w0.heap.size]? = some (.map es ck) ∧
  (∀ e ∈ es.toList, ∃ j c t s, ins j = some (c, t, s) ∧ l.getD j false = true ∧ e.key = kv c t s ∧ e.val = tab c t s) ∧
  ∀ j c t s, ins j = some (c, t, s) → l.getD j false = true → ∃ e ∈ es.toList, e.key = kv c t s)
def RI (w0 : World) (l : Array Bool) (a : Act) (w : World) : Prop := Fr w0.heap.size l a ∧ Wd w0 l w

theorem getD_set (l : Array Bool) (i j : Nat) (hi : i < l.size) : (l.setIfInBounds i true).getD j false = if i = j then true else l.getD j false := by
 rw [getD_mk, getD_mk]
 by_cases h : i = j
 ·subst h; simp [hi]
 ·rw [Array.getElem?_setIfInBounds_ne h]; simp [h]

theorem fr_put {N : Nat} {l : Array Bool} {a : Act} {i d : Nat} (h : Fr N l a) (hi : i < l.size) (hd : d < 17) (hu : ∀ d', d' < 17 → opOf d' = i → d' = d) :
    Fr N (l.setIfInBounds i true) (a.put (some d) (vals N d)) := by
 obtain ⟨h1, h2, h3⟩ := h
 refine ⟨by simp [Act.put, h1], by simp [Act.put, h2], fun d' hd' hl => ?_⟩
 rw [getD_set _ _ _ hi] at hl
 by_cases he : d' = d
 ·subst he; simp [Act.put, h1, hd]
 ·have hne : i ≠ opOf d' := fun e => he (hu d' hd' e.symm)
  rw [if_neg hne] at hl
  have := h3 d' hd' hl
  simp only [Act.put, Array.getD_eq_getD_getElem?] at this ⊢
  rw [Array.getElem?_setIfInBounds_ne (Ne.symm he)]
  exact this

theorem fr_skip {N : Nat} {l : Array Bool} {a : Act} {i : Nat} (h : Fr N l a) (hi : i < l.size) (hu : ∀ d', d' < 17 → opOf d' ≠ i) :
    Fr N (l.setIfInBounds i true) a := by
 obtain ⟨h1, h2, h3⟩ := h
 refine ⟨h1, h2, fun d' hd' hl => h3 d' hd' ?_⟩
 rw [getD_set _ _ _ hi, if_neg (fun e => hu d' hd' e.symm)] at hl
 exact hl

theorem wd_skip {w0 w : World} {l : Array Bool} {i : Nat} (h : Wd w0 l w) (hi : i < l.size) (h0 : i ≠ 0) (hn : ins i = none) : Wd w0 (l.setIfInBounds i true) w := by
 obtain ⟨h1, h2, h3⟩ := h
 have e0 : (l.setIfInBounds i true).getD 0 false = l.getD 0 false := by rw [getD_set _ _ _ hi, if_neg h0]
 have ej : ∀ j c t s, ins j = some (c, t, s) → (l.setIfInBounds i true).getD j false = l.getD j false := fun j c t s hj => by
  rw [getD_set _ _ _ hi, if_neg (fun e => by rw [e, hj] at hn; cases hn)]
 refine ⟨h1, fun h => ⟨(h2 (e0 ▸ h)).1, fun j c t s hj => (ej j c t s hj).trans ((h2 (e0 ▸ h)).2 j c t s hj)⟩, fun h => ?_⟩
 obtain ⟨es, ck, hb, hA, hB⟩ := h3 (e0 ▸ h)
 refine ⟨es, ck, hb, fun e he => ?_, fun j c t s hj hl => hB j c t s hj (ej j c t s hj ▸ hl)⟩
 obtain ⟨j, c, t, s, hj, hl, hk⟩ := hA e he
 exact ⟨j, c, t, s, hj, (ej j c t s hj).symm ▸ hl, hk⟩

theorem ins_inj {i j : Nat} {x : Bool × Bool × Bool} (hi : ins i = some x) (hj : ins j = some x) : i = j := by
 unfold ins at hi hj
 split at hi <;> split at hj <;> simp_all <;> (subst hi; simp at hj)

theorem wd_ins {w0 w : World} {l : Array Bool} {i : Nat} {c t s : Bool} (h : Wd w0 l w) (hi : i < l.size) (h0 : l.getD 0 false = true) (hi0 : i ≠ 0) (hli : l.getD i true = false) (hn : ins i = some (c, t, s)) :
    ∃ w', (Instr.mapUpdate 326 (.map (some w0.heap.size)) (kv c t s) (tab c t s)).run Tryz.prog w = .ok () w' ∧ Wd w0 (l.setIfInBounds i true) w' := by
 obtain ⟨h1, h2, h3⟩ := h
 obtain ⟨es, ck, hb, hA, hB⟩ := h3 h0
 have hli' : l.getD i false = false := by rw [getD_mk] at hli ⊢; simp [hi] at hli ⊢; exact hli
 have hnew : ∀ e ∈ es.toList, ∃ c' t' s', e.key = kv c' t' s' ∧ e.key ≠ kv c t s := fun e he => by
  obtain ⟨j, c', t', s', hj, hl, hk, _⟩ := hA e he
  refine ⟨c', t', s', hk, fun hk' => ?_⟩
  rw [hk] at hk'
  have := kv_inj.1 hk'
  simp only [Bool.and_eq_true, beq_iff_eq] at this
  obtain ⟨⟨rfl, rfl⟩, rfl⟩ := this
  have := ins_inj hn hj
  subst this
  rw [hli'] at hl; cases hl
 refine ⟨_, tab_update w0.heap.size c t s (tab c t s) w es ck hb hnew, ⟨h1.os, h1.tape, h1.output, by simpa using h1.size, fun k hk => ?_⟩, fun h => ?_, fun _ => ?_⟩
 ·rw [(MapKept.heap_set hb).2 k (by omega)]; exact h1.block k hk
 ·rw [getD_set _ _ _ hi, if_neg hi0, h0] at h; cases h
 ·refine ⟨_, _, (MapKept.heap_set hb).1, fun e he => ?_, fun j c' t' s' hj hl => ?_⟩
  ·simp only [Array.toList_push, List.mem_append, List.mem_singleton] at he
   rcases he with he | rfl
   ·obtain ⟨j, c', t', s', hj, hl, hk⟩ := hA e he
    exact ⟨j, c', t', s', hj, by rw [getD_set _ _ _ hi]; split; rfl; exact hl, hk⟩
   ·exact ⟨i, c, t, s, hn, by rw [getD_set _ _ _ hi, if_pos rfl], rfl, rfl⟩
  ·by_cases hij : i = j
   ·subst hij
    rw [hn] at hj; cases hj
    exact ⟨⟨kv c t s, tab c t s, ck⟩, by simp, rfl⟩
   ·rw [getD_set _ _ _ hi, if_neg hij] at hl
    obtain ⟨e, he, hk⟩ := hB j c' t' s' hj hl
    exact ⟨e, by simp [he], hk⟩

theorem wd_make {w0 w : World} {l : Array Bool} (h : Wd w0 l w) (hi : 0 < l.size) (hli : l.getD 0 true = false) :
    w.heap.size = w0.heap.size ∧ Wd w0 (l.setIfInBounds 0 true) (w.alloc (.map #[] 0)) := by
 obtain ⟨h1, h2, h3⟩ := h
 have hli' : l.getD 0 false = false := by rw [getD_mk] at hli ⊢; simp [hi] at hli ⊢; exact hli
 obtain ⟨hs, hn⟩ := h2 hli'
 refine ⟨hs, h1.alloc (by omega) _, fun h => ?_, fun _ => ?_⟩
 ·rw [getD_set _ _ _ hi, if_pos rfl] at h; cases h
 ·refine ⟨#[], 0, by rw [← hs]; exact (MapKept.heap_alloc w _).1, fun e he => (by cases he), fun j c t s hj hl => ?_⟩
  rw [getD_set _ _ _ hi] at hl
  have hne : (0 : Nat) ≠ j := fun e => by subst e; cases hj
  rw [if_neg hne, hn j c t s hj] at hl
  cases hl

theorem stepInv_of {P : Program} {ops : Array Oper} {Q : Exit → Act → World → Prop} {I : Array Bool → Act → World → Prop} {i : Nat} {o : Oper} (ho : ops[i]? = some o) (hg : o.guard = none)
    (h : ∀ (l : Array Bool) (a : Act) (w : World), l.size = ops.size → l.getD i true = false → (∀ e ∈ o.after.toList, l.getD e.on false = true) → I l a w →
     o.wp P a w (I (l.setIfInBounds i true)) Q) : StepInv P ops Q I i := by
 intro l a w hl hli hd hI
 unfold wpOp
 rw [ho]
 simp only [Region.wanted, hg, if_true]
 exact .inl (h l a w hl hli (hd o ho) hI)

theorem wp_value' {P : Program} {o : Oper} {a : Act} {w w' : World} {K : Act → World → Prop} {Q : Exit → Act → World → Prop} {v : Value}
    (h : (execOp a.eval o).run P w = .ok (.value v) w') (hk : K (a.put o.dst v) w') : o.wp P a w K Q := by
 unfold Oper.wp
 rw [h]
 exact hk

theorem wp_skip' {P : Program} {o : Oper} {a : Act} {w w' : World} {K : Act → World → Prop} {Q : Exit → Act → World → Prop}
    (h : (execOp a.eval o).run P w = .ok .skip w') (hk : K (a.put o.dst undef) w') : o.wp P a w K Q := by
 unfold Oper.wp
 rw [h]
 exact hk

theorem run_insert {a : Act} {w w2 : World} {t : TypeId} {x y z : Operand} {m k v : Value} {o : Oper} (e1 : a.eval x = m) (e2 : a.eval y = k) (e3 : a.eval z = v)
    (hr : (Instr.mapUpdate t m k v).run Tryz.prog w = .ok () w2) (ho : o.op = .insert t x y z := by rfl) : (execOp a.eval o).run Tryz.prog w = .ok .skip w2 := by
 unfold execOp
 rw [ho]
 simp only [e1, e2, e3]
 simp [go_sem, hr]

set_option maxRecDepth 100000 in
theorem rights_any (w : World) : Calls Tryz.prog 207 #[] w fun e w' => e = .returned (.map (some w.heap.size)) ∧ Below w.heap.size w w' ∧ IsTab w' w.heap.size := by
 go_enter Tryz.func207, Tryz.ntmps207
 go_wp2
 refine wp_region_inv (by kernel_rfl) (by kernel_rfl) (RI w) ?_ ?_ ?_
 ·refine ⟨⟨rfl, rfl, fun d hd hl => ?_⟩, (Below.refl _ _).drew, fun _ => ⟨rfl, fun j c t s hj => ?_⟩, fun h => ?_⟩
  ·rw [getD_mk] at hl; simp [Array.getElem?_replicate] at hl
   split at hl <;> simp at hl
  ·rw [getD_mk]; simp [Array.getElem?_replicate]
   split <;> rfl
  ·rw [getD_mk] at h; simp at h
 ·intro i hi
  have hi' : i < 24 := hi
  have hc : i = 0 ∨ i = 1 ∨ i = 2 ∨ i = 3 ∨ i = 4 ∨ i = 5 ∨ i = 6 ∨ i = 7 ∨ i = 8 ∨ i = 9 ∨ i = 10 ∨ i = 11 ∨ i = 12 ∨ i = 13 ∨ i = 14 ∨ i = 15 ∨ i = 16 ∨ i = 17 ∨ i = 18 ∨ i = 19 ∨ i = 20 ∨ i = 21 ∨ i = 22 ∨ i = 23 := by omega
  clear hi hi'
  rcases hc with rfl | rfl | rfl | rfl | rfl | rfl | rfl | rfl | rfl | rfl | rfl | rfl | rfl | rfl | rfl | rfl | rfl | rfl | rfl | rfl | rfl | rfl | rfl | rfl
  ·refine stepInv_of rfl rfl fun l a w' hl hli hd hI => ?_
   obtain ⟨hs, hw⟩ := wd_make hI.2 (by rw [hl]; exact Nat.zero_lt_succ _) hli
   refine wp_value' (v := vals w.heap.size 1) (w' := w'.alloc (.map #[] 0)) ?_ ⟨fr_put hI.1 (by rw [hl]; exact Nat.zero_lt_succ _) (by decide) (by decide), hw⟩
   show _ = Result.ok (Next.value (.map (some w.heap.size))) _
   rw [← hs]; rfl
  ·refine stepInv_of rfl rfl fun l a w' hl hli hd hI => ?_
   have hlt : 1 < l.size := by rw [hl]; exact of_decide_eq_true rfl
   exact wp_value' (v := vals w.heap.size 2) (by kernel_rfl) ⟨fr_put hI.1 hlt (by decide) (by decide), wd_skip hI.2 hlt (by decide) rfl⟩
  ·refine stepInv_of rfl rfl fun l a w' hl hli hd hI => ?_
   have hlt : 2 < l.size := by rw [hl]; exact of_decide_eq_true rfl
   exact wp_value' (v := vals w.heap.size 3) (by kernel_rfl) ⟨fr_put hI.1 hlt (by decide) (by decide), wd_skip hI.2 hlt (by decide) rfl⟩
  ·refine stepInv_of rfl rfl fun l a w' hl hli hd hI => ?_
   have hlt : 3 < l.size := by rw [hl]; exact of_decide_eq_true rfl
   have d0 : l.getD 0 false = true := hd ⟨0, .data⟩ (by simp)
   have dk : l.getD 1 false = true := hd ⟨1, .data⟩ (by simp)
   have dv : l.getD 2 false = true := hd ⟨2, .data⟩ (by simp)
   obtain ⟨w2, hr, hw⟩ := wd_ins hI.2 hlt d0 (by decide) hli rfl
   refine wp_skip' (w' := w2) ?_ ⟨fr_skip hI.1 hlt (by decide), hw⟩
   have e1 : a.eval (.tmp 1) = .map (some w.heap.size) := hI.1.2.2 1 (by decide) d0
   have e2 : a.eval (.tmp 2) = vals w.heap.size 2 := hI.1.2.2 2 (by decide) dk
   have e3 : a.eval (.tmp 3) = vals w.heap.size 3 := hI.1.2.2 3 (by decide) dv
   exact run_insert e1 e2 e3 hr
  ·refine stepInv_of rfl rfl fun l a w' hl hli hd hI => ?_
   have hlt : 4 < l.size := by rw [hl]; exact of_decide_eq_true rfl
   exact wp_value' (v := vals w.heap.size 4) (by kernel_rfl) ⟨fr_put hI.1 hlt (by decide) (by decide), wd_skip hI.2 hlt (by decide) rfl⟩
  ·refine stepInv_of rfl rfl fun l a w' hl hli hd hI => ?_
   have hlt : 5 < l.size := by rw [hl]; exact of_decide_eq_true rfl
   exact wp_value' (v := vals w.heap.size 5) (by kernel_rfl) ⟨fr_put hI.1 hlt (by decide) (by decide), wd_skip hI.2 hlt (by decide) rfl⟩
  ·refine stepInv_of rfl rfl fun l a w' hl hli hd hI => ?_
   have hlt : 6 < l.size := by rw [hl]; exact of_decide_eq_true rfl
   have d0 : l.getD 0 false = true := hd ⟨0, .data⟩ (by simp)
   have dk : l.getD 4 false = true := hd ⟨4, .data⟩ (by simp)
   have dv : l.getD 5 false = true := hd ⟨5, .data⟩ (by simp)
   obtain ⟨w2, hr, hw⟩ := wd_ins hI.2 hlt d0 (by decide) hli rfl
   refine wp_skip' (w' := w2) ?_ ⟨fr_skip hI.1 hlt (by decide), hw⟩
   have e1 : a.eval (.tmp 1) = .map (some w.heap.size) := hI.1.2.2 1 (by decide) d0
   have e2 : a.eval (.tmp 4) = vals w.heap.size 4 := hI.1.2.2 4 (by decide) dk
   have e3 : a.eval (.tmp 5) = vals w.heap.size 5 := hI.1.2.2 5 (by decide) dv
   exact run_insert e1 e2 e3 hr
  ·refine stepInv_of rfl rfl fun l a w' hl hli hd hI => ?_
   have hlt : 7 < l.size := by rw [hl]; exact of_decide_eq_true rfl
   exact wp_value' (v := vals w.heap.size 6) (by kernel_rfl) ⟨fr_put hI.1 hlt (by decide) (by decide), wd_skip hI.2 hlt (by decide) rfl⟩
  ·refine stepInv_of rfl rfl fun l a w' hl hli hd hI => ?_
   have hlt : 8 < l.size := by rw [hl]; exact of_decide_eq_true rfl
   exact wp_value' (v := vals w.heap.size 7) (by kernel_rfl) ⟨fr_put hI.1 hlt (by decide) (by decide), wd_skip hI.2 hlt (by decide) rfl⟩
  ·refine stepInv_of rfl rfl fun l a w' hl hli hd hI => ?_
   have hlt : 9 < l.size := by rw [hl]; exact of_decide_eq_true rfl
   have d0 : l.getD 0 false = true := hd ⟨0, .data⟩ (by simp)
   have dk : l.getD 7 false = true := hd ⟨7, .data⟩ (by simp)
   have dv : l.getD 8 false = true := hd ⟨8, .data⟩ (by simp)
   obtain ⟨w2, hr, hw⟩ := wd_ins hI.2 hlt d0 (by decide) hli rfl
   refine wp_skip' (w' := w2) ?_ ⟨fr_skip hI.1 hlt (by decide), hw⟩
   have e1 : a.eval (.tmp 1) = .map (some w.heap.size) := hI.1.2.2 1 (by decide) d0
   have e2 : a.eval (.tmp 6) = vals w.heap.size 6 := hI.1.2.2 6 (by decide) dk
   have e3 : a.eval (.tmp 7) = vals w.heap.size 7 := hI.1.2.2 7 (by decide) dv
   exact run_insert e1 e2 e3 hr
  ·refine stepInv_of rfl rfl fun l a w' hl hli hd hI => ?_
   have hlt : 10 < l.size := by rw [hl]; exact of_decide_eq_true rfl
   exact wp_value' (v := vals w.heap.size 8) (by kernel_rfl) ⟨fr_put hI.1 hlt (by decide) (by decide), wd_skip hI.2 hlt (by decide) rfl⟩
  ·refine stepInv_of rfl rfl fun l a w' hl hli hd hI => ?_
   have hlt : 11 < l.size := by rw [hl]; exact of_decide_eq_true rfl
   exact wp_value' (v := vals w.heap.size 9) (by kernel_rfl) ⟨fr_put hI.1 hlt (by decide) (by decide), wd_skip hI.2 hlt (by decide) rfl⟩
  ·refine stepInv_of rfl rfl fun l a w' hl hli hd hI => ?_
   have hlt : 12 < l.size := by rw [hl]; exact of_decide_eq_true rfl
   have d0 : l.getD 0 false = true := hd ⟨0, .data⟩ (by simp)
   have dk : l.getD 10 false = true := hd ⟨10, .data⟩ (by simp)
   have dv : l.getD 11 false = true := hd ⟨11, .data⟩ (by simp)
   obtain ⟨w2, hr, hw⟩ := wd_ins hI.2 hlt d0 (by decide) hli rfl
   refine wp_skip' (w' := w2) ?_ ⟨fr_skip hI.1 hlt (by decide), hw⟩
   have e1 : a.eval (.tmp 1) = .map (some w.heap.size) := hI.1.2.2 1 (by decide) d0
   have e2 : a.eval (.tmp 8) = vals w.heap.size 8 := hI.1.2.2 8 (by decide) dk
   have e3 : a.eval (.tmp 9) = vals w.heap.size 9 := hI.1.2.2 9 (by decide) dv
   exact run_insert e1 e2 e3 hr
  ·refine stepInv_of rfl rfl fun l a w' hl hli hd hI => ?_
   have hlt : 13 < l.size := by rw [hl]; exact of_decide_eq_true rfl
   exact wp_value' (v := vals w.heap.size 10) (by kernel_rfl) ⟨fr_put hI.1 hlt (by decide) (by decide), wd_skip hI.2 hlt (by decide) rfl⟩
  ·refine stepInv_of rfl rfl fun l a w' hl hli hd hI => ?_
   have hlt : 14 < l.size := by rw [hl]; exact of_decide_eq_true rfl
   exact wp_value' (v := vals w.heap.size 11) (by kernel_rfl) ⟨fr_put hI.1 hlt (by decide) (by decide), wd_skip hI.2 hlt (by decide) rfl⟩
  ·refine stepInv_of rfl rfl fun l a w' hl hli hd hI => ?_
   have hlt : 15 < l.size := by rw [hl]; exact of_decide_eq_true rfl
   have d0 : l.getD 0 false = true := hd ⟨0, .data⟩ (by simp)
   have dk : l.getD 13 false = true := hd ⟨13, .data⟩ (by simp)
   have dv : l.getD 14 false = true := hd ⟨14, .data⟩ (by simp)
   obtain ⟨w2, hr, hw⟩ := wd_ins hI.2 hlt d0 (by decide) hli rfl
   refine wp_skip' (w' := w2) ?_ ⟨fr_skip hI.1 hlt (by decide), hw⟩
   have e1 : a.eval (.tmp 1) = .map (some w.heap.size) := hI.1.2.2 1 (by decide) d0
   have e2 : a.eval (.tmp 10) = vals w.heap.size 10 := hI.1.2.2 10 (by decide) dk
   have e3 : a.eval (.tmp 11) = vals w.heap.size 11 := hI.1.2.2 11 (by decide) dv
   exact run_insert e1 e2 e3 hr
  ·refine stepInv_of rfl rfl fun l a w' hl hli hd hI => ?_
   have hlt : 16 < l.size := by rw [hl]; exact of_decide_eq_true rfl
   exact wp_value' (v := vals w.heap.size 12) (by kernel_rfl) ⟨fr_put hI.1 hlt (by decide) (by decide), wd_skip hI.2 hlt (by decide) rfl⟩
  ·refine stepInv_of rfl rfl fun l a w' hl hli hd hI => ?_
   have hlt : 17 < l.size := by rw [hl]; exact of_decide_eq_true rfl
   exact wp_value' (v := vals w.heap.size 13) (by kernel_rfl) ⟨fr_put hI.1 hlt (by decide) (by decide), wd_skip hI.2 hlt (by decide) rfl⟩
  ·refine stepInv_of rfl rfl fun l a w' hl hli hd hI => ?_
   have hlt : 18 < l.size := by rw [hl]; exact of_decide_eq_true rfl
   have d0 : l.getD 0 false = true := hd ⟨0, .data⟩ (by simp)
   have dk : l.getD 16 false = true := hd ⟨16, .data⟩ (by simp)
   have dv : l.getD 17 false = true := hd ⟨17, .data⟩ (by simp)
   obtain ⟨w2, hr, hw⟩ := wd_ins hI.2 hlt d0 (by decide) hli rfl
   refine wp_skip' (w' := w2) ?_ ⟨fr_skip hI.1 hlt (by decide), hw⟩
   have e1 : a.eval (.tmp 1) = .map (some w.heap.size) := hI.1.2.2 1 (by decide) d0
   have e2 : a.eval (.tmp 12) = vals w.heap.size 12 := hI.1.2.2 12 (by decide) dk
   have e3 : a.eval (.tmp 13) = vals w.heap.size 13 := hI.1.2.2 13 (by decide) dv
   exact run_insert e1 e2 e3 hr
  ·refine stepInv_of rfl rfl fun l a w' hl hli hd hI => ?_
   have hlt : 19 < l.size := by rw [hl]; exact of_decide_eq_true rfl
   exact wp_value' (v := vals w.heap.size 14) (by kernel_rfl) ⟨fr_put hI.1 hlt (by decide) (by decide), wd_skip hI.2 hlt (by decide) rfl⟩
  ·refine stepInv_of rfl rfl fun l a w' hl hli hd hI => ?_
   have hlt : 20 < l.size := by rw [hl]; exact of_decide_eq_true rfl
   exact wp_value' (v := vals w.heap.size 15) (by kernel_rfl) ⟨fr_put hI.1 hlt (by decide) (by decide), wd_skip hI.2 hlt (by decide) rfl⟩
  ·refine stepInv_of rfl rfl fun l a w' hl hli hd hI => ?_
   have hlt : 21 < l.size := by rw [hl]; exact of_decide_eq_true rfl
   have d0 : l.getD 0 false = true := hd ⟨0, .data⟩ (by simp)
   have dk : l.getD 19 false = true := hd ⟨19, .data⟩ (by simp)
   have dv : l.getD 20 false = true := hd ⟨20, .data⟩ (by simp)
   obtain ⟨w2, hr, hw⟩ := wd_ins hI.2 hlt d0 (by decide) hli rfl
   refine wp_skip' (w' := w2) ?_ ⟨fr_skip hI.1 hlt (by decide), hw⟩
   have e1 : a.eval (.tmp 1) = .map (some w.heap.size) := hI.1.2.2 1 (by decide) d0
   have e2 : a.eval (.tmp 14) = vals w.heap.size 14 := hI.1.2.2 14 (by decide) dk
   have e3 : a.eval (.tmp 15) = vals w.heap.size 15 := hI.1.2.2 15 (by decide) dv
   exact run_insert e1 e2 e3 hr
  ·refine stepInv_of rfl rfl fun l a w' hl hli hd hI => ?_
   have hlt : 22 < l.size := by rw [hl]; exact of_decide_eq_true rfl
   have d0 : l.getD 0 false = true := hd ⟨0, .data⟩ (by simp)
   have e1 : a.eval (.tmp 1) = .map (some w.heap.size) := hI.1.2.2 1 (by decide) d0
   exact wp_value' (v := vals w.heap.size 16) ((BigFrame.run_move (.tmp 1) rfl w').trans (by rw [e1]; rfl)) ⟨fr_put hI.1 hlt (by decide) (by decide), wd_skip hI.2 hlt (by decide) rfl⟩
  ·refine stepInv_of rfl rfl fun l a w' hl hli hd hI => ?_
   have hlt : 23 < l.size := by rw [hl]; exact of_decide_eq_true rfl
   have d0 : l.getD 22 false = true := hd ⟨22, .data⟩ (by simp)
   have e1 : a.eval (.tmp 16) = .map (some w.heap.size) := hI.1.2.2 16 (by decide) d0
   exact wp_value' (v := vals w.heap.size 0) ((BigFrame.run_assign (.tmp 16) rfl w').trans (by rw [e1]; rfl)) ⟨fr_put hI.1 hlt (by decide) (by decide), wd_skip hI.2 hlt (by decide) rfl⟩
 ·intro l a w' hall hI
  have h0 : a.tmps.getD 0 undef = .map (some w.heap.size) := hI.1.2.2 0 (by decide) (hall 23 (of_decide_eq_true rfl))
  go_wp2
  refine bodyPost_ret (results_tmp rfl _ _ _) hI.1.2.1 ⟨by rw [h0], hI.2.1, ?_⟩
  obtain ⟨es, ck, hb, hA, hB⟩ := hI.2.2.2 (hall 0 (of_decide_eq_true rfl))
  refine ⟨es, ck, hb, fun e he => ?_, fun c t s hc => ?_, fun e he hk => ?_⟩
  ·obtain ⟨j, c, t, s, _, _, hk, hv⟩ := hA e he
   exact ⟨c, t, s, hk, hv⟩
  ·have hj : ∃ j, ins j = some (c, t, s) ∧ j < 24 := by
     cases c <;> cases t <;> cases s <;> simp at hc
     ·exact ⟨3, rfl, by decide⟩
     ·exact ⟨6, rfl, by decide⟩
     ·exact ⟨9, rfl, by decide⟩
     ·exact ⟨12, rfl, by decide⟩
     ·exact ⟨15, rfl, by decide⟩
     ·exact ⟨18, rfl, by decide⟩
     ·exact ⟨21, rfl, by decide⟩
   obtain ⟨j, hj, hlt⟩ := hj
   exact hB j c t s hj (hall j hlt)
  ·obtain ⟨j, c, t, s, hj, _, hk', _⟩ := hA e he
   rw [hk] at hk'
   have := kv_inj.1 hk'
   simp only [Bool.and_eq_true, beq_iff_eq] at this
   obtain ⟨⟨rfl, rfl⟩, rfl⟩ := this
   unfold ins at hj
   split at hj <;> simp at hj
end Go.Proofs.YtmpcafdgkbpneaaGreat

/- segment: walks of the small functions. -/
namespace Go.Proofs.YtmpcafdgkbpneaaGreat
open Go.RowKit

def tb (t k : Int) : Bool := bits BinOp.and IntKind.i64 t k != 0
def isK (t : Int) (s : Bool) : Bool := !s && decide (0 ≤ t ∧ t < 16)

theorem kindOf_any (b l t p : Int) (s r g : Bool) (w : World) :
    Calls Tryz.prog 206 #[.agg #[.int .u32 b, .int .u32 l, .int .i64 t, .bool s, .int .i64 p, .bool r, .bool g]] w fun e w' =>
     e = .returned (.tuple #[.agg #[.bool (tb t 8), .bool (tb t 4), .bool (tb t 2)], .bool (isK t s)]) ∧ Below w.heap.size w w' := by
 cases s
 ·by_cases h0 : 0 ≤ t
  ·by_cases h1 : t < 16
   ·go_enter Tryz.func206, Tryz.ntmps206
    go_wp2
    go_region
    go_wp2
    go_returns
    refine ⟨by simp [tb, isK, h0, h1], by go_grown⟩
   ·go_enter Tryz.func206, Tryz.ntmps206
    go_wp2
    have hd : decide (t < 16) = false := by simpa using h1
    go_region
    go_wp2
    go_returns
    refine ⟨by simp [tb, isK, h0, h1], by go_grown⟩
  ·go_enter Tryz.func206, Tryz.ntmps206
   go_wp2
   have hd : decide (0 ≤ t) = false := by simpa using h0
   go_region
   go_wp2
   go_returns
   refine ⟨by simp [tb, isK]; omega, by go_grown⟩
 ·go_enter Tryz.func206, Tryz.ntmps206
  go_wp2
  go_region
  go_wp2
  go_returns
  refine ⟨by simp [tb, isK], by go_grown⟩
end Go.Proofs.YtmpcafdgkbpneaaGreat

/- segment: walks of letsOf, Reach. -/
namespace Go.Proofs.YtmpcafdgkbpneaaGreat
open Go.RowKit

theorem tab_lookup' (b : Nat) (c t s : Bool) (w : World) (h : IsTab w b) :
    (Instr.lookup 326 (.map (some b)) (.agg #[.bool c, .bool t, .bool s]) false).run Tryz.prog w = .ok (.agg #[.bool (!c || s), .bool (!c && s), .bool (!c && t), .bool (c && t)]) w :=
 tab_lookup b c t s w h

theorem letsOf_yes (b l t p : Int) (s r g : Bool) (w : World) (hk : isK t s = true) :
    Calls Tryz.prog 190 #[.agg #[.int .u32 b, .int .u32 l, .int .i64 t, .bool s, .int .i64 p, .bool r, .bool g]] w fun e w' =>
     e = .returned (tab (tb t 8) (tb t 4) (tb t 2)) ∧ Below w.heap.size w w' := by
 have H := Lib.hid hk; clear hk
 go_enter Tryz.func190, Tryz.ntmps190
 go_wp2_with fail
 refine (kindOf_any _ _ _ _ _ _ _ _).mono ?_
 rintro e w1 ⟨rfl, hb⟩
 rw [H.out]
 obtain ⟨hc, hf⟩ := bcell hb
 have hz := hb.size
 simp only [World.size_alloc] at hz hc hf
 have hz1 : w.heap.size + 1 < w1.heap.size := by omega
 have hz0 : w.heap.size < w1.heap.size := by omega
 go_wp2_with fail
 go_region_with (first | (go_at_call 207; refine (rights_any _).mono ?_; rintro e w2 ⟨rfl, hb2, ht⟩; obtain ⟨hc2, hf2⟩ := bcell hb2; have hz2 := hb2.size; simp only [World.size_alloc, World.size_drew] at hz2 hc2 hf2 ht; have hz3 : w.heap.size + 1 < w2.heap.size := (by omega); have hl := tab_lookup' _ (tb t 8) (tb t 4) (tb t 2) _ ht))
 all_goals
  go_wp2
  have hB1 : Below w.heap.size w w1 := step_below (by go_grown) hb (Nat.le_refl _)
  have hB2 : Below w.heap.size w w2 := step_below (by go_grown) hb2 (Nat.le_refl _)
  refine bodyPost_ret (v := tab (tb t 8) (tb t 4) (tb t 2)) (by unfold tab lv; simp only [results, Tryz.results190]; go_simp) rfl ⟨rfl, by go_grown⟩

theorem letsOf_no (b l t p : Int) (s r g : Bool) (w : World) (hk : isK t s = false) :
    Calls Tryz.prog 190 #[.agg #[.int .u32 b, .int .u32 l, .int .i64 t, .bool s, .int .i64 p, .bool r, .bool g]] w fun e w' =>
     e = .returned (.agg #[.bool false, .bool false, .bool false, .bool false]) ∧ Below w.heap.size w w' := by
 have H := Lib.hid hk; clear hk
 go_enter Tryz.func190, Tryz.ntmps190
 go_wp2_with fail
 refine (kindOf_any _ _ _ _ _ _ _ _).mono ?_
 rintro e w1 ⟨rfl, hb⟩
 rw [H.out]
 obtain ⟨hc, hf⟩ := bcell hb
 have hz := hb.size
 simp only [World.size_alloc] at hz hc hf
 have hz1 : w.heap.size + 1 < w1.heap.size := by omega
 have hz0 : w.heap.size < w1.heap.size := by omega
 go_wp2_with fail
 have hB1 : Below w.heap.size w w1 := step_below (by go_grown) hb (Nat.le_refl _)
 refine bodyPost_ret (v := .agg #[.bool false, .bool false, .bool false, .bool false]) (by simp only [results, Tryz.results190]; go_simp) rfl ⟨rfl, by go_grown⟩
end Go.Proofs.YtmpcafdgkbpneaaGreat

/- segment: Reach. -/
namespace Go.Proofs.YtmpcafdgkbpneaaGreat
open Go.RowKit

def lR (t : Int) (s : Bool) : Bool := isK t s && (!tb t 8 || tb t 2)
def lW (t : Int) (s : Bool) : Bool := isK t s && (!tb t 8 && tb t 2)
def lD (t : Int) (s : Bool) : Bool := isK t s && (!tb t 8 && tb t 4)
def lC (t : Int) (s : Bool) : Bool := isK t s && (tb t 8 && tb t 4)

theorem letsOf_any (b l t p : Int) (s r g : Bool) (w : World) :
    Calls Tryz.prog 190 #[.agg #[.int .u32 b, .int .u32 l, .int .i64 t, .bool s, .int .i64 p, .bool r, .bool g]] w fun e w' =>
     e = .returned (.agg #[.bool (lR t s), .bool (lW t s), .bool (lD t s), .bool (lC t s)]) ∧ Below w.heap.size w w' := by
 cases hk : isK t s with
 | true => exact (letsOf_yes b l t p s r g w hk).mono fun e w' ⟨he, hb⟩ => ⟨by rw [he]; simp [lR, lW, lD, lC, hk, tab, lv], hb⟩
 | false => exact (letsOf_no b l t p s r g w hk).mono fun e w' ⟨he, hb⟩ => ⟨by rw [he]; simp [lR, lW, lD, lC, hk], hb⟩

def reach (l t : Int) (s r g : Bool) (off size : Int) (wr : Bool) : Bool :=
 r && lR t s && (!wr || lW t s) && (if lD t s then decide (l < off) && decide (off + size - 1 ≤ if g then 4294967295 else 65535) else decide (off + size - 1 ≤ l))

theorem reach_one (b l t p : Int) (s r g : Bool) (off : Int) (wr : Bool) (w : World) (h0 : 0 ≤ off) (h1 : off < 4294967296) (h2 : 0 ≤ l) (h3 : l < 4294967296) :
    Calls Tryz.prog 159 #[.agg #[.int .u32 b, .int .u32 l, .int .i64 t, .bool s, .int .i64 p, .bool r, .bool g], .int .u32 off, .int .i64 1, .bool wr] w fun e w' =>
     e = .returned (.bool (reach l t s r g off 1 wr)) ∧ Below w.heap.size w w' := by
 go_enter Tryz.func159, Tryz.ntmps159
 go_wp2_with fail
 refine (letsOf_any _ _ _ _ _ _ _ _).mono ?_
 rintro e w1 ⟨rfl, hb⟩
 obtain ⟨hc, hf⟩ := bcell hb
 have hz := hb.size
 simp only [World.size_alloc] at hz hc hf
 have hz0 : w.heap.size < w1.heap.size := by omega
 have hB1 : Below w.heap.size w w1 := step_below (by go_grown) hb (Nat.le_refl _)
 go_wp2_with fail
 all_goals
  go_ret
  refine ⟨?_, by go_grown⟩
  clear hc hf
  first | (simp_all [reach]; done) | (simp_all [reach]; omega)

theorem reach_two (b l t p : Int) (s r g : Bool) (off : Int) (wr : Bool) (w : World) (h0 : 0 ≤ off) (h1 : off < 4294967296) (h2 : 0 ≤ l) (h3 : l < 4294967296) :
    Calls Tryz.prog 159 #[.agg #[.int .u32 b, .int .u32 l, .int .i64 t, .bool s, .int .i64 p, .bool r, .bool g], .int .u32 off, .int .i64 2, .bool wr] w fun e w' =>
     e = .returned (.bool (reach l t s r g off 2 wr)) ∧ Below w.heap.size w w' := by
 go_enter Tryz.func159, Tryz.ntmps159
 go_wp2_with fail
 refine (letsOf_any _ _ _ _ _ _ _ _).mono ?_
 rintro e w1 ⟨rfl, hb⟩
 obtain ⟨hc, hf⟩ := bcell hb
 have hz := hb.size
 simp only [World.size_alloc] at hz hc hf
 have hz0 : w.heap.size < w1.heap.size := by omega
 have hB1 : Below w.heap.size w w1 := step_below (by go_grown) hb (Nat.le_refl _)
 go_wp2_with fail
 all_goals
  go_ret
  refine ⟨?_, by go_grown⟩
  clear hc hf
  first | (simp_all [reach]; done) | (simp_all [reach]; omega)

theorem reach_four (b l t p : Int) (s r g : Bool) (off : Int) (wr : Bool) (w : World) (h0 : 0 ≤ off) (h1 : off < 4294967296) (h2 : 0 ≤ l) (h3 : l < 4294967296) :
    Calls Tryz.prog 159 #[.agg #[.int .u32 b, .int .u32 l, .int .i64 t, .bool s, .int .i64 p, .bool r, .bool g], .int .u32 off, .int .i64 4, .bool wr] w fun e w' =>
     e = .returned (.bool (reach l t s r g off 4 wr)) ∧ Below w.heap.size w w' := by
 go_enter Tryz.func159, Tryz.ntmps159
 go_wp2_with fail
 refine (letsOf_any _ _ _ _ _ _ _ _).mono ?_
 rintro e w1 ⟨rfl, hb⟩
 obtain ⟨hc, hf⟩ := bcell hb
 have hz := hb.size
 simp only [World.size_alloc] at hz hc hf
 have hz0 : w.heap.size < w1.heap.size := by omega
 have hB1 : Below w.heap.size w w1 := step_below (by go_grown) hb (Nat.le_refl _)
 go_wp2_with fail
 all_goals
  go_ret
  refine ⟨?_, by go_grown⟩
  clear hc hf
  first | (simp_all [reach]; done) | (simp_all [reach]; omega)

end Go.Proofs.YtmpcafdgkbpneaaGreat

