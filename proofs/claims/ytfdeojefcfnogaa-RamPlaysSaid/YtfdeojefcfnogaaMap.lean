/- Maps by numbers: what a map's block holds as a function of the key, and what the operations do to it. -/
import Derived.Test.YtfdeojefcfnogaaObj
import Derived.MapKept
import Derived.Maps.Own
import Derived.Maps.OwnOps
import Derived.Maps.OwnSet
namespace Go.Proofs.Ytfdeojefcfnogaa
open Go.RowKit Go.MapKept
set_option linter.unusedVariables false

/-- Block r is a map by keys of kind q; f says what lies at each. -/
def MapAt (w : World) (r : Nat) (q : IntKind) (f : Nat → Option Value) : Prop :=
  ∃ es clock, w.heap[r]? = some (.map es clock) ∧ Stamped es clock ∧ (∀ x ∈ es.toList, ∃ n : Nat, x.key = .int q n) ∧
    ∀ (n : Nat) v, f n = some v ↔ ∃ x ∈ es.toList, x.key = .int q n ∧ x.val = v

section
variable {P : Program} {w w' : World} {r : Nat} {q : IntKind} {f : Nat → Option Value} {t k e : TypeId}

theorem MapAt.lt (h : MapAt w r q f) : r < w.heap.size := by
  obtain ⟨es, clock, hb, _⟩ := h
  exact heap_lt hb
theorem MapAt.of_heap (h : MapAt w r q f) (hh : w'.heap[r]? = w.heap[r]?) : MapAt w' r q f := by
  obtain ⟨es, clock, hb, h1, h2, h3⟩ := h
  exact ⟨es, clock, by rw [hh]; exact hb, h1, h2, h3⟩
theorem MapAt.below {B : Nat} (h : MapAt w r q f) (hb : Below B w w') (hr : r < B) : MapAt w' r q f := h.of_heap (hb.block r hr)
theorem MapAt.keeps {S : Nat → Prop} (h : MapAt w r q f) (hk : Keeps S w w') (hn : ¬ S r) : MapAt w' r q f := h.of_heap (hk.block r h.lt hn)
theorem MapAt.alloc (h : MapAt w r q f) (o : Obj) : MapAt (w.alloc o) r q f := h.of_heap (Below.heap_alloc _ _ _ h.lt)
theorem MapAt.drewN (h : MapAt w r q f) (n : Nat) : MapAt (w.drewN n) r q f := h.of_heap rfl
theorem MapAt.drew (h : MapAt w r q f) : MapAt w.drew r q f := h.of_heap rfl
theorem MapAt.setCell (h : MapAt w r q f) (p : Addr) (v : Value) : MapAt (w.setCell p v) r q f := by
  by_cases e : r = p.block
  · obtain ⟨es, clock, hb, h1, h2, h3⟩ := h
    refine ⟨es, clock, ?_, h1, h2, h3⟩
    subst e
    simp [World.setCell, Array.getElem?_modify, hb]
  · exact h.of_heap (Below.heap_setCell _ _ _ _ e)
theorem MapAt.ext {g : Nat → Option Value} (h : MapAt w r q f) (e : ∀ n, g n = f n) : MapAt w r q g := by
  obtain ⟨es, clock, hb, h1, h2, h3⟩ := h
  exact ⟨es, clock, hb, h1, h2, fun n v => by rw [e n]; exact h3 n v⟩
theorem MapAt.new (w : World) (q : IntKind) : MapAt (w.alloc (.map #[] 0)) w.heap.size q (fun _ => none) :=
  ⟨#[], 0, heap_new w _, stamped_empty 0, by simp, by simp⟩

theorem keyed {es : Array MapEntry} (h : ∀ x ∈ es.toList, ∃ n : Nat, x.key = .int q n) : ∀ x ∈ es.toList, IsKey (.int q) x.key := by
  intro x hx
  obtain ⟨n, hn⟩ := h x hx
  rw [hn]; exact rfl
theorem eq_of_key : ∀ {l : List MapEntry}, (l.map (·.key)).Nodup → ∀ {x y : MapEntry}, x ∈ l → y ∈ l → x.key = y.key → x = y
  | [], _, _, _, hx, _, _ => by cases hx
  | a :: l, hn, x, y, hx, hy, e => by
    rw [List.map_cons, List.nodup_cons] at hn
    rcases List.mem_cons.1 hx with e1 | h1
    · rcases List.mem_cons.1 hy with e2 | h2
      · rw [e1, e2]
      · exact absurd (List.mem_map.2 ⟨y, h2, by rw [← e, e1]⟩) hn.1
    · rcases List.mem_cons.1 hy with e2 | h2
      · exact absurd (List.mem_map.2 ⟨x, h1, by rw [e, e2]⟩) hn.1
      · exact eq_of_key hn.2 h1 h2 e
theorem idx_inj : ∀ {l : List MapEntry}, (l.map (·.key)).Nodup → ∀ {i j : Nat} {y : MapEntry}, l[i]? = some y → l[j]? = some y → i = j
  | [], _, _, _, _, hi, _ => by simp at hi
  | a :: l, hn, i, j, y, hi, hj => by
    rw [List.map_cons, List.nodup_cons] at hn
    rcases i with _ | i <;> rcases j with _ | j
    · rfl
    · rw [List.getElem?_cons_zero, Option.some.injEq] at hi
      rw [List.getElem?_cons_succ] at hj
      exact absurd (List.mem_map.2 ⟨y, List.mem_of_getElem? hj, by rw [hi]⟩) hn.1
    · rw [List.getElem?_cons_zero, Option.some.injEq] at hj
      rw [List.getElem?_cons_succ] at hi
      exact absurd (List.mem_map.2 ⟨y, List.mem_of_getElem? hi, by rw [hj]⟩) hn.1
    · rw [List.getElem?_cons_succ] at hi hj
      rw [idx_inj hn.2 hi hj]
theorem unique {es : Array MapEntry} {clock : Nat} (hs : Stamped es clock) {x y : MapEntry} (hx : x ∈ es.toList) (hy : y ∈ es.toList) (e : x.key = y.key) : x = y := by
  exact eq_of_key hs.2.2 hx hy e

/-- What a search finds. -/
theorem MapAt.find (h : MapAt w r q f) (n : Nat) : ∃ es clock, w.heap[r]? = some (.map es clock) ∧ Stamped es clock ∧ (∀ x ∈ es.toList, ∃ n : Nat, x.key = .int q n) ∧ (∀ (n : Nat) v, f n = some v ↔ ∃ x ∈ es.toList, x.key = .int q n ∧ x.val = v) ∧
    ((Instr.findNow (.int q) (.int q (n : Int)) es.toList 0 = some none ∧ f n = none ∧ ∀ x ∈ es.toList, x.key ≠ .int q n) ∨
     ∃ j x, Instr.findNow (.int q) (.int q (n : Int)) es.toList 0 = some (some (j, x.val)) ∧ es.toList[j]? = some x ∧ x.key = .int q n ∧ f n = some x.val) := by
  obtain ⟨es, clock, hb, h1, h2, h3⟩ := h
  refine ⟨es, clock, hb, h1, h2, h3, ?_⟩
  rcases findNow_spec (d := .int q) (k := .int q (n : Int)) rfl es.toList 0 (keyed h2) with ⟨g1, g2⟩ | ⟨j, x, g1, g2, g3⟩
  · refine .inl ⟨g1, ?_, g2⟩
    cases hf : f n with
    | none => rfl
    | some v =>
      obtain ⟨x, hx, hk, _⟩ := (h3 n v).1 hf
      exact absurd hk (g2 x hx)
  · refine .inr ⟨j, x, by simpa using g1, g2, g3, ?_⟩
    exact (h3 n x.val).2 ⟨x, List.mem_of_getElem? g2, g3, rfl⟩

theorem MapAt.lookup (h : MapAt w r q f) (ht : P.underlying t = some (.map k e)) (hk : P.underlying k = some (.int q)) {z : Value} (hz : (zeroValue e).run P w = .ok z w) (n : Nat) (x : Int) (hx : x = (n : Int)) :
    (Instr.lookup t (.map (some r)) (.int q x) false).run P w = .ok ((f n).getD z) w := by
  subst hx
  obtain ⟨es, clock, hb, h1, h2, h3, ⟨g, gf, _⟩ | ⟨j, x, g, _, _, gf⟩⟩ := h.find n
  · simp [Instr.lookup, run_underlying ht, MapKept.run_getObj_map hb, MapKept.run_checkKey hk (d := .int q) (k := .int q (n : Int)) rfl, MapKept.run_findKey hk g, hz, Result.andThen, gf]
  · simp [Instr.lookup, run_underlying ht, MapKept.run_getObj_map hb, MapKept.run_checkKey hk (d := .int q) (k := .int q (n : Int)) rfl, MapKept.run_findKey hk g, Result.andThen, gf]
theorem MapAt.lookupOk (h : MapAt w r q f) (ht : P.underlying t = some (.map k e)) (hk : P.underlying k = some (.int q)) {z : Value} (hz : (zeroValue e).run P w = .ok z w) (n : Nat) (x : Int) (hx : x = (n : Int)) :
    (Instr.lookup t (.map (some r)) (.int q x) true).run P w = .ok (.tuple #[(f n).getD z, .bool (f n).isSome]) w := by
  subst hx
  obtain ⟨es, clock, hb, h1, h2, h3, ⟨g, gf, _⟩ | ⟨j, x, g, _, _, gf⟩⟩ := h.find n
  · simp [Instr.lookup, run_underlying ht, MapKept.run_getObj_map hb, MapKept.run_checkKey hk (d := .int q) (k := .int q (n : Int)) rfl, MapKept.run_findKey hk g, hz, Result.andThen, gf]
  · simp [Instr.lookup, run_underlying ht, MapKept.run_getObj_map hb, MapKept.run_checkKey hk (d := .int q) (k := .int q (n : Int)) rfl, MapKept.run_findKey hk g, Result.andThen, gf]

theorem keeps_set {o o' : Obj} (hb : w.heap[r]? = some o) : Keeps (· = r) w { w with heap := w.heap.setIfInBounds r o' } :=
  ⟨rfl, rfl, rfl, by simp, fun i hi hn => (heap_set hb).2 i hn⟩

theorem modify_mem {es : Array MapEntry} {j : Nat} {x : MapEntry} {g : MapEntry → MapEntry} (hj : es.toList[j]? = some x) {y : MapEntry} (hy : y ∈ (es.modify j g).toList) : y = g x ∨ (y ∈ es.toList ∧ ∃ i, i ≠ j ∧ es.toList[i]? = some y) := by
  obtain ⟨i, hi⟩ := List.getElem?_of_mem hy
  rw [Array.getElem?_toList, Array.getElem?_modify] at hi
  by_cases e : j = i
  · subst e
    rw [if_pos rfl] at hi
    rw [Array.getElem?_toList] at hj
    rw [hj] at hi
    exact .inl (by simpa using hi.symm)
  · rw [if_neg e, ← Array.getElem?_toList] at hi
    exact .inr ⟨List.mem_of_getElem? hi, i, fun e' => e e'.symm, hi⟩
theorem modify_at {es : Array MapEntry} {j : Nat} {x : MapEntry} {g : MapEntry → MapEntry} (hj : es.toList[j]? = some x) : g x ∈ (es.modify j g).toList := by
  refine List.mem_of_getElem? (i := j) ?_
  rw [Array.getElem?_toList] at hj
  rw [Array.getElem?_toList, Array.getElem?_modify, if_pos rfl, hj]; rfl
theorem modify_other {es : Array MapEntry} {i j : Nat} {y : MapEntry} {g : MapEntry → MapEntry} (hi : es.toList[i]? = some y) (hne : i ≠ j) : y ∈ (es.modify j g).toList := by
  refine List.mem_of_getElem? (i := i) ?_
  rw [Array.getElem?_toList] at hi
  rw [Array.getElem?_toList, Array.getElem?_modify, if_neg (fun e => hne e.symm), hi]

theorem MapAt.update (h : MapAt w r q f) (ht : P.underlying t = some (.map k e)) (hk : P.underlying k = some (.int q)) (n : Nat) (x : Int) (hx : x = (n : Int)) (v : Value) :
    ∃ w', (Instr.mapUpdate t (.map (some r)) (.int q x) v).run P w = .ok () w' ∧ MapAt w' r q (fun m => if m = n then some v else f m) ∧ Keeps (· = r) w w' := by
  subst hx
  have hkey : IsKey (.int q) (.int q (n : Int)) := rfl
  obtain ⟨es, clock, hb, h1, h2, h3, ⟨g, gf, gn⟩ | ⟨j, x, g, gj, gk, gf⟩⟩ := h.find n
  · refine ⟨{ w with heap := w.heap.setIfInBounds r (.map (es.push { key := .int q n, val := v, born := clock }) (clock + 1)) }, ?_, ?_, keeps_set hb⟩
    · simp [Instr.mapUpdate, run_underlying ht, MapKept.run_getObj_map hb, MapKept.run_checkKey hk hkey, MapKept.run_findKey hk g, MapKept.run_setObj_map _ hb, Result.andThen]
    · refine ⟨_, _, (heap_set hb).1, stamped_push h1 gn, ?_, ?_⟩
      · intro y hy
        simp only [Array.toList_push, List.mem_append, List.mem_singleton] at hy
        rcases hy with hy | rfl
        · exact h2 y hy
        · exact ⟨n, rfl⟩
      · intro m u
        simp only [Array.toList_push, List.mem_append, List.mem_singleton]
        by_cases e : m = n
        · subst e
          rw [if_pos rfl]
          constructor
          · intro hu
            simp only [Option.some.injEq] at hu
            exact ⟨_, .inr rfl, rfl, hu⟩
          · rintro ⟨y, hy | rfl, hyk, hyv⟩
            · exact absurd hyk (gn y hy)
            · rw [← hyv]
        · rw [if_neg e, h3 m u]
          constructor
          · rintro ⟨y, hy, hyk, hyv⟩
            exact ⟨y, .inl hy, hyk, hyv⟩
          · rintro ⟨y, hy | rfl, hyk, hyv⟩
            · exact ⟨y, hy, hyk, hyv⟩
            · simp only [Value.int.injEq, true_and] at hyk
              exact absurd (by omega) e
  · have hj : es[j]? = some x := by rw [← Array.getElem?_toList]; exact gj
    refine ⟨{ w with heap := w.heap.setIfInBounds r (.map (es.modify j fun e => { e with key := .int q n, val := v }) clock) }, ?_, ?_, keeps_set hb⟩
    · simp [Instr.mapUpdate, run_underlying ht, MapKept.run_getObj_map hb, MapKept.run_checkKey hk hkey, MapKept.run_findKey hk g, hj, gk, MapKept.run_keyThatStays hkey, MapKept.run_setObj_map _ hb, Result.andThen]
    · have hkey' : ∀ e', es[j]? = some e' → ({ e' with key := .int q n, val := v } : MapEntry).key = e'.key := fun e' he' => by rw [hj] at he'; cases he'; exact gk.symm
      refine ⟨_, _, (heap_set hb).1, stamped_modify h1 _ _ (fun _ _ => rfl) (fun e' _ he' => hkey' e' he'), ?_, ?_⟩
      · intro y hy
        rcases modify_mem gj hy with rfl | ⟨hy, _⟩
        · exact ⟨n, rfl⟩
        · exact h2 y hy
      · intro m u
        show (if m = n then some v else f m) = some u ↔ _
        by_cases e : m = n
        · subst e
          rw [if_pos rfl]
          constructor
          · intro hu
            simp only [Option.some.injEq] at hu
            exact ⟨_, modify_at gj, rfl, hu⟩
          · rintro ⟨y, hy, hyk, hyv⟩
            rcases modify_mem gj hy with rfl | ⟨hy, i, hij, hi⟩
            · rw [← hyv]
            · have : y = x := unique h1 hy (List.mem_of_getElem? gj) (by rw [hyk, gk])
              subst this
              exfalso
              exact hij (idx_inj h1.2.2 hi gj)
        · rw [if_neg e, h3 m u]
          constructor
          · rintro ⟨y, hy, hyk, hyv⟩
            obtain ⟨i, hi⟩ := List.getElem?_of_mem hy
            have hij : i ≠ j := by
              rintro rfl
              rw [gj] at hi
              cases hi
              rw [gk] at hyk
              simp only [Value.int.injEq, true_and] at hyk
              exact e (by omega)
            exact ⟨y, modify_other hi hij, hyk, hyv⟩
          · rintro ⟨y, hy, hyk, hyv⟩
            rcases modify_mem gj hy with rfl | ⟨hy, _⟩
            · simp only [Value.int.injEq, true_and] at hyk
              exact absurd (by omega) e
            · exact ⟨y, hy, hyk, hyv⟩

theorem MapAt.delete (h : MapAt w r q f) (ht : P.underlying t = some (.map k e)) (hk : P.underlying k = some (.int q)) (n : Nat) (x : Int) (hx : x = (n : Int)) (t' : TypeId) (ty : TypeId) :
    ∃ w', (Builtin.delete_ #[t, t'] ty #[.map (some r), .int q x]).run P w = .ok (.tuple #[]) w' ∧ MapAt w' r q (fun m => if m = n then none else f m) ∧ Keeps (· = r) w w' := by
  subst hx
  have hkey : IsKey (.int q) (.int q (n : Int)) := rfl
  obtain ⟨es, clock, hb, h1, h2, h3, ⟨g, gf, gn⟩ | ⟨j, x, g, gj, gk, gf⟩⟩ := h.find n
  · refine ⟨{ w with heap := w.heap.setIfInBounds r (.map es clock) }, ?_, ?_, keeps_set hb⟩
    · simp [Builtin.delete_, run_underlying ht, MapKept.run_getObj_map hb, MapKept.run_checkKey hk hkey, MapKept.run_findKey hk g, MapKept.run_setObj_map _ hb, Result.andThen]
    · refine ⟨_, _, (heap_set hb).1, h1, h2, ?_⟩
      intro m u
      show (if m = n then none else f m) = some u ↔ _
      by_cases e : m = n
      · subst e
        rw [if_pos rfl]
        constructor
        · intro hu; cases hu
        · rintro ⟨y, hy, hyk, _⟩
          exact absurd hyk (gn y hy)
      · rw [if_neg e]; exact h3 m u
  · have hjl : j < es.size := by
      obtain ⟨hj1, _⟩ := List.getElem?_eq_some_iff.1 gj
      simpa using hj1
    refine ⟨{ w with heap := w.heap.setIfInBounds r (.map (es.eraseIdxIfInBounds j) clock) }, ?_, ?_, keeps_set hb⟩
    · simp [Builtin.delete_, run_underlying ht, MapKept.run_getObj_map hb, MapKept.run_checkKey hk hkey, MapKept.run_findKey hk g, MapKept.run_setObj_map _ hb, Result.andThen]
    · have hl : (es.eraseIdxIfInBounds j).toList = es.toList.eraseIdx j := by
        unfold Array.eraseIdxIfInBounds
        rw [dif_pos hjl, Array.toList_eraseIdx]
      have hsub : ∀ y, y ∈ (es.eraseIdxIfInBounds j).toList → y ∈ es.toList ∧ y ≠ x := by
        intro y hy
        rw [hl] at hy
        refine ⟨List.mem_of_mem_eraseIdx hy, ?_⟩
        rintro rfl
        obtain ⟨i, hij, hi⟩ := List.mem_eraseIdx_iff_getElem?.1 hy
        exact hij (idx_inj h1.2.2 hi gj)
      refine ⟨_, _, (heap_set hb).1, stamped_erase h1 j, fun y hy => h2 y (hsub y hy).1, ?_⟩
      intro m u
      show (if m = n then none else f m) = some u ↔ _
      by_cases e : m = n
      · subst e
        rw [if_pos rfl]
        constructor
        · intro hu; cases hu
        · rintro ⟨y, hy, hyk, _⟩
          obtain ⟨y1, y2⟩ := hsub y hy
          exact absurd (unique h1 y1 (List.mem_of_getElem? gj) (by rw [hyk, gk])) y2
      · rw [if_neg e, h3 m u]
        constructor
        · rintro ⟨y, hy, hyk, hyv⟩
          obtain ⟨i, hi⟩ := List.getElem?_of_mem hy
          have hij : i ≠ j := by
            rintro rfl
            rw [gj] at hi
            cases hi
            rw [gk] at hyk
            simp only [Value.int.injEq, true_and] at hyk
            exact e (by omega)
          exact ⟨y, by rw [hl]; exact List.mem_eraseIdx_iff_getElem?.2 ⟨i, hij, hi⟩, hyk, hyv⟩
        · rintro ⟨y, hy, hyk, hyv⟩
          exact ⟨y, (hsub y hy).1, hyk, hyv⟩
theorem MapAt.clear (h : MapAt w r q f) (ht : P.underlying t = some (.map k e)) (ty : TypeId) :
    ∃ w', (Builtin.clear_ #[t] ty #[.map (some r)]).run P w = .ok (.tuple #[]) w' ∧ MapAt w' r q (fun _ => none) ∧ Keeps (· = r) w w' := by
  obtain ⟨es, clock, hb, h1, h2, h3⟩ := h
  refine ⟨{ w with heap := w.heap.setIfInBounds r (.map #[] clock) }, ?_, ⟨_, _, (heap_set hb).1, stamped_empty _, by simp, by simp⟩, keeps_set hb⟩
  simp [Builtin.clear_, run_underlying ht, MapKept.run_getObj_map hb, MapKept.run_setObj_map _ hb, Result.andThen]
end
end Go.Proofs.Ytfdeojefcfnogaa
