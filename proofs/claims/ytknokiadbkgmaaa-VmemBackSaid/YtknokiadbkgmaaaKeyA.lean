/- Maps by keys that read as Go's own reader reads them (structs, too): what a map's block holds as a function of the key, and what the operations do to it. -/
import Derived.Test.YtknokiadbkgmaaaMap
import Derived.Maps.Keyed
namespace Go.Proofs.Ytknokiadbkgmaaa
open Go.RowKit Go.MapKept Go.Maps
set_option linter.unusedVariables false
set_option linter.unusedSectionVars false

/-- Keys of type k, as a type of Lean's. -/
structure KeyT (P : Program) (k : TypeId) (κ : Type) (val : κ → Value) : Prop where
  law : Keyed P k
  reads : ∀ K, ∃ l, keyOf P k (val K) = some l
  inj : ∀ K L, val K = val L → K = L
/-- Block r is a map by such keys; f says what lies at each, n how many there are. -/
def MapK {κ : Type} (w : World) (r : Nat) (val : κ → Value) (f : κ → Option Value) (n : Nat) : Prop :=
  ∃ es clock, w.heap[r]? = some (.map es clock) ∧ Stamped es clock ∧ (∀ x ∈ es.toList, ∃ K : κ, x.key = val K) ∧
    (∀ (K : κ) v, f K = some v ↔ ∃ x ∈ es.toList, x.key = val K ∧ x.val = v) ∧ es.size = n

section
variable {κ : Type} [DecidableEq κ] {P : Program} {w w' : World} {r n : Nat} {val : κ → Value} {f : κ → Option Value} {t k e : TypeId}

omit [DecidableEq κ] in
theorem MapK.lt (h : MapK w r val f n) : r < w.heap.size := by
  obtain ⟨es, clock, hb, _⟩ := h
  exact heap_lt hb
omit [DecidableEq κ] in
theorem MapK.of_heap (h : MapK w r val f n) (hh : w'.heap[r]? = w.heap[r]?) : MapK w' r val f n := by
  obtain ⟨es, clock, hb, h1, h2, h3, h4⟩ := h
  exact ⟨es, clock, by rw [hh]; exact hb, h1, h2, h3, h4⟩
omit [DecidableEq κ] in
theorem MapK.keeps {S : Nat → Prop} (h : MapK w r val f n) (hk : Keeps S w w') (hn : ¬ S r) : MapK w' r val f n := h.of_heap (hk.block r h.lt hn)
omit [DecidableEq κ] in
theorem MapK.alloc (h : MapK w r val f n) (o : Obj) : MapK (w.alloc o) r val f n := h.of_heap (Below.heap_alloc _ _ _ h.lt)
omit [DecidableEq κ] in
theorem MapK.drewN (h : MapK w r val f n) (m : Nat) : MapK (w.drewN m) r val f n := h.of_heap rfl
omit [DecidableEq κ] in
theorem MapK.new (w : World) (val : κ → Value) : MapK (w.alloc (.map #[] 0)) w.heap.size val (fun _ => none) 0 :=
  ⟨#[], 0, heap_new w _, stamped_empty 0, by simp, by simp, rfl⟩
omit [DecidableEq κ] in
theorem MapK.size (h : MapK w r val f n) : ∃ es clock, w.heap[r]? = some (.map es clock) ∧ es.size = n := by
  obtain ⟨es, clock, hb, _, _, _, h4⟩ := h
  exact ⟨es, clock, hb, h4⟩
/-- What a search finds. -/
theorem MapK.find (T : KeyT P k κ val) (h : MapK w r val f n) (K : κ) : ∃ es clock, w.heap[r]? = some (.map es clock) ∧ Stamped es clock ∧ (∀ x ∈ es.toList, ∃ K : κ, x.key = val K) ∧ (∀ (K : κ) v, f K = some v ↔ ∃ x ∈ es.toList, x.key = val K ∧ x.val = v) ∧ es.size = n ∧
    (((Instr.findKey k (val K) es.toList).run P w = .ok none w ∧ f K = none ∧ ∀ x ∈ es.toList, x.key ≠ val K) ∨
     ∃ j x, (Instr.findKey k (val K) es.toList).run P w = .ok (some (j, x.val)) w ∧ es.toList[j]? = some x ∧ x.key = val K ∧ f K = some x.val) := by
  obtain ⟨es, clock, hb, h1, h2, h3, h4⟩ := h
  refine ⟨es, clock, hb, h1, h2, h3, h4, ?_⟩
  obtain ⟨l, hl⟩ := T.reads K
  rcases T.law.find w hl es.toList (fun x hx => by obtain ⟨L, hL⟩ := h2 x hx; rw [hL]; exact T.reads L) with ⟨g1, g2⟩ | ⟨j, x, g1, g2, g3⟩
  · refine .inl ⟨g1, ?_, g2⟩
    cases hf : f K with
    | none => rfl
    | some v =>
      obtain ⟨x, hx, hk, _⟩ := (h3 K v).1 hf
      exact absurd hk (g2 x hx)
  · exact .inr ⟨j, x, g1, g2, g3, (h3 K x.val).2 ⟨x, List.mem_of_getElem? g2, g3, rfl⟩⟩
theorem MapK.lookupOk (T : KeyT P k κ val) (h : MapK w r val f n) (ht : P.underlying t = some (.map k e)) {z : Value} (hz : (zeroValue e).run P w = .ok z w) (K : κ) :
    (Instr.lookup t (.map (some r)) (val K) true).run P w = .ok (.tuple #[(f K).getD z, .bool (f K).isSome]) w := by
  obtain ⟨l, hl⟩ := T.reads K
  obtain ⟨es, clock, hb, h1, h2, h3, h4, ⟨g, gf, _⟩ | ⟨j, x, g, _, _, gf⟩⟩ := h.find T K
  · simp [Instr.lookup, run_underlying ht, MapKept.run_getObj_map hb, T.law.check w _ hl, g, hz, Result.andThen, gf]
  · simp [Instr.lookup, run_underlying ht, MapKept.run_getObj_map hb, T.law.check w _ hl, g, Result.andThen, gf]
theorem MapK.update (T : KeyT P k κ val) (h : MapK w r val f n) (ht : P.underlying t = some (.map k e)) (K : κ) (v : Value) :
    ∃ w', (Instr.mapUpdate t (.map (some r)) (val K) v).run P w = .ok () w' ∧ MapK w' r val (fun m => if m = K then some v else f m) (if (f K).isSome then n else n + 1) ∧ Keeps (· = r) w w' := by
  obtain ⟨l, hl⟩ := T.reads K
  obtain ⟨es, clock, hb, h1, h2, h3, h4, ⟨g, gf, gn⟩ | ⟨j, x, g, gj, gk, gf⟩⟩ := h.find T K
  · refine ⟨{ w with heap := w.heap.setIfInBounds r (.map (es.push { key := val K, val := v, born := clock }) (clock + 1)) }, ?_, ?_, keeps_set hb⟩
    · simp [Instr.mapUpdate, run_underlying ht, MapKept.run_getObj_map hb, T.law.check w _ hl, g, MapKept.run_setObj_map _ hb, Result.andThen]
    · refine ⟨_, _, (heap_set hb).1, stamped_push h1 gn, ?_, ?_, by rw [gf]; simp [h4]⟩
      · intro y hy
        simp only [Array.toList_push, List.mem_append, List.mem_singleton] at hy
        rcases hy with hy | rfl
        · exact h2 y hy
        · exact ⟨K, rfl⟩
      · intro m u
        simp only [Array.toList_push, List.mem_append, List.mem_singleton]
        by_cases e : m = K
        · subst e
          rw [if_pos rfl]
          constructor
          · intro hu
            simp only [Option.some.injEq] at hu
            exact ⟨_, .inr rfl, rfl, hu⟩
          · rintro ⟨y, hy | rfl, hyk, hyv⟩
            · exact absurd hyk (gn y hy)
            · rw [← hyv]
        · rw [if_neg e, h3 m u]
          constructor
          · rintro ⟨y, hy, hyk, hyv⟩
            exact ⟨y, .inl hy, hyk, hyv⟩
          · rintro ⟨y, hy | rfl, hyk, hyv⟩
            · exact ⟨y, hy, hyk, hyv⟩
            · exact absurd (T.inj _ _ hyk).symm e
  · have hj : es[j]? = some x := by rw [← Array.getElem?_toList]; exact gj
    refine ⟨{ w with heap := w.heap.setIfInBounds r (.map (es.modify j fun e => { e with key := val K, val := v }) clock) }, ?_, ?_, keeps_set hb⟩
    · simp [Instr.mapUpdate, run_underlying ht, MapKept.run_getObj_map hb, T.law.check w _ hl, g, hj, gk, T.law.stays w hl, MapKept.run_setObj_map _ hb, Result.andThen]
    · have hkey' : ∀ e', es[j]? = some e' → ({ e' with key := val K, val := v } : MapEntry).key = e'.key := fun e' he' => by rw [hj] at he'; cases he'; exact gk.symm
      refine ⟨_, _, (heap_set hb).1, stamped_modify h1 _ _ (fun _ _ => rfl) (fun e' _ he' => hkey' e' he'), ?_, ?_, by rw [gf]; simp [h4]⟩
      · intro y hy
        rcases modify_mem gj hy with rfl | ⟨hy, _⟩
        · exact ⟨K, rfl⟩
        · exact h2 y hy
      · intro m u
        show (if m = K then some v else f m) = some u ↔ _
        by_cases e : m = K
        · subst e
          rw [if_pos rfl]
          constructor
          · intro hu
            simp only [Option.some.injEq] at hu
            exact ⟨_, modify_at gj, rfl, hu⟩
          · rintro ⟨y, hy, hyk, hyv⟩
            rcases modify_mem gj hy with rfl | ⟨hy, i, hij, hi⟩
            · rw [← hyv]
            · have : y = x := unique h1 hy (List.mem_of_getElem? gj) (by rw [hyk, gk])
              subst this
              exfalso
              exact hij (idx_inj h1.2.2 hi gj)
        · rw [if_neg e, h3 m u]
          constructor
          · rintro ⟨y, hy, hyk, hyv⟩
            obtain ⟨i, hi⟩ := List.getElem?_of_mem hy
            have hij : i ≠ j := by
              rintro rfl
              rw [gj] at hi
              cases hi
              rw [gk] at hyk
              exact e (T.inj _ _ hyk).symm
            exact ⟨y, modify_other hi hij, hyk, hyv⟩
          · rintro ⟨y, hy, hyk, hyv⟩
            rcases modify_mem gj hy with rfl | ⟨hy, _⟩
            · exact absurd (T.inj _ _ hyk).symm e
            · exact ⟨y, hy, hyk, hyv⟩

theorem MapK.delete (T : KeyT P k κ val) (h : MapK w r val f n) (ht : P.underlying t = some (.map k e)) (K : κ) (t' : TypeId) (ty : TypeId) :
    ∃ w', (Builtin.delete_ #[t, t'] ty #[.map (some r), val K]).run P w = .ok (.tuple #[]) w' ∧ MapK w' r val (fun m => if m = K then none else f m) (if (f K).isSome then n - 1 else n) ∧ Keeps (· = r) w w' := by
  obtain ⟨l, hl⟩ := T.reads K
  obtain ⟨es, clock, hb, h1, h2, h3, h4, ⟨g, gf, gn⟩ | ⟨j, x, g, gj, gk, gf⟩⟩ := h.find T K
  · refine ⟨{ w with heap := w.heap.setIfInBounds r (.map es clock) }, ?_, ?_, keeps_set hb⟩
    · simp [Builtin.delete_, run_underlying ht, MapKept.run_getObj_map hb, T.law.check w _ hl, g, MapKept.run_setObj_map _ hb, Result.andThen]
    · refine ⟨_, _, (heap_set hb).1, h1, h2, ?_, by rw [gf]; simp [h4]⟩
      intro m u
      show (if m = K then none else f m) = some u ↔ _
      by_cases e : m = K
      · subst e
        rw [if_pos rfl]
        constructor
        · intro hu; cases hu
        · rintro ⟨y, hy, hyk, _⟩
          exact absurd hyk (gn y hy)
      · rw [if_neg e]; exact h3 m u
  · have hjl : j < es.size := by
      obtain ⟨hj1, _⟩ := List.getElem?_eq_some_iff.1 gj
      simpa using hj1
    refine ⟨{ w with heap := w.heap.setIfInBounds r (.map (es.eraseIdxIfInBounds j) clock) }, ?_, ?_, keeps_set hb⟩
    · simp [Builtin.delete_, run_underlying ht, MapKept.run_getObj_map hb, T.law.check w _ hl, g, MapKept.run_setObj_map _ hb, Result.andThen]
    · have hl : (es.eraseIdxIfInBounds j).toList = es.toList.eraseIdx j := by
        unfold Array.eraseIdxIfInBounds
        rw [dif_pos hjl, Array.toList_eraseIdx]
      have hsub : ∀ y, y ∈ (es.eraseIdxIfInBounds j).toList → y ∈ es.toList ∧ y ≠ x := by
        intro y hy
        rw [hl] at hy
        refine ⟨List.mem_of_mem_eraseIdx hy, ?_⟩
        rintro rfl
        obtain ⟨i, hij, hi⟩ := List.mem_eraseIdx_iff_getElem?.1 hy
        exact hij (idx_inj h1.2.2 hi gj)
      refine ⟨_, _, (heap_set hb).1, stamped_erase h1 j, fun y hy => h2 y (hsub y hy).1, ?_, by rw [gf]; simp only [Option.isSome_some, if_true]; unfold Array.eraseIdxIfInBounds; rw [dif_pos hjl, Array.size_eraseIdx, h4]⟩
      intro m u
      show (if m = K then none else f m) = some u ↔ _
      by_cases e : m = K
      · subst e
        rw [if_pos rfl]
        constructor
        · intro hu; cases hu
        · rintro ⟨y, hy, hyk, _⟩
          obtain ⟨y1, y2⟩ := hsub y hy
          exact absurd (unique h1 y1 (List.mem_of_getElem? gj) (by rw [hyk, gk])) y2
      · rw [if_neg e, h3 m u]
        constructor
        · rintro ⟨y, hy, hyk, hyv⟩
          obtain ⟨i, hi⟩ := List.getElem?_of_mem hy
          have hij : i ≠ j := by
            rintro rfl
            rw [gj] at hi
            cases hi
            rw [gk] at hyk
            exact e (T.inj _ _ hyk).symm
          exact ⟨y, by rw [hl]; exact List.mem_eraseIdx_iff_getElem?.2 ⟨i, hij, hi⟩, hyk, hyv⟩
        · rintro ⟨y, hy, hyk, hyv⟩
          exact ⟨y, (hsub y hy).1, hyk, hyv⟩
theorem MapK.clear (T : KeyT P k κ val) (h : MapK w r val f n) (ht : P.underlying t = some (.map k e)) (ty : TypeId) :
    ∃ w', (Builtin.clear_ #[t] ty #[.map (some r)]).run P w = .ok (.tuple #[]) w' ∧ MapK w' r val (fun _ => none) 0 ∧ Keeps (· = r) w w' := by
  obtain ⟨es, clock, hb, h1, h2, h3, h4⟩ := h
  refine ⟨{ w with heap := w.heap.setIfInBounds r (.map #[] clock) }, ?_, ⟨_, _, (heap_set hb).1, stamped_empty _, by simp, by simp, rfl⟩, keeps_set hb⟩
  simp [Builtin.clear_, run_underlying ht, MapKept.run_getObj_map hb, MapKept.run_setObj_map _ hb, Result.andThen]
end
end Go.Proofs.Ytknokiadbkgmaaa
