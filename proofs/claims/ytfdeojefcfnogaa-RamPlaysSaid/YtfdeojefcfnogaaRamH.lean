/- ram: what was noted is told: the keys of a map, collected; sorted. -/
import Derived.Test.YtfdeojefcfnogaaRamG
import Derived.Laws.AppendOwn
namespace Go.Proofs.Ytfdeojefcfnogaa
open Go.RowKit Go.MapKept
open Go.ChangeMaps (setBlock)
set_option linter.unusedVariables false

/-- n numbers as values. -/
def wordsL (L : List Nat) : List Value := L.map fun x => .int .u32 (x : Nat)
theorem wordsL_len (L : List Nat) : (wordsL L).length = L.length := by unfold wordsL; simp
theorem wordsL_snoc (L : List Nat) (n : Nat) : wordsL (L ++ [n]) = wordsL L ++ [.int .u32 (n : Nat)] := by unfold wordsL; simp
theorem wordsL_one (L : List Nat) : ∀ v ∈ wordsL L, v.oneCell' = true := by
  intro v hv; unfold wordsL at hv; obtain ⟨x, _, rfl⟩ := List.mem_map.1 hv; rfl
/-- A new block of one cell. -/
theorem one_new (w : World) (T : TypeId) (x : Value) : ∀ (j : Nat) (u : Value), [x][j]? = some u → (w.alloc (.cells #[x] T)).cell? ((⟨w.heap.size, 0, none⟩ : Addr).add j) = some u := by
  intro j u h
  have hj : j = 0 := by
    have := (List.getElem?_eq_some_iff.1 h).1
    simp at this; exact this
  subst hj
  rw [Go.WideShapes.add_plain, Nat.add_zero, cell_at (heap_new w _)]
  simpa using h
/-- The entries that have come. -/
structure Coll (es : Array MapEntry) (seen : Array Nat) (L : List Nat) : Prop where
  nodup : L.Nodup
  come : ∀ x ∈ es.toList, seen.contains x.born = true → ∃ n : Nat, x.key = .int .u32 n ∧ n ∈ L
  from' : ∀ n ∈ L, ∃ x ∈ es.toList, x.key = .int .u32 (n : Nat) ∧ seen.contains x.born = true
theorem Coll.start (es : Array MapEntry) : Coll es #[] [] := ⟨List.nodup_nil, fun x _ h => by simp at h, fun n h => by cases h⟩
theorem left_mem {es : Array MapEntry} {seen : Array Nat} {e : MapEntry} (h : e ∈ (leftOf es seen).toList) : e ∈ es.toList ∧ seen.contains e.born = false := by
  unfold leftOf at h
  simp at h
  exact ⟨by simpa using h.1, by simpa using h.2⟩
theorem Coll.step {es : Array MapEntry} {clock : Nat} {seen : Array Nat} {L : List Nat} (h : Coll es seen L) (hs : Stamped es clock) {e : MapEntry} (he : e ∈ (leftOf es seen).toList) {n : Nat} (hn : e.key = .int .u32 (n : Nat)) : Coll es (seen.push e.born) (L ++ [n]) := by
  obtain ⟨h1, h2⟩ := left_mem he
  refine ⟨?_, ?_, ?_⟩
  · rw [List.nodup_append]
    refine ⟨h.nodup, by simp, fun a ha b hb => ?_⟩
    simp only [List.mem_singleton] at hb
    subst hb
    rintro rfl
    obtain ⟨x, hx, hk, hc⟩ := h.from' a ha
    have : x = e := unique hs hx h1 (by rw [hk, hn])
    subst this
    rw [h2] at hc; cases hc
  · intro x hx hc
    by_cases hx2 : seen.contains x.born = true
    · obtain ⟨m, hm, hmL⟩ := h.come x hx hx2
      exact ⟨m, hm, List.mem_append_left _ hmL⟩
    · have hb : x.born = e.born := by
        simp only [Array.contains_iff_mem, Array.mem_push] at hc hx2
        rcases hc with hc | hc
        · exact absurd hc hx2
        · exact hc
      have : x = e := Option.some.inj ((find_born x _ hs.2.1 hx).symm.trans (by rw [hb]; exact find_born e _ hs.2.1 h1))
      subst this
      exact ⟨n, hn, List.mem_append_right _ (by simp)⟩
  · intro m hm
    rcases List.mem_append.1 hm with hm | hm
    · obtain ⟨x, hx, hk, hc⟩ := h.from' m hm
      refine ⟨x, hx, hk, ?_⟩
      simp only [Array.contains_iff_mem, Array.mem_push] at hc ⊢
      exact .inl hc
    · simp only [List.mem_singleton] at hm
      subst hm
      exact ⟨e, h1, hn, by simp⟩
theorem Coll.done {es : Array MapEntry} {seen : Array Nat} {L : List Nat} (h : Coll es seen L) (h0 : (leftOf es seen).size = 0) (n : Nat) : n ∈ L ↔ ∃ x ∈ es.toList, x.key = .int .u32 (n : Nat) := by
  constructor
  · intro hn
    obtain ⟨x, hx, hk, _⟩ := h.from' n hn
    exact ⟨x, hx, hk⟩
  · rintro ⟨x, hx, hk⟩
    have hc : seen.contains x.born = true := by
      cases hc : seen.contains x.born
      · have : x ∈ (leftOf es seen).toList := by unfold leftOf; simp; exact ⟨by simpa using hx, by simpa using hc⟩
        rw [Array.eq_empty_of_size_eq_zero h0] at this
        simp at this
      · rfl
    obtain ⟨m, hm, hL⟩ := h.come x hx hc
    rw [hk] at hm
    simp only [Value.int.injEq, true_and] at hm
    rwa [show n = m by omega]
theorem left_less {es : Array MapEntry} {seen : Array Nat} {e : MapEntry} (he : e ∈ (leftOf es seen).toList) : (leftOf es (seen.push e.born)).size < (leftOf es seen).size := by
  obtain ⟨h1, h2⟩ := left_mem he
  have e1 : leftOf es (seen.push e.born) = (leftOf es seen).filter fun x => !(x.born == e.born) := by
    unfold leftOf
    rw [Array.filter_filter]
    congr 1
    funext x
    by_cases hx : x.born = e.born <;> simp [hx]
  have e2 : ∀ (a : Array MapEntry) (p : MapEntry → Bool), (a.filter p).size = (a.toList.filter p).length := fun a p => by rw [← Array.length_toList, Array.toList_filter]
  rw [e1, e2, ← Array.length_toList]
  exact List.length_filter_lt_length_iff_exists.2 ⟨e, he, by simp⟩
/-- A sort that keeps its word up to N numbers. -/
def Sorts (N : Nat) : Prop := ∀ (L : List Nat) (wr : World) (B g c : Nat), L.length ≤ N → 0 < L.length → (∀ x ∈ L, x < 4294967296) → L.Nodup →
  wr.ownsRow B 23 1 (.slice (some ⟨g, 0, none⟩) L.length c) L.length (wordsL L) →
  Calls Try.prog 27 #[.slice (some ⟨g, 0, none⟩) L.length c] wr fun e w' => e = .returned (.tuple #[]) ∧ ∃ L' : List Nat, L'.Perm L ∧ L'.Pairwise (· < ·) ∧ w'.ownsRow B 23 1 (.slice (some ⟨g, 0, none⟩) L.length c) L'.length (wordsL L') ∧ Keeps (· = g) wr w'
theorem row_of_heap {w w' : World} {B : Nat} {E : TypeId} {s n : Nat} {v : Value} {xs : List Value} (h : w.ownsRow B E s v n xs) (hh : ∀ k, v.ownBlock = some k → w'.heap[k]? = w.heap[k]?) : w'.ownsRow B E s v n xs := by
  refine ⟨h.1, ?_⟩
  rcases h.2 with h2 | ⟨g, cap, cur, rfl, hb, hg, r⟩
  · exact .inl h2
  · exact .inr ⟨g, cap, cur, rfl, hb, by rw [hh g rfl]; exact hg, r⟩
theorem row_down {w : World} {B C : Nat} {E : TypeId} {s n : Nat} {v : Value} {xs : List Value} (h : w.ownsRow B E s v n xs) (hBC : C ≤ B) : w.ownsRow C E s v n xs := by
  refine ⟨h.1, ?_⟩
  rcases h.2 with h2 | ⟨g, cap, cur, rfl, hb, hg, r⟩
  · exact .inl h2
  · exact .inr ⟨g, cap, cur, rfl, Nat.le_trans hBC hb, hg, r⟩
theorem row_some {w : World} {B : Nat} {E : TypeId} {s m : Nat} {v : Value} {xs : List Value} (h : w.ownsRow B E s v m xs) (h0 : 0 < m) : ∃ g c, v = .slice (some ⟨g, 0, none⟩) m c ∧ B ≤ g ∧ g < w.heap.size := by
  rcases h.2 with ⟨rfl, e⟩ | ⟨g, cap, cur, rfl, hb, hg, _⟩
  · omega
  · exact ⟨g, cap, rfl, hb, heap_lt hg⟩
end Go.Proofs.Ytfdeojefcfnogaa
