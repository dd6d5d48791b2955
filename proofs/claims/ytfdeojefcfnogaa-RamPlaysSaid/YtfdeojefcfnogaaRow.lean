/- A slice that starts anywhere in a block of the call's own: appended to, resliced. -/
import Derived.Test.YtfdeojefcfnogaaObj
import Derived.ArgAppend
import Derived.Maps.AppendAt
namespace Go.Proofs.Ytfdeojefcfnogaa
open Go.RowKit
set_option linter.unusedVariables false

def puts (cur : Array Value) : Nat → List Value → Array Value
  | _, [] => cur
  | k, v :: vs => puts (cur.setIfInBounds k v) (k + 1) vs
theorem puts_size (vs : List Value) : ∀ (k : Nat) (cur : Array Value), (puts cur k vs).size = cur.size := by
  induction vs with
  | nil => intro k cur; rfl
  | cons v vs ih => intro k cur; show (puts _ _ vs).size = _; rw [ih]; simp
theorem puts_at (vs : List Value) : ∀ (k : Nat) (cur : Array Value), k + vs.length ≤ cur.size → ∀ i, (puts cur k vs)[i]? = if k ≤ i ∧ i < k + vs.length then vs[i - k]? else cur[i]? := by
  induction vs with
  | nil => intro k cur _ i; rw [if_neg (by simp only [List.length_nil]; omega)]; rfl
  | cons v vs ih =>
    intro k cur h i
    have hl : (v :: vs).length = vs.length + 1 := rfl
    show (puts (cur.setIfInBounds k v) (k + 1) vs)[i]? = _
    rw [ih (k + 1) _ (by simp; omega) i, Array.getElem?_setIfInBounds]
    by_cases e : i = k
    · subst e
      rw [if_neg (by omega), if_pos rfl, if_pos (by omega), if_pos (by omega), Nat.sub_self]; rfl
    · by_cases e2 : k + 1 ≤ i ∧ i < k + 1 + vs.length
      · rw [if_pos e2, if_pos (by omega), show i - k = (i - (k + 1)) + 1 by omega, List.getElem?_cons_succ]
      · rw [if_neg e2, if_neg (fun x => e x.symm), if_neg (by omega)]
theorem setCells_heap (b : Nat) {T : TypeId} {fz : Nat × Nat} (vs : List Value) : ∀ (k : Nat) (w : World) (cur : Array Value), w.heap[b]? = some (.cells cur T fz) → (w.setCells b k vs).heap[b]? = some (.cells (puts cur k vs) T fz) := by
  induction vs with
  | nil => intro k w cur h; exact h
  | cons v vs ih => intro k w cur h; exact ih (k + 1) _ _ (heap_set_same v h)
theorem setCells_keeps (b : Nat) (vs : List Value) : ∀ (k : Nat) (w : World), Keeps (· = b) w (w.setCells b k vs) := by
  induction vs with
  | nil => intro k w; exact Keeps.refl _ _
  | cons v vs ih => intro k w; exact ((Keeps.refl (· = b) w).setOne k v).trans (ih (k + 1) _)

/-- A slice of n elements of so many cells, the cells xs, wherever it starts. -/
def RowC (w : World) (e : TypeId) (size : Nat) (v : Value) (n : Nat) (xs : List Value) : Prop :=
  xs.length = n * size ∧ ((v = .slice none 0 0 ∧ n = 0) ∨ ∃ g o cap cur, v = .slice (some ⟨g, o, none⟩) n cap ∧ w.heap[g]? = some (.cells cur e (0, 0)) ∧ n ≤ cap ∧ cap ≤ maxLen ∧ o + cap * size ≤ cur.size ∧ ∀ j, j < n * size → cur[o + j]? = xs[j]?)
section
variable {w w' : World} {e : TypeId} {size : Nat} {v : Value} {n : Nat} {xs : List Value}
theorem RowC.nil (w : World) (e : TypeId) (size : Nat) : RowC w e size (.slice none 0 0) 0 [] := ⟨by simp, .inl ⟨rfl, rfl⟩⟩
theorem RowC.own {B : Nat} (h : w.ownsRow B e size v n xs) : RowC w e size v n xs := by
  refine ⟨h.1, h.2.imp id ?_⟩
  rintro ⟨g, cap, cur, rfl, hb, hg, h1, h2, h3, h4⟩
  refine ⟨g, 0, cap, cur, rfl, hg, h1, h2, by omega, fun j hj => ?_⟩
  rw [Nat.zero_add, ← h4, List.getElem?_take, if_pos hj, Array.getElem?_toList]
theorem RowC.len (h : RowC w e size v n xs) : ∃ a c, v = .slice a n c := by
  rcases h.2 with ⟨rfl, rfl⟩ | ⟨g, o, cap, cur, rfl, _⟩
  · exact ⟨_, _, rfl⟩
  · exact ⟨_, _, rfl⟩
theorem RowC.lt (h : RowC w e size v n xs) {k : Nat} (hk : v.ownBlock = some k) : k < w.heap.size := by
  rcases h.2 with ⟨rfl, rfl⟩ | ⟨g, o, cap, cur, rfl, hg, _⟩
  · cases hk
  · injection hk with hk; subst hk; exact heap_lt hg
theorem RowC.block (h : RowC w e size v n xs) {k : Nat} (hk : v.ownBlock = some k) : ∃ cur, w.heap[k]? = some (.cells cur e (0, 0)) := by
  rcases h.2 with ⟨rfl, rfl⟩ | ⟨g, o, cap, cur, rfl, hg, _⟩
  · cases hk
  · injection hk with hk; subst hk; exact ⟨_, hg⟩
theorem RowC.of_heap (h : RowC w e size v n xs) (hh : ∀ k, v.ownBlock = some k → w'.heap[k]? = w.heap[k]?) : RowC w' e size v n xs := by
  refine ⟨h.1, h.2.imp id ?_⟩
  rintro ⟨g, o, cap, cur, rfl, hg, r⟩
  exact ⟨g, o, cap, cur, rfl, by rw [hh g rfl]; exact hg, r⟩
theorem RowC.alloc (h : RowC w e size v n xs) (o : Obj) : RowC (w.alloc o) e size v n xs := h.of_heap fun k hk => Below.heap_alloc _ _ _ (h.lt hk)
/-- Where a cell of it lies. -/
theorem RowC.cell (h : RowC w e size v n xs) {j : Nat} {u : Value} (hj : xs[j]? = some u) : ∃ g o cap, v = .slice (some ⟨g, o, none⟩) n cap ∧ w.cell? ⟨g, o + j, none⟩ = some u ∧ g < w.heap.size := by
  have hlt : j < n * size := by rw [← h.1]; exact (List.getElem?_eq_some_iff.1 hj).1
  rcases h.2 with ⟨rfl, rfl⟩ | ⟨g, o, cap, cur, rfl, hg, h1, h2, h3, h4⟩
  · simp at hlt
  · exact ⟨g, o, cap, rfl, by rw [cell_at hg, h4 j hlt]; exact hj, heap_lt hg⟩
end
section
variable {P : Program} {w : World} {e : TypeId} {v : Value} {n : Nat} {xs : List Value}
/-- One element more. -/
theorem run_append_c (t ty : TypeId) (i : TypeInfo) (z : Value) (size bytes : Nat) (ht : P.underlying t = some (.slice e)) (hi : P.info? e = some i) (hz : i.zero = some z) (hsize : i.size = size) (hby : i.bytes = bytes) (hzs : z.cells.size = size) (hsz : 0 < size)
    (h : RowC w e size v n xs) (a : Addr) (c : Nat) (news : List Value) (hl : news.length = 1 * size) (hnews : ∀ j u, news[j]? = some u → w.cell? (a.add j) = some u) (h1 : ∀ u ∈ news, u.oneCell' = true) (hm : n + 1 ≤ maxLen) (hb : (n + 1) * bytes ≤ 140737488355328) :
    ∃ v' w', (Builtin.append_ #[t, t] ty #[v, .slice (some a) 1 c]).run P w = .ok v' w' ∧ RowC w' e size v' (n + 1) (xs ++ news) ∧ w.grownBy w' v.ownBlock ∧ ∀ k, v'.ownBlock = some k → v.ownBlock = some k ∨ w.heap.size ≤ k := by
  rcases h.2 with ⟨rfl, rfl⟩ | ⟨g, o, cap, cur, rfl, hg, h2, h3, h4, h5⟩
  · have hx : xs = [] := List.eq_nil_of_length_eq_zero (by rw [h.1]; simp)
    subst hx
    obtain ⟨v', w', hr, r1, r2, r3, r4⟩ := run_append_own_at (P := P) w w.heap.size t ty e i z size bytes ht hi hz hsize hby hzs hsz _ 0 [] (World.ownsRow_nil w w.heap.size e size) a 1 c news hl hnews h1 hm hb (Nat.le_refl _)
    exact ⟨v', w', hr, RowC.own r1, r2, fun k hk => .inr (World.ownsRow.lt r1 k hk).1⟩
  · by_cases hroom : n + 1 ≤ cap
    · have hnl : news.length = size := by omega
      have hle : (n + 1) * size ≤ cap * size := Nat.mul_le_mul_right _ hroom
      rw [Nat.add_mul, Nat.one_mul] at hle
      have hfree : ∀ j, w.frozen? ⟨g, j, none⟩ = false := fun j => free_at hg
      subst hsize
      have hrun := run_append_room_cells (P := P) w t ty e i ht hi g o n cap a 1 c news hl hnews h1 hroom
        (fun j hj => by rw [cell_at hg, Array.getElem?_eq_getElem (by omega)]; rfl) (fun j _ => hfree _)
      refine ⟨_, _, hrun, ⟨by rw [List.length_append, h.1, hl, Nat.add_mul], .inr ⟨g, o, cap, _, rfl, setCells_heap g news _ w cur hg, hroom, h3, by rw [puts_size]; exact h4, fun j hj => ?_⟩⟩, ?_, fun k hk => .inl hk⟩
      · rw [puts_at _ _ _ (by omega)]
        rw [Nat.add_mul, Nat.one_mul] at hj
        by_cases e1 : j < n * i.size
        · rw [if_neg (by omega), List.getElem?_append_left (by rw [h.1]; exact e1)]; exact h5 j e1
        · rw [if_pos (by omega), List.getElem?_append_right (by rw [h.1]; omega), h.1]
          congr 1; omega
      · have K := setCells_keeps g news (o + n * i.size) w
        exact ⟨K.os, K.tape, K.output, K.size, fun k hk hne => K.block k hk fun e => hne (by rw [e]; rfl)⟩
    · have holds : ∀ j u, xs[j]? = some u → w.cell? ((⟨g, o, none⟩ : Addr).add j) = some u := fun j u hj => by
        have hlt : j < n * size := by rw [← h.1]; exact (List.getElem?_eq_some_iff.1 hj).1
        rw [Go.WideShapes.add_plain, cell_at hg, h5 j hlt]; exact hj
      obtain ⟨v', w', hr, r1, r2⟩ := run_append_arg_grows (P := P) w t ty e i z size bytes ht hi hz hsize hby hzs hsz ⟨g, o, none⟩ n cap xs h.1 holds a 1 c news hl hnews (by omega) hm hb
      exact ⟨v', w', hr, RowC.own r1, ⟨r2.os, r2.tape, r2.output, r2.size, fun k hk _ => r2.block k hk (by simp)⟩, fun k hk => .inr (World.ownsRow.lt r1 k hk).1⟩
/-- One element more, as a step of a walk. -/
theorem wpList_append_c {ops : Array Oper} {rest : List Oper} {o : Oper} {b : Act} {Q : Exit → Act → World → Prop} (hgd : o.guard = none) (s x : Operand) (t : TypeId)
    (ho : o.op = .call { callee := .builtin .append, args := #[s, x], argTypes := #[t, t] })
    (i : TypeInfo) (z : Value) (size bytes : Nat) (ht : P.underlying t = some (.slice e)) (hi : P.info? e = some i) (hz : i.zero = some z) (hsize : i.size = size) (hby : i.bytes = bytes) (hzs : z.cells.size = size) (hsz : 0 < size)
    (hs : b.eval s = v) (h : RowC w e size v n xs) (a : Addr) (c : Nat) (news : List Value) (hx : b.eval x = .slice (some a) 1 c) (hl : news.length = 1 * size) (hnews : ∀ j u, news[j]? = some u → w.cell? (a.add j) = some u) (h1 : ∀ u ∈ news, u.oneCell' = true) (hm : n + 1 ≤ maxLen) (hb : (n + 1) * bytes ≤ 140737488355328)
    (hk : ∀ a' c' w', RowC w' e size (.slice a' (n + 1) c') (n + 1) (xs ++ news) → w.grownBy w' v.ownBlock → (∀ k, (Value.slice a' (n + 1) c').ownBlock = some k → v.ownBlock = some k ∨ w.heap.size ≤ k) → wpList P ops Q rest (b.put o.dst (.slice a' (n + 1) c')) w') : wpList P ops Q (o :: rest) b w :=
  wpList_plain hgd fun K hK => by
    obtain ⟨v', w', hr, h2, h3, h4⟩ := run_append_c (P := P) t o.type i z size bytes ht hi hz hsize hby hzs hsz h a c news hl hnews h1 hm hb
    obtain ⟨a', c', rfl⟩ := h2.len
    unfold Oper.wp execOp
    simp only [ho, resolve, invoke, builtin, Sem.run_bind, Sem.run_pure, Result.andThen_ok, List.map_toArray, List.map_cons, List.map_nil, hs, hx, hr]
    exact hK _ _ (hk a' c' w' h2 h3 h4)
/-- The first element is left out. -/
theorem run_tail_c (t : TypeId) (size : Nat) (ht : P.underlying t = some (.slice e)) (hs : (sizeOf e).run P w = .ok size w) (h : RowC w e size v (n + 1) xs) :
    ∃ v', (Instr.slice t v (some (.int .i64 1)) none none).run P w = .ok v' w ∧ RowC w e size v' n (xs.drop size) ∧ ∀ k, v'.ownBlock = some k → v.ownBlock = some k := by
  rcases h.2 with ⟨rfl, h0⟩ | ⟨g, o, cap, cur, rfl, hg, h2, h3, h4, h5⟩
  · cases h0
  · have hl : (xs.drop size).length = n * size := by rw [List.length_drop, h.1, Nat.add_mul, Nat.one_mul]; omega
    have hdrop : ∀ j, j < n * size → cur[o + size + j]? = (xs.drop size)[j]? := fun j hj => by
      rw [List.getElem?_drop, Nat.add_assoc]
      exact h5 (size + j) (by rw [Nat.add_mul, Nat.one_mul]; omega)
    by_cases hc : cap = 1
    · subst hc
      have hn : n = 0 := by omega
      subst hn
      refine ⟨.slice (some ⟨g, o, none⟩) 0 0, ?_, ⟨hl, .inr ⟨g, o, 0, cur, rfl, hg, Nat.le_refl _, Nat.zero_le _, by omega, fun j hj => by omega⟩⟩, fun k hk => hk⟩
      simp [Instr.slice, run_underlying ht, Result.andThen, Instr.sliceBounds, Instr.sliceBound, asIntOf, hs]
    · have hle : (1 : Int) ≤ (n : Int) + 1 := by omega
      have hne : ¬ cap = 1 := hc
      refine ⟨.slice (some ⟨g, o + size, none⟩) n (cap - 1), ?_, ⟨hl, .inr ⟨g, o + size, cap - 1, cur, rfl, hg, by omega, by omega, ?_, fun j hj => hdrop j hj⟩⟩, fun k hk => hk⟩
      · have ha : (⟨g, o, none⟩ : Addr).add size = ⟨g, o + size, none⟩ := Go.WideShapes.add_plain _ _ _
        simp [Instr.slice, run_underlying ht, Result.andThen, Instr.sliceBounds, Instr.sliceBound, asIntOf, hs, hne, ha, hle]
      · obtain ⟨c, rfl⟩ : ∃ c, cap = c + 1 := ⟨cap - 1, by omega⟩
        rw [Nat.add_mul, Nat.one_mul] at h4
        rw [Nat.add_sub_cancel]; omega
end
end Go.Proofs.Ytfdeojefcfnogaa
