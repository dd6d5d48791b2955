/- The frame of every law of this house: arguments opened by their types alone, read again behind the call by 'Below'. -/
import Derived.Test.YtfdeojefcfnogaaEnd
import Derived.Carry
namespace Go.Proofs.Ytfdeojefcfnogaa
open Go.RowKit Go.WideShapes Go.ChangeShapes

section
variable {H : Type} {enc : TypeId × Value → H} {P : Program}

theorem trodAll_below (hl : laidOutB P = true) {W W' : World} (hb : Below W.heap.size W W') : ∀ (ts : List TypeId) (vs : List Value) (ds : List (DataW H)) (ps : List MemPlace),
    ts.all (fun t => P.readableRec t && decide (t < P.types.size)) = true → DataW.TrodAll enc P W 0 (fun _ => true) true ts vs ds ps → (∀ p ∈ ps, p.block < W.heap.size) →
    DataW.TrodAll enc P W' 0 (fun b => decide (b < W.heap.size)) true ts vs ds ps
  | [], [], [], ps, _, h, _ => h
  | t :: ts, v :: vs, d :: ds, ps, hr, h, hlt => by
    obtain ⟨p, q, h1, h2, rfl⟩ := h
    simp only [List.all_cons, Bool.and_eq_true, decide_eq_true_eq] at hr
    exact ⟨p, q, Below.trod hl hr.1.1 hr.1.2 h1 hb (fun x hx => hlt x (by simp [hx])), trodAll_below hl hb ts vs ds q (by simpa using hr.2) h2 (fun x hx => hlt x (by simp [hx])), rfl⟩
  | [], _ :: _, _, _, _, h, _ => h.elim
  | [], [], _ :: _, _, _, h, _ => h.elim
  | _ :: _, [], _, _, _, h, _ => h.elim
  | _ :: _, _ :: _, [], _, _, h, _ => h.elim

theorem law_end (hl : laidOutB P = true) {f : Func} {s : ChangeSpec} {apart : Bool} {W : World} {args : Array Value} {ds gs : List (DataW H)} {before : List MemPlace} {n : Nat} {tb : TypeId}
    (hW : DataW.Whole enc P f.params.toList s.vars apart W args.toList ds gs before) (hvars : s.vars = [])
    (hr : f.params.toList.all (fun t => P.readableRec t && decide (t < P.types.size)) = true) (htb : P.underlying tb = some .bool) (hrt : f.resultTypes = #[tb])
    (hs : s.fn H ds = { results := [.lit (.bool true)], args := ds })
    (hw : Calls P n args W fun e W' => e = .returned (.bool true) ∧ Below W.heap.size W W') :
    Calls P n args W fun e W' => ∃ v, e = .returned v ∧ s.post enc P f apart true false false W args v W' := by
  refine hw.mono fun e W' ⟨he, hb⟩ => ⟨_, he, ?_⟩
  have hW2 := hW
  obtain ⟨p, q, hA, hV, hpq, _, _⟩ := hW
  rw [hvars] at hV
  have hgs : gs = [] ∧ q = [] := by
    cases gs with
    | nil => exact ⟨rfl, hV⟩
    | cons g gs => exact hV.elim
  obtain ⟨rfl, rfl⟩ := hgs
  simp only [List.append_nil] at hpq
  subst hpq
  have hlt : ∀ x ∈ before, x.block < W.heap.size := fun x hx => hW2.lt x hx
  refine ⟨ds, [], before, [], before, [], hW2, ?_, ?_, ?_, World.keptBut_mono (fun x hx => ⟨hx, Or.inr (by simpa using hx)⟩) (hb.frame (· ∈ before)), fun h => by cases h⟩
  · rw [List.append_nil, hs, hrt]
    exact trodAll_cons_mk (shut_bool htb _) trodAll_mk0
  · rw [List.append_nil, hs]
    exact trodAll_below hl hb _ _ _ _ hr hA hlt
  · rw [hvars, List.append_nil, hs]; exact rfl

variable {w : World} {r : Reach} {base : Nat} {t : TypeId} {v : Value}
theorem arg_int {k : IntKind} (ht : P.underlying t = some (.int k)) (h : Value.okWide P w r base t v) : ∃ n, v = .int k n ∧ k.min ≤ n ∧ n ≤ k.max := by
  simp only [Value.okWide, ht, Cell.okWide, Cell.ok] at h
  cases v <;> simp at h
  obtain ⟨rfl, h⟩ := h
  simp only [IntKind.has] at h
  exact ⟨_, rfl, h⟩
theorem arg_bool (ht : P.underlying t = some .bool) (h : Value.okWide P w r base t v) : ∃ x, v = .bool x := by
  simp only [Value.okWide, ht, Cell.okWide, Cell.ok] at h
  cases v <;> simp at h
  exact ⟨_, rfl⟩
theorem cell_int {k : IntKind} (ht : P.underlying t = some (.int k)) (h : Cell.okWide P w r base t v) : ∃ n, v = .int k n ∧ k.min ≤ n ∧ n ≤ k.max := by
  simp only [ht, Cell.okWide, Cell.ok] at h
  cases v <;> simp at h
  obtain ⟨rfl, h⟩ := h
  simp only [IntKind.has] at h
  exact ⟨_, rfl, h⟩
theorem cell_bool (ht : P.underlying t = some .bool) (h : Cell.okWide P w r base t v) : ∃ x, v = .bool x := by
  simp only [ht, Cell.okWide, Cell.ok] at h
  cases v <;> simp at h
  exact ⟨_, rfl⟩
theorem arg_agg {fs : Array Field} {ts : List TypeId} (ht : P.underlying t = some (.struct fs)) (hc : P.cellTypes P.depth t = some ts) (hn : P.cellsOf t = ts.length) (h : Value.okWide P w r base t v) :
    ∃ cs : List Value, v = .agg cs.toArray ∧ cs.length = ts.length ∧ ∀ (i : Nat) (c : Value) (u : TypeId), cs[i]? = some c → ts[i]? = some u → Cell.okWide P w r base u c := by
  simp only [Value.okWide, ht] at h
  obtain ⟨cs, rfl, hsz, ts', hts, _, hall⟩ := h
  rw [hc] at hts
  obtain rfl := Option.some.inj hts
  refine ⟨cs.toList, by simp, by simp [hsz, hn], fun i c u hi hu => ?_⟩
  have hi' : cs[i]? = some c := by simpa using hi
  obtain ⟨u', hu', hok⟩ := hall i c hi'
  have hlt : i < ts.length := (List.getElem?_eq_some_iff.1 hu).1
  rw [Nat.mod_eq_of_lt hlt, hu] at hu'
  obtain rfl := Option.some.inj hu'
  exact hok
end
end Go.Proofs.Ytfdeojefcfnogaa
