/- ram's law RamPlays: what stays so; the script that came in. -/
import Derived.Test.YtfdeojefcfnogaaRamP
import Derived.Test.YtfdeojefcfnogaaIn
import Derived.SizedLaws
namespace Go.Proofs.Ytfdeojefcfnogaa
open Go.RowKit Go.MapKept Go.WideShapes Go.ChangeShapes
set_option linter.unusedVariables false

theorem nd_lay {R : RS} (h : Nd R) (n v : Nat) (hn : n < R.size) : Nd (R.lay n v) := by
  cases hw : R.watched (n / 64)
  · rw [RS.lay_quiet _ _ _ hw]; exact h
  · rw [RS.lay_loud _ _ _ hw]
    intro x hx
    have hx2 : (if x = n / 64 * 64 then true else R.noted x) = true := hx
    by_cases e : x = n / 64 * 64
    · show _ ∧ x < R.size
      rw [e]; omega
    · rw [if_neg e] at hx2; exact h x hx2
theorem lay_size (R : RS) (n v : Nat) : (R.lay n v).size = R.size := by
  cases hw : R.watched (n / 64)
  · rw [RS.lay_quiet _ _ _ hw]; rfl
  · rw [RS.lay_loud _ _ _ hw]; rfl
theorem nd_put {R : RS} (h : Nd R) (a v : Nat) : Nd (R.put a v) := by
  unfold RS.put
  split
  · rename_i hs; exact nd_lay h _ _ hs
  · exact h
theorem nd_wr {R : RS} (h : Nd R) (a v : Nat) : Nd (R.wr a v) := by
  unfold RS.wr
  split
  · rename_i hs; exact nd_lay h _ _ hs.1
  · exact h
theorem nd_write {R : RS} (h : Nd R) (a v : Nat) : ∀ k, Nd (R.write a v k)
  | 0 => h
  | k + 1 => nd_wr (nd_write h a v k) _ _
theorem nd_loads {R : RS} (h : Nd R) (a : Nat) (f : Nat → Nat) : ∀ k, Nd (R.loads a f k)
  | 0 => h
  | k + 1 => nd_put (nd_loads h a f k) _ _
theorem nd_romAt {R : RS} (h : Nd R) (n : Int) (x : Bool) : Nd (R.romAt n x) := by
  unfold RS.romAt
  split <;> exact h
theorem nd_watch {R : RS} (h : Nd R) (a : Nat) : Nd (R.watch a) := by
  unfold RS.watch
  split <;> exact h
theorem nd_told (R : RS) : Nd R.told := fun x hx => by cases hx
theorem nd_new (n : Nat) : Nd (RS.new n) := fun x hx => by cases hx
/-- The list that the document gives is the one that the program gives. -/
theorem gl_of {R : RS} (h : Nd R) {L : List Nat} (hm : ∀ x, x ∈ L ↔ R.noted x = true) (hs : L.Pairwise (· < ·)) : L = gl R := by
  refine sorted_ext hs (want_up _ _) fun x => ?_
  rw [hm x]
  unfold gl
  rw [want_mem]
  constructor
  · intro hx
    obtain ⟨h1, h2⟩ := h x hx
    unfold RS.size at h2
    refine ⟨h1, ?_, by omega⟩
    rw [show x / 64 * 64 = x by omega]; exact hx
  · rintro ⟨h1, h2, -⟩
    rw [show x / 64 * 64 = x by omega] at h2; exact h2
theorem nd_len {R : RS} (h : Nd R) (ok : R.ok) (L : List Nat) (hn : L.Nodup) (hL : ∀ x ∈ L, R.noted x = true) : L.length ≤ 1048576 := by
  have hsz := RS.size_le ok
  refine Nat.le_trans (nodup_len _ L hn fun x hx => ?_) hsz
  exact (h x (hL x hx)).2
theorem nd_32 {R : RS} (h : Nd R) (ok : R.ok) (x : Nat) (hx : R.noted x = true) : x < 4294967296 := by
  have hsz := RS.size_le ok
  have := (h x hx).2
  omega
theorem weightsAll_mem {H : Type} {P : Program} {e : TypeId} {n : Nat} {d : DataW H} (hn : n ∈ d.weights P e) : ∀ ds : List (DataW H), d ∈ ds → n ∈ DataW.weightsAll P e ds
  | [], h => by cases h
  | d' :: r, h => by
    unfold DataW.weightsAll
    rcases List.mem_cons.1 h with rfl | h
    · exact List.mem_append_left _ hn
    · exact List.mem_append_right _ (weightsAll_mem hn r h)
theorem trod_struct6 {H : Type} {enc : TypeId × Value → H} {P : Program} {w : World} {base : Nat} {spare : Nat → Bool} {held : Bool} {t : TypeId} {f0 f1 f2 f3 f4 f5 : Field} {fuel : Nat} {cs : List Value} {x : DataW H × List MemPlace}
    (ht : P.underlying t = some (.struct #[f0, f1, f2, f3, f4, f5])) (h : DataW.trod enc P w base spare held fuel t cs = some x) :
    ∃ y0 y1 y2 y3 y4 y5 n, x.1 = .agg [y0.1, y1.1, y2.1, y3.1, y4.1, y5.1] ∧ DataW.trod enc P w base spare held n f0.type ((cs.drop f0.offset).take (P.cellsOf f0.type)) = some y0 ∧
      DataW.trod enc P w base spare held n f1.type ((cs.drop f1.offset).take (P.cellsOf f1.type)) = some y1 ∧ DataW.trod enc P w base spare held n f2.type ((cs.drop f2.offset).take (P.cellsOf f2.type)) = some y2 ∧
      DataW.trod enc P w base spare held n f3.type ((cs.drop f3.offset).take (P.cellsOf f3.type)) = some y3 ∧ DataW.trod enc P w base spare held n f4.type ((cs.drop f4.offset).take (P.cellsOf f4.type)) = some y4 ∧
      DataW.trod enc P w base spare held n f5.type ((cs.drop f5.offset).take (P.cellsOf f5.type)) = some y5 := by
  obtain ⟨xs, n, _, rfl, hl, hlen, hf⟩ := DataW.trod_struct ht h
  match xs, hlen with
  | [y0, y1, y2, y3, y4, y5], _ => exact ⟨y0, y1, y2, y3, y4, y5, n, by simp, by simpa using hf 0 f0 rfl, by simpa using hf 1 f1 rfl, by simpa using hf 2 f2 rfl, by simpa using hf 3 f3 rfl, by simpa using hf 4 f4 rfl, by simpa using hf 5 f5 rfl⟩
/-- One call of a script. -/
structure OpAt (w : World) (b o : Nat) (k : Int) (a : Nat) (s : Int) (v : Nat) (da : Option Addr) (n c : Nat) (f : Nat → Nat) (x : Bool) : Prop where
  c0 : w.cell? ⟨b, o, none⟩ = some (.int .i64 k)
  c1 : w.cell? ⟨b, o + 1, none⟩ = some (.int .u32 (a : Nat))
  c2 : w.cell? ⟨b, o + 2, none⟩ = some (.int .i64 s)
  c3 : w.cell? ⟨b, o + 3, none⟩ = some (.int .u32 (v : Nat))
  c4 : w.cell? ⟨b, o + 4, none⟩ = some (.slice da n c)
  c5 : w.cell? ⟨b, o + 5, none⟩ = some (.bool x)
  ua : a < 4294967296
  uv : v < 4294967296
  us : -9223372036854775808 ≤ s ∧ s ≤ 9223372036854775807
  bs : BytesIn w da n f
  un : n ≤ 140737488351232
def ScriptIn (w : World) (a : Option Addr) (len : Nat) : Prop := len = 0 ∨ ∃ b off, a = some ⟨b, off, none⟩ ∧ b < w.heap.size ∧ ∀ i, i < len → ∃ k at_ s v da n c f x, OpAt w b (off + i * 6) k at_ s v da n c f x
theorem arg_bytes {H : Type} {enc : TypeId × Value → H} {w : World} {base' : Nat} {spare : Nat → Bool} {held : Bool} {fuel : Nat} {v : Value} {x : DataW H × List MemPlace} (hd : DataW.trod enc Try.prog w base' spare held fuel 47 [v] = some x)
    (hw : ∀ n ∈ x.1.weights Try.prog 47, n ≤ reachBytes) : ∃ a len cap f, v = .slice a len cap ∧ BytesIn w a len f ∧ len ≤ 140737488351232 := by
  rcases open_ints Try.underlying47 Try.underlying5 (by kernel_rfl) hd with ⟨hcs, hx⟩ | ⟨a, len, cap, zs, hcs, _, hl, hm, hz, hx, hcell, hwz⟩
  · have hcs' : v = Value.slice none 0 0 := by simpa using hcs
    exact ⟨none, 0, 0, fun _ => 0, hcs', .inl rfl, by omega⟩
  · have hcs' : v = Value.slice (some a) len cap := by simpa using hcs
    have hzl : len ≤ zs.length := by rw [hz]; split <;> omega
    have hlen : len ≤ 140737488351232 := by
      have h1 := hw (((lits IntKind.u8 (zs.take len) : List (DataW H)).length + (lits IntKind.u8 (zs.drop len) : List (DataW H)).length) * Try.prog.bytesOf 5) (by rw [hx]; simp [DataW.weights, Try.underlying47])
      have hb : Try.prog.bytesOf 5 = 1 := by kernel_rfl
      rw [hb, Nat.mul_one] at h1
      have h2 : (lits IntKind.u8 (zs.take len) : List (DataW H)).length = len := by unfold lits; rw [List.length_map, List.length_take]; omega
      rw [h2] at h1
      have h3 : reachBytes ≤ 140737488351232 := by decide
      omega
    refine ⟨some a, len, cap, fun i => (zs.getD i 0).toNat % 256, hcs', ?_, hlen⟩
    by_cases h0 : len = 0
    · exact .inl h0
    · obtain ⟨b, off, spot⟩ := a
      have c0 := hcell 0 (by omega)
      have hspot : spot = none := by simpa [Addr.add] using World.cell?_spot c0
      subst hspot
      refine .inr ⟨b, off, rfl, ?_, fun i hi => ⟨?_, Nat.mod_lt _ (by decide)⟩⟩
      · have := cell_block_lt c0
        rw [Go.WideShapes.add_plain] at this
        exact this
      · have hc := hcell i (by omega)
        rw [Go.WideShapes.add_plain] at hc
        have hi2 : i < zs.length := by omega
        have e : zs.getD i 0 = zs[i] := by simp [List.getD, hi2]
        have hw := wf_u8 (hwz zs[i] (List.getElem_mem hi2))
        rw [hc]
        simp only [e]
        congr 2
        omega
set_option maxRecDepth 100000 in
theorem arg_script {H : Type} {enc : TypeId × Value → H} {w : World} {r : Reach} {base base' : Nat} {spare : Nat → Bool} {held : Bool} {v : Value} {d : DataW H} {ps : List MemPlace} {ts : List TypeId} {ds : List (DataW H)} {j : Nat}
    (hsz : (DataW.weightsEach Try.prog ts ds).all (· ≤ reachBytes) = true) (hts : ts[j]? = some 42) (hds : ds[j]? = some d)
    (h : Value.okWide Try.prog w r base 42 v) (hd : DataW.Trod enc Try.prog w base' spare held 42 v d ps) :
    ∃ a len cap, v = .slice a len cap ∧ len ≤ 9223372036854775807 ∧ ScriptIn w a len := by
  have hC : Try.prog.cellsOf 49 = 6 := by kernel_rfl
  have h1 : Try.prog.cellsOf 23 = 1 := by kernel_rfl
  have h2 : Try.prog.cellsOf 3 = 1 := by kernel_rfl
  have h3 : Try.prog.cellsOf 47 = 1 := by kernel_rfl
  have h4 : Try.prog.cellsOf 4 = 1 := by kernel_rfl
  have ht := Try.underlying42
  obtain ⟨a0, len, cap, rfl⟩ := okWide_slice ht h
  obtain ⟨fuel, hf⟩ := hd
  rcases DataW.trod_slice ht hf with ⟨hcs, hx⟩ | ⟨a, len', cap', elems, rest, n, _, hcs, hd2, _, hl, hm, hel, hrow, _, _⟩
  · have hcs' : Value.slice a0 len cap = Value.slice none 0 0 := by simpa [Value.cells] using hcs
    simp only [Value.slice.injEq] at hcs'
    obtain ⟨rfl, rfl, rfl⟩ := hcs'
    exact ⟨none, 0, 0, rfl, by omega, .inl rfl⟩
  · have hcs' : Value.slice a0 len cap = Value.slice (some a) len' cap' := by simpa [Value.cells] using hcs
    simp only [Value.slice.injEq] at hcs'
    obtain ⟨rfl, rfl, rfl⟩ := hcs'
    unfold maxLen at hm
    refine ⟨some a, len, cap, rfl, by omega, ?_⟩
    by_cases h0 : len = 0
    · exact .inl h0
    right
    have hW : ∀ y ∈ elems, ∀ n ∈ y.1.weights Try.prog 49, n ≤ reachBytes := by
      intro y hy n hn
      have hd3 : d = .slice (elems.map (·.1)) (rest.map (·.1)) := by simp only [Prod.mk.injEq] at hd2; exact hd2.1
      have := List.all_eq_true.1 hsz _ (DataW.weights_mem_each hts hds n (by
        rw [hd3]
        simp only [DataW.weights, ht]
        exact List.mem_cons_of_mem _ (List.mem_append_left _ (weightsAll_mem hn _ (List.mem_map.2 ⟨y, hy, rfl⟩)))))
      simpa using this
    have key : ∀ i, i < len → ∃ (cs : List Value) (y : DataW H × List MemPlace), cs.length = 6 ∧ (∀ j, j < 6 → w.cell? ((a.add (i * 6)).add j) = cs[j]?) ∧ DataW.trod enc Try.prog w base' spare held n 49 cs = some y ∧ y ∈ elems := by
      intro i hi
      have h1 := hrow i hi
      have h2 : elems[i]? = some (elems[i]'(by omega)) := List.getElem?_eq_getElem (by omega)
      rw [h2] at h1
      obtain ⟨cs, hc, hy⟩ := Option.bind_eq_some_iff.1 h1
      obtain ⟨_, hcl, hat⟩ := World.cells?_some hc
      rw [hC] at hcl hat
      exact ⟨cs, _, hcl, hat, hy, List.getElem_mem _⟩
    obtain ⟨b, off, spot⟩ := a
    obtain ⟨cs0, y0, hl0, hc0, _⟩ := key 0 (by omega)
    have c0 := hc0 0 (by decide)
    have e0 : cs0[0]? = some (cs0[0]'(by omega)) := List.getElem?_eq_getElem (by omega)
    rw [e0] at c0
    have hspot : spot = none := by simpa [Addr.add] using World.cell?_spot c0
    subst hspot
    have blt := cell_block_lt c0
    rw [Go.WideShapes.add_plain, Go.WideShapes.add_plain] at blt
    refine ⟨b, off, rfl, blt, fun i hi => ?_⟩
    obtain ⟨cs, y, hcl, hat, hy, hmem⟩ := key i hi
    obtain ⟨y0, y1, y2, y3, y4, y5, m, hag, g0, g1, g2, g3, g4, g5⟩ := trod_struct6 Try.underlying49 hy
    have hw4 : ∀ n ∈ y4.1.weights Try.prog 47, n ≤ reachBytes := by
      intro n hn
      refine hW y hmem n ?_
      rw [hag]
      simp only [DataW.weights, Try.underlying49]
      refine DataW.weights_mem_each (j := 4) (t := 47) rfl rfl n hn
    match cs, hcl with
    | [v0, v1, v2, v3, v4, v5], _ =>
      simp only [h1, h2, h3, h4] at g0 g1 g2 g3 g4 g5
      obtain ⟨p0, e0, _, w0⟩ := DataW.trod_int Try.underlying3 g0
      obtain ⟨p1, e1, _, w1⟩ := DataW.trod_int Try.underlying23 g1
      obtain ⟨p2, e2, _, w2⟩ := DataW.trod_int Try.underlying3 g2
      obtain ⟨p3, e3, _, w3⟩ := DataW.trod_int Try.underlying23 g3
      obtain ⟨p5, e5, _⟩ := DataW.trod_bool Try.underlying4 g5
      obtain ⟨a4, n4, c4, f4, e4, hb4, hn4⟩ := arg_bytes (v := v4) g4 hw4
      have a0 := hat 0 (by decide)
      have a1 := hat 1 (by decide)
      have a2 := hat 2 (by decide)
      have a3 := hat 3 (by decide)
      have a4' := hat 4 (by decide)
      have a5 := hat 5 (by decide)
      simp only [Go.WideShapes.add_plain, Nat.add_zero] at a0 a1 a2 a3 a4' a5
      simp at e0 e1 e2 e3 e5 a0 a1 a2 a3 a4' a5
      subst e0 e1 e2 e3 e4 e5
      have q1 := wf_u32 w1
      have q3 := wf_u32 w3
      refine ⟨p0, p1.toNat, p2, p3.toNat, a4, n4, c4, f4, p5, a0, ?_, a2, ?_, a4', a5, by omega, by omega, wf_i64 w2, hb4, hn4⟩
      · rw [a1]; congr 2; omega
      · rw [a3]; congr 2; omega
end Go.Proofs.Ytfdeojefcfnogaa
