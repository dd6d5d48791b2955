/- Slices that came in, as the walk wants them. -/
import Derived.Test.YtfijohgbgadhiaaFrame
import Derived.ChangeSlices
namespace Go.Proofs.Ytfijohgbgadhiaa
open Go.RowKit Go.WideShapes Go.ChangeShapes

theorem cell_block_lt {w : World} {a : Addr} {v : Value} (h : w.cell? a = some v) : a.block < w.heap.size := by
  unfold World.cell? at h
  cases hb : w.heap[a.block]? with
  | none => rw [hb] at h; simp at h
  | some o => exact (Array.getElem?_eq_some_iff.1 hb).1

/-- A slice of integers that came in. -/
def IntsIn (k : IntKind) (w : World) (a : Option Addr) (len : Nat) (z : Nat → Int) : Prop :=
  len = 0 ∨ ∃ b off, a = some ⟨b, off, none⟩ ∧ b < w.heap.size ∧ ∀ i, i < len → w.cell? ⟨b, off + i, none⟩ = some (.int k (z i)) ∧ k.min ≤ z i ∧ z i ≤ k.max
theorem arg_ints {H : Type} {enc : TypeId × Value → H} {P : Program} {w : World} {r : Reach} {base base' : Nat} {spare : Nat → Bool} {held : Bool} {t e : TypeId} {v : Value} {k : IntKind} {d : DataW H} {ps : List MemPlace}
    (ht : P.underlying t = some (.slice e)) (he : P.underlying e = some (.int k)) (hc : P.cellsOf e = 1) (h : Value.okWide P w r base t v) (hd : DataW.Trod enc P w base' spare held t v d ps) :
    ∃ a len cap z, v = .slice a len cap ∧ len ≤ 9223372036854775807 ∧ IntsIn k w a len z := by
  obtain ⟨a0, len, cap, rfl⟩ := okWide_slice ht h
  obtain ⟨fuel, hf⟩ := hd
  rcases open_ints ht he hc hf with ⟨hcs, hx⟩ | ⟨a, len', cap', zs, hcs, _, hl, hm, hz, hx, hcell, hwz⟩
  · simp only [Value.cells] at hcs
    have hcs' : Value.slice a0 len cap = Value.slice none 0 0 := by simpa using hcs
    simp only [Value.slice.injEq] at hcs'
    obtain ⟨rfl, rfl, rfl⟩ := hcs'
    exact ⟨none, 0, 0, fun _ => 0, rfl, by omega, .inl rfl⟩
  · have hcs' : Value.slice a0 len cap = Value.slice (some a) len' cap' := by simpa [Value.cells] using hcs
    simp only [Value.slice.injEq] at hcs'
    obtain ⟨rfl, rfl, rfl⟩ := hcs'
    unfold maxLen at hm
    refine ⟨some a, len, cap, fun i => zs.getD i 0, rfl, by omega, ?_⟩
    have hzl : len ≤ zs.length := by rw [hz]; split <;> omega
    by_cases h0 : len = 0
    · exact .inl h0
    · obtain ⟨b, off, spot⟩ := a
      have c0 := hcell 0 (by omega)
      have hspot : spot = none := by simpa [Addr.add] using World.cell?_spot c0
      subst hspot
      refine .inr ⟨b, off, rfl, ?_, fun i hi => ?_⟩
      · have := cell_block_lt c0
        rw [Go.WideShapes.add_plain] at this
        exact this
      · have hc := hcell i (by omega)
        rw [Go.WideShapes.add_plain] at hc
        refine ⟨hc, ?_⟩
        have hi2 : i < zs.length := by omega
        have e : zs.getD i 0 = zs[i] := by simp [List.getD, hi2]
        have := hwz zs[i] (List.getElem_mem hi2)
        simp only [Lit.wf, Bool.and_eq_true, decide_eq_true_eq] at this
        simp only [e]
        exact this
end Go.Proofs.Ytfijohgbgadhiaa
