/- Steps of a proof: In, UartG, together. -/
import Derived.Test.YtmpcafdgkbpneaaGreatS0
import Derived.ChangeSlices
import Derived.Test.YtmpcafdgkbpneaaGreatS31
/- Slices that came in, as the walk wants them. -/
namespace Go.Proofs.YtmpcafdgkbpneaaGreat
open Go.RowKit Go.WideShapes Go.ChangeShapes

theorem cell_block_lt {w : World} {a : Addr} {v : Value} (h : w.cell? a = some v) : a.block < w.heap.size := by
 unfold World.cell? at h
 cases hb : w.heap[a.block]? with
 | none => rw [hb] at h; simp at h
 | some o => exact (Array.getElem?_eq_some_iff.1 hb).1

def IntsIn (k : IntKind) (w : World) (a : Option Addr) (len : Nat) (z : Nat → Int) : Prop :=
 len = 0 ∨ ∃ b off, a = some ⟨b, off, none⟩ ∧ b < w.heap.size ∧ ∀ i, i < len → w.cell? ⟨b, off + i, none⟩ = some (.int k (z i)) ∧ k.min ≤ z i ∧ z i ≤ k.max
theorem arg_ints {H : Type} {enc : TypeId × Value → H} {P : Program} {w : World} {r : Reach} {base base' : Nat} {spare : Nat → Bool} {held : Bool} {t e : TypeId} {v : Value} {k : IntKind} {d : DataW H} {ps : List MemPlace}
    (ht : P.underlying t = some (.slice e)) (he : P.underlying e = some (.int k)) (hc : P.cellsOf e = 1) (h : Value.okWide P w r base t v) (hd : DataW.Trod enc P w base' spare held t v d ps) :
    ∃ a len cap z, v = .slice a len cap ∧ len ≤ 9223372036854775807 ∧ IntsIn k w a len z := by
 obtain ⟨a0, len, cap, rfl⟩ := okWide_slice ht h
 obtain ⟨fuel, hf⟩ := hd
 rcases open_ints ht he hc hf with ⟨hcs, hx⟩ | ⟨a, len', cap', zs, hcs, _, hl, hm, hz, hx, hcell, hwz⟩
 ·simp only [Value.cells] at hcs
  have hcs' : Value.slice a0 len cap = Value.slice none 0 0 := by simpa using hcs
  simp only [Value.slice.injEq] at hcs'
  obtain ⟨rfl, rfl, rfl⟩ := hcs'
  exact ⟨none, 0, 0, fun _ => 0, rfl, by omega, .inl rfl⟩
 ·have hcs' : Value.slice a0 len cap = Value.slice (some a) len' cap' := by simpa [Value.cells] using hcs
  simp only [Value.slice.injEq] at hcs'
  obtain ⟨rfl, rfl, rfl⟩ := hcs'
  unfold maxLen at hm
  refine ⟨some a, len, cap, fun i => zs.getD i 0, rfl, by omega, ?_⟩
  have hzl : len ≤ zs.length := by rw [hz]; split <;> omega
  by_cases h0 : len = 0
  ·exact .inl h0
  ·obtain ⟨b, off, spot⟩ := a
   have c0 := hcell 0 (by omega)
   have hspot : spot = none := by simpa [Addr.add] using World.cell?_spot c0
   subst hspot
   refine .inr ⟨b, off, rfl, ?_, fun i hi => ?_⟩
   ·have := cell_block_lt c0
    rw [Go.WideShapes.add_plain] at this
    exact this
   ·have hc := hcell i (by omega)
    rw [Go.WideShapes.add_plain] at hc
    refine ⟨hc, ?_⟩
    have hi2 : i < zs.length := by omega
    have e : zs.getD i 0 = zs[i] := by simp [List.getD, hi2]
    have := hwz zs[i] (List.getElem_mem hi2)
    simp only [Lit.wf, Bool.and_eq_true, decide_eq_true_eq] at this
    simp only [e]
    exact this

theorem arg_rows {H : Type} {enc : TypeId × Value → H} {P : Program} {w : World} {r : Reach} {base base' : Nat} {spare : Nat → Bool} {held : Bool} {t e : TypeId} {v : Value} {d : DataW H} {ps : List MemPlace}
    (ht : P.underlying t = some (.slice e)) (hpos : 0 < P.cellsOf e) (h : Value.okWide P w r base t v) (hd : DataW.Trod enc P w base' spare held t v d ps) :
    ∃ a len cap, v = .slice a len cap ∧ len ≤ 9223372036854775807 ∧ (len = 0 ∨ ∃ b off, a = some ⟨b, off, none⟩ ∧ b < w.heap.size ∧
     ∀ i, i < len → ∃ (cs : List Value) (y : DataW H × List MemPlace) (n : Nat), cs.length = P.cellsOf e ∧ (∀ j, j < P.cellsOf e → w.cell? ⟨b, off + (i * P.cellsOf e + j), none⟩ = cs[j]?) ∧ DataW.trod enc P w base' spare held n e cs = some y) := by
 obtain ⟨a0, len, cap, rfl⟩ := okWide_slice ht h
 obtain ⟨fuel, hf⟩ := hd
 rcases DataW.trod_slice ht hf with ⟨hcs, hx⟩ | ⟨a, len', cap', elems, rest, n, _, hcs, _, _, hl, hm, hel, hrow, _, _⟩
 ·have hcs' : Value.slice a0 len cap = Value.slice none 0 0 := by simpa [Value.cells] using hcs
  simp only [Value.slice.injEq] at hcs'
  obtain ⟨rfl, rfl, rfl⟩ := hcs'
  exact ⟨none, 0, 0, rfl, by omega, .inl rfl⟩
 ·have hcs' : Value.slice a0 len cap = Value.slice (some a) len' cap' := by simpa [Value.cells] using hcs
  simp only [Value.slice.injEq] at hcs'
  obtain ⟨rfl, rfl, rfl⟩ := hcs'
  unfold maxLen at hm
  refine ⟨some a, len, cap, rfl, by omega, ?_⟩
  by_cases h0 : len = 0
  ·exact .inl h0
  ·right
   have key : ∀ i, i < len → ∃ (cs : List Value) (y : DataW H × List MemPlace), cs.length = P.cellsOf e ∧ (∀ j, j < P.cellsOf e → w.cell? ((a.add (i * P.cellsOf e)).add j) = cs[j]?) ∧ DataW.trod enc P w base' spare held n e cs = some y := by
    intro i hi
    have h1 := hrow i hi
    have h2 : elems[i]? = some (elems[i]'(by omega)) := List.getElem?_eq_getElem (by omega)
    rw [h2] at h1
    obtain ⟨cs, hc, hy⟩ := Option.bind_eq_some_iff.1 h1
    obtain ⟨_, hcl, hat⟩ := World.cells?_some hc
    exact ⟨cs, _, hcl, hat, hy⟩
   obtain ⟨b, off, spot⟩ := a
   obtain ⟨cs0, y0, hl0, hc0, _⟩ := key 0 (by omega)
   have c0 := hc0 0 hpos
   have e0 : cs0[0]? = some (cs0[0]'(by omega)) := List.getElem?_eq_getElem (by omega)
   rw [e0] at c0
   have hspot : spot = none := by simpa [Addr.add] using World.cell?_spot c0
   subst hspot
   have blt := cell_block_lt c0
   rw [Go.WideShapes.add_plain, Go.WideShapes.add_plain] at blt
   refine ⟨b, off, rfl, blt, fun i hi => ?_⟩
   obtain ⟨cs, y, hcl, hat, hy⟩ := key i hi
   refine ⟨cs, y, n, hcl, fun j hj => ?_, hy⟩
   have := hat j hj
   rw [Go.WideShapes.add_plain, Go.WideShapes.add_plain, Nat.add_assoc] at this
   exact this
def numAt (w : World) (b k : Nat) : Int := match w.cell? ⟨b, k, none⟩ with | some (.int _ n) => n | _ => 0
theorem numAt_of {w : World} {b k : Nat} {q : IntKind} {n : Int} (h : w.cell? ⟨b, k, none⟩ = some (.int q n)) : numAt w b k = n := by unfold numAt; rw [h]
theorem wf_u32 {n : Int} (h : (Lit.int .u32 n).wf = true) : 0 ≤ n ∧ n < 4294967296 := by
 simp only [Lit.wf, Bool.and_eq_true, decide_eq_true_eq] at h
 exact ⟨h.1, Int.lt_of_le_of_lt h.2 (by decide)⟩
end Go.Proofs.YtmpcafdgkbpneaaGreat

/- uart's laws: a port that a law has made, beside blocks that are the law's own; the calls at the head of all statements. -/
namespace Go.Proofs.YtmpcafdgkbpneaaGreat.Uart
open Go.RowKit Go.Conc
set_option linter.unusedVariables false

section
variable {w0 w w' wG : World} {b : Nat} {U : Ut} {G : Nat → Prop}
end
end Go.Proofs.YtmpcafdgkbpneaaGreat.Uart

