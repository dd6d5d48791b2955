/- page's laws: arguments that are slices of words. -/
import Derived.Test.YtmpcafdgkbpneaaGreatS32
import Derived.Test.YtmpcafdgkbpneaaGreatS5
namespace Go.Proofs.YtmpcafdgkbpneaaGreat
open Go.RowKit Go.WideShapes Go.ChangeShapes
set_option linter.unusedVariables false

set_option maxRecDepth 20000 in
theorem arg_words {H : Type} {enc : TypeId × Value → H} {w : World} {r : Reach} {base base' : Nat} {spare : Nat → Bool} {held : Bool} {v : Value} {d : DataW H} {ps : List MemPlace}
    (h : Value.okWide Tryz.prog w r base 51 v) (hd : DataW.Trod enc Tryz.prog w base' spare held 51 v d ps) :
    ∃ a len cap at_ x, v = .slice a len cap ∧ len ≤ 9223372036854775807 ∧ WordsIn w a len at_ x := by
  have hC : Tryz.prog.cellsOf 121 = 2 := by kernel_rfl
  have h1 : Tryz.prog.cellsOf 22 = 1 := by kernel_rfl
  obtain ⟨a, len, cap, rfl, hl, h0 | ⟨b, off, rfl, hb, hrow⟩⟩ := arg_rows (enc := enc) Tryz.underlying51 (by rw [hC]; decide) h hd
  · exact ⟨a, len, cap, fun _ => 0, fun _ => 0, rfl, hl, .inl h0⟩
  · have key : ∀ i, i < len → ∃ p q : Int, w.cell? ⟨b, off + i * 2, none⟩ = some (.int .u32 p) ∧ w.cell? ⟨b, off + i * 2 + 1, none⟩ = some (.int .u32 q) ∧ 0 ≤ p ∧ p < 4294967296 ∧ 0 ≤ q ∧ q < 4294967296 := by
      intro i hi
      obtain ⟨cs, y, n, hcl, hat, hy⟩ := hrow i hi
      rw [hC] at hcl hat
      obtain ⟨y0, y1, m, _, _, g0, g1⟩ := trod_struct2 Tryz.underlying121 hy
      match cs, hcl with
      | [c0, c1], _ =>
        simp only [h1] at g0 g1
        obtain ⟨p, e0, _, wp⟩ := DataW.trod_int Tryz.underlying22 g0
        obtain ⟨q, e1, _, wq⟩ := DataW.trod_int Tryz.underlying22 g1
        have a0 := hat 0 (by decide)
        have a1 := hat 1 (by decide)
        simp at e0 e1 a0 a1
        subst e0 e1
        exact ⟨p, q, a0, by rw [Nat.add_assoc]; exact a1, (wf_u32 wp).1, (wf_u32 wp).2, (wf_u32 wq).1, (wf_u32 wq).2⟩
    refine ⟨_, len, cap, fun i => (numAt w b (off + i * 2)).toNat, fun i => (numAt w b (off + i * 2 + 1)).toNat, rfl, hl, .inr ⟨b, off, rfl, ?_, ?_, ?_, ?_, hb⟩⟩
    · intro i hi
      obtain ⟨p, q, a0, a1, p0, p1, q0, q1⟩ := key i hi
      rw [a0, numAt_of a0]; congr 2; omega
    · intro i hi
      obtain ⟨p, q, a0, a1, p0, p1, q0, q1⟩ := key i hi
      rw [a1, numAt_of a1]; congr 2; omega
    · intro i hi
      obtain ⟨p, q, a0, a1, p0, p1, q0, q1⟩ := key i hi
      rw [numAt_of a0]; omega
    · intro i hi
      obtain ⟨p, q, a0, a1, p0, p1, q0, q1⟩ := key i hi
      rw [numAt_of a1]; omega
end Go.Proofs.YtmpcafdgkbpneaaGreat
