/- PageFinds: its arguments: asks. -/
import Derived.Test.YthogfhejfnmdkaaPArgs
namespace Go.Proofs.Ythogfhejfnmdkaa
open Go.RowKit Go.WideShapes Go.ChangeShapes
set_option linter.unusedVariables false

theorem trod_struct3 {H : Type} {enc : TypeId × Value → H} {P : Program} {w : World} {base : Nat} {spare : Nat → Bool} {held : Bool} {t : TypeId} {f0 f1 f2 : Field} {fuel : Nat} {cs : List Value} {x : DataW H × List MemPlace}
    (ht : P.underlying t = some (.struct #[f0, f1, f2])) (h : DataW.trod enc P w base spare held fuel t cs = some x) :
    ∃ y0 y1 y2 n, x = (.agg [y0.1, y1.1, y2.1], y0.2 ++ (y1.2 ++ y2.2)) ∧ cs.length = P.cellsOf t ∧ DataW.trod enc P w base spare held n f0.type ((cs.drop f0.offset).take (P.cellsOf f0.type)) = some y0 ∧
      DataW.trod enc P w base spare held n f1.type ((cs.drop f1.offset).take (P.cellsOf f1.type)) = some y1 ∧ DataW.trod enc P w base spare held n f2.type ((cs.drop f2.offset).take (P.cellsOf f2.type)) = some y2 := by
  obtain ⟨xs, n, _, rfl, hl, hlen, hf⟩ := DataW.trod_struct ht h
  match xs, hlen with
  | [y0, y1, y2], _ => exact ⟨y0, y1, y2, n, by simp, hl, by simpa using hf 0 f0 rfl, by simpa using hf 1 f1 rfl, by simpa using hf 2 f2 rfl⟩
structure AsksAt (w : World) (b off len : Nat) (cr lin : Nat → Nat) (wr us wp : Nat → Bool) : Prop where
  c0 : ∀ i, i < len → w.cell? ⟨b, off + i * 5, none⟩ = some (.int .u32 (cr i : Nat))
  c1 : ∀ i, i < len → w.cell? ⟨b, off + i * 5 + 1, none⟩ = some (.int .u32 (lin i : Nat))
  c2 : ∀ i, i < len → w.cell? ⟨b, off + i * 5 + 2, none⟩ = some (.bool (wr i))
  c3 : ∀ i, i < len → w.cell? ⟨b, off + i * 5 + 3, none⟩ = some (.bool (us i))
  c4 : ∀ i, i < len → w.cell? ⟨b, off + i * 5 + 4, none⟩ = some (.bool (wp i))
  u0 : ∀ i, i < len → cr i < 4294967296
  u1 : ∀ i, i < len → lin i < 4294967296
  hb : b < w.heap.size
theorem AsksAt.below {w w1 : World} {b off len : Nat} {cr lin : Nat → Nat} {wr us wp : Nat → Bool} (h : AsksAt w b off len cr lin wr us wp) (hb : Below w.heap.size w w1) : AsksAt w1 b off len cr lin wr us wp :=
  ⟨fun i hi => (hb.cell h.hb).trans (h.c0 i hi), fun i hi => (hb.cell h.hb).trans (h.c1 i hi), fun i hi => (hb.cell h.hb).trans (h.c2 i hi), fun i hi => (hb.cell h.hb).trans (h.c3 i hi), fun i hi => (hb.cell h.hb).trans (h.c4 i hi), h.u0, h.u1, Nat.lt_of_lt_of_le h.hb hb.size⟩
def AsksIn (w : World) (a : Option Addr) (len : Nat) (cr lin : Nat → Nat) (wr us wp : Nat → Bool) : Prop := len = 0 ∨ ∃ b off, a = some ⟨b, off, none⟩ ∧ AsksAt w b off len cr lin wr us wp
theorem AsksIn.below {w w1 : World} {a : Option Addr} {len : Nat} {cr lin : Nat → Nat} {wr us wp : Nat → Bool} (h : AsksIn w a len cr lin wr us wp) (hb : Below w.heap.size w w1) : AsksIn w1 a len cr lin wr us wp := by
  rcases h with h | ⟨b, off, e, h⟩
  · exact .inl h
  · exact .inr ⟨b, off, e, h.below hb⟩
set_option maxRecDepth 20000 in
theorem arg_asks {H : Type} {enc : TypeId × Value → H} {w : World} {r : Reach} {base base' : Nat} {spare : Nat → Bool} {held : Bool} {v : Value} {d : DataW H} {ps : List MemPlace}
    (h : Value.okWide Try.prog w r base 24 v) (hd : DataW.Trod enc Try.prog w base' spare held 24 v d ps) :
    ∃ a len cap cr lin wr us wp, v = .slice a len cap ∧ len ≤ 9223372036854775807 ∧ AsksIn w a len cr lin wr us wp := by
  have hC : Try.prog.cellsOf 44 = 5 := by kernel_rfl
  have h1 : Try.prog.cellsOf 36 = 1 := by kernel_rfl
  have h3 : Try.prog.cellsOf 42 = 3 := by kernel_rfl
  have hB : Try.prog.cellsOf 4 = 1 := by kernel_rfl
  obtain ⟨a, len, cap, rfl, hl, h0 | ⟨b, off, rfl, hb, hrow⟩⟩ := arg_rows (enc := enc) Try.underlying24 (by rw [hC]; decide) h hd
  · exact ⟨a, len, cap, fun _ => 0, fun _ => 0, fun _ => false, fun _ => false, fun _ => false, rfl, hl, .inl h0⟩
  · have key : ∀ i, i < len → ∃ (p q : Int) (x y z : Bool), w.cell? ⟨b, off + i * 5, none⟩ = some (.int .u32 p) ∧ w.cell? ⟨b, off + i * 5 + 1, none⟩ = some (.int .u32 q) ∧ w.cell? ⟨b, off + i * 5 + 2, none⟩ = some (.bool x) ∧
        w.cell? ⟨b, off + i * 5 + 3, none⟩ = some (.bool y) ∧ w.cell? ⟨b, off + i * 5 + 4, none⟩ = some (.bool z) ∧ 0 ≤ p ∧ p < 4294967296 ∧ 0 ≤ q ∧ q < 4294967296 := by
      intro i hi
      obtain ⟨cs, y, n, hcl, hat, hy⟩ := hrow i hi
      rw [hC] at hcl hat
      obtain ⟨y0, y1, y2, m, _, _, g0, g1, g2⟩ := trod_struct3 Try.underlying44 hy
      match cs, hcl with
      | [c0, c1, c2, c3, c4], _ =>
        simp only [h1, h3] at g0 g1 g2
        obtain ⟨p, e0, _, wp⟩ := DataW.trod_int Try.underlying36 g0
        obtain ⟨q, e1, _, wq⟩ := DataW.trod_int Try.underlying36 g1
        obtain ⟨z0, z1, z2, m2, _, _, k0, k1, k2⟩ := trod_struct3 Try.underlying42 g2
        simp only [hB] at k0 k1 k2
        obtain ⟨x0, e2, _⟩ := DataW.trod_bool Try.underlying4 k0
        obtain ⟨x1, e3, _⟩ := DataW.trod_bool Try.underlying4 k1
        obtain ⟨x2, e4, _⟩ := DataW.trod_bool Try.underlying4 k2
        have a0 := hat 0 (by decide)
        have a1 := hat 1 (by decide)
        have a2 := hat 2 (by decide)
        have a3 := hat 3 (by decide)
        have a4 := hat 4 (by decide)
        simp at e0 e1 e2 e3 e4 a0 a1 a2 a3 a4
        subst e0 e1 e2 e3 e4
        simp only [Nat.add_assoc]
        exact ⟨p, q, x0, x1, x2, a0, a1, a2, a3, a4, (wf_u32 wp).1, (wf_u32 wp).2, (wf_u32 wq).1, (wf_u32 wq).2⟩
    refine ⟨_, len, cap, fun i => (numAt w b (off + i * 5)).toNat, fun i => (numAt w b (off + i * 5 + 1)).toNat, fun i => boolAt w b (off + i * 5 + 2), fun i => boolAt w b (off + i * 5 + 3), fun i => boolAt w b (off + i * 5 + 4), rfl, hl, .inr ⟨b, off, rfl, ?_, ?_, ?_, ?_, ?_, ?_, ?_, hb⟩⟩
    all_goals
      intro i hi
      obtain ⟨p, q, x, y, z, a0, a1, a2, a3, a4, p0, p1, q0, q1⟩ := key i hi
    · rw [a0, numAt_of a0]; congr 2; omega
    · rw [a1, numAt_of a1]; congr 2; omega
    · rw [a2, boolAt_of a2]
    · rw [a3, boolAt_of a3]
    · rw [a4, boolAt_of a4]
    · rw [numAt_of a0]; omega
    · rw [numAt_of a1]; omega
end Go.Proofs.Ythogfhejfnmdkaa
