/- ide's laws: a script of calls as an argument. -/
import Derived.Test.YtebhnfoehgpilaaIn
import Derived.Test.YtebhnfoehgpilaaIdeP
namespace Go.Proofs.Ytebhnfoehgpilaa
open Go.RowKit Go.WideShapes Go.ChangeShapes
set_option linter.unusedVariables false

theorem trod_struct5 {H : Type} {enc : TypeId × Value → H} {P : Program} {w : World} {base : Nat} {spare : Nat → Bool} {held : Bool} {t : TypeId} {f0 f1 f2 f3 f4 : Field} {fuel : Nat} {cs : List Value} {x : DataW H × List MemPlace}
    (ht : P.underlying t = some (.struct #[f0, f1, f2, f3, f4])) (h : DataW.trod enc P w base spare held fuel t cs = some x) :
    ∃ y0 y1 y2 y3 y4 n, DataW.trod enc P w base spare held n f0.type ((cs.drop f0.offset).take (P.cellsOf f0.type)) = some y0 ∧
      DataW.trod enc P w base spare held n f1.type ((cs.drop f1.offset).take (P.cellsOf f1.type)) = some y1 ∧ DataW.trod enc P w base spare held n f2.type ((cs.drop f2.offset).take (P.cellsOf f2.type)) = some y2 ∧
      DataW.trod enc P w base spare held n f3.type ((cs.drop f3.offset).take (P.cellsOf f3.type)) = some y3 ∧ DataW.trod enc P w base spare held n f4.type ((cs.drop f4.offset).take (P.cellsOf f4.type)) = some y4 := by
  obtain ⟨xs, n, _, rfl, hl, hlen, hf⟩ := DataW.trod_struct ht h
  match xs, hlen with
  | [y0, y1, y2, y3, y4], _ => exact ⟨y0, y1, y2, y3, y4, n, by simpa using hf 0 f0 rfl, by simpa using hf 1 f1 rfl, by simpa using hf 2 f2 rfl, by simpa using hf 3 f3 rfl, by simpa using hf 4 f4 rfl⟩
structure OpsAt (w : World) (b off len : Nat) (kd rg sz : Nat → Int) (v : Nat → Nat) (ti : Nat → Int) : Prop where
  c0 : ∀ i, i < len → w.cell? ⟨b, off + i * 5, none⟩ = some (.int .i64 (kd i))
  c1 : ∀ i, i < len → w.cell? ⟨b, off + i * 5 + 1, none⟩ = some (.int .i64 (rg i))
  c2 : ∀ i, i < len → w.cell? ⟨b, off + i * 5 + 2, none⟩ = some (.int .i64 (sz i))
  c3 : ∀ i, i < len → w.cell? ⟨b, off + i * 5 + 3, none⟩ = some (.int .u32 (v i : Nat))
  c4 : ∀ i, i < len → w.cell? ⟨b, off + i * 5 + 4, none⟩ = some (.int .i64 (ti i))
  u3 : ∀ i, i < len → v i < 4294967296
  u0 : ∀ i, i < len → -9223372036854775808 ≤ kd i ∧ kd i ≤ 9223372036854775807
  u1 : ∀ i, i < len → -9223372036854775808 ≤ rg i ∧ rg i ≤ 9223372036854775807
  u2 : ∀ i, i < len → -9223372036854775808 ≤ sz i ∧ sz i ≤ 9223372036854775807
  u4 : ∀ i, i < len → -9223372036854775808 ≤ ti i ∧ ti i ≤ 9223372036854775807
  hb : b < w.heap.size
theorem OpsAt.below {w w1 : World} {b off len : Nat} {kd rg sz : Nat → Int} {v : Nat → Nat} {ti : Nat → Int} {B : Nat} (h : OpsAt w b off len kd rg sz v ti) (hb : Below B w w1) (hB : b < B) : OpsAt w1 b off len kd rg sz v ti :=
  ⟨fun i hi => (hb.cell hB).trans (h.c0 i hi), fun i hi => (hb.cell hB).trans (h.c1 i hi), fun i hi => (hb.cell hB).trans (h.c2 i hi), fun i hi => (hb.cell hB).trans (h.c3 i hi), fun i hi => (hb.cell hB).trans (h.c4 i hi), h.u3, h.u0, h.u1, h.u2, h.u4, Nat.lt_of_lt_of_le h.hb hb.size⟩
def OpsIn (w : World) (a : Option Addr) (len : Nat) (kd rg sz : Nat → Int) (v : Nat → Nat) (ti : Nat → Int) : Prop := len = 0 ∨ ∃ b off, a = some ⟨b, off, none⟩ ∧ OpsAt w b off len kd rg sz v ti
theorem arg_ops {H : Type} {enc : TypeId × Value → H} {w : World} {r : Reach} {base base' : Nat} {spare : Nat → Bool} {held : Bool} {v : Value} {d : DataW H} {ps : List MemPlace}
    (h : Value.okWide Try.prog w r base 41 v) (hd : DataW.Trod enc Try.prog w base' spare held 41 v d ps) :
    ∃ a len cap kd rg sz x ti, v = .slice a len cap ∧ len ≤ 9223372036854775807 ∧ OpsIn w a len kd rg sz x ti := by
  have hC : Try.prog.cellsOf 43 = 5 := by kernel_rfl
  have h1 : Try.prog.cellsOf 30 = 1 := by kernel_rfl
  have h3 : Try.prog.cellsOf 3 = 1 := by kernel_rfl
  obtain ⟨a, len, cap, rfl, hl, h0 | ⟨b, off, rfl, hb, hrow⟩⟩ := arg_rows (enc := enc) Try.underlying41 (by rw [hC]; decide) h hd
  · exact ⟨a, len, cap, fun _ => 0, fun _ => 0, fun _ => 0, fun _ => 0, fun _ => 0, rfl, hl, .inl h0⟩
  · have key : ∀ i, i < len → ∃ (k r s u t : Int), w.cell? ⟨b, off + i * 5, none⟩ = some (.int .i64 k) ∧ w.cell? ⟨b, off + i * 5 + 1, none⟩ = some (.int .i64 r) ∧ w.cell? ⟨b, off + i * 5 + 2, none⟩ = some (.int .i64 s) ∧
        w.cell? ⟨b, off + i * 5 + 3, none⟩ = some (.int .u32 u) ∧ w.cell? ⟨b, off + i * 5 + 4, none⟩ = some (.int .i64 t) ∧ (0 ≤ u ∧ u < 4294967296) ∧ (-9223372036854775808 ≤ k ∧ k ≤ 9223372036854775807) ∧ (-9223372036854775808 ≤ r ∧ r ≤ 9223372036854775807) ∧ (-9223372036854775808 ≤ s ∧ s ≤ 9223372036854775807) ∧ (-9223372036854775808 ≤ t ∧ t ≤ 9223372036854775807) := by
      intro i hi
      obtain ⟨cs, y, n, hcl, hat, hy⟩ := hrow i hi
      rw [hC] at hcl hat
      obtain ⟨y0, y1, y2, y3, y4, m, g0, g1, g2, g3, g4⟩ := trod_struct5 Try.underlying43 hy
      match cs, hcl with
      | [c0, c1, c2, c3, c4], _ =>
        simp only [h1, h3] at g0 g1 g2 g3 g4
        obtain ⟨p0, e0, _, w0⟩ := DataW.trod_int Try.underlying3 g0
        obtain ⟨p1, e1, _, w1⟩ := DataW.trod_int Try.underlying3 g1
        obtain ⟨p2, e2, _, w2⟩ := DataW.trod_int Try.underlying3 g2
        obtain ⟨p3, e3, _, w3⟩ := DataW.trod_int Try.underlying30 g3
        obtain ⟨p4, e4, _, w4⟩ := DataW.trod_int Try.underlying3 g4
        have a0 := hat 0 (by decide)
        have a1 := hat 1 (by decide)
        have a2 := hat 2 (by decide)
        have a3 := hat 3 (by decide)
        have a4 := hat 4 (by decide)
        simp at e0 e1 e2 e3 e4 a0 a1 a2 a3 a4
        subst e0 e1 e2 e3 e4
        simp only [Nat.add_assoc]
        exact ⟨p0, p1, p2, p3, p4, a0, a1, a2, a3, a4, wf_u32 w3, wf_i64 w0, wf_i64 w1, wf_i64 w2, wf_i64 w4⟩
    refine ⟨_, len, cap, fun i => numAt w b (off + i * 5), fun i => numAt w b (off + i * 5 + 1), fun i => numAt w b (off + i * 5 + 2), fun i => (numAt w b (off + i * 5 + 3)).toNat, fun i => numAt w b (off + i * 5 + 4), rfl, hl, .inr ⟨b, off, rfl, ?_, ?_, ?_, ?_, ?_, ?_, ?_, ?_, ?_, ?_, hb⟩⟩
    all_goals
      intro i hi
      obtain ⟨k, r, s, u, t, a0, a1, a2, a3, a4, ⟨p0, p1⟩, b0, b1, b2, b4⟩ := key i hi
    · rw [a0, numAt_of a0]
    · rw [a1, numAt_of a1]
    · rw [a2, numAt_of a2]
    · rw [a3, numAt_of a3]; congr 2; omega
    · rw [a4, numAt_of a4]
    · rw [numAt_of a3]; omega
    · rw [numAt_of a0]; exact b0
    · rw [numAt_of a1]; exact b1
    · rw [numAt_of a2]; exact b2
    · rw [numAt_of a4]; exact b4

/-- Nothing is written. -/
structure Still (n : Nat) (d : Nat → Nat) (S : Dk) : Prop where
  hn : S.n = n
  hd : S.d = d
  log : S.log = []
  mode : S.mode ≠ 2
theorem still_putB {n : Nat} {d : Nat → Nat} {S : Dk} (h : Still n d S) (b : Nat) : Still n d (S.putB b) := by
  unfold Dk.putB; rw [if_neg h.mode]; exact h
theorem still_puts {n : Nat} {d : Nat → Nat} {S : Dk} (h : Still n d S) (v k : Nat) : Still n d (S.puts v k) := by
  induction k with
  | zero => exact h
  | succ k ih =>
    rw [Dk.puts]
    split
    · exact ih
    · exact still_putB ih _
theorem still_begin {n : Nat} {d : Nat → Nat} {S : Dk} (hn : S.n = n) (hd : S.d = d) (hl : S.log = []) (m : Nat) (hm : m ≠ 2) : Still n d (S.begin m) := by
  unfold Dk.begin
  split
  · split
    · exact ⟨hn, hd, hl, by show (1 : Nat) ≠ 2; decide⟩
    · exact ⟨hn, hd, hl, hm⟩
  · exact ⟨hn, hd, hl, by show (0 : Nat) ≠ 2; decide⟩
theorem still_command {n : Nat} {d : Nat → Nat} {S : Dk} (h : Still n d S) (c : Nat) (h1 : c ≠ 48) (h2 : c ≠ 49) : Still n d (S.command c) := by
  unfold Dk.command
  split
  · exact h
  split
  · split
    · exact ⟨h.hn, h.hd, h.log, by show (0 : Nat) ≠ 2; decide⟩
    · exact still_begin (S := S.clean) h.hn h.hd h.log 1 (by decide)
  split
  · rename_i h3; omega
  split
  · exact ⟨h.hn, h.hd, h.log, by show (3 : Nat) ≠ 2; decide⟩
  split
  · exact ⟨h.hn, h.hd, h.log, by show (0 : Nat) ≠ 2; decide⟩
  · exact ⟨h.hn, h.hd, h.log, by show (0 : Nat) ≠ 2; decide⟩
theorem still_next {n : Nat} {d : Nat → Nat} {S : Dk} (h : Still n d S) : Still n d S.next := by
  unfold Dk.next
  split
  · exact ⟨h.hn, h.hd, h.log, by show (0 : Nat) ≠ 2; decide⟩
  · exact still_begin (S := S.step) h.hn h.hd h.log _ h.mode
theorem still_getB {n : Nat} {d : Nat → Nat} {S : Dk} (h : Still n d S) : Still n d S.getB := by
  unfold Dk.getB
  split
  · split
    · exact ⟨h.hn, h.hd, h.log, h.mode⟩
    · split
      · exact ⟨h.hn, h.hd, h.log, by show (0 : Nat) ≠ 2; decide⟩
      · exact still_next (S := { S with done := S.done + 1 }) ⟨h.hn, h.hd, h.log, h.mode⟩
  · exact h
theorem still_getN {n : Nat} {d : Nat → Nat} {S : Dk} (h : Still n d S) (k : Nat) : Still n d (S.getN k) := by
  induction k with
  | zero => exact h
  | succ k ih => exact still_getB ih
theorem still_out {n : Nat} {d : Nat → Nat} {S : Dk} (h : Still n d S) (reg size : Int) (v : Nat) (hc : reg ≠ 7 ∨ (v % 256 ≠ 48 ∧ v % 256 ≠ 49)) : Still n d (S.out reg size v) := by
  unfold Dk.out
  split
  · exact h
  split
  · exact still_puts h _ _
  split
  · exact h
  split
  · rename_i h7
    have := hc.resolve_left (fun k => k h7)
    exact still_command h _ this.1 this.2
  split
  · split
    · exact ⟨h.hn, h.hd, h.log, by show (0 : Nat) ≠ 2; decide⟩
    · exact ⟨h.hn, h.hd, h.log, h.mode⟩
  · exact ⟨h.hn, h.hd, h.log, h.mode⟩
theorem still_inS {n : Nat} {d : Nat → Nat} {S : Dk} (h : Still n d S) (reg size : Int) : Still n d (S.inS reg size) := by
  unfold Dk.inS
  split
  · exact h
  split
  · exact h
  split
  · exact still_getN h _
  split
  · exact h
  · exact ⟨h.hn, h.hd, h.log, h.mode⟩
end Go.Proofs.Ytebhnfoehgpilaa
