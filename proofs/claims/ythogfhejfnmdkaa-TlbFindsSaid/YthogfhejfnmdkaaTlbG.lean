/- tlb: scripts that came in; what a walk left in a box of its own. -/
import Derived.Test.YthogfhejfnmdkaaTlbF
import Derived.Test.YthogfhejfnmdkaaPArgs
import Derived.Test.YthogfhejfnmdkaaPFArgs
import Derived.Test.YthogfhejfnmdkaaReach
import Derived.Test.YthogfhejfnmdkaaAlike0
namespace Go.Proofs.Ythogfhejfnmdkaa
open Go.RowKit Go.WideShapes Go.ChangeShapes
set_option linter.unusedVariables false

structure OpsAt (w : World) (b off len : Nat) (ki : Nat → Int) (cr lin : Nat → Nat) (wr us wp : Nat → Bool) (at_ v : Nat → Nat) : Prop where
  c0 : ∀ i, i < len → w.cell? ⟨b, off + i * 8, none⟩ = some (.int .i64 (ki i))
  c1 : ∀ i, i < len → w.cell? ⟨b, off + i * 8 + 1, none⟩ = some (.int .u32 (cr i : Nat))
  c2 : ∀ i, i < len → w.cell? ⟨b, off + i * 8 + 2, none⟩ = some (.int .u32 (lin i : Nat))
  c3 : ∀ i, i < len → w.cell? ⟨b, off + i * 8 + 3, none⟩ = some (.bool (wr i))
  c4 : ∀ i, i < len → w.cell? ⟨b, off + i * 8 + 4, none⟩ = some (.bool (us i))
  c5 : ∀ i, i < len → w.cell? ⟨b, off + i * 8 + 5, none⟩ = some (.bool (wp i))
  c6 : ∀ i, i < len → w.cell? ⟨b, off + i * 8 + 6, none⟩ = some (.int .u32 (at_ i : Nat))
  c7 : ∀ i, i < len → w.cell? ⟨b, off + i * 8 + 7, none⟩ = some (.int .u32 (v i : Nat))
  u1 : ∀ i, i < len → cr i < 4294967296
  u2 : ∀ i, i < len → lin i < 4294967296
  u6 : ∀ i, i < len → at_ i < 4294967296
  u7 : ∀ i, i < len → v i < 4294967296
  hb : b < w.heap.size
theorem OpsAt.below {w w1 : World} {b off len : Nat} {ki : Nat → Int} {cr lin : Nat → Nat} {wr us wp : Nat → Bool} {at_ v : Nat → Nat} (h : OpsAt w b off len ki cr lin wr us wp at_ v) (hb : Below w.heap.size w w1) : OpsAt w1 b off len ki cr lin wr us wp at_ v :=
  ⟨fun i hi => (hb.cell h.hb).trans (h.c0 i hi), fun i hi => (hb.cell h.hb).trans (h.c1 i hi), fun i hi => (hb.cell h.hb).trans (h.c2 i hi), fun i hi => (hb.cell h.hb).trans (h.c3 i hi), fun i hi => (hb.cell h.hb).trans (h.c4 i hi), fun i hi => (hb.cell h.hb).trans (h.c5 i hi), fun i hi => (hb.cell h.hb).trans (h.c6 i hi), fun i hi => (hb.cell h.hb).trans (h.c7 i hi), h.u1, h.u2, h.u6, h.u7, Nat.lt_of_lt_of_le h.hb hb.size⟩
def OpsIn (w : World) (a : Option Addr) (len : Nat) (ki : Nat → Int) (cr lin : Nat → Nat) (wr us wp : Nat → Bool) (at_ v : Nat → Nat) : Prop := len = 0 ∨ ∃ b off, a = some ⟨b, off, none⟩ ∧ OpsAt w b off len ki cr lin wr us wp at_ v
theorem OpsIn.below {w w1 : World} {a : Option Addr} {len : Nat} {ki : Nat → Int} {cr lin : Nat → Nat} {wr us wp : Nat → Bool} {at_ v : Nat → Nat} (h : OpsIn w a len ki cr lin wr us wp at_ v) (hb : Below w.heap.size w w1) : OpsIn w1 a len ki cr lin wr us wp at_ v := by
  rcases h with h | ⟨b, off, e, h⟩
  · exact .inl h
  · exact .inr ⟨b, off, e, h.below hb⟩
set_option maxRecDepth 20000 in
theorem arg_ops {H : Type} {enc : TypeId × Value → H} {w : World} {r : Reach} {base base' : Nat} {spare : Nat → Bool} {held : Bool} {v : Value} {d : DataW H} {ps : List MemPlace}
    (h : Value.okWide Try.prog w r base 52 v) (hd : DataW.Trod enc Try.prog w base' spare held 52 v d ps) :
    ∃ a len cap ki cr lin wr us wp at_ x, v = .slice a len cap ∧ len ≤ 9223372036854775807 ∧ OpsIn w a len ki cr lin wr us wp at_ x := by
  have hC : Try.prog.cellsOf 50 = 8 := by kernel_rfl
  have h1 : Try.prog.cellsOf 36 = 1 := by kernel_rfl
  have hI : Try.prog.cellsOf 3 = 1 := by kernel_rfl
  have h3 : Try.prog.cellsOf 42 = 3 := by kernel_rfl
  have h5 : Try.prog.cellsOf 44 = 5 := by kernel_rfl
  have h2 : Try.prog.cellsOf 48 = 2 := by kernel_rfl
  have hB : Try.prog.cellsOf 4 = 1 := by kernel_rfl
  obtain ⟨a, len, cap, rfl, hl, h0 | ⟨b, off, rfl, hb, hrow⟩⟩ := arg_rows (enc := enc) Try.underlying52 (by rw [hC]; decide) h hd
  · exact ⟨a, len, cap, fun _ => 0, fun _ => 0, fun _ => 0, fun _ => false, fun _ => false, fun _ => false, fun _ => 0, fun _ => 0, rfl, hl, .inl h0⟩
  · have key : ∀ i, i < len → ∃ (k p q : Int) (x y z : Bool) (s t : Int), w.cell? ⟨b, off + i * 8, none⟩ = some (.int .i64 k) ∧ w.cell? ⟨b, off + i * 8 + 1, none⟩ = some (.int .u32 p) ∧ w.cell? ⟨b, off + i * 8 + 2, none⟩ = some (.int .u32 q) ∧ w.cell? ⟨b, off + i * 8 + 3, none⟩ = some (.bool x) ∧
        w.cell? ⟨b, off + i * 8 + 4, none⟩ = some (.bool y) ∧ w.cell? ⟨b, off + i * 8 + 5, none⟩ = some (.bool z) ∧ w.cell? ⟨b, off + i * 8 + 6, none⟩ = some (.int .u32 s) ∧ w.cell? ⟨b, off + i * 8 + 7, none⟩ = some (.int .u32 t) ∧ (0 ≤ p ∧ p < 4294967296) ∧ (0 ≤ q ∧ q < 4294967296) ∧ (0 ≤ s ∧ s < 4294967296) ∧ 0 ≤ t ∧ t < 4294967296 := by
      intro i hi
      obtain ⟨cs, y, n, hcl, hat, hy⟩ := hrow i hi
      rw [hC] at hcl hat
      obtain ⟨y0, y1, y2, m, _, _, g0, g1, g2⟩ := trod_struct3 Try.underlying50 hy
      match cs, hcl with
      | [c0, c1, c2, c3, c4, c5, c6, c7], _ =>
        simp only [hI, h5, h2] at g0 g1 g2
        obtain ⟨k, e0, _, _⟩ := DataW.trod_int Try.underlying3 g0
        obtain ⟨a0', a1', a2', m1, _, _, f0, f1, f2⟩ := trod_struct3 Try.underlying44 g1
        simp only [h1, h3] at f0 f1 f2
        obtain ⟨p, e1, _, wp⟩ := DataW.trod_int Try.underlying36 f0
        obtain ⟨q, e2, _, wq⟩ := DataW.trod_int Try.underlying36 f1
        obtain ⟨z0, z1, z2, m2, _, _, k0, k1, k2⟩ := trod_struct3 Try.underlying42 f2
        simp only [hB] at k0 k1 k2
        obtain ⟨x0, e3, _⟩ := DataW.trod_bool Try.underlying4 k0
        obtain ⟨x1, e4, _⟩ := DataW.trod_bool Try.underlying4 k1
        obtain ⟨x2, e5, _⟩ := DataW.trod_bool Try.underlying4 k2
        obtain ⟨b0', b1', m3, _, _, j0, j1⟩ := trod_struct2 Try.underlying48 g2
        simp only [h1] at j0 j1
        obtain ⟨s, e6, _, ws⟩ := DataW.trod_int Try.underlying36 j0
        obtain ⟨t, e7, _, wt⟩ := DataW.trod_int Try.underlying36 j1
        have a0 := hat 0 (by decide)
        have a1 := hat 1 (by decide)
        have a2 := hat 2 (by decide)
        have a3 := hat 3 (by decide)
        have a4 := hat 4 (by decide)
        have a5 := hat 5 (by decide)
        have a6 := hat 6 (by decide)
        have a7 := hat 7 (by decide)
        simp at e0 e1 e2 e3 e4 e5 e6 e7 a0 a1 a2 a3 a4 a5 a6 a7
        subst e0 e1 e2 e3 e4 e5 e6 e7
        simp only [Nat.add_assoc]
        exact ⟨k, p, q, x0, x1, x2, s, t, a0, a1, a2, a3, a4, a5, a6, a7, wf_u32 wp, wf_u32 wq, wf_u32 ws, (wf_u32 wt).1, (wf_u32 wt).2⟩
    refine ⟨_, len, cap, fun i => numAt w b (off + i * 8), fun i => (numAt w b (off + i * 8 + 1)).toNat, fun i => (numAt w b (off + i * 8 + 2)).toNat, fun i => boolAt w b (off + i * 8 + 3), fun i => boolAt w b (off + i * 8 + 4), fun i => boolAt w b (off + i * 8 + 5), fun i => (numAt w b (off + i * 8 + 6)).toNat, fun i => (numAt w b (off + i * 8 + 7)).toNat, rfl, hl,
      .inr ⟨b, off, rfl, ?_, ?_, ?_, ?_, ?_, ?_, ?_, ?_, ?_, ?_, ?_, ?_, hb⟩⟩
    all_goals
      intro i hi
      obtain ⟨k, p, q, x, y, z, s, t, a0, a1, a2, a3, a4, a5, a6, a7, p0, q0, s0, t0, t1⟩ := key i hi
    · rw [a0, numAt_of a0]
    · rw [a1, numAt_of a1]; congr 2; omega
    · rw [a2, numAt_of a2]; congr 2; omega
    · rw [a3, boolAt_of a3]
    · rw [a4, boolAt_of a4]
    · rw [a5, boolAt_of a5]
    · rw [a6, numAt_of a6]; congr 2; omega
    · rw [a7, numAt_of a7]; congr 2; omega
    · rw [numAt_of a1]; omega
    · rw [numAt_of a2]; omega
    · rw [numAt_of a6]; omega
    · rw [numAt_of a7]; omega
/-- The words that came in, behind other calls. -/
theorem words_below {w w1 : World} {a : Option Addr} {len : Nat} {at_ v : Nat → Nat} (h : WordsIn w a len at_ v) (hb : Below w.heap.size w w1) : WordsIn w1 a len at_ v := by
  rcases h with h | ⟨b, off, e, h⟩
  · exact .inl h
  · exact .inr ⟨b, off, e, h.below hb⟩
/-- A memory, as an object. -/
theorem Ram.same {w w' : World} {b : Nat} {S : Nat → Prop} {R : RS} (H : Ram w b S R) (h : ∀ k, S k → w'.heap[k]? = w.heap[k]?) : Ram w' b S R := H.of_heap h
theorem ram_find {w : World} {b : Nat} {S : Nat → Prop} {R : RS} (H : Ram w b S R) (c lin : Nat) (hc : c < 4294967296) (hl : lin < 4294967296) (wr us wp : Bool) (x y : Int) (hx : x = (c : Int)) (hy : y = (lin : Int)) {fr pd pt : Nat} {xw xu : Bool} {cd : Int} {R' : RS}
    (hr : find R c lin wr us wp = (⟨fr, pd, pt, xw, xu⟩, cd, R')) :
    Calls Try.prog 14 #[.pointer (some ⟨b, 0, .none⟩), .int .u32 x, .int .u32 y, .agg #[.bool wr, .bool us, .bool wp]] w fun e w' =>
      e = .returned (.tuple #[.agg #[.int .u32 (fr : Nat), .int .u32 (pd : Nat), .int .u32 (pt : Nat), .bool xw, .bool xu], .int .i64 cd, .int .i64 0]) ∧ ∃ S', Ram w' b S' R' ∧ Moves S S' w w' := by
  rw [hx, hy]
  refine (find_any H c lin hc hl wr us wp).mono ?_
  rintro e w' ⟨he, S', H', M'⟩
  rw [hr] at he H'
  exact ⟨he, S', H', M'⟩
theorem ram_write {w : World} {b : Nat} {S : Nat → Prop} {R : RS} (H : Ram w b S R) (a v : Nat) (ha : a < 4294967296) (hv : v < 4294967296) (x y : Int) (hx : x = (a : Int)) (hy : y = (v : Int)) : Calls Try.prog 16 #[.pointer (some ⟨b, 0, none⟩), .int .u32 x, .int .i64 4, .int .u32 y] w fun e w' =>
    e = .returned (.int .i64 0) ∧ ∃ S', Ram w' b S' (R.write a v 4) ∧ Moves S S' w w' := by
  rw [hx, hy]
  exact write_4 H a v ha hv
end Go.Proofs.Ythogfhejfnmdkaa
