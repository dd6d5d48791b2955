/- the document's Find: what it holds. -/
import Derived.Test.YthogfhejfnmdkaaRFindA
namespace Go.Proofs.Ythogfhejfnmdkaa
open Go.RowKit Go.MapKept
set_option linter.unusedVariables false

theorem rread_4v {w : World} {b : Nat} {S : Nat → Prop} {R : RS} (H : Ref w b S R) (a : Nat) (ha : a < 4294967296) (x : Int) (hx : x = (a : Int)) :
    Calls Try.prog 31 #[.pointer (some ⟨b, 0, .none⟩), .int .u32 x, .int .i64 4] w fun e w' => e = .returned (.tuple #[.int .u32 (R.read a 4 : Nat), .int .i64 0]) ∧ ∃ n, w' = w.drewN n := by
  rw [hx]; exact rread_4 H a ha
/-- What the document's Find does. -/
def RFindEnd (w : World) (b : Nat) (S : Nat → Prop) (r : WalkR × Int × RS) (e : Ending) (w' : World) : Prop :=
  e = .returned (.tuple #[r.1.val, .int .i64 r.2.1]) ∧ Ref w' b S r.2.2 ∧ Keeps S w w'
/-- The blocks that it holds: the way asked for, and the answer. -/
structure RHeld (w w1 : World) (b : Nat) (S : Nat → Prop) (R : RS) (wr us wp : Bool) : Prop where
  a : w1.heap[w.heap.size]? = some (.cells #[.bool wr, .bool us, .bool wp] 42)
  z : w1.heap[w.heap.size + 1]? = some (.cells #[.int .u32 0, .int .u32 0, .int .u32 0, .bool false, .bool false] 38)
  r : Ref w1 b S R
  k : Keeps S w w1
  l : ∀ i, S i → i < w.heap.size
theorem RHeld.drewN {w w1 : World} {b : Nat} {S : Nat → Prop} {R : RS} {wr us wp : Bool} (h : RHeld w w1 b S R wr us wp) (n : Nat) : RHeld w (w1.drewN n) b S R wr us wp :=
  ⟨h.a, h.z, h.r.drewN n, h.k.drewN n, h.l⟩
theorem RHeld.start {w : World} {b : Nat} {S : Nat → Prop} {R : RS} (H : Ref w b S R) (wr us wp : Bool) :
    RHeld w ((w.alloc (.cells #[.bool wr, .bool us, .bool wp] 42)).alloc (.cells #[.int .u32 0, .int .u32 0, .int .u32 0, .bool false, .bool false] 38)) b S R wr us wp := by
  refine ⟨heap_alloc_lt (heap_new w _), ?_, (H.alloc _).alloc _, ((Keeps.refl S w).alloc _).alloc _, fun i h => H.lt h⟩
  have := heap_new (w.alloc (.cells #[.bool wr, .bool us, .bool wp] 42)) (.cells #[.int .u32 0, .int .u32 0, .int .u32 0, .bool false, .bool false] 38)
  rw [World.size_alloc] at this
  exact this
theorem RHeld.alloc {w w1 : World} {b : Nat} {S : Nat → Prop} {R : RS} {wr us wp : Bool} (h : RHeld w w1 b S R wr us wp) (o : Obj) : RHeld w (w1.alloc o) b S R wr us wp :=
  ⟨heap_alloc_lt h.a, heap_alloc_lt h.z, h.r.alloc o, h.k.alloc o, h.l⟩
theorem RHeld.set {w w1 : World} {b : Nat} {S : Nat → Prop} {R : RS} {wr us wp : Bool} (h : RHeld w w1 b S R wr us wp) {q : Nat} (hq : w.heap.size + 1 < q) (i : Nat) (v : Value) : RHeld w (w1.setCell ⟨q, i, .none⟩ v) b S R wr us wp :=
  ⟨(Below.heap_setCell w1 ⟨q, i, .none⟩ v _ (by show _ ≠ q; omega)).trans h.a, (Below.heap_setCell w1 ⟨q, i, .none⟩ v _ (by show _ ≠ q; omega)).trans h.z,
    h.r.keeps ((Keeps.refl (· = q) w1).setCell (.inl rfl) v) (fun k hk e => by have := h.l k hk; omega), h.k.setCell (.inr (by show w.heap.size ≤ q; omega)) v, h.l⟩
theorem RHeld.marked {w w1 w2 : World} {b : Nat} {S : Nat → Prop} {R R2 : RS} {wr us wp : Bool} (h : RHeld w w1 b S R wr us wp) (r : Ref w2 b S R2) (k : Keeps S w1 w2) : RHeld w w2 b S R2 wr us wp :=
  ⟨heap_keeps k (fun hs => by have := h.l _ hs; omega) h.a, heap_keeps k (fun hs => by have := h.l _ hs; omega) h.z, r, h.k.trans k, h.l⟩
theorem cells5 {w : World} {b : Nat} {a0 a1 a2 a3 a4 : Value} {T : TypeId} {fz : Nat × Nat} (h : w.heap[b]? = some (.cells #[a0, a1, a2, a3, a4] T fz)) :
    w.cell? ⟨b, 0, .none⟩ = some a0 ∧ w.cell? ⟨b, 1, .none⟩ = some a1 ∧ w.cell? ⟨b, 2, .none⟩ = some a2 ∧ w.cell? ⟨b, 3, .none⟩ = some a3 ∧ w.cell? ⟨b, 4, .none⟩ = some a4 :=
  ⟨by rw [cell_at h]; rfl, by rw [cell_at h]; rfl, by rw [cell_at h]; rfl, by rw [cell_at h]; rfl, by rw [cell_at h]; rfl⟩
theorem cells3 {w : World} {b : Nat} {a0 a1 a2 : Value} {T : TypeId} {fz : Nat × Nat} (h : w.heap[b]? = some (.cells #[a0, a1, a2] T fz)) :
    w.cell? ⟨b, 0, .none⟩ = some a0 ∧ w.cell? ⟨b, 1, .none⟩ = some a1 ∧ w.cell? ⟨b, 2, .none⟩ = some a2 :=
  ⟨by rw [cell_at h]; rfl, by rw [cell_at h]; rfl, by rw [cell_at h]; rfl⟩
/-- With the found walk besides. -/
structure FH (w w1 : World) (b : Nat) (S : Nat → Prop) (R : RS) (wr us wp : Bool) (q f p t : Nat) (xw xu : Bool) : Prop where
  h : RHeld w w1 b S R wr us wp
  x : w1.heap[q]? = some (.cells #[.int .u32 f, .int .u32 p, .int .u32 t, .bool xw, .bool xu] 38)
  q : w.heap.size + 1 < q
section
variable {w w1 w2 : World} {b : Nat} {S : Nat → Prop} {R R2 : RS} {wr us wp : Bool} {q f p t : Nat} {xw xu : Bool}
theorem FH.drewN (h : FH w w1 b S R wr us wp q f p t xw xu) (n : Nat) : FH w (w1.drewN n) b S R wr us wp q f p t xw xu := ⟨h.h.drewN n, h.x, h.q⟩
theorem FH.alloc (h : FH w w1 b S R wr us wp q f p t xw xu) (o : Obj) : FH w (w1.alloc o) b S R wr us wp q f p t xw xu := ⟨h.h.alloc o, heap_alloc_lt h.x, h.q⟩
theorem FH.start (h : RHeld w w1 b S R wr us wp) (f p t : Nat) (xw xu : Bool) : FH w (w1.alloc (.cells #[.int .u32 f, .int .u32 p, .int .u32 t, .bool xw, .bool xu] 38)) b S R wr us wp w1.heap.size f p t xw xu :=
  ⟨h.alloc _, heap_new w1 _, heap_lt h.z⟩
theorem FH.set3 (h : FH w w1 b S R wr us wp q f p t xw xu) (v : Bool) : FH w (w1.setCell ⟨q, 3, .none⟩ (.bool v)) b S R wr us wp q f p t v xu := ⟨h.h.set h.q 3 _, heap_set_same _ h.x, h.q⟩
theorem FH.set4 (h : FH w w1 b S R wr us wp q f p t xw xu) (v : Bool) : FH w (w1.setCell ⟨q, 4, .none⟩ (.bool v)) b S R wr us wp q f p t xw v := ⟨h.h.set h.q 4 _, heap_set_same _ h.x, h.q⟩
theorem FH.marked (h : FH w w1 b S R wr us wp q f p t xw xu) (hl : q < w1.heap.size) (r : Ref w2 b S R2) (k : Keeps S w1 w2) : FH w w2 b S R2 wr us wp q f p t xw xu :=
  ⟨h.h.marked r k, heap_keeps k (fun hs => by have := h.h.l _ hs; have := h.q; omega) h.x, h.q⟩
end
theorem rfind_end {w w2 : World} {b : Nat} {S : Nat → Prop} {R R' : RS} {wr us wp : Bool} {cr3 lin : Nat} (h : RHeld w w2 b S R' wr us wp) (x : WalkR) (c : Int) (hr : find R cr3 lin wr us wp = (x, c, R')) :
    RFindEnd w b S (find R cr3 lin wr us wp) (.returned (.tuple #[x.val, .int .i64 c])) (sets5 w2 (w.heap.size + 1) (.int .u32 x.frame) (.int .u32 x.pde) (.int .u32 x.pte) (.bool x.w) (.bool x.u)) := by
  rw [hr]
  have hn : ∀ k, S k → ¬ k = w.heap.size + 1 := fun k hk e => by have := h.l k hk; omega
  have hw : ∀ (w2 : World), Ref w2 b S R' → Keeps S w w2 → ∀ i v, Ref (w2.setCell ⟨w.heap.size + 1, i, .none⟩ v) b S R' ∧ Keeps S w (w2.setCell ⟨w.heap.size + 1, i, .none⟩ v) := fun w2 r k i v =>
    ⟨r.keeps ((Keeps.refl (· = w.heap.size + 1) w2).setCell (.inl rfl) v) hn, k.setCell (.inr (Nat.le_succ _)) v⟩
  obtain ⟨r1, k1⟩ := hw _ h.r h.k 0 (.int .u32 x.frame)
  obtain ⟨r2, k2⟩ := hw _ r1 k1 1 (.int .u32 x.pde)
  obtain ⟨r3, k3⟩ := hw _ r2 k2 2 (.int .u32 x.pte)
  obtain ⟨r4, k4⟩ := hw _ r3 k3 3 (.bool x.w)
  obtain ⟨r5, k5⟩ := hw _ r4 k4 4 (.bool x.u)
  exact ⟨rfl, r5, k5⟩
theorem heap_new_set (w : World) (a : Addr) (v : Value) (o : Obj) : ((w.setCell a v).alloc o).heap[w.heap.size]? = some o := by
  have := heap_new (w.setCell a v) o
  simpa using this
theorem heap_new2 (w : World) (o o' : Obj) : ((w.alloc o).alloc o').heap[w.heap.size + 1]? = some o' := by
  have := heap_new (w.alloc o) o'
  rw [World.size_alloc] at this
  exact this
end Go.Proofs.Ythogfhejfnmdkaa
