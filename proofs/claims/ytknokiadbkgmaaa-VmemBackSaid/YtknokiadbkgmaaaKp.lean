/- tlb: a keeper with its memory as one object (as in TlbQ, without what speaks of the document). -/
import Derived.Test.YtknokiadbkgmaaaTlbC
import Derived.Test.YtknokiadbkgmaaaTlbD
import Derived.Test.YtknokiadbkgmaaaSep
import Derived.Test.YtknokiadbkgmaaaBoth
namespace Go.Proofs.Ytknokiadbkgmaaa
open Go.RowKit Go.MapKept
set_option linter.unusedVariables false

theorem Wide.wrk {R : RS} (h : Wide R) (a v k : Nat) : Wide (R.write a v k) := by
  induction k with
  | zero => exact h
  | succ k ih => exact (ih.wr _ _ (Nat.mod_lt _ (by decide))).1
theorem Wide.new (n : Nat) (h1 : 1 ≤ n) (h2 : n ≤ 256) : Wide (RS.new n) := ⟨RS.new_ok h1 h2, rfl⟩
theorem Wide.writes {R : RS} (h : Wide R) (at_ v : Nat → Nat) (k : Nat) : Wide (R.writes at_ v k) := by
  induction k with
  | zero => exact h
  | succ k ih => exact ih.wrk _ _ _
theorem Wide.romAt {R : RS} (h : Wide R) (n : Int) (x : Bool) : Wide (R.romAt n x) := by
  unfold RS.romAt
  split
  · exact ⟨⟨h.ok.p1, h.ok.p2, h.ok.b⟩, h.c⟩
  · exact h
theorem Wide.roms {R : RS} (h : Wide R) (o : Nat → Int) (k : Nat) : Wide (R.roms o k) := by
  induction k with
  | zero => exact h
  | succ k ih => exact ih.romAt _ _
theorem Wide.both (n : Int) (at_ v : Nat → Nat) (l : Nat) (o : Nat → Int) (k : Nat) : Wide (bothR n at_ v l o k) := by
  obtain ⟨h1, h2⟩ := bothPages_ok n
  exact ((Wide.new _ h1 (by omega)).writes at_ v l).roms o k
/-- A keeper t over the memory rb: its blocks H; its row of keys is no longer than n. -/
def Kp (w : World) (t rb places n cnt : Nat) (H : Nat → Prop) (R : RS) : Prop :=
  ∃ mb S ov all order, TlbIn w t rb mb S ov places cnt all order R ∧ order.length ≤ n ∧ ∀ k, H k ↔ THeld t mb S ov k
section
variable {w w' : World} {t rb places n cnt : Nat} {H : Nat → Prop} {R : RS}
theorem Kp.lt (h : Kp w t rb places n cnt H R) : ∀ k, H k → k < w.heap.size := by
  obtain ⟨mb, S, ov, all, order, T, _, hH⟩ := h
  exact fun k hk => T.lt ((hH k).1 hk)
theorem Kp.of_heap (h : Kp w t rb places n cnt H R) (e : ∀ k, H k → w'.heap[k]? = w.heap[k]?) : Kp w' t rb places n cnt H R := by
  obtain ⟨mb, S, ov, all, order, T, hl, hH⟩ := h
  exact ⟨mb, S, ov, all, order, T.of_heap fun k hk => e k ((hH k).2 hk), hl, hH⟩
theorem Kp.below (h : Kp w t rb places n cnt H R) (hb : Below w.heap.size w w') : Kp w' t rb places n cnt H R := h.of_heap fun k hk => hb.block k (h.lt k hk)
theorem Kp.alloc (h : Kp w t rb places n cnt H R) (o : Obj) : Kp (w.alloc o) t rb places n cnt H R := h.of_heap fun k hk => Below.heap_alloc _ _ _ (h.lt k hk)
theorem Kp.drewN (h : Kp w t rb places n cnt H R) (m : Nat) : Kp (w.drewN m) t rb places n cnt H R := h.of_heap fun _ _ => rfl
theorem Kp.more (h : Kp w t rb places n cnt H R) {n' : Nat} (hn : n ≤ n') : Kp w t rb places n' cnt H R := by
  obtain ⟨mb, S, ov, all, order, T, hl, hH⟩ := h
  exact ⟨mb, S, ov, all, order, T, Nat.le_trans hl hn, hH⟩
theorem Kp.wide (h : Kp w t rb places n cnt H R) : Wide R := by obtain ⟨mb, S, ov, all, order, T, hl, hH⟩ := h; exact T.wide
theorem Kp.c1 (h : Kp w t rb places n cnt H R) : cnt ≤ places := by obtain ⟨mb, S, ov, all, order, T, hl, hH⟩ := h; exact T.c1
/-- The memory alone; what is done to it moves the whole. -/
theorem Kp.ram (h : Kp w t rb places n cnt H R) : ∃ S, Ram w rb S R ∧ (∀ k, S k → H k) ∧ ∀ {w' : World} {S' : Nat → Prop} {R' : RS}, Ram w' rb S' R' → Moves S S' w w' → Wide R' → ∃ H', Kp w' t rb places n cnt H' R' ∧ Moves H H' w w' := by
  obtain ⟨mb, S, ov, all, order, T, hl, hH⟩ := h
  refine ⟨S, T.ram, fun k hk => (hH k).2 (.inr (.inr (.inr hk))), fun {w' S' R'} hR M hw => ⟨_, ⟨mb, S', ov, all, order, T.found hR M hw, hl, fun k => Iff.rfl⟩, M.1.mono fun k _ hk => (hH k).2 (.inr (.inr (.inr hk))), fun k hk => ?_⟩⟩
  rcases hk with h | h | h | h
  · exact .inl ((hH k).2 (.inl h))
  · exact .inl ((hH k).2 (.inr (.inl h)))
  · exact .inl ((hH k).2 (.inr (.inr (.inl h))))
  · rcases M.2 k h with h | h
    · exact .inl ((hH k).2 (.inr (.inr (.inr h))))
    · exact .inr h
theorem tl_find (h : Kp w t rb places n cnt H R) (c lin : Nat) (hc : c < 4294967296) (hl : lin < 4294967296) (wr us wp : Bool) (hn : (n + 1) * 12 ≤ 140737488355328) (x y : Int) (hx : x = (c : Int)) (hy : y = (lin : Int)) {fr pd pt : Nat} {xw xu : Bool} {cd : Int} {R' : RS} (hr : find R c lin wr us wp = (⟨fr, pd, pt, xw, xu⟩, cd, R')) :
    Calls Try.prog 47 #[.pointer (some ⟨t, 0, none⟩), .int .u32 x, .int .u32 y, .agg #[.bool wr, .bool us, .bool wp]] w fun e w' =>
      e = .returned (.tuple #[.agg #[.int .u32 (fr : Nat), .int .u32 (pd : Nat), .int .u32 (pt : Nat), .bool xw, .bool xu], .int .i64 cd, .int .i64 0]) ∧ ∃ cnt' H', Kp w' t rb places (n + 1) cnt' H' R' ∧ Moves H H' w w' := by
  obtain ⟨mb, S, ov, all, order, T, hlen, hH⟩ := h
  rw [hx, hy]
  refine (tfind T c lin hc hl wr us wp (by omega)).mono ?_
  rintro e w' ⟨he, S', ov', cnt', all', order', T', hl', K', N'⟩
  rw [hr] at he T'
  exact ⟨he, cnt', _, ⟨mb, S', ov', all', order', T', by omega, fun k => Iff.rfl⟩, K'.mono fun k _ hk => (hH k).2 hk, fun k hk => (N' k hk).imp (fun h => (hH k).2 h) id⟩
theorem tl_drop (h : Kp w t rb places n cnt H R) (lin : Nat) (hl : lin < 4294967296) (y : Int) (hy : y = (lin : Int)) : Calls Try.prog 42 #[.pointer (some ⟨t, 0, none⟩), .int .u32 y] w fun e w' =>
    e = .returned (.tuple #[]) ∧ ∃ cnt', cnt' ≤ cnt ∧ Kp w' t rb places n cnt' H R ∧ Moves H H w w' := by
  obtain ⟨mb, S, ov, all, order, T, hlen, hH⟩ := h
  rw [hy]
  refine (drop_any T lin hl).mono ?_
  rintro e w' ⟨he, cnt', all', T', hc, K'⟩
  exact ⟨he, cnt', hc, ⟨mb, S, ov, all', order, T', hlen, hH⟩, K'.mono fun k _ hk => (hH k).2 (.inr (.inl hk)), fun k hk => .inl hk⟩
theorem tl_flush (h : Kp w t rb places n cnt H R) : Calls Try.prog 41 #[.pointer (some ⟨t, 0, none⟩)] w fun e w' =>
    e = .returned (.tuple #[]) ∧ ∃ H', Kp w' t rb places n 0 H' R ∧ Moves H H' w w' := by
  obtain ⟨mb, S, ov, all, order, T, hlen, hH⟩ := h
  refine (flush_any T).mono ?_
  rintro e w' ⟨he, T', K'⟩
  refine ⟨he, _, ⟨mb, S, _, _, [], T', Nat.zero_le _, fun k => Iff.rfl⟩, K'.mono fun k _ hk => (hH k).2 (by rcases hk with h | h; exact .inl h; exact .inr (.inl h)), fun k hk => .inl ((hH k).2 ?_)⟩
  rcases hk with h | h | h | h
  · exact .inl h
  · exact .inr (.inl h)
  · cases h
  · exact .inr (.inr (.inr h))
theorem tl_new {b : Nat} {S : Nat → Prop} (h : Ram w b S R) (hw : Wide R) (m : Nat) (hm : m ≤ 64) (x : Int) (hx : x = (m : Int)) : Calls Try.prog 30 #[.pointer (some ⟨b, 0, none⟩), .int .i64 x] w fun e w' =>
    ∃ t H, e = .returned (.tuple #[.pointer (some ⟨t, 0, none⟩), .int .i64 0]) ∧ Kp w' t b m 0 0 H R ∧ Moves S H w w' ∧ Below w.heap.size w w' := by
  rw [hx]
  refine (tnew_any h hw m hm).mono ?_
  rintro e w' ⟨he, T', B'⟩
  refine ⟨_, _, he, ⟨_, S, _, _, [], T', Nat.le_refl _, fun k => Iff.rfl⟩, ⟨Keeps.ofBelow B', fun k hk => ?_⟩, B'⟩
  rcases hk with h | h | h | h
  · exact .inr (by omega)
  · exact .inr (by omega)
  · cases h
  · exact .inl h
/-- A word is written to the memory. -/
theorem tl_write (h : Kp w t rb places n cnt H R) (a v : Nat) (ha : a < 4294967296) (hv : v < 4294967296) (x y : Int) (hx : x = (a : Int)) (hy : y = (v : Int)) : Calls Try.prog 26 #[.pointer (some ⟨rb, 0, none⟩), .int .u32 x, .int .i64 4, .int .u32 y] w fun e w' =>
    e = .returned (.int .i64 0) ∧ ∃ H', Kp w' t rb places n cnt H' (R.write a v 4) ∧ Moves H H' w w' := by
  rw [hx, hy]
  have hW := h.wide
  obtain ⟨S, hR, _, f⟩ := h.ram
  refine (write_4 hR a v ha hv).mono ?_
  rintro e w' ⟨he, S', hR', M'⟩
  exact ⟨he, f hR' M' (hW.wrk a v 4)⟩
end
end Go.Proofs.Ytknokiadbkgmaaa
