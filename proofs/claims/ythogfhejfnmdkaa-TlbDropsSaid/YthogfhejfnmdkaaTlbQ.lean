/- TlbE, TlbF, TlbG, TlbH, TlbI, together. -/
import Derived.Test.YthogfhejfnmdkaaTlbC
import Derived.Test.YthogfhejfnmdkaaTlbD
import Derived.Test.YthogfhejfnmdkaaSep
import Derived.Test.YthogfhejfnmdkaaBoth
import Derived.Test.YthogfhejfnmdkaaPArgs
import Derived.Test.YthogfhejfnmdkaaPFArgs
import Derived.Test.YthogfhejfnmdkaaReach
import Derived.Test.YthogfhejfnmdkaaAlike0
import Derived.Test.YthogfhejfnmdkaaTri
import Derived.Test.YthogfhejfnmdkaaRFindZ
/- tlb: a keeper with its memory as one object; awake. -/
namespace Go.Proofs.Ythogfhejfnmdkaa
open Go.RowKit Go.MapKept
set_option linter.unusedVariables false

theorem Wide.wrk {R : RS} (h : Wide R) (a v k : Nat) : Wide (R.write a v k) := by
  induction k with
  | zero => exact h
  | succ k ih => exact (ih.wr _ _ (Nat.mod_lt _ (by decide))).1
theorem Wide.new (n : Nat) (h1 : 1 ≤ n) (h2 : n ≤ 256) : Wide (RS.new n) := ⟨RS.new_ok h1 h2, rfl⟩
theorem Wide.writes {R : RS} (h : Wide R) (at_ v : Nat → Nat) (k : Nat) : Wide (R.writes at_ v k) := by
  induction k with
  | zero => exact h
  | succ k ih => exact ih.wrk _ _ _
theorem Wide.romAt {R : RS} (h : Wide R) (n : Int) (x : Bool) : Wide (R.romAt n x) := by
  unfold RS.romAt
  split
  · exact ⟨⟨h.ok.p1, h.ok.p2, h.ok.b⟩, h.c⟩
  · exact h
theorem Wide.roms {R : RS} (h : Wide R) (o : Nat → Int) (k : Nat) : Wide (R.roms o k) := by
  induction k with
  | zero => exact h
  | succ k ih => exact ih.romAt _ _
theorem Wide.both (n : Int) (at_ v : Nat → Nat) (l : Nat) (o : Nat → Int) (k : Nat) : Wide (bothR n at_ v l o k) := by
  obtain ⟨h1, h2⟩ := bothPages_ok n
  exact ((Wide.new _ h1 (by omega)).writes at_ v l).roms o k
/-- A keeper t over the memory rb: its blocks H; its row of keys is no longer than n. -/
def Kp (w : World) (t rb places n cnt : Nat) (H : Nat → Prop) (R : RS) : Prop :=
  ∃ mb S ov all order, TlbIn w t rb mb S ov places cnt all order R ∧ order.length ≤ n ∧ ∀ k, H k ↔ THeld t mb S ov k
section
variable {w w' : World} {t rb places n cnt : Nat} {H : Nat → Prop} {R : RS}
theorem Kp.lt (h : Kp w t rb places n cnt H R) : ∀ k, H k → k < w.heap.size := by
  obtain ⟨mb, S, ov, all, order, T, _, hH⟩ := h
  exact fun k hk => T.lt ((hH k).1 hk)
theorem Kp.of_heap (h : Kp w t rb places n cnt H R) (e : ∀ k, H k → w'.heap[k]? = w.heap[k]?) : Kp w' t rb places n cnt H R := by
  obtain ⟨mb, S, ov, all, order, T, hl, hH⟩ := h
  exact ⟨mb, S, ov, all, order, T.of_heap fun k hk => e k ((hH k).2 hk), hl, hH⟩
theorem Kp.below (h : Kp w t rb places n cnt H R) (hb : Below w.heap.size w w') : Kp w' t rb places n cnt H R := h.of_heap fun k hk => hb.block k (h.lt k hk)
theorem Kp.alloc (h : Kp w t rb places n cnt H R) (o : Obj) : Kp (w.alloc o) t rb places n cnt H R := h.of_heap fun k hk => Below.heap_alloc _ _ _ (h.lt k hk)
theorem Kp.drewN (h : Kp w t rb places n cnt H R) (m : Nat) : Kp (w.drewN m) t rb places n cnt H R := h.of_heap fun _ _ => rfl
theorem Kp.more (h : Kp w t rb places n cnt H R) {n' : Nat} (hn : n ≤ n') : Kp w t rb places n' cnt H R := by
  obtain ⟨mb, S, ov, all, order, T, hl, hH⟩ := h
  exact ⟨mb, S, ov, all, order, T, Nat.le_trans hl hn, hH⟩
theorem Kp.wide (h : Kp w t rb places n cnt H R) : Wide R := by obtain ⟨mb, S, ov, all, order, T, hl, hH⟩ := h; exact T.wide
theorem Kp.c1 (h : Kp w t rb places n cnt H R) : cnt ≤ places := by obtain ⟨mb, S, ov, all, order, T, hl, hH⟩ := h; exact T.c1
/-- The memory alone; what is done to it moves the whole. -/
theorem Kp.ram (h : Kp w t rb places n cnt H R) : ∃ S, Ram w rb S R ∧ (∀ k, S k → H k) ∧ ∀ {w' : World} {S' : Nat → Prop} {R' : RS}, Ram w' rb S' R' → Moves S S' w w' → Wide R' → ∃ H', Kp w' t rb places n cnt H' R' ∧ Moves H H' w w' := by
  obtain ⟨mb, S, ov, all, order, T, hl, hH⟩ := h
  refine ⟨S, T.ram, fun k hk => (hH k).2 (.inr (.inr (.inr hk))), fun {w' S' R'} hR M hw => ⟨_, ⟨mb, S', ov, all, order, T.found hR M hw, hl, fun k => Iff.rfl⟩, M.1.mono fun k _ hk => (hH k).2 (.inr (.inr (.inr hk))), fun k hk => ?_⟩⟩
  rcases hk with h | h | h | h
  · exact .inl ((hH k).2 (.inl h))
  · exact .inl ((hH k).2 (.inr (.inl h)))
  · exact .inl ((hH k).2 (.inr (.inr (.inl h))))
  · rcases M.2 k h with h | h
    · exact .inl ((hH k).2 (.inr (.inr (.inr h))))
    · exact .inr h
theorem tl_find (h : Kp w t rb places n cnt H R) (c lin : Nat) (hc : c < 4294967296) (hl : lin < 4294967296) (wr us wp : Bool) (hn : (n + 1) * 12 ≤ 140737488355328) (x y : Int) (hx : x = (c : Int)) (hy : y = (lin : Int)) {fr pd pt : Nat} {xw xu : Bool} {cd : Int} {R' : RS} (hr : find R c lin wr us wp = (⟨fr, pd, pt, xw, xu⟩, cd, R')) :
    Calls Try.prog 13 #[.pointer (some ⟨t, 0, none⟩), .int .u32 x, .int .u32 y, .agg #[.bool wr, .bool us, .bool wp]] w fun e w' =>
      e = .returned (.tuple #[.agg #[.int .u32 (fr : Nat), .int .u32 (pd : Nat), .int .u32 (pt : Nat), .bool xw, .bool xu], .int .i64 cd, .int .i64 0]) ∧ ∃ cnt' H', Kp w' t rb places (n + 1) cnt' H' R' ∧ Moves H H' w w' := by
  obtain ⟨mb, S, ov, all, order, T, hlen, hH⟩ := h
  rw [hx, hy]
  refine (tfind T c lin hc hl wr us wp (by omega)).mono ?_
  rintro e w' ⟨he, S', ov', cnt', all', order', T', hl', K', N'⟩
  rw [hr] at he T'
  exact ⟨he, cnt', _, ⟨mb, S', ov', all', order', T', by omega, fun k => Iff.rfl⟩, K'.mono fun k _ hk => (hH k).2 hk, fun k hk => (N' k hk).imp (fun h => (hH k).2 h) id⟩
theorem tl_kept (h : Kp w t rb places n cnt H R) : Calls Try.prog 11 #[.pointer (some ⟨t, 0, none⟩)] w fun e w' => e = .returned (.int .i64 (cnt : Nat)) ∧ w = w' := by
  obtain ⟨mb, S, ov, all, order, T, hlen, hH⟩ := h
  exact kept_any T
theorem tl_drop (h : Kp w t rb places n cnt H R) (lin : Nat) (hl : lin < 4294967296) (y : Int) (hy : y = (lin : Int)) : Calls Try.prog 12 #[.pointer (some ⟨t, 0, none⟩), .int .u32 y] w fun e w' =>
    e = .returned (.tuple #[]) ∧ ∃ cnt', cnt' ≤ cnt ∧ Kp w' t rb places n cnt' H R ∧ Moves H H w w' := by
  obtain ⟨mb, S, ov, all, order, T, hlen, hH⟩ := h
  rw [hy]
  refine (drop_any T lin hl).mono ?_
  rintro e w' ⟨he, cnt', all', T', hc, K'⟩
  exact ⟨he, cnt', hc, ⟨mb, S, ov, all', order, T', hlen, hH⟩, K'.mono fun k _ hk => (hH k).2 (.inr (.inl hk)), fun k hk => .inl hk⟩
theorem tl_flush (h : Kp w t rb places n cnt H R) : Calls Try.prog 15 #[.pointer (some ⟨t, 0, none⟩)] w fun e w' =>
    e = .returned (.tuple #[]) ∧ ∃ H', Kp w' t rb places n 0 H' R ∧ Moves H H' w w' := by
  obtain ⟨mb, S, ov, all, order, T, hlen, hH⟩ := h
  refine (flush_any T).mono ?_
  rintro e w' ⟨he, T', K'⟩
  refine ⟨he, _, ⟨mb, S, _, _, [], T', Nat.zero_le _, fun k => Iff.rfl⟩, K'.mono fun k _ hk => (hH k).2 (by rcases hk with h | h; exact .inl h; exact .inr (.inl h)), fun k hk => .inl ((hH k).2 ?_)⟩
  rcases hk with h | h | h | h
  · exact .inl h
  · exact .inr (.inl h)
  · cases h
  · exact .inr (.inr (.inr h))
theorem tl_new {b : Nat} {S : Nat → Prop} (h : Ram w b S R) (hw : Wide R) (m : Nat) (hm : m ≤ 64) (x : Int) (hx : x = (m : Int)) : Calls Try.prog 10 #[.pointer (some ⟨b, 0, none⟩), .int .i64 x] w fun e w' =>
    ∃ t H, e = .returned (.tuple #[.pointer (some ⟨t, 0, none⟩), .int .i64 0]) ∧ Kp w' t b m 0 0 H R ∧ Moves S H w w' ∧ Below w.heap.size w w' := by
  rw [hx]
  refine (tnew_any h hw m hm).mono ?_
  rintro e w' ⟨he, T', B'⟩
  refine ⟨_, _, he, ⟨_, S, _, _, [], T', Nat.le_refl _, fun k => Iff.rfl⟩, ⟨Keeps.ofBelow B', fun k hk => ?_⟩, B'⟩
  rcases hk with h | h | h | h
  · exact .inr (by omega)
  · exact .inr (by omega)
  · cases h
  · exact .inl h
/-- A word is written to the memory. -/
theorem tl_write (h : Kp w t rb places n cnt H R) (a v : Nat) (ha : a < 4294967296) (hv : v < 4294967296) (x y : Int) (hx : x = (a : Int)) (hy : y = (v : Int)) : Calls Try.prog 16 #[.pointer (some ⟨rb, 0, none⟩), .int .u32 x, .int .i64 4, .int .u32 y] w fun e w' =>
    e = .returned (.int .i64 0) ∧ ∃ H', Kp w' t rb places n cnt H' (R.write a v 4) ∧ Moves H H' w w' := by
  rw [hx, hy]
  have hW := h.wide
  obtain ⟨S, hR, _, f⟩ := h.ram
  refine (write_4 hR a v ha hv).mono ?_
  rintro e w' ⟨he, S', hR', M'⟩
  exact ⟨he, f hR' M' (hW.wrk a v 4)⟩
end
end Go.Proofs.Ythogfhejfnmdkaa

/- tlb: awake. -/
namespace Go.Proofs.Ythogfhejfnmdkaa
open Go.RowKit Go.MapKept
set_option linter.unusedVariables false

def exAt (i : Nat) : Nat := if i = 0 then 4100 else 8200
def exV (i : Nat) : Nat := if i = 0 then 8199 else 20485
def exR0 : RS := bothR 16 exAt exV 2 (fun _ => 0) 0
def exR1 : RS := (find exR0 4096 4202787 false false false).2.2
def exR2 : RS := exR1.write 8200 24581 4
def exR3 : RS := (find exR2 4096 4202787 false false false).2.2
set_option maxRecDepth 100000 in
theorem ex_a : (find exR0 4096 4202787 false false false).1 = ⟨20480, 4100, 8200, false, true⟩ := by kernel_rfl
set_option maxRecDepth 100000 in
theorem ex_b : (find exR0 4096 4202787 false false false).2.1 = -1 := by kernel_rfl
set_option maxRecDepth 100000 in
theorem ex_c : (find exR2 4096 4202787 false false false).1 = ⟨24576, 4100, 8200, false, true⟩ := by kernel_rfl
set_option maxRecDepth 100000 in
theorem ex_d : (find exR2 4096 4202787 false false false).2.1 = -1 := by kernel_rfl
theorem triple {r : WalkR × Int × RS} {a : WalkR} {b : Int} (h1 : r.1 = a) (h2 : r.2.1 = b) : r = (a, b, r.2.2) := by
  obtain ⟨x, y, z⟩ := r
  simp only at h1 h2
  rw [h1, h2]
theorem ex_1 : find exR0 4096 4202787 false false false = (⟨20480, 4100, 8200, false, true⟩, -1, exR1) := triple ex_a ex_b
theorem ex_2 : find exR2 4096 4202787 false false false = (⟨24576, 4100, 8200, false, true⟩, -1, exR3) := triple ex_c ex_d
set_option maxRecDepth 20000 in
set_option maxHeartbeats 4000000 in
theorem awake_any (w : World) : Calls Try.prog 8 #[] w fun e w' => e = .returned (.bool true) ∧ Below w.heap.size w w' := by
  have E1 := Lib.hid ex_1
  have E2 := Lib.hid ex_2
  go_enter Try.func8, Try.ntmps8
  go_wp2_with fail
  have hB1 := (Below.refl w.heap.size w).alloc (Nat.le_refl _) (.cells #[.int .u32 4100, .int .u32 8199, .int .u32 8200, .int .u32 20485] 48)
  have h := heap_new w (.cells #[.int .u32 4100, .int .u32 8199, .int .u32 8200, .int .u32 20485] 48)
  have W1 : WordsAt (w.alloc (.cells #[.int .u32 4100, .int .u32 8199, .int .u32 8200, .int .u32 20485] 48)) w.heap.size 0 2 exAt exV := by
    refine ⟨?_, ?_, ?_, ?_, heap_lt h⟩
    · intro i hi
      rw [cell_at h]
      rcases (show i = 0 ∨ i = 1 by omega) with rfl | rfl <;> rfl
    · intro i hi
      rw [cell_at h]
      rcases (show i = 0 ∨ i = 1 by omega) with rfl | rfl <;> rfl
    · intro i _; unfold exAt; split <;> decide
    · intro i _; unfold exV; split <;> decide
  have HB1 := Lib.hid hB1
  have HW1 := Lib.hid W1
  obtain ⟨g0, hg0⟩ : ∃ g0, g0 = w.heap.size := ⟨_, rfl⟩
  rw [← hg0] at HW1 ⊢
  clear hB1 h W1 hg0
  generalize w.alloc (.cells #[.int .u32 4100, .int .u32 8199, .int .u32 8200, .int .u32 20485] 48) = w1 at *
  refine (both_any w1 16 (some ⟨g0, 0, .none⟩) 2 2 exAt exV (.inr ⟨_, _, rfl, HW1.out⟩) .none 0 0 (fun _ => 0) (.inl rfl) (by decide) (by decide)).mono ?_
  rintro e w2 ⟨b, S, b', S', rfl, T⟩
  have T : Two w1 w2 b S exR0 b' S' exR0 := T
  have HS := Lib.hid (show Sep w1 w2 S none_ none_ from ⟨fun _ _ h => h, fun _ h => h.elim, fun _ h => h.elim, T.l1, fun _ h => h.elim, fun _ h => h.elim, fun k h => T.m.lt h, fun _ h => h.elim, fun _ h => h.elim, T.B⟩)
  have HM := Lib.hid T.m
  clear T
  go_wp2_with fail
  refine (tl_new HM.out (Wide.both _ _ _ _ _ _) 2 (by decide) 2 rfl).mono ?_
  rintro e w3 ⟨t, H, rfl, hT, hM, hb⟩
  have HS3 := Lib.hid (HS.out.move hM hT.lt)
  have HT := Lib.hid hT
  clear hT hM hb
  go_wp2_with fail
  refine (tnew_bad w3 ⟨b, 0, none⟩ 65 (by decide)).mono ?_
  rintro e w4 ⟨rfl, rfl⟩
  go_wp2_with fail
  refine (tl_find HT.out 4096 4202787 (by decide) (by decide) false false false (by decide) _ _ rfl rfl E1.out).mono ?_
  rintro e w4 ⟨rfl, cnt4, H4, hT, hM⟩
  have HS4 := Lib.hid (HS3.out.move hM hT.lt)
  have HT4 := Lib.hid hT
  clear hT hM
  go_upto_region 7 with (fail)
  have hx := heap_new w4 (.cells #[.int .u32 20480, .int .u32 4100, .int .u32 8200, .bool false, .bool true] 38)
  have HT5 := Lib.hid (HT4.out.alloc (.cells #[.int .u32 20480, .int .u32 4100, .int .u32 8200, .bool false, .bool true] 38))
  have hg : ¬ H4 w4.heap.size := fun h => by have := HT4.out.lt _ h; omega
  have HS5 := Lib.hid (HS4.out.below ((Below.refl w4.heap.size w4).alloc (Nat.le_refl _) (.cells #[.int .u32 20480, .int .u32 4100, .int .u32 8200, .bool false, .bool true] 38)))
  generalize hW : w4.alloc (.cells #[.int .u32 20480, .int .u32 4100, .int .u32 8200, .bool false, .bool true] 38) = w5 at *
  generalize hG : w4.heap.size = gx at *
  have HX := Lib.hid hx
  have HGX := Lib.hid hg
  clear hW hG HT4 HS4 hx hg
  go_wp2_with fail
  refine (tl_write HT5.out 8200 24581 (by decide) (by decide) _ _ rfl rfl).mono ?_
  rintro e w6 ⟨rfl, H6, hT, hM⟩
  have HS6 := Lib.hid (HS5.out.move hM hT.lt)
  have HX6 := Lib.hid ((hM.1.block gx (heap_lt HX.out) HGX.out).trans HX.out)
  have HG6 := Lib.hid (show ¬ H6 gx from fun h => by rcases hM.2 gx h with h | h; exact HGX.out h; have := heap_lt HX.out; omega)
  have HT6 := Lib.hid hT
  clear hT hM HT5 HS5 HX HGX
  go_wp2_with fail
  refine (tl_find HT6.out 4096 4202787 (by decide) (by decide) false false false (by decide) _ _ rfl rfl E2.out).mono ?_
  rintro e w7 ⟨rfl, cnt7, H7, hT, hM⟩
  have HS7 := Lib.hid (HS6.out.move hM hT.lt)
  have hX7 := (hM.1.block gx (heap_lt HX6.out) HG6.out).trans HX6.out
  have x0 := cell_at (k := 0) hX7
  have xl := heap_lt hX7
  simp at x0
  clear hT hM hX7
  go_wp2_with fail
  go_ret
  exact ⟨rfl, step_below (step_below HB1.out HS7.out.B (Nat.le_refl _)) (by repeat' (first | (with_reducible exact Below.refl _ _) | (with_reducible refine Below.setCell ?_ (by first | (simp; done) | (simp; omega)) _) | (with_reducible refine below_dn ?_ _) | (with_reducible refine Below.alloc ?_ (by first | (simp; done) | (simp; omega)) _))) (Nat.le_refl _)⟩
end Go.Proofs.Ythogfhejfnmdkaa

/- tlb: scripts that came in; what a walk left in a box of its own. -/
namespace Go.Proofs.Ythogfhejfnmdkaa
open Go.RowKit Go.WideShapes Go.ChangeShapes
set_option linter.unusedVariables false

structure OpsAt (w : World) (b off len : Nat) (ki : Nat → Int) (cr lin : Nat → Nat) (wr us wp : Nat → Bool) (at_ v : Nat → Nat) : Prop where
  c0 : ∀ i, i < len → w.cell? ⟨b, off + i * 8, none⟩ = some (.int .i64 (ki i))
  c1 : ∀ i, i < len → w.cell? ⟨b, off + i * 8 + 1, none⟩ = some (.int .u32 (cr i : Nat))
  c2 : ∀ i, i < len → w.cell? ⟨b, off + i * 8 + 2, none⟩ = some (.int .u32 (lin i : Nat))
  c3 : ∀ i, i < len → w.cell? ⟨b, off + i * 8 + 3, none⟩ = some (.bool (wr i))
  c4 : ∀ i, i < len → w.cell? ⟨b, off + i * 8 + 4, none⟩ = some (.bool (us i))
  c5 : ∀ i, i < len → w.cell? ⟨b, off + i * 8 + 5, none⟩ = some (.bool (wp i))
  c6 : ∀ i, i < len → w.cell? ⟨b, off + i * 8 + 6, none⟩ = some (.int .u32 (at_ i : Nat))
  c7 : ∀ i, i < len → w.cell? ⟨b, off + i * 8 + 7, none⟩ = some (.int .u32 (v i : Nat))
  u1 : ∀ i, i < len → cr i < 4294967296
  u2 : ∀ i, i < len → lin i < 4294967296
  u6 : ∀ i, i < len → at_ i < 4294967296
  u7 : ∀ i, i < len → v i < 4294967296
  hb : b < w.heap.size
theorem OpsAt.below {w w1 : World} {b off len : Nat} {ki : Nat → Int} {cr lin : Nat → Nat} {wr us wp : Nat → Bool} {at_ v : Nat → Nat} (h : OpsAt w b off len ki cr lin wr us wp at_ v) (hb : Below w.heap.size w w1) : OpsAt w1 b off len ki cr lin wr us wp at_ v :=
  ⟨fun i hi => (hb.cell h.hb).trans (h.c0 i hi), fun i hi => (hb.cell h.hb).trans (h.c1 i hi), fun i hi => (hb.cell h.hb).trans (h.c2 i hi), fun i hi => (hb.cell h.hb).trans (h.c3 i hi), fun i hi => (hb.cell h.hb).trans (h.c4 i hi), fun i hi => (hb.cell h.hb).trans (h.c5 i hi), fun i hi => (hb.cell h.hb).trans (h.c6 i hi), fun i hi => (hb.cell h.hb).trans (h.c7 i hi), h.u1, h.u2, h.u6, h.u7, Nat.lt_of_lt_of_le h.hb hb.size⟩
def OpsIn (w : World) (a : Option Addr) (len : Nat) (ki : Nat → Int) (cr lin : Nat → Nat) (wr us wp : Nat → Bool) (at_ v : Nat → Nat) : Prop := len = 0 ∨ ∃ b off, a = some ⟨b, off, none⟩ ∧ OpsAt w b off len ki cr lin wr us wp at_ v
theorem OpsIn.below {w w1 : World} {a : Option Addr} {len : Nat} {ki : Nat → Int} {cr lin : Nat → Nat} {wr us wp : Nat → Bool} {at_ v : Nat → Nat} (h : OpsIn w a len ki cr lin wr us wp at_ v) (hb : Below w.heap.size w w1) : OpsIn w1 a len ki cr lin wr us wp at_ v := by
  rcases h with h | ⟨b, off, e, h⟩
  · exact .inl h
  · exact .inr ⟨b, off, e, h.below hb⟩
set_option maxRecDepth 20000 in
theorem arg_ops {H : Type} {enc : TypeId × Value → H} {w : World} {r : Reach} {base base' : Nat} {spare : Nat → Bool} {held : Bool} {v : Value} {d : DataW H} {ps : List MemPlace}
    (h : Value.okWide Try.prog w r base 52 v) (hd : DataW.Trod enc Try.prog w base' spare held 52 v d ps) :
    ∃ a len cap ki cr lin wr us wp at_ x, v = .slice a len cap ∧ len ≤ 9223372036854775807 ∧ OpsIn w a len ki cr lin wr us wp at_ x := by
  have hC : Try.prog.cellsOf 50 = 8 := by kernel_rfl
  have h1 : Try.prog.cellsOf 36 = 1 := by kernel_rfl
  have hI : Try.prog.cellsOf 3 = 1 := by kernel_rfl
  have h3 : Try.prog.cellsOf 42 = 3 := by kernel_rfl
  have h5 : Try.prog.cellsOf 44 = 5 := by kernel_rfl
  have h2 : Try.prog.cellsOf 48 = 2 := by kernel_rfl
  have hB : Try.prog.cellsOf 4 = 1 := by kernel_rfl
  obtain ⟨a, len, cap, rfl, hl, h0 | ⟨b, off, rfl, hb, hrow⟩⟩ := arg_rows (enc := enc) Try.underlying52 (by rw [hC]; decide) h hd
  · exact ⟨a, len, cap, fun _ => 0, fun _ => 0, fun _ => 0, fun _ => false, fun _ => false, fun _ => false, fun _ => 0, fun _ => 0, rfl, hl, .inl h0⟩
  · have key : ∀ i, i < len → ∃ (k p q : Int) (x y z : Bool) (s t : Int), w.cell? ⟨b, off + i * 8, none⟩ = some (.int .i64 k) ∧ w.cell? ⟨b, off + i * 8 + 1, none⟩ = some (.int .u32 p) ∧ w.cell? ⟨b, off + i * 8 + 2, none⟩ = some (.int .u32 q) ∧ w.cell? ⟨b, off + i * 8 + 3, none⟩ = some (.bool x) ∧
        w.cell? ⟨b, off + i * 8 + 4, none⟩ = some (.bool y) ∧ w.cell? ⟨b, off + i * 8 + 5, none⟩ = some (.bool z) ∧ w.cell? ⟨b, off + i * 8 + 6, none⟩ = some (.int .u32 s) ∧ w.cell? ⟨b, off + i * 8 + 7, none⟩ = some (.int .u32 t) ∧ (0 ≤ p ∧ p < 4294967296) ∧ (0 ≤ q ∧ q < 4294967296) ∧ (0 ≤ s ∧ s < 4294967296) ∧ 0 ≤ t ∧ t < 4294967296 := by
      intro i hi
      obtain ⟨cs, y, n, hcl, hat, hy⟩ := hrow i hi
      rw [hC] at hcl hat
      obtain ⟨y0, y1, y2, m, _, _, g0, g1, g2⟩ := trod_struct3 Try.underlying50 hy
      match cs, hcl with
      | [c0, c1, c2, c3, c4, c5, c6, c7], _ =>
        simp only [hI, h5, h2] at g0 g1 g2
        obtain ⟨k, e0, _, _⟩ := DataW.trod_int Try.underlying3 g0
        obtain ⟨a0', a1', a2', m1, _, _, f0, f1, f2⟩ := trod_struct3 Try.underlying44 g1
        simp only [h1, h3] at f0 f1 f2
        obtain ⟨p, e1, _, wp⟩ := DataW.trod_int Try.underlying36 f0
        obtain ⟨q, e2, _, wq⟩ := DataW.trod_int Try.underlying36 f1
        obtain ⟨z0, z1, z2, m2, _, _, k0, k1, k2⟩ := trod_struct3 Try.underlying42 f2
        simp only [hB] at k0 k1 k2
        obtain ⟨x0, e3, _⟩ := DataW.trod_bool Try.underlying4 k0
        obtain ⟨x1, e4, _⟩ := DataW.trod_bool Try.underlying4 k1
        obtain ⟨x2, e5, _⟩ := DataW.trod_bool Try.underlying4 k2
        obtain ⟨b0', b1', m3, _, _, j0, j1⟩ := trod_struct2 Try.underlying48 g2
        simp only [h1] at j0 j1
        obtain ⟨s, e6, _, ws⟩ := DataW.trod_int Try.underlying36 j0
        obtain ⟨t, e7, _, wt⟩ := DataW.trod_int Try.underlying36 j1
        have a0 := hat 0 (by decide)
        have a1 := hat 1 (by decide)
        have a2 := hat 2 (by decide)
        have a3 := hat 3 (by decide)
        have a4 := hat 4 (by decide)
        have a5 := hat 5 (by decide)
        have a6 := hat 6 (by decide)
        have a7 := hat 7 (by decide)
        simp at e0 e1 e2 e3 e4 e5 e6 e7 a0 a1 a2 a3 a4 a5 a6 a7
        subst e0 e1 e2 e3 e4 e5 e6 e7
        simp only [Nat.add_assoc]
        exact ⟨k, p, q, x0, x1, x2, s, t, a0, a1, a2, a3, a4, a5, a6, a7, wf_u32 wp, wf_u32 wq, wf_u32 ws, (wf_u32 wt).1, (wf_u32 wt).2⟩
    refine ⟨_, len, cap, fun i => numAt w b (off + i * 8), fun i => (numAt w b (off + i * 8 + 1)).toNat, fun i => (numAt w b (off + i * 8 + 2)).toNat, fun i => boolAt w b (off + i * 8 + 3), fun i => boolAt w b (off + i * 8 + 4), fun i => boolAt w b (off + i * 8 + 5), fun i => (numAt w b (off + i * 8 + 6)).toNat, fun i => (numAt w b (off + i * 8 + 7)).toNat, rfl, hl,
      .inr ⟨b, off, rfl, ?_, ?_, ?_, ?_, ?_, ?_, ?_, ?_, ?_, ?_, ?_, ?_, hb⟩⟩
    all_goals
      intro i hi
      obtain ⟨k, p, q, x, y, z, s, t, a0, a1, a2, a3, a4, a5, a6, a7, p0, q0, s0, t0, t1⟩ := key i hi
    · rw [a0, numAt_of a0]
    · rw [a1, numAt_of a1]; congr 2; omega
    · rw [a2, numAt_of a2]; congr 2; omega
    · rw [a3, boolAt_of a3]
    · rw [a4, boolAt_of a4]
    · rw [a5, boolAt_of a5]
    · rw [a6, numAt_of a6]; congr 2; omega
    · rw [a7, numAt_of a7]; congr 2; omega
    · rw [numAt_of a1]; omega
    · rw [numAt_of a2]; omega
    · rw [numAt_of a6]; omega
    · rw [numAt_of a7]; omega
/-- The words that came in, behind other calls. -/
theorem words_below {w w1 : World} {a : Option Addr} {len : Nat} {at_ v : Nat → Nat} (h : WordsIn w a len at_ v) (hb : Below w.heap.size w w1) : WordsIn w1 a len at_ v := by
  rcases h with h | ⟨b, off, e, h⟩
  · exact .inl h
  · exact .inr ⟨b, off, e, h.below hb⟩
/-- A memory, as an object. -/
theorem Ram.same {w w' : World} {b : Nat} {S : Nat → Prop} {R : RS} (H : Ram w b S R) (h : ∀ k, S k → w'.heap[k]? = w.heap[k]?) : Ram w' b S R := H.of_heap h
theorem ram_find {w : World} {b : Nat} {S : Nat → Prop} {R : RS} (H : Ram w b S R) (c lin : Nat) (hc : c < 4294967296) (hl : lin < 4294967296) (wr us wp : Bool) (x y : Int) (hx : x = (c : Int)) (hy : y = (lin : Int)) {fr pd pt : Nat} {xw xu : Bool} {cd : Int} {R' : RS}
    (hr : find R c lin wr us wp = (⟨fr, pd, pt, xw, xu⟩, cd, R')) :
    Calls Try.prog 14 #[.pointer (some ⟨b, 0, .none⟩), .int .u32 x, .int .u32 y, .agg #[.bool wr, .bool us, .bool wp]] w fun e w' =>
      e = .returned (.tuple #[.agg #[.int .u32 (fr : Nat), .int .u32 (pd : Nat), .int .u32 (pt : Nat), .bool xw, .bool xu], .int .i64 cd, .int .i64 0]) ∧ ∃ S', Ram w' b S' R' ∧ Moves S S' w w' := by
  rw [hx, hy]
  refine (find_any H c lin hc hl wr us wp).mono ?_
  rintro e w' ⟨he, S', H', M'⟩
  rw [hr] at he H'
  exact ⟨he, S', H', M'⟩
theorem ram_write {w : World} {b : Nat} {S : Nat → Prop} {R : RS} (H : Ram w b S R) (a v : Nat) (ha : a < 4294967296) (hv : v < 4294967296) (x y : Int) (hx : x = (a : Int)) (hy : y = (v : Int)) : Calls Try.prog 16 #[.pointer (some ⟨b, 0, none⟩), .int .u32 x, .int .i64 4, .int .u32 y] w fun e w' =>
    e = .returned (.int .i64 0) ∧ ∃ S', Ram w' b S' (R.write a v 4) ∧ Moves S S' w w' := by
  rw [hx, hy]
  exact write_4 H a v ha hv
end Go.Proofs.Ythogfhejfnmdkaa

/- tlb: a keeper, a memory, the document's memory, as objects side by side. -/
namespace Go.Proofs.Ythogfhejfnmdkaa
open Go.RowKit
set_option linter.unusedVariables false

/-- A keeper over a memory, of so many places, whose row of keys is no longer than n. -/
def KpP (t rb places n : Nat) (R : RS) : World → (Nat → Prop) → Prop := fun w H => ∃ cnt, Kp w t rb places n cnt H R
def RamP (b : Nat) (R : RS) : World → (Nat → Prop) → Prop := fun w S => Ram w b S R
def RefP (b : Nat) (R : RS) : World → (Nat → Prop) → Prop := fun w S => Ref w b S R
theorem KpP.local (t rb places n : Nat) (R : RS) : Local (KpP t rb places n R) := fun w w' H ⟨c, h⟩ e => ⟨c, h.of_heap e⟩
theorem RamP.local (b : Nat) (R : RS) : Local (RamP b R) := fun w w' S h e => Ram.of_heap h e
theorem RefP.local (b : Nat) (R : RS) : Local (RefP b R) := fun w w' S h e => by
  obtain ⟨g0, g1, g2, g3, I, hS⟩ := h
  exact ⟨g0, g1, g2, g3, I.of_heap fun k hk => e k ((hS k).2 hk), hS⟩
section
variable {w0 w wF : World} {PB PC : World → (Nat → Prop) → Prop} {F : Nat → Prop} {t rb places n b : Nat} {R : RS}
theorem tri_find (T : Tri w0 w (KpP t rb places n R) PB PC F wF) (LB : Local PB) (LC : Local PC) (c lin : Nat) (hc : c < 4294967296) (hl : lin < 4294967296) (wr us wp : Bool) (hn : (n + 1) * 12 ≤ 140737488355328) (x y : Int) (hx : x = (c : Int)) (hy : y = (lin : Int)) {fr pd pt : Nat} {xw xu : Bool} {cd : Int} {R' : RS} (hr : find R c lin wr us wp = (⟨fr, pd, pt, xw, xu⟩, cd, R')) :
    Calls Try.prog 13 #[.pointer (some ⟨t, 0, none⟩), .int .u32 x, .int .u32 y, .agg #[.bool wr, .bool us, .bool wp]] w fun e w' =>
      e = .returned (.tuple #[.agg #[.int .u32 (fr : Nat), .int .u32 (pd : Nat), .int .u32 (pt : Nat), .bool xw, .bool xu], .int .i64 cd, .int .i64 0]) ∧ Tri w0 w' (KpP t rb places (n + 1) R') PB PC F wF := by
  refine T.call LB LC fun A ⟨cnt, a⟩ => (tl_find a c lin hc hl wr us wp hn x y hx hy hr).mono ?_
  rintro e w' ⟨he, cnt', H', hT, hM⟩
  exact ⟨he, H', ⟨cnt', hT⟩, hM, hT.lt⟩
theorem tri_write (T : Tri w0 w (KpP t rb places n R) PB PC F wF) (LB : Local PB) (LC : Local PC) (a v : Nat) (ha : a < 4294967296) (hv : v < 4294967296) (x y : Int) (hx : x = (a : Int)) (hy : y = (v : Int)) :
    Calls Try.prog 16 #[.pointer (some ⟨rb, 0, none⟩), .int .u32 x, .int .i64 4, .int .u32 y] w fun e w' => e = .returned (.int .i64 0) ∧ Tri w0 w' (KpP t rb places n (R.write a v 4)) PB PC F wF := by
  refine T.call LB LC fun A ⟨cnt, h⟩ => (tl_write h a v ha hv x y hx hy).mono ?_
  rintro e w' ⟨he, H', hT, hM⟩
  exact ⟨he, H', ⟨_, hT⟩, hM, hT.lt⟩
theorem tri_rfind (T : Tri w0 w (RamP b R) PB PC F wF) (LB : Local PB) (LC : Local PC) (c lin : Nat) (hc : c < 4294967296) (hl : lin < 4294967296) (wr us wp : Bool) (x y : Int) (hx : x = (c : Int)) (hy : y = (lin : Int)) {fr pd pt : Nat} {xw xu : Bool} {cd : Int} {R' : RS} (hr : find R c lin wr us wp = (⟨fr, pd, pt, xw, xu⟩, cd, R')) :
    Calls Try.prog 14 #[.pointer (some ⟨b, 0, .none⟩), .int .u32 x, .int .u32 y, .agg #[.bool wr, .bool us, .bool wp]] w fun e w' =>
      e = .returned (.tuple #[.agg #[.int .u32 (fr : Nat), .int .u32 (pd : Nat), .int .u32 (pt : Nat), .bool xw, .bool xu], .int .i64 cd, .int .i64 0]) ∧ Tri w0 w' (RamP b R') PB PC F wF := by
  refine T.call LB LC fun A a => (ram_find a c lin hc hl wr us wp x y hx hy hr).mono ?_
  rintro e w' ⟨he, S', hR, hM⟩
  exact ⟨he, S', hR, hM, fun k h => hR.lt h⟩
theorem tri_rwrite (T : Tri w0 w (RamP b R) PB PC F wF) (LB : Local PB) (LC : Local PC) (a v : Nat) (ha : a < 4294967296) (hv : v < 4294967296) (x y : Int) (hx : x = (a : Int)) (hy : y = (v : Int)) :
    Calls Try.prog 16 #[.pointer (some ⟨b, 0, none⟩), .int .u32 x, .int .i64 4, .int .u32 y] w fun e w' => e = .returned (.int .i64 0) ∧ Tri w0 w' (RamP b (R.write a v 4)) PB PC F wF := by
  refine T.call LB LC fun A h => (ram_write h a v ha hv x y hx hy).mono ?_
  rintro e w' ⟨he, S', hR, hM⟩
  exact ⟨he, S', hR, hM, fun k h => hR.lt h⟩
theorem tri_new (T : Tri w0 w (RamP b R) PB PC F wF) (LB : Local PB) (LC : Local PC) (hw : Wide R) (m : Nat) (hm : m ≤ 64) (x : Int) (hx : x = (m : Int)) : Calls Try.prog 10 #[.pointer (some ⟨b, 0, none⟩), .int .i64 x] w fun e w' =>
    ∃ t, e = .returned (.tuple #[.pointer (some ⟨t, 0, none⟩), .int .i64 0]) ∧ Tri w0 w' (fun w H => Kp w t b m 0 0 H R) PB PC F wF := by
  obtain ⟨A, B, C, s, a, bb, c, g⟩ := T
  refine (tl_new a hw m hm x hx).mono ?_
  rintro e w' ⟨t, H, he, hT, M, hb⟩
  refine ⟨t, he, H, B, C, s.move M hT.lt, hT, LB _ _ _ bb fun k h => s.same_b M h, LC _ _ _ c fun k h => s.same_c M h, fun k h => ?_⟩
  obtain ⟨h1, h2, h3, h4, h6, h5⟩ := g k h
  refine ⟨Nat.lt_of_lt_of_le h1 M.1.size, fun h => ?_, h3, h4, h6, (M.1.block k h1 h2).trans h5⟩
  rcases M.2 k h with h | h
  · exact h2 h
  · omega
theorem Tri.weak {PA PA' PB PC : World → (Nat → Prop) → Prop} (T : Tri w0 w PA PB PC F wF) (h : ∀ A, PA w A → PA' w A) : Tri w0 w PA' PB PC F wF := by
  obtain ⟨A, B, C, s, a, b, c, f⟩ := T
  exact ⟨A, B, C, s, h A a, b, c, f⟩
/-- Both's memory comes as a first object; its twin is forgotten, or kept. -/
theorem tri_both {b' : Nat} {S S' : Nat → Prop} {w' : World} (T : Tri w0 w Nothing PB PC F wF) (LB : Local PB) (LC : Local PC) (h : Two w w' b S R b' S' R) : Tri w0 w' (RamP b R) PB PC F wF :=
  T.new LB LC h.B h.m fun k hk => ⟨h.l1 k hk, h.m.lt hk⟩
theorem KpP.more {A : Nat → Prop} (h : KpP t rb places n R w A) {n' : Nat} (hn : n ≤ n') : KpP t rb places n' R w A := by
  obtain ⟨c, h⟩ := h
  exact ⟨c, h.more hn⟩
theorem KpP.hasRam {A : Nat → Prop} (h : KpP t rb places n R w A) : ∃ S, Ram w rb S R := by
  obtain ⟨c, h⟩ := h
  obtain ⟨S, hS, _⟩ := h.ram
  exact ⟨S, hS⟩
theorem KpP.kept {A : Nat → Prop} (h : KpP t rb places n R w A) : Calls Try.prog 11 #[.pointer (some ⟨t, 0, none⟩)] w fun e w' => ∃ c : Nat, e = .returned (.int .i64 (c : Nat)) ∧ c ≤ places ∧ w = w' := by
  obtain ⟨c, h⟩ := h
  refine (tl_kept h).mono ?_
  rintro e w' ⟨he, hw⟩
  exact ⟨c, he, h.c1, hw⟩
end
/-- The whole memory as a string. -/
theorem dump_str {w : World} {b : Nat} {S : Nat → Prop} {R : RS} (H : Ram w b S R) (x : Int) (hx : x = (R.size : Nat)) : Calls Try.prog 17 #[.pointer (some ⟨b, 0, .none⟩), .int .u32 0, .int .i64 x] w fun e w' =>
    ∃ g, e = .returned (.slice (some ⟨g, 0, .none⟩) R.size R.size) ∧ (∀ w2 : World, w2.heap[g]? = w'.heap[g]? → (convert 54 9 (.slice (some ⟨g, 0, .none⟩) R.size R.size)).run Try.prog w2 = .ok (.string (strOf R.size R.byte)) w2) ∧ g < w'.heap.size ∧ Below w.heap.size w w' := by
  have hs := RS.size_pos H.isok
  have hs2 := RS.size_le H.isok
  rw [hx]
  refine (dump_any H 0 R.size (by decide) (by omega) (by omega)).mono ?_
  rintro e w' ⟨g, rfl, hg, hcl, hb⟩
  refine ⟨g, rfl, fun w2 h2 => ?_, heap_lt hcl, hb⟩
  have h3 := conv_bytes (w := w2) (g := g) (n := R.size) (cap := R.size) (f := fun i => R.get (at32 0 i)) (by rw [h2]; exact hcl)
  rw [h3, strOf_congr (fun i hi => get_byte H.isok i hi)]
end Go.Proofs.Ythogfhejfnmdkaa

/- tlb: the document's memory beside a keeper; what else is asked of a keeper. -/
namespace Go.Proofs.Ythogfhejfnmdkaa
open Go.RowKit
set_option linter.unusedVariables false
section
variable {w0 w wF : World} {PB PC : World → (Nat → Prop) → Prop} {F : Nat → Prop} {t rb places n b : Nat} {R : RS}
theorem ref_find {S : Nat → Prop} (H : Ref w b S R) (c lin : Nat) (hc : c < 4294967296) (hl : lin < 4294967296) (wr us wp : Bool) (x y : Int) (hx : x = (c : Int)) (hy : y = (lin : Int)) {fr pd pt : Nat} {xw xu : Bool} {cd : Int} {R' : RS} (hr : find R c lin wr us wp = (⟨fr, pd, pt, xw, xu⟩, cd, R')) :
    Calls Try.prog 19 #[.pointer (some ⟨b, 0, .none⟩), .int .u32 x, .int .u32 y, .agg #[.bool wr, .bool us, .bool wp]] w fun e w' =>
      e = .returned (.tuple #[.agg #[.int .u32 (fr : Nat), .int .u32 (pd : Nat), .int .u32 (pt : Nat), .bool xw, .bool xu], .int .i64 cd]) ∧ Ref w' b S R' ∧ Keeps S w w' := by
  rw [hx, hy]; exact rfind_r H c lin hc hl wr us wp hr
theorem tri_reffind (T : Tri w0 w (RefP b R) PB PC F wF) (LB : Local PB) (LC : Local PC) (c lin : Nat) (hc : c < 4294967296) (hl : lin < 4294967296) (wr us wp : Bool) (x y : Int) (hx : x = (c : Int)) (hy : y = (lin : Int)) {fr pd pt : Nat} {xw xu : Bool} {cd : Int} {R' : RS} (hr : find R c lin wr us wp = (⟨fr, pd, pt, xw, xu⟩, cd, R')) :
    Calls Try.prog 19 #[.pointer (some ⟨b, 0, .none⟩), .int .u32 x, .int .u32 y, .agg #[.bool wr, .bool us, .bool wp]] w fun e w' =>
      e = .returned (.tuple #[.agg #[.int .u32 (fr : Nat), .int .u32 (pd : Nat), .int .u32 (pt : Nat), .bool xw, .bool xu], .int .i64 cd]) ∧ Tri w0 w' (RefP b R') PB PC F wF := by
  refine T.call LB LC fun A a => (ref_find a c lin hc hl wr us wp x y hx hy hr).mono ?_
  rintro e w' ⟨he, hR, hK⟩
  exact ⟨he, A, hR, ⟨hK, fun k h => .inl h⟩, fun k h => hR.lt h⟩
theorem tri_refwrite (T : Tri w0 w (RefP b R) PB PC F wF) (LB : Local PB) (LC : Local PC) (a v : Nat) (ha : a < 4294967296) (hv : v < 4294967296) (x y : Int) (hx : x = (a : Int)) (hy : y = (v : Int)) :
    Calls Try.prog 20 #[.pointer (some ⟨b, 0, none⟩), .int .u32 x, .int .i64 4, .int .u32 y] w fun e w' => e = .returned (.int .i64 0) ∧ Tri w0 w' (RefP b (R.write a v 4)) PB PC F wF := by
  rw [hx, hy]
  refine T.call LB LC fun A h => (rwrite_4 h a v ha hv).mono ?_
  rintro e w' ⟨he, hR, hK⟩
  exact ⟨he, A, hR, ⟨hK, fun k h => .inl h⟩, fun k h => hR.lt h⟩
theorem tri_flush (T : Tri w0 w (KpP t rb places n R) PB PC F wF) (LB : Local PB) (LC : Local PC) : Calls Try.prog 15 #[.pointer (some ⟨t, 0, none⟩)] w fun e w' => e = .returned (.tuple #[]) ∧ Tri w0 w' (fun w H => Kp w t rb places n 0 H R) PB PC F wF := by
  refine T.call LB LC fun A ⟨cnt, h⟩ => (tl_flush h).mono ?_
  rintro e w' ⟨he, H', hT, hM⟩
  exact ⟨he, H', hT, hM, hT.lt⟩
theorem tri_drop (T : Tri w0 w (KpP t rb places n R) PB PC F wF) (LB : Local PB) (LC : Local PC) (lin : Nat) (hl : lin < 4294967296) (y : Int) (hy : y = (lin : Int)) : Calls Try.prog 12 #[.pointer (some ⟨t, 0, none⟩), .int .u32 y] w fun e w' => e = .returned (.tuple #[]) ∧ Tri w0 w' (KpP t rb places n R) PB PC F wF := by
  refine T.call LB LC fun A ⟨cnt, h⟩ => (tl_drop h lin hl y hy).mono ?_
  rintro e w' ⟨he, cnt', _, hT, hM⟩
  exact ⟨he, A, ⟨cnt', hT⟩, hM, hT.lt⟩
/-- The same, where it is known how many are kept. -/
theorem tri_dropc {cnt : Nat} (T : Tri w0 w (fun w H => Kp w t rb places n cnt H R) PB PC F wF) (LB : Local PB) (LC : Local PC) (lin : Nat) (hl : lin < 4294967296) (y : Int) (hy : y = (lin : Int)) : Calls Try.prog 12 #[.pointer (some ⟨t, 0, none⟩), .int .u32 y] w fun e w' =>
    e = .returned (.tuple #[]) ∧ ∃ cnt', cnt' ≤ cnt ∧ Tri w0 w' (fun w H => Kp w t rb places n cnt' H R) PB PC F wF := by
  obtain ⟨A, B, C, s, a, bb, c, g⟩ := T
  refine (tl_drop a lin hl y hy).mono ?_
  rintro e w' ⟨he, cnt', hcnt, hT, M⟩
  refine ⟨he, cnt', hcnt, A, B, C, s.move M hT.lt, hT, LB _ _ _ bb fun k h => s.same_b M h, LC _ _ _ c fun k h => s.same_c M h, fun k h => ?_⟩
  obtain ⟨h1, h2, h3, h4, h6, h5⟩ := g k h
  exact ⟨Nat.lt_of_lt_of_le h1 M.1.size, h2, h3, h4, h6, (M.1.block k h1 h2).trans h5⟩
theorem tri_kept (T : Tri w0 w (KpP t rb places n R) PB PC F wF) : Calls Try.prog 11 #[.pointer (some ⟨t, 0, none⟩)] w fun e w' => ∃ c : Nat, e = .returned (.int .i64 (c : Nat)) ∧ c ≤ places ∧ Tri w0 w (fun w H => Kp w t rb places n c H R) PB PC F wF ∧ w = w' := by
  obtain ⟨A, B, C, s, ⟨cnt, h⟩, bb, c, g⟩ := T
  refine (tl_kept h).mono ?_
  rintro e w' ⟨he, hw⟩
  exact ⟨cnt, he, h.c1, ⟨A, B, C, s, h, bb, c, g⟩, hw⟩
theorem tri_keptc {cnt : Nat} (T : Tri w0 w (fun w H => Kp w t rb places n cnt H R) PB PC F wF) : Calls Try.prog 11 #[.pointer (some ⟨t, 0, none⟩)] w fun e w' => e = .returned (.int .i64 (cnt : Nat)) ∧ w = w' := by
  obtain ⟨A, B, C, s, h, bb, c, g⟩ := T
  exact tl_kept h
theorem tri_known {cnt : Nat} (T : Tri w0 w (fun w H => Kp w t rb places n cnt H R) PB PC F wF) : Tri w0 w (KpP t rb places n R) PB PC F wF := T.weak fun _ h => ⟨_, h⟩
theorem tri_more {n' : Nat} (T : Tri w0 w (KpP t rb places n R) PB PC F wF) (hn : n ≤ n') : Tri w0 w (KpP t rb places n' R) PB PC F wF := T.weak fun _ h => h.more hn
/-- Both's two memories. -/
theorem tri_both2 {b' : Nat} {S S' : Nat → Prop} {w' : World} (h : Two w w' b S R b' S' R) : Tri w w' (RamP b R) (RefP b' R) Nothing none_ w :=
  ⟨S, S', none_, ⟨h.d, fun _ _ h => h, fun _ h => h.elim, h.l1, h.l2, fun _ h => h.elim, fun k hk => h.m.lt hk, fun k hk => h.r.lt hk, fun _ h => h.elim, h.B⟩, h.m, h.r, fun _ h => h, fun _ h => h.elim⟩
end
end Go.Proofs.Ythogfhejfnmdkaa
