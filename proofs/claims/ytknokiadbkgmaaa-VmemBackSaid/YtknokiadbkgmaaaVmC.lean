/- vmem: the object; sized, user. -/
import Derived.Test.YtknokiadbkgmaaaVmB
import Derived.Test.YtknokiadbkgmaaaTri
namespace Go.Proofs.Ytknokiadbkgmaaa
open Go.RowKit Go.MapKept
set_option linter.unusedVariables false

/-- How many pages are kept, and the memory's block. -/
structure Pl where
  n : Nat
  rb : Nat
/-- A keeper t over the memory rb: its blocks H; its row of keys is no longer than n. -/
def Kq (w : World) (t rb : Nat) (places : Pl) (n : Nat) (H : Nat → Prop) (R : RS) : Prop :=
  ∃ mb S ov cnt all order, TlbIn w t rb mb S ov places.n cnt all order R ∧ (order.length ≤ n ∧ rb = places.rb) ∧ ∀ k, H k ↔ THeld t mb S ov k
section
variable {w w' : World} {t rb vb cb : Nat} {places : Pl} {n : Nat} {H : Nat → Prop} {R : RS} {C : CpuS}
theorem Kq.lt (h : Kq w t rb places n H R) : ∀ k, H k → k < w.heap.size := by
  obtain ⟨mb, S, ov, cnt, all, order, T, _, hH⟩ := h
  exact fun k hk => T.lt ((hH k).1 hk)
theorem Kq.of_heap (h : Kq w t rb places n H R) (e : ∀ k, H k → w'.heap[k]? = w.heap[k]?) : Kq w' t rb places n H R := by
  obtain ⟨mb, S, ov, cnt, all, order, T, hl, hH⟩ := h
  exact ⟨mb, S, ov, cnt, all, order, T.of_heap fun k hk => e k ((hH k).2 hk), hl, hH⟩
theorem Kq.more (h : Kq w t rb places n H R) {n' : Nat} (hn : n ≤ n') : Kq w t rb places n' H R := by
  obtain ⟨mb, S, ov, cnt, all, order, T, hl, hH⟩ := h
  exact ⟨mb, S, ov, cnt, all, order, T, ⟨Nat.le_trans hl.1 hn, hl.2⟩, hH⟩
theorem Kq.wide (h : Kq w t rb places n H R) : Wide R := by obtain ⟨mb, S, ov, cnt, all, order, T, hl, hH⟩ := h; exact T.wide
theorem Kq.ram (h : Kq w t rb places n H R) : ∃ S, Ram w rb S R ∧ (∀ k, S k → H k) ∧ ∀ {w' : World} {S' : Nat → Prop} {R' : RS}, Ram w' rb S' R' → Moves S S' w w' → Wide R' → ∃ H', Kq w' t rb places n H' R' ∧ Moves H H' w w' := by
  obtain ⟨mb, S, ov, cnt, all, order, T, hl, hH⟩ := h
  refine ⟨S, T.ram, fun k hk => (hH k).2 (.inr (.inr (.inr hk))), fun {w' S' R'} hR M hw => ⟨_, ⟨mb, S', ov, cnt, all, order, T.found hR M hw, hl, fun k => Iff.rfl⟩, M.1.mono fun k _ hk => (hH k).2 (.inr (.inr (.inr hk))), fun k hk => ?_⟩⟩
  rcases hk with h | h | h | h
  · exact .inl ((hH k).2 (.inl h))
  · exact .inl ((hH k).2 (.inr (.inl h)))
  · exact .inl ((hH k).2 (.inr (.inr (.inl h))))
  · rcases M.2 k h with h | h
    · exact .inl ((hH k).2 (.inr (.inr (.inr h))))
    · exact .inr h
theorem kq_find (h : Kq w t rb places n H R) (c lin : Nat) (hc : c < 4294967296) (hl : lin < 4294967296) (wr us wp : Bool) (hn : (n + 1) * 12 ≤ 140737488355328) (x y : Int) (hx : x = (c : Int)) (hy : y = (lin : Int)) {fr pd pt : Nat} {xw xu : Bool} {cd : Int} {R' : RS} (hr : find R c lin wr us wp = (⟨fr, pd, pt, xw, xu⟩, cd, R')) :
    Calls Try.prog 47 #[.pointer (some ⟨t, 0, none⟩), .int .u32 x, .int .u32 y, .agg #[.bool wr, .bool us, .bool wp]] w fun e w' =>
      e = .returned (.tuple #[.agg #[.int .u32 (fr : Nat), .int .u32 (pd : Nat), .int .u32 (pt : Nat), .bool xw, .bool xu], .int .i64 cd, .int .i64 0]) ∧ ∃ H', Kq w' t rb places (n + 1) H' R' ∧ Moves H H' w w' := by
  obtain ⟨mb, S, ov, cnt, all, order, T, hlen, hH⟩ := h
  rw [hx, hy]
  have hlen1 := hlen.1
  refine (tfind T c lin hc hl wr us wp (by omega)).mono ?_
  rintro e w' ⟨he, S', ov', cnt', all', order', T', hl', K', N'⟩
  rw [hr] at he T'
  exact ⟨he, _, ⟨mb, S', ov', cnt', all', order', T', ⟨by omega, hlen.2⟩, fun k => Iff.rfl⟩, K'.mono fun k _ hk => (hH k).2 hk, fun k hk => (N' k hk).imp (fun h => (hH k).2 h) id⟩
/-- A memory as programs see it. -/
def Vm (w : World) (vb : Nat) (places : Pl) (n : Nat) (H : Nat → Prop) (R : RS) : Prop :=
  ∃ t rb G, w.heap[vb]? = some (.cells #[.pointer (some ⟨rb, 0, none⟩), .pointer (some ⟨t, 0, none⟩)] 83) ∧ Kq w t rb places n G R ∧ ¬ G vb ∧ ∀ k, H k ↔ k = vb ∨ G k
theorem Vm.lt (h : Vm w vb places n H R) : ∀ k, H k → k < w.heap.size := by
  obtain ⟨t, rb, G, ho, hK, _, hH⟩ := h
  intro k hk
  rcases (hH k).1 hk with rfl | h
  · exact heap_lt ho
  · exact hK.lt k h
theorem Vm.of_heap (h : Vm w vb places n H R) (e : ∀ k, H k → w'.heap[k]? = w.heap[k]?) : Vm w' vb places n H R := by
  obtain ⟨t, rb, G, ho, hK, hn, hH⟩ := h
  exact ⟨t, rb, G, by rw [e vb ((hH vb).2 (.inl rfl))]; exact ho, hK.of_heap fun k hk => e k ((hH k).2 (.inr hk)), hn, hH⟩
theorem Vm.local (vb : Nat) (places : Pl) (n : Nat) (R : RS) : Local (fun w H => Vm w vb places n H R) := fun w w' H h e => h.of_heap e
theorem Vm.below (h : Vm w vb places n H R) (hb : Below w.heap.size w w') : Vm w' vb places n H R := h.of_heap fun k hk => hb.block k (h.lt k hk)
theorem Vm.more (h : Vm w vb places n H R) {n' : Nat} (hn : n ≤ n') : Vm w vb places n' H R := by
  obtain ⟨t, rb, G, ho, hK, h1, hH⟩ := h
  exact ⟨t, rb, G, ho, hK.more hn, h1, hH⟩
theorem Vm.wide (h : Vm w vb places n H R) : Wide R := by obtain ⟨t, rb, G, ho, hK, h1, hH⟩ := h; exact hK.wide
theorem Vm.own (h : Vm w vb places n H R) : H vb := by obtain ⟨t, rb, G, ho, hK, h1, hH⟩ := h; exact (hH vb).2 (.inl rfl)
/-- What moves the keeper moves the whole. -/
theorem Vm.lift {t rb : Nat} {G G' : Nat → Prop} {R' : RS} {n' : Nat} (ho : w.heap[vb]? = some (.cells #[.pointer (some ⟨rb, 0, none⟩), .pointer (some ⟨t, 0, none⟩)] 83)) (hn : ¬ G vb) (hH : ∀ k, H k ↔ k = vb ∨ G k) (hK : Kq w' t rb places n' G' R') (M : Moves G G' w w') :
    Vm w' vb places n' (fun k => k = vb ∨ G' k) R' ∧ Moves H (fun k => k = vb ∨ G' k) w w' := by
  have hl := heap_lt ho
  refine ⟨⟨t, rb, G', (M.1.block vb hl hn).trans ho, hK, fun h => ?_, fun k => Iff.rfl⟩, M.1.mono fun k _ h => (hH k).2 (.inr h), fun k h => ?_⟩
  · rcases M.2 vb h with h | h
    · exact hn h
    · omega
  · rcases h with rfl | h
    · exact .inl ((hH k).2 (.inl rfl))
    · exact (M.2 k h).imp (fun h => (hH k).2 (.inr h)) id
theorem and_3 (x : Nat) (h : x < 65536) : bits .and .u16 (x : Int) 3 = ((x % 4 : Nat) : Int) := by
  have e := u16_and_nat x 3 h (by decide)
  rw [show x &&& 3 = x % 4 from Nat.and_two_pow_sub_one_eq_mod x 2] at e
  exact e
theorem user_any (hC : CpuAt w cb C) : Calls Try.prog 37 #[.pointer (some ⟨cb, 0, none⟩)] w fun e w' => e = .returned (.bool C.user) ∧ w = w' := by
  obtain ⟨-, -, k1, kl⟩ := hC.cr
  have ha := and_3 (C.seg 1).sel (hC.1.seg 1).sel
  have hb : (((C.seg 1).sel : Int) % 4 == 3) = C.user := by unfold CpuS.user; rw [Bool.eq_iff_iff]; simp; omega
  have HB := Lib.hid hb
  clear hC hb
  go_enter Try.func37, Try.ntmps37
  go_wp2_with fail
  go_ret
  refine ⟨?_, rfl⟩
  rw [← HB.out]; simp
theorem sized_ok (vb cb : Nat) (s : Int) (hs : s = 1 ∨ s = 2 ∨ s = 4) (w : World) : Calls Try.prog 34 #[.pointer (some ⟨vb, 0, none⟩), .pointer (some ⟨cb, 0, none⟩), .int .i64 s] w fun e w' => e = .returned (.tuple #[]) ∧ w = w' := by
  rcases hs with rfl | rfl | rfl
  all_goals
    go_enter Try.func34, Try.ntmps34
    go_wp2_with fail
    go_end0
    exact ⟨rfl, rfl⟩
theorem sized_bad (a b : Option Addr) (s : Int) (h1 : s ≠ 1) (h2 : s ≠ 2) (h4 : s ≠ 4) (w : World) : Calls Try.prog 34 #[.pointer (a.map fun p => ⟨p.block, 0, none⟩), .pointer (b.map fun p => ⟨p.block, 0, none⟩), .int .i64 s] w fun e w' => e = gaveUp 13 0 0 ∧ w = w' := by
  have g1 : (s != 1) = true := by simpa using h1
  have g2 : (s != 2) = true := by simpa using h2
  have g4 : (s != 4) = true := by simpa using h4
  cases a <;> cases b
  all_goals
    simp only [Option.map_none, Option.map_some]
    go_enter Try.func34, Try.ntmps34
    go_wp2_with (go_at_call 35; refine (general_any _ _).mono ?_; rintro e w' ⟨he, rfl⟩; unfold gaveUp faultV at he; subst he)
    exact ⟨rfl, rfl, rfl⟩
theorem sized_nil (b : Value) (s : Int) (w : World) : Calls Try.prog 34 #[.pointer none, b, .int .i64 s] w fun e w' => e = gaveUp 13 0 0 ∧ w = w' := by
  go_enter Try.func34, Try.ntmps34
  go_wp2_with (go_at_call 35; refine (general_any _ _).mono ?_; rintro e w' ⟨he, rfl⟩; unfold gaveUp faultV at he; subst he)
  exact ⟨rfl, rfl, rfl⟩
theorem sized_nilc (a : Addr) (s : Int) (w : World) : Calls Try.prog 34 #[.pointer (some a), .pointer none, .int .i64 s] w fun e w' => e = gaveUp 13 0 0 ∧ w = w' := by
  go_enter Try.func34, Try.ntmps34
  go_wp2_with (go_at_call 35; refine (general_any _ _).mono ?_; rintro e w' ⟨he, rfl⟩; unfold gaveUp faultV at he; subst he)
  exact ⟨rfl, rfl, rfl⟩
end
end Go.Proofs.Ytknokiadbkgmaaa
