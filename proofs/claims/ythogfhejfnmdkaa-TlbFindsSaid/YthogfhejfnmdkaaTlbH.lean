/- tlb: a keeper, a memory, the document's memory, as objects side by side. -/
import Derived.Test.YthogfhejfnmdkaaTlbG
import Derived.Test.YthogfhejfnmdkaaTri
namespace Go.Proofs.Ythogfhejfnmdkaa
open Go.RowKit
set_option linter.unusedVariables false

/-- A keeper over a memory, of so many places, whose row of keys is no longer than n. -/
def KpP (t rb places n : Nat) (R : RS) : World → (Nat → Prop) → Prop := fun w H => ∃ cnt, Kp w t rb places n cnt H R
def RamP (b : Nat) (R : RS) : World → (Nat → Prop) → Prop := fun w S => Ram w b S R
def RefP (b : Nat) (R : RS) : World → (Nat → Prop) → Prop := fun w S => Ref w b S R
theorem KpP.local (t rb places n : Nat) (R : RS) : Local (KpP t rb places n R) := fun w w' H ⟨c, h⟩ e => ⟨c, h.of_heap e⟩
theorem RamP.local (b : Nat) (R : RS) : Local (RamP b R) := fun w w' S h e => Ram.of_heap h e
theorem RefP.local (b : Nat) (R : RS) : Local (RefP b R) := fun w w' S h e => by
  obtain ⟨g0, g1, g2, g3, I, hS⟩ := h
  exact ⟨g0, g1, g2, g3, I.of_heap fun k hk => e k ((hS k).2 hk), hS⟩
section
variable {w0 w wF : World} {PB PC : World → (Nat → Prop) → Prop} {F : Nat → Prop} {t rb places n b : Nat} {R : RS}
theorem tri_find (T : Tri w0 w (KpP t rb places n R) PB PC F wF) (LB : Local PB) (LC : Local PC) (c lin : Nat) (hc : c < 4294967296) (hl : lin < 4294967296) (wr us wp : Bool) (hn : (n + 1) * 12 ≤ 140737488355328) (x y : Int) (hx : x = (c : Int)) (hy : y = (lin : Int)) {fr pd pt : Nat} {xw xu : Bool} {cd : Int} {R' : RS} (hr : find R c lin wr us wp = (⟨fr, pd, pt, xw, xu⟩, cd, R')) :
    Calls Try.prog 13 #[.pointer (some ⟨t, 0, none⟩), .int .u32 x, .int .u32 y, .agg #[.bool wr, .bool us, .bool wp]] w fun e w' =>
      e = .returned (.tuple #[.agg #[.int .u32 (fr : Nat), .int .u32 (pd : Nat), .int .u32 (pt : Nat), .bool xw, .bool xu], .int .i64 cd, .int .i64 0]) ∧ Tri w0 w' (KpP t rb places (n + 1) R') PB PC F wF := by
  refine T.call LB LC fun A ⟨cnt, a⟩ => (tl_find a c lin hc hl wr us wp hn x y hx hy hr).mono ?_
  rintro e w' ⟨he, cnt', H', hT, hM⟩
  exact ⟨he, H', ⟨cnt', hT⟩, hM, hT.lt⟩
theorem tri_write (T : Tri w0 w (KpP t rb places n R) PB PC F wF) (LB : Local PB) (LC : Local PC) (a v : Nat) (ha : a < 4294967296) (hv : v < 4294967296) (x y : Int) (hx : x = (a : Int)) (hy : y = (v : Int)) :
    Calls Try.prog 16 #[.pointer (some ⟨rb, 0, none⟩), .int .u32 x, .int .i64 4, .int .u32 y] w fun e w' => e = .returned (.int .i64 0) ∧ Tri w0 w' (KpP t rb places n (R.write a v 4)) PB PC F wF := by
  refine T.call LB LC fun A ⟨cnt, h⟩ => (tl_write h a v ha hv x y hx hy).mono ?_
  rintro e w' ⟨he, H', hT, hM⟩
  exact ⟨he, H', ⟨_, hT⟩, hM, hT.lt⟩
theorem tri_rfind (T : Tri w0 w (RamP b R) PB PC F wF) (LB : Local PB) (LC : Local PC) (c lin : Nat) (hc : c < 4294967296) (hl : lin < 4294967296) (wr us wp : Bool) (x y : Int) (hx : x = (c : Int)) (hy : y = (lin : Int)) {fr pd pt : Nat} {xw xu : Bool} {cd : Int} {R' : RS} (hr : find R c lin wr us wp = (⟨fr, pd, pt, xw, xu⟩, cd, R')) :
    Calls Try.prog 14 #[.pointer (some ⟨b, 0, .none⟩), .int .u32 x, .int .u32 y, .agg #[.bool wr, .bool us, .bool wp]] w fun e w' =>
      e = .returned (.tuple #[.agg #[.int .u32 (fr : Nat), .int .u32 (pd : Nat), .int .u32 (pt : Nat), .bool xw, .bool xu], .int .i64 cd, .int .i64 0]) ∧ Tri w0 w' (RamP b R') PB PC F wF := by
  refine T.call LB LC fun A a => (ram_find a c lin hc hl wr us wp x y hx hy hr).mono ?_
  rintro e w' ⟨he, S', hR, hM⟩
  exact ⟨he, S', hR, hM, fun k h => hR.lt h⟩
theorem tri_rwrite (T : Tri w0 w (RamP b R) PB PC F wF) (LB : Local PB) (LC : Local PC) (a v : Nat) (ha : a < 4294967296) (hv : v < 4294967296) (x y : Int) (hx : x = (a : Int)) (hy : y = (v : Int)) :
    Calls Try.prog 16 #[.pointer (some ⟨b, 0, none⟩), .int .u32 x, .int .i64 4, .int .u32 y] w fun e w' => e = .returned (.int .i64 0) ∧ Tri w0 w' (RamP b (R.write a v 4)) PB PC F wF := by
  refine T.call LB LC fun A h => (ram_write h a v ha hv x y hx hy).mono ?_
  rintro e w' ⟨he, S', hR, hM⟩
  exact ⟨he, S', hR, hM, fun k h => hR.lt h⟩
theorem tri_new (T : Tri w0 w (RamP b R) PB PC F wF) (LB : Local PB) (LC : Local PC) (hw : Wide R) (m : Nat) (hm : m ≤ 64) (x : Int) (hx : x = (m : Int)) : Calls Try.prog 10 #[.pointer (some ⟨b, 0, none⟩), .int .i64 x] w fun e w' =>
    ∃ t, e = .returned (.tuple #[.pointer (some ⟨t, 0, none⟩), .int .i64 0]) ∧ Tri w0 w' (fun w H => Kp w t b m 0 0 H R) PB PC F wF := by
  obtain ⟨A, B, C, s, a, bb, c, g⟩ := T
  refine (tl_new a hw m hm x hx).mono ?_
  rintro e w' ⟨t, H, he, hT, M, hb⟩
  refine ⟨t, he, H, B, C, s.move M hT.lt, hT, LB _ _ _ bb fun k h => s.same_b M h, LC _ _ _ c fun k h => s.same_c M h, fun k h => ?_⟩
  obtain ⟨h1, h2, h3, h4, h6, h5⟩ := g k h
  refine ⟨Nat.lt_of_lt_of_le h1 M.1.size, fun h => ?_, h3, h4, h6, (M.1.block k h1 h2).trans h5⟩
  rcases M.2 k h with h | h
  · exact h2 h
  · omega
theorem Tri.weak {PA PA' PB PC : World → (Nat → Prop) → Prop} (T : Tri w0 w PA PB PC F wF) (h : ∀ A, PA w A → PA' w A) : Tri w0 w PA' PB PC F wF := by
  obtain ⟨A, B, C, s, a, b, c, f⟩ := T
  exact ⟨A, B, C, s, h A a, b, c, f⟩
/-- Both's memory comes as a first object; its twin is forgotten, or kept. -/
theorem tri_both {b' : Nat} {S S' : Nat → Prop} {w' : World} (T : Tri w0 w Nothing PB PC F wF) (LB : Local PB) (LC : Local PC) (h : Two w w' b S R b' S' R) : Tri w0 w' (RamP b R) PB PC F wF :=
  T.new LB LC h.B h.m fun k hk => ⟨h.l1 k hk, h.m.lt hk⟩
theorem KpP.more {A : Nat → Prop} (h : KpP t rb places n R w A) {n' : Nat} (hn : n ≤ n') : KpP t rb places n' R w A := by
  obtain ⟨c, h⟩ := h
  exact ⟨c, h.more hn⟩
theorem KpP.hasRam {A : Nat → Prop} (h : KpP t rb places n R w A) : ∃ S, Ram w rb S R := by
  obtain ⟨c, h⟩ := h
  obtain ⟨S, hS, _⟩ := h.ram
  exact ⟨S, hS⟩
theorem KpP.kept {A : Nat → Prop} (h : KpP t rb places n R w A) : Calls Try.prog 11 #[.pointer (some ⟨t, 0, none⟩)] w fun e w' => ∃ c : Nat, e = .returned (.int .i64 (c : Nat)) ∧ c ≤ places ∧ w = w' := by
  obtain ⟨c, h⟩ := h
  refine (tl_kept h).mono ?_
  rintro e w' ⟨he, hw⟩
  exact ⟨c, he, h.c1, hw⟩
end
/-- The whole memory as a string. -/
theorem dump_str {w : World} {b : Nat} {S : Nat → Prop} {R : RS} (H : Ram w b S R) (x : Int) (hx : x = (R.size : Nat)) : Calls Try.prog 17 #[.pointer (some ⟨b, 0, .none⟩), .int .u32 0, .int .i64 x] w fun e w' =>
    ∃ g, e = .returned (.slice (some ⟨g, 0, .none⟩) R.size R.size) ∧ (∀ w2 : World, w2.heap[g]? = w'.heap[g]? → (convert 54 9 (.slice (some ⟨g, 0, .none⟩) R.size R.size)).run Try.prog w2 = .ok (.string (strOf R.size R.byte)) w2) ∧ g < w'.heap.size ∧ Below w.heap.size w w' := by
  have hs := RS.size_pos H.isok
  have hs2 := RS.size_le H.isok
  rw [hx]
  refine (dump_any H 0 R.size (by decide) (by omega) (by omega)).mono ?_
  rintro e w' ⟨g, rfl, hg, hcl, hb⟩
  refine ⟨g, rfl, fun w2 h2 => ?_, heap_lt hcl, hb⟩
  have h3 := conv_bytes (w := w2) (g := g) (n := R.size) (cap := R.size) (f := fun i => R.get (at32 0 i)) (by rw [h2]; exact hcl)
  rw [h3, strOf_congr (fun i hi => get_byte H.isok i hi)]
end Go.Proofs.Ythogfhejfnmdkaa
