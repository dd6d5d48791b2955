/- tlb: the document's memory beside a keeper; what else is asked of a keeper. -/
import Derived.Test.YthogfhejfnmdkaaTlbH
import Derived.Test.YthogfhejfnmdkaaRFindZ
namespace Go.Proofs.Ythogfhejfnmdkaa
open Go.RowKit
set_option linter.unusedVariables false
section
variable {w0 w wF : World} {PB PC : World → (Nat → Prop) → Prop} {F : Nat → Prop} {t rb places n b : Nat} {R : RS}
theorem ref_find {S : Nat → Prop} (H : Ref w b S R) (c lin : Nat) (hc : c < 4294967296) (hl : lin < 4294967296) (wr us wp : Bool) (x y : Int) (hx : x = (c : Int)) (hy : y = (lin : Int)) {fr pd pt : Nat} {xw xu : Bool} {cd : Int} {R' : RS} (hr : find R c lin wr us wp = (⟨fr, pd, pt, xw, xu⟩, cd, R')) :
    Calls Try.prog 19 #[.pointer (some ⟨b, 0, .none⟩), .int .u32 x, .int .u32 y, .agg #[.bool wr, .bool us, .bool wp]] w fun e w' =>
      e = .returned (.tuple #[.agg #[.int .u32 (fr : Nat), .int .u32 (pd : Nat), .int .u32 (pt : Nat), .bool xw, .bool xu], .int .i64 cd]) ∧ Ref w' b S R' ∧ Keeps S w w' := by
  rw [hx, hy]; exact rfind_r H c lin hc hl wr us wp hr
theorem tri_reffind (T : Tri w0 w (RefP b R) PB PC F wF) (LB : Local PB) (LC : Local PC) (c lin : Nat) (hc : c < 4294967296) (hl : lin < 4294967296) (wr us wp : Bool) (x y : Int) (hx : x = (c : Int)) (hy : y = (lin : Int)) {fr pd pt : Nat} {xw xu : Bool} {cd : Int} {R' : RS} (hr : find R c lin wr us wp = (⟨fr, pd, pt, xw, xu⟩, cd, R')) :
    Calls Try.prog 19 #[.pointer (some ⟨b, 0, .none⟩), .int .u32 x, .int .u32 y, .agg #[.bool wr, .bool us, .bool wp]] w fun e w' =>
      e = .returned (.tuple #[.agg #[.int .u32 (fr : Nat), .int .u32 (pd : Nat), .int .u32 (pt : Nat), .bool xw, .bool xu], .int .i64 cd]) ∧ Tri w0 w' (RefP b R') PB PC F wF := by
  refine T.call LB LC fun A a => (ref_find a c lin hc hl wr us wp x y hx hy hr).mono ?_
  rintro e w' ⟨he, hR, hK⟩
  exact ⟨he, A, hR, ⟨hK, fun k h => .inl h⟩, fun k h => hR.lt h⟩
theorem tri_refwrite (T : Tri w0 w (RefP b R) PB PC F wF) (LB : Local PB) (LC : Local PC) (a v : Nat) (ha : a < 4294967296) (hv : v < 4294967296) (x y : Int) (hx : x = (a : Int)) (hy : y = (v : Int)) :
    Calls Try.prog 20 #[.pointer (some ⟨b, 0, none⟩), .int .u32 x, .int .i64 4, .int .u32 y] w fun e w' => e = .returned (.int .i64 0) ∧ Tri w0 w' (RefP b (R.write a v 4)) PB PC F wF := by
  rw [hx, hy]
  refine T.call LB LC fun A h => (rwrite_4 h a v ha hv).mono ?_
  rintro e w' ⟨he, hR, hK⟩
  exact ⟨he, A, hR, ⟨hK, fun k h => .inl h⟩, fun k h => hR.lt h⟩
theorem tri_flush (T : Tri w0 w (KpP t rb places n R) PB PC F wF) (LB : Local PB) (LC : Local PC) : Calls Try.prog 15 #[.pointer (some ⟨t, 0, none⟩)] w fun e w' => e = .returned (.tuple #[]) ∧ Tri w0 w' (fun w H => Kp w t rb places n 0 H R) PB PC F wF := by
  refine T.call LB LC fun A ⟨cnt, h⟩ => (tl_flush h).mono ?_
  rintro e w' ⟨he, H', hT, hM⟩
  exact ⟨he, H', hT, hM, hT.lt⟩
theorem tri_drop (T : Tri w0 w (KpP t rb places n R) PB PC F wF) (LB : Local PB) (LC : Local PC) (lin : Nat) (hl : lin < 4294967296) (y : Int) (hy : y = (lin : Int)) : Calls Try.prog 12 #[.pointer (some ⟨t, 0, none⟩), .int .u32 y] w fun e w' => e = .returned (.tuple #[]) ∧ Tri w0 w' (KpP t rb places n R) PB PC F wF := by
  refine T.call LB LC fun A ⟨cnt, h⟩ => (tl_drop h lin hl y hy).mono ?_
  rintro e w' ⟨he, cnt', _, hT, hM⟩
  exact ⟨he, A, ⟨cnt', hT⟩, hM, hT.lt⟩
/-- The same, where it is known how many are kept. -/
theorem tri_dropc {cnt : Nat} (T : Tri w0 w (fun w H => Kp w t rb places n cnt H R) PB PC F wF) (LB : Local PB) (LC : Local PC) (lin : Nat) (hl : lin < 4294967296) (y : Int) (hy : y = (lin : Int)) : Calls Try.prog 12 #[.pointer (some ⟨t, 0, none⟩), .int .u32 y] w fun e w' =>
    e = .returned (.tuple #[]) ∧ ∃ cnt', cnt' ≤ cnt ∧ Tri w0 w' (fun w H => Kp w t rb places n cnt' H R) PB PC F wF := by
  obtain ⟨A, B, C, s, a, bb, c, g⟩ := T
  refine (tl_drop a lin hl y hy).mono ?_
  rintro e w' ⟨he, cnt', hcnt, hT, M⟩
  refine ⟨he, cnt', hcnt, A, B, C, s.move M hT.lt, hT, LB _ _ _ bb fun k h => s.same_b M h, LC _ _ _ c fun k h => s.same_c M h, fun k h => ?_⟩
  obtain ⟨h1, h2, h3, h4, h6, h5⟩ := g k h
  exact ⟨Nat.lt_of_lt_of_le h1 M.1.size, h2, h3, h4, h6, (M.1.block k h1 h2).trans h5⟩
theorem tri_kept (T : Tri w0 w (KpP t rb places n R) PB PC F wF) : Calls Try.prog 11 #[.pointer (some ⟨t, 0, none⟩)] w fun e w' => ∃ c : Nat, e = .returned (.int .i64 (c : Nat)) ∧ c ≤ places ∧ Tri w0 w (fun w H => Kp w t rb places n c H R) PB PC F wF ∧ w = w' := by
  obtain ⟨A, B, C, s, ⟨cnt, h⟩, bb, c, g⟩ := T
  refine (tl_kept h).mono ?_
  rintro e w' ⟨he, hw⟩
  exact ⟨cnt, he, h.c1, ⟨A, B, C, s, h, bb, c, g⟩, hw⟩
theorem tri_keptc {cnt : Nat} (T : Tri w0 w (fun w H => Kp w t rb places n cnt H R) PB PC F wF) : Calls Try.prog 11 #[.pointer (some ⟨t, 0, none⟩)] w fun e w' => e = .returned (.int .i64 (cnt : Nat)) ∧ w = w' := by
  obtain ⟨A, B, C, s, h, bb, c, g⟩ := T
  exact tl_kept h
theorem tri_known {cnt : Nat} (T : Tri w0 w (fun w H => Kp w t rb places n cnt H R) PB PC F wF) : Tri w0 w (KpP t rb places n R) PB PC F wF := T.weak fun _ h => ⟨_, h⟩
theorem tri_more {n' : Nat} (T : Tri w0 w (KpP t rb places n R) PB PC F wF) (hn : n ≤ n') : Tri w0 w (KpP t rb places n' R) PB PC F wF := T.weak fun _ h => h.more hn
/-- Both's two memories. -/
theorem tri_both2 {b' : Nat} {S S' : Nat → Prop} {w' : World} (h : Two w w' b S R b' S' R) : Tri w w' (RamP b R) (RefP b' R) Nothing none_ w :=
  ⟨S, S', none_, ⟨h.d, fun _ _ h => h, fun _ h => h.elim, h.l1, h.l2, fun _ h => h.elim, fun k hk => h.m.lt hk, fun k hk => h.r.lt hk, fun _ h => h.elim, h.B⟩, h.m, h.r, fun _ h => h, fun _ h => h.elim⟩
end
end Go.Proofs.Ythogfhejfnmdkaa
