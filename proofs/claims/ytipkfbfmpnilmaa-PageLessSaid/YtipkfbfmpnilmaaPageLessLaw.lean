/- 'drawloom/drawloomlaw09.PageLess' answers true for every input. Conditions: none. -/
import Derived.Test.YtipkfbfmpnilmaaFrame
import Derived.Test.YtipkfbfmpnilmaaPMore
import Derived.Test.YtipkfbfmpnilmaaAlike
namespace Go.Proofs.Ytipkfbfmpnilmaa.pageLess
open Go.ChangeShapes Go.WideShapes Go.ChangeAt Go.RowKit
set_option linter.unusedVariables false

open Go.MapKept
set_option maxRecDepth 100000 in
set_option maxHeartbeats 8000000 in
theorem walk (w : World) (ad : Option Addr) (len cap : Nat) (at_ x : Nat → Nat) (hlen : len ≤ 9223372036854775807) (J : WordsIn w ad len at_ x) (c l : Nat) (a b d : Bool) (hc : c < 4294967296) (hl : l < 4294967296) :
    Calls Try.prog 6 #[.slice ad len cap, .agg #[.int .u32 c, .int .u32 l, .bool a, .bool b, .bool d]] w fun e w' => e = .returned (.bool true) ∧ Below w.heap.size w w' := by
  rcases hr : find (bothR 16 at_ x len (fun _ => 0) 0) c l a b d with ⟨⟨fr, pd, pt, xw, xu⟩, cd, Rr⟩
  have hcd := find_code hr
  have HR := Lib.hid hr
  have HC := Lib.hid hcd
  have HF := Lib.hid (find_fault hr)
  have HL := Lib.hid (fun e : cd = -1 => find_less (by rw [← e]; exact hr))
  clear hr hcd
  go_enter Try.func6, Try.ntmps6
  go_wp2_with fail
  refine (awake_any _).mono ?_
  rintro e w1 ⟨rfl, b1⟩
  have hx0 := heap_below b1 (heap_new w _)
  have B1 : Below w.heap.size w w1 := step_below (by go_grown) b1 (Nat.le_refl _)
  have z1 : w.heap.size < w1.heap.size := heap_lt hx0
  have J1 := words_below J B1
  clear b1
  have HX := Lib.hid hx0
  clear hx0
  go_wp2_with fail
  refine (both_any w1 16 ad len cap at_ x J1 .none 0 0 (fun _ => 0) (.inl rfl) hlen (by decide)).mono ?_
  rintro e w2 ⟨bm, S, bm', S', rfl, T⟩
  have J2 := words_below J1 T.B
  have hx3 := heap_below T.B HX.out
  clear HX J1
  have k0 : w2.cell? ⟨w.heap.size, 0, .none⟩ = some (.int .u32 c) := by rw [cell_at hx3]; rfl
  have k1 : w2.cell? ⟨w.heap.size, 1, .none⟩ = some (.int .u32 l) := by rw [cell_at hx3]; rfl
  have k2 : w2.cell? ⟨w.heap.size, 2, .none⟩ = some (.bool a) := by rw [cell_at hx3]; rfl
  have k3 : w2.cell? ⟨w.heap.size, 3, .none⟩ = some (.bool b) := by rw [cell_at hx3]; rfl
  have k4 : w2.cell? ⟨w.heap.size, 4, .none⟩ = some (.bool d) := by rw [cell_at hx3]; rfl
  have HX3 := Lib.hid hx3
  clear hx3
  go_wp2_with fail
  refine (find_r T.m c l hc hl a b d _ _ rfl rfl HR.out).mono ?_
  rintro e w4 ⟨rfl, S4, H4, M4⟩
  have T4 := T.moveM H4 M4
  have B4 : Below w.heap.size w w4 := step_below B1 T4.B (Nat.le_refl _)
  have hx4 := heap_keeps M4.1 (fun h => by have := T.l1 _ h; omega) HX3.out
  -- the slice's words lie below
  have J4 := words_below J B4
  clear HX3 H4 M4 T k0 k1 k2 k3 k4 J2
  have k0 : w4.cell? ⟨w.heap.size, 0, .none⟩ = some (.int .u32 c) := by rw [cell_at hx4]; rfl
  have k1 : w4.cell? ⟨w.heap.size, 1, .none⟩ = some (.int .u32 l) := by rw [cell_at hx4]; rfl
  have k2 : w4.cell? ⟨w.heap.size, 2, .none⟩ = some (.bool a) := by rw [cell_at hx4]; rfl
  have k3 : w4.cell? ⟨w.heap.size, 3, .none⟩ = some (.bool b) := by rw [cell_at hx4]; rfl
  have k4 : w4.cell? ⟨w.heap.size, 4, .none⟩ = some (.bool d) := by rw [cell_at hx4]; rfl
  have z4 := heap_lt hx4
  rcases HC.out with hcd | hcd
  · obtain ⟨⟨R1, hr1⟩, R2, hr2⟩ := HL.out hcd
    have HR1 := Lib.hid hr1
    have HR2 := Lib.hid hr2
    subst hcd
    have HX4 := Lib.hid hx4
    clear hr1 hr2 HL HF HC HR hx4
    go_wp2_with fail
    refine (both_any _ 16 ad len cap at_ x (words_below J4 (by repeat' (first | (with_reducible exact Below.refl _ _) | (with_reducible refine Below.setCell ?_ (by first | (simp; done) | (simp; omega)) _) | (with_reducible refine below_dn ?_ _) | (with_reducible refine Below.alloc ?_ (by first | (simp; done) | (simp; omega)) _)))) .none 0 0 (fun _ => 0) (.inl rfl) hlen (by decide)).mono ?_
    rintro e w5 ⟨bn, Sn, bn', Sn', rfl, U⟩
    have q4 : Below w4.heap.size w4 w5 := step_below (by repeat' (first | (with_reducible exact Below.refl _ _) | (with_reducible refine Below.setCell ?_ (by first | (simp; done) | (simp; omega)) _) | (with_reducible refine below_dn ?_ _) | (with_reducible refine Below.alloc ?_ (by first | (simp; done) | (simp; omega)) _))) U.B (by simp)
    have hx5 := heap_below q4 HX4.out
    have hy5 := heap_below U.B (heap_new w4 _)
    have B5 : Below w.heap.size w w5 := step_below B4 q4 (by omega)
    have J5 := words_below J B5
    have hn5 : ∀ k, Sn k → w4.heap.size < k := fun k h => by have := U.l1 k h; simp at this; omega
    have Un := U.m
    clear HX4 U k0 k1 k2 k3 k4 q4 T4 J4
    have k0 : w5.cell? ⟨w.heap.size, 0, .none⟩ = some (.int .u32 c) := by rw [cell_at hx5]; rfl
    have k1 : w5.cell? ⟨w.heap.size, 1, .none⟩ = some (.int .u32 l) := by rw [cell_at hx5]; rfl
    have k2 : w5.cell? ⟨w.heap.size, 2, .none⟩ = some (.bool a) := by rw [cell_at hx5]; rfl
    have k3 : w5.cell? ⟨w.heap.size, 3, .none⟩ = some (.bool b) := by rw [cell_at hx5]; rfl
    have k4 : w5.cell? ⟨w.heap.size, 4, .none⟩ = some (.bool d) := by rw [cell_at hx5]; rfl
    have z5 := heap_lt hx5
    have z6 := heap_lt hy5
    have HX5 := Lib.hid hx5
    have HY5 := Lib.hid hy5
    clear hx5 hy5
    go_wp2_with fail
    refine (find_r (Un.below (by repeat' (first | (with_reducible exact Below.refl _ _) | (with_reducible refine Below.setCell ?_ (by first | (simp; done) | (simp; omega)) _) | (with_reducible refine below_dn ?_ _) | (with_reducible refine Below.alloc ?_ (by first | (simp; done) | (simp; omega)) _)))) c l hc hl false b d _ _ rfl rfl HR1.out).mono ?_
    rintro e w6 ⟨rfl, S6, H6, M6⟩
    have hx6 := heap_keeps M6.1 (fun h => by have := hn5 _ h; omega) (heap_below (by repeat' (first | (with_reducible exact Below.refl _ _) | (with_reducible refine Below.setCell ?_ (by first | (simp; done) | (simp; omega)) _) | (with_reducible refine below_dn ?_ _) | (with_reducible refine Below.alloc ?_ (by first | (simp; done) | (simp; omega)) _))) HX5.out)
    have hy6 := heap_keeps M6.1 (fun h => by have := hn5 _ h; omega) (heap_below (by repeat' (first | (with_reducible exact Below.refl _ _) | (with_reducible refine Below.setCell ?_ (by first | (simp; done) | (simp; omega)) _) | (with_reducible refine below_dn ?_ _) | (with_reducible refine Below.alloc ?_ (by first | (simp; done) | (simp; omega)) _))) HY5.out)
    have hz6 : w6.heap[w5.heap.size]? = some (.cells #[.bool false, .bool b, .bool d] 24) := by
      refine heap_keeps M6.1 (fun h => by have := Un.lt h; omega) ?_
      exact heap_new w5 _
    have B6 : Below w.heap.size w w6 := Keeps.toBelow (step_below B5 (by repeat' (first | (with_reducible exact Below.refl _ _) | (with_reducible refine Below.setCell ?_ (by first | (simp; done) | (simp; omega)) _) | (with_reducible refine below_dn ?_ _) | (with_reducible refine Below.alloc ?_ (by first | (simp; done) | (simp; omega)) _))) (Nat.le_refl _)) M6.1 (by first | (simp; done) | (simp; omega)) (fun i h => by have := hn5 i h; omega)
    have J6 := words_below J B6
    clear M6 H6 Un HX5 HY5 hn5 k0 k1 k2 k3 k4 J5
    have z7 := heap_lt hx6
    have z8 := heap_lt hy6
    have z9 := heap_lt hz6
    have HX6 := Lib.hid hx6
    have HY6 := Lib.hid hy6
    have HZ6 := Lib.hid hz6
    clear hx6 hy6 hz6
    go_wp2_with fail
    refine (both_any _ 16 ad len cap at_ x (words_below J6 (by repeat' (first | (with_reducible exact Below.refl _ _) | (with_reducible refine Below.setCell ?_ (by first | (simp; done) | (simp; omega)) _) | (with_reducible refine below_dn ?_ _) | (with_reducible refine Below.alloc ?_ (by first | (simp; done) | (simp; omega)) _)))) .none 0 0 (fun _ => 0) (.inl rfl) hlen (by decide)).mono ?_
    rintro e w7 ⟨bo, So, bo', So', rfl, V⟩
    have q6 : Below w6.heap.size w6 w7 := step_below (by repeat' (first | (with_reducible exact Below.refl _ _) | (with_reducible refine Below.setCell ?_ (by first | (simp; done) | (simp; omega)) _) | (with_reducible refine below_dn ?_ _) | (with_reducible refine Below.alloc ?_ (by first | (simp; done) | (simp; omega)) _))) V.B (by simp)
    have hx7 := heap_below q6 HX6.out
    have hy7 := heap_below q6 HY6.out
    have hz7 := heap_below q6 HZ6.out
    have hv7 := heap_below V.B (heap_new w6 _)
    have B7 : Below w.heap.size w w7 := step_below B6 q6 (by omega)
    have hn7 : ∀ k, So k → w6.heap.size < k := fun k h => by have := V.l1 k h; simp at this; omega
    have Uo := V.m
    clear HX6 HY6 HZ6 V q6 J6
    have k0 : w7.cell? ⟨w.heap.size, 0, .none⟩ = some (.int .u32 c) := by rw [cell_at hx7]; rfl
    have k1 : w7.cell? ⟨w.heap.size, 1, .none⟩ = some (.int .u32 l) := by rw [cell_at hx7]; rfl
    have k2 : w7.cell? ⟨w5.heap.size, 0, .none⟩ = some (.bool false) := by rw [cell_at hz7]; rfl
    have k3 : w7.cell? ⟨w5.heap.size, 1, .none⟩ = some (.bool b) := by rw [cell_at hz7]; rfl
    have k4 : w7.cell? ⟨w5.heap.size, 2, .none⟩ = some (.bool d) := by rw [cell_at hz7]; rfl
    have k5 : w7.frozen? ⟨w5.heap.size, 1, .none⟩ = false := free_at hz7
    have u1 := heap_lt hx7
    have u2 := heap_lt hy7
    have u3 := heap_lt hz7
    have u4 := heap_lt hv7
    have HY7 := Lib.hid hy7
    have HV7 := Lib.hid hv7
    clear hx7 hy7 hz7 hv7
    go_wp2_with fail
    refine (find_r (Uo.keeps (Keeps.setCell (Keeps.refl (· = w5.heap.size) _) (.inl rfl) _) (fun k h e => by have := hn7 k h; omega)) c l hc hl false false d _ _ rfl rfl HR2.out).mono ?_
    rintro e w8 ⟨rfl, S8, H8, M8⟩
    have hy8 := heap_keeps M8.1 (fun h => by have := hn7 _ h; omega) ((Below.heap_setCell w7 ⟨w5.heap.size, 1, .none⟩ (.bool false) _ (by show _ ≠ w5.heap.size; omega)).trans HY7.out)
    have hv8 := heap_keeps M8.1 (fun h => by have := hn7 _ h; omega) ((Below.heap_setCell w7 ⟨w5.heap.size, 1, .none⟩ (.bool false) _ (by show _ ≠ w5.heap.size; omega)).trans HV7.out)
    have B8 : Below w.heap.size w w8 := Keeps.toBelow (Below.setCell B7 (by show w.heap.size ≤ w5.heap.size; omega) _) M8.1 (by first | (simp; done) | (simp; omega)) (fun i h => by have := hn7 i h; omega)
    clear M8 H8 Uo HY7 HV7 hn7 k0 k1 k2 k3 k4 k5
    have y0 : w8.cell? ⟨w4.heap.size, 0, .none⟩ = some (.int .u32 fr) := by rw [cell_at hy8]; rfl
    have y1 : w8.cell? ⟨w4.heap.size, 1, .none⟩ = some (.int .u32 pd) := by rw [cell_at hy8]; rfl
    have y2 : w8.cell? ⟨w4.heap.size, 2, .none⟩ = some (.int .u32 pt) := by rw [cell_at hy8]; rfl
    have y3 : w8.cell? ⟨w4.heap.size, 3, .none⟩ = some (.bool xw) := by rw [cell_at hy8]; rfl
    have y4 : w8.cell? ⟨w4.heap.size, 4, .none⟩ = some (.bool xu) := by rw [cell_at hy8]; rfl
    have v0 : w8.cell? ⟨w6.heap.size, 0, .none⟩ = some (.int .u32 fr) := by rw [cell_at hv8]; rfl
    have v1 : w8.cell? ⟨w6.heap.size, 1, .none⟩ = some (.int .u32 pd) := by rw [cell_at hv8]; rfl
    have v2 : w8.cell? ⟨w6.heap.size, 2, .none⟩ = some (.int .u32 pt) := by rw [cell_at hv8]; rfl
    have v3 : w8.cell? ⟨w6.heap.size, 3, .none⟩ = some (.bool xw) := by rw [cell_at hv8]; rfl
    have v4 : w8.cell? ⟨w6.heap.size, 4, .none⟩ = some (.bool xu) := by rw [cell_at hv8]; rfl
    have t1 := heap_lt hy8
    have t2 := heap_lt hv8
    clear hy8 hv8
    go_wp2_with fail
    go_returns
    exact ⟨rfl, step_below B8 (by repeat' (first | (with_reducible exact Below.refl _ _) | (with_reducible refine Below.setCell ?_ (by first | (simp; done) | (simp; omega)) _) | (with_reducible refine below_dn ?_ _) | (with_reducible refine Below.alloc ?_ (by first | (simp; done) | (simp; omega)) _))) (Nat.le_refl _)⟩
  · obtain ⟨hx, hR, h8, g1, g2⟩ := HF.out hcd
    obtain ⟨rfl, rfl, rfl, rfl, rfl⟩ : fr = 0 ∧ pd = 0 ∧ pt = 0 ∧ xw = false ∧ xu = false := by
      unfold walk0 at hx
      injection hx with a1 a2 a3 a4 a5
      exact ⟨a1, a2, a3, a4, a5⟩
    subst hR
    go_wp2_with fail
    refine (alike_any (T4.m.below (by repeat' (first | (with_reducible exact Below.refl _ _) | (with_reducible refine Below.setCell ?_ (by first | (simp; done) | (simp; omega)) _) | (with_reducible refine below_dn ?_ _) | (with_reducible refine Below.alloc ?_ (by first | (simp; done) | (simp; omega)) _)))) (T4.r.below (by repeat' (first | (with_reducible exact Below.refl _ _) | (with_reducible refine Below.setCell ?_ (by first | (simp; done) | (simp; omega)) _) | (with_reducible refine below_dn ?_ _) | (with_reducible refine Below.alloc ?_ (by first | (simp; done) | (simp; omega)) _))))).mono ?_
    rintro e w5 ⟨rfl, b5⟩
    have hy5 := heap_below b5 (heap_new w4 _)
    have hx5 := heap_below b5 (heap_alloc_lt hx4)
    have y0 : w5.cell? ⟨w4.heap.size, 0, .none⟩ = some (.int .u32 0) := by rw [cell_at hy5]; rfl
    have y1 : w5.cell? ⟨w4.heap.size, 1, .none⟩ = some (.int .u32 0) := by rw [cell_at hy5]; rfl
    have y2 : w5.cell? ⟨w4.heap.size, 2, .none⟩ = some (.int .u32 0) := by rw [cell_at hy5]; rfl
    have y3 : w5.cell? ⟨w4.heap.size, 3, .none⟩ = some (.bool false) := by rw [cell_at hy5]; rfl
    have y4 : w5.cell? ⟨w4.heap.size, 4, .none⟩ = some (.bool false) := by rw [cell_at hy5]; rfl
    have x2 : w5.cell? ⟨w.heap.size, 2, .none⟩ = some (.bool a) := by rw [cell_at hx5]; rfl
    have x3 : w5.cell? ⟨w.heap.size, 3, .none⟩ = some (.bool b) := by rw [cell_at hx5]; rfl
    have B5 : Below w.heap.size w w5 := step_below (step_below B4 (by repeat' (first | (with_reducible exact Below.refl _ _) | (with_reducible refine Below.setCell ?_ (by first | (simp; done) | (simp; omega)) _) | (with_reducible refine below_dn ?_ _) | (with_reducible refine Below.alloc ?_ (by first | (simp; done) | (simp; omega)) _))) (Nat.le_refl _)) b5 (by first | (simp; done) | (simp; omega))
    clear hy5 hx5 b5 k0 k1 k2 k3 k4 hx4 HR HC HF HL T4 B4 J4 J
    go_wp2_with fail
    go_returns
    exact ⟨rfl, step_below B5 (by repeat' (first | (with_reducible exact Below.refl _ _) | (with_reducible refine Below.setCell ?_ (by first | (simp; done) | (simp; omega)) _) | (with_reducible refine below_dn ?_ _) | (with_reducible refine Below.alloc ?_ (by first | (simp; done) | (simp; omega)) _))) (Nat.le_refl _)⟩

set_option maxRecDepth 100000 in
theorem lifted (os : Os) (started : os.Started) (H : Type) (enc : TypeId × Value → H) :
    ReturnsInHanded {} Try.checked os 6 .any (Rows.pageLessSpec.pre6 enc Try.prog Try.f6 Rows.pageLessRow.domain false) (Rows.pageLessSpec.post enc Try.prog Try.f6 false true false false) := by
  refine returnsInHanded_of_change (C := Try.checked) own started (by kernel_rfl) Try.func6
    (ChangeSpec.witness6 (enc := enc) (C := Try.checked) false ⟨#[], #[.slice none 0 0, .agg #[.int .u32 0, .int .u32 0, .bool false, .bool false, .bool false]], []⟩ 8 (by kernel_rfl) (by kernel_rfl) (by kernel_rfl) (by kernel_rfl)) ?_
  intro W base args ds gs before hval0 hW hcnd _
  have hval : ∀ (j : Nat) t v, Try.f6.params[j]? = some t → args[j]? = some v → Value.okWide Try.prog W .any base t v := hval0
  have hW' := hW
  obtain ⟨p, q, hA0, hV, rfl, hfz, hnd⟩ := hW
  have hA : DataW.TrodAll enc Try.prog W 0 (fun _ => true) true Try.f6.params.toList args.toList ds p := hA0
  rw [Try.params6] at hA hval
  obtain ⟨v0, vs0, d0, ds0, p0, q0, hargs, rfl, rfl, h0, r0⟩ := trodAll_cons hA
  obtain ⟨v1, vs1, d1, ds1, p1, q1, rfl, rfl, rfl, h1, r1⟩ := trodAll_cons r0
  obtain ⟨rfl, rfl, rfl⟩ := trodAll_nil r1
  obtain rfl : args = #[v0, v1] := by cases args; simp_all
  clear hA0 hval0
  obtain ⟨a0, n0, c0, t0, x0, rfl, m0, J0⟩ := arg_words (hval 0 34 v0 rfl rfl) h0
  obtain ⟨ac, al, ap, aq, ar, rfl, ahc, ahl⟩ := open_ask (hval 1 26 v1 rfl rfl)
  exact law_end (by kernel_rfl) hW' rfl (by kernel_rfl) Try.underlying4 rfl rfl (walk W a0 n0 c0 t0 x0 m0 J0 ac al ap aq ar ahc ahl)

theorem proved : Rows.PageLessSaid :=
  OpenClaim.holds_of_wide 6 Try.f6 rfl rfl rfl rfl rfl rfl rfl ⟨rfl, rfl, rfl, rfl, rfl⟩ rfl rfl rfl rfl rfl (by kernel_rfl) Try.func6 (by kernel_rfl)
    (of_decide_eq_true (by kernel_rfl)) (by unfold Func.isWrapper; first | (rw [if_pos (by decide +kernel)]; kernel_rfl) | (rw [if_neg (by decide +kernel)]; exact ⟨rfl, rfl⟩))
    (fun os started H enc _ => lifted os started H enc)
#print axioms proved
end Go.Proofs.Ytipkfbfmpnilmaa.pageLess
