/- 'drawloom/drawloomlaw09.PageMoves' answers true for every input. Conditions: none. -/
import Derived.Test.YtipkfbfmpnilmaaFrame
import Derived.Test.YtipkfbfmpnilmaaPAwake
import Derived.Test.YtipkfbfmpnilmaaPArgs
import Derived.Test.YtipkfbfmpnilmaaPMarks
namespace Go.Proofs.Ytipkfbfmpnilmaa.pageMoves
open Go.ChangeShapes Go.WideShapes Go.ChangeAt Go.RowKit
set_option linter.unusedVariables false

open Go.MapKept
theorem open_ask {w : World} {r0 : Reach} {base : Nat} {v : Value} (h : Value.okWide Try.prog w r0 base 26 v) :
    ∃ (c l : Nat) (a b d : Bool), v = .agg #[.int .u32 c, .int .u32 l, .bool a, .bool b, .bool d] ∧ c < 4294967296 ∧ l < 4294967296 := by
  obtain ⟨cs, rfl, hlen, hc⟩ := arg_agg (ts := [22, 22, 4, 4, 4]) Try.underlying26 (by kernel_rfl) (by kernel_rfl) h
  match cs, hlen, hc with
  | [c0, c1, c2, c3, c4], _, hc =>
    obtain ⟨k, rfl, l0, u0⟩ := cell_int Try.underlying22 (hc 0 c0 22 rfl rfl)
    obtain ⟨p, rfl, l1, u1⟩ := cell_int Try.underlying22 (hc 1 c1 22 rfl rfl)
    obtain ⟨a, rfl⟩ := cell_bool Try.underlying4 (hc 2 c2 4 rfl rfl)
    obtain ⟨b, rfl⟩ := cell_bool Try.underlying4 (hc 3 c3 4 rfl rfl)
    obtain ⟨d, rfl⟩ := cell_bool Try.underlying4 (hc 4 c4 4 rfl rfl)
    have l2 : 0 ≤ k := l0
    have l3 : 0 ≤ p := l1
    have u2 : k < 4294967296 := Int.lt_of_le_of_lt u0 (by decide)
    have u3 : p < 4294967296 := Int.lt_of_le_of_lt u1 (by decide)
    obtain ⟨k, rfl⟩ := Int.eq_ofNat_of_zero_le l2
    obtain ⟨p, rfl⟩ := Int.eq_ofNat_of_zero_le l3
    exact ⟨k, p, a, b, d, rfl, by omega, by omega⟩

theorem words_below {w w1 : World} {a : Option Addr} {len : Nat} {at_ v : Nat → Nat} (h : WordsIn w a len at_ v) (hb : Below w.heap.size w w1) : WordsIn w1 a len at_ v := by
  rcases h with h | ⟨b, off, e, h⟩
  · exact .inl h
  · exact .inr ⟨b, off, e, h.below hb⟩
theorem find_r {w : World} {b : Nat} {S : Nat → Prop} {R : RS} (H : Ram w b S R) (cr3 lin : Nat) (hc : cr3 < 4294967296) (hl : lin < 4294967296) (wr us wp : Bool) (x y : Int) (hx : x = (cr3 : Int)) (hy : y = (lin : Int)) {fr pd pt : Nat} {xw xu : Bool} {cd : Int} {R' : RS}
    (hr : find R cr3 lin wr us wp = (⟨fr, pd, pt, xw, xu⟩, cd, R')) :
    Calls Try.prog 8 #[.pointer (some ⟨b, 0, .none⟩), .int .u32 x, .int .u32 y, .agg #[.bool wr, .bool us, .bool wp]] w fun e w' =>
      e = .returned (.tuple #[.agg #[.int .u32 fr, .int .u32 pd, .int .u32 pt, .bool xw, .bool xu], .int .i64 cd, .int .i64 0]) ∧ ∃ S', Ram w' b S' R' ∧ Moves S S' w w' := by
  rw [hx, hy]
  refine (find_any H cr3 lin hc hl wr us wp).mono ?_
  rintro e w' ⟨he, S', H', M'⟩
  rw [hr] at he H'
  exact ⟨he, S', H', M'⟩
theorem low_or (c k : Nat) (hc : c < 4294967296) : bits .or .u32 ((c : Int) / 4096 * 4096) ((k : Int) % 4096) = ((c / 4096 * 4096 + k % 4096 : Nat) : Int) := by
  have h := u32_or_nat (c / 4096 * 4096) (k % 4096) (by omega) (by omega)
  rw [nat_join 12 _ _ (by rw [show (2 : Nat) ^ 12 = 4096 from rfl]; omega) (by rw [show (2 : Nat) ^ 12 = 4096 from rfl]; omega)] at h
  rw [← h]; simp

set_option maxRecDepth 100000 in
set_option maxHeartbeats 8000000 in
theorem walk (w : World) (ad : Option Addr) (len cap : Nat) (at_ x : Nat → Nat) (hlen : len ≤ 9223372036854775807) (J : WordsIn w ad len at_ x) (c l : Nat) (a b d : Bool) (hc : c < 4294967296) (hl : l < 4294967296) (lo : Int) (lo0 : IntKind.u32.min ≤ lo) (lo1 : lo ≤ IntKind.u32.max) (hi : Int) (hi0 : IntKind.u32.min ≤ hi) (hi1 : hi ≤ IntKind.u32.max) :
    Calls Try.prog 4 #[.slice ad len cap, .agg #[.int .u32 c, .int .u32 l, .bool a, .bool b, .bool d], .int .u32 lo, .int .u32 hi] w fun e w' => e = .returned (.bool true) ∧ Below w.heap.size w w' := by
  have lo2 : 0 ≤ lo := lo0
  have lo3 : lo < 4294967296 := Int.lt_of_le_of_lt lo1 (by decide)
  have hi2 : 0 ≤ hi := hi0
  have hi3 : hi < 4294967296 := Int.lt_of_le_of_lt hi1 (by decide)
  clear lo0 lo1 hi0 hi1
  obtain ⟨lo, rfl⟩ := Int.eq_ofNat_of_zero_le lo2
  obtain ⟨hi, rfl⟩ := Int.eq_ofNat_of_zero_le hi2
  rcases hr : find (bothR 16 at_ x len (fun _ => 0) 0) c l a b d with ⟨⟨fr, pd, pt, xw, xu⟩, cd, Rr⟩
  have hlow : find (bothR 16 at_ x len (fun _ => 0) 0) (c / 4096 * 4096 + hi % 4096) (l / 4096 * 4096 + lo % 4096) a b d = (⟨fr, pd, pt, xw, xu⟩, cd, Rr) := by
    rw [find_low _ c l _ _ (by omega) (by omega)]; exact hr
  have hok := find_ok (bothR 16 at_ x len (fun _ => 0) 0) (Plain.both 16 at_ x len (fun _ => 0)) c l hc hl a b d
  rw [hr] at hok
  have HR := Lib.hid hr
  have HLOW := Lib.hid hlow
  have HOK := Lib.hid hok
  have f1 := a4095 c hc
  have f2 := a4095 l hl
  have HO1 := Lib.hid (low_or c hi hc)
  have HO2 := Lib.hid (low_or l lo hl)
  clear hr hlow hok
  go_enter Try.func4, Try.ntmps4
  go_wp2_with fail
  refine (awake_any _).mono ?_
  rintro e w1 ⟨rfl, b1⟩
  have hx0 := heap_below b1 (heap_new w _)
  have B1 : Below w.heap.size w w1 := step_below (by go_grown) b1 (Nat.le_refl _)
  have z1 : w.heap.size < w1.heap.size := heap_lt hx0
  have J1 := words_below J B1
  clear b1
  have HX := Lib.hid hx0
  clear hx0
  go_wp2_with fail
  refine (both_any w1 16 ad len cap at_ x J1 .none 0 0 (fun _ => 0) (.inl rfl) hlen (by decide)).mono ?_
  rintro e w2 ⟨bm, S, bm', S', rfl, T⟩
  have J2 := words_below J1 T.B
  have HX2 := Lib.hid (heap_below T.B HX.out)
  clear HX
  go_wp2_with fail
  refine (both_any w2 16 ad len cap at_ x J2 .none 0 0 (fun _ => 0) (.inl rfl) hlen (by decide)).mono ?_
  rintro e w3 ⟨bn, Sn, bn', Sn', rfl, U⟩
  have T3 := T.below U.B
  have hx3 := heap_below U.B HX2.out
  have hl1 : ∀ k, Sn k → w1.heap.size ≤ k := fun k h => Nat.le_trans T.B.size (U.l1 k h)
  have hd1 : ∀ k, Sn k → ¬ S k := fun k h1 h2 => by have := U.l1 k h1; have := T.m.lt h2; omega
  clear HX2 T J1 J2
  have k0 : w3.cell? ⟨w.heap.size, 0, .none⟩ = some (.int .u32 c) := by rw [cell_at hx3]; rfl
  have k1 : w3.cell? ⟨w.heap.size, 1, .none⟩ = some (.int .u32 l) := by rw [cell_at hx3]; rfl
  have k2 : w3.cell? ⟨w.heap.size, 2, .none⟩ = some (.bool a) := by rw [cell_at hx3]; rfl
  have k3 : w3.cell? ⟨w.heap.size, 3, .none⟩ = some (.bool b) := by rw [cell_at hx3]; rfl
  have k4 : w3.cell? ⟨w.heap.size, 4, .none⟩ = some (.bool d) := by rw [cell_at hx3]; rfl
  have HX3 := Lib.hid hx3
  clear hx3
  go_wp2_with fail
  refine (find_r T3.m c l hc hl a b d _ _ rfl rfl HR.out).mono ?_
  rintro e w4 ⟨rfl, S4, H4, M4⟩
  have T4 := T3.moveM H4 M4
  have Un : Ram w4 bn Sn _ := U.m.keeps M4.1 hd1
  have hd2 : ∀ k, Sn k → ¬ S4 k := fun k h1 h2 => by
    rcases M4.2 k h2 with h | h
    · exact hd1 k h1 h
    · have := U.m.lt h1
      omega
  have hx4 := heap_keeps M4.1 (fun h => by have := T3.l1 _ h; omega) HX3.out
  clear HX3 H4 M4 U T3 hd1 k0 k1 k2 k3 k4
  have k0 : w4.cell? ⟨w.heap.size, 0, .none⟩ = some (.int .u32 c) := by rw [cell_at hx4]; rfl
  have k1 : w4.cell? ⟨w.heap.size, 1, .none⟩ = some (.int .u32 l) := by rw [cell_at hx4]; rfl
  have k2 : w4.cell? ⟨w.heap.size, 2, .none⟩ = some (.bool a) := by rw [cell_at hx4]; rfl
  have k3 : w4.cell? ⟨w.heap.size, 3, .none⟩ = some (.bool b) := by rw [cell_at hx4]; rfl
  have k4 : w4.cell? ⟨w.heap.size, 4, .none⟩ = some (.bool d) := by rw [cell_at hx4]; rfl
  have z4 := heap_lt hx4
  have HX4 := Lib.hid hx4
  clear hx4
  go_wp2_with fail
  refine (find_r (Un.below (by repeat' (first | (with_reducible exact Below.refl _ _) | (with_reducible refine Below.setCell ?_ (by first | (simp; done) | (simp; omega)) _) | (with_reducible refine below_dn ?_ _) | (with_reducible refine Below.alloc ?_ (by first | (simp; done) | (simp; omega)) _)))) (c / 4096 * 4096 + hi % 4096) (l / 4096 * 4096 + lo % 4096) (by omega) (by omega) a b d _ _ (by rw [← HO1.out]) (by rw [← HO2.out]) HLOW.out).mono ?_
  rintro e w5 ⟨rfl, S5, H5, M5⟩
  have hm5 : Ram w5 bm S4 Rr := (T4.m.below (w' := _) (by repeat' (first | (with_reducible exact Below.refl _ _) | (with_reducible refine Below.setCell ?_ (by first | (simp; done) | (simp; omega)) _) | (with_reducible refine below_dn ?_ _) | (with_reducible refine Below.alloc ?_ (by first | (simp; done) | (simp; omega)) _)))).keeps M5.1 (fun k h1 h2 => hd2 k h2 h1)
  have hx5 := heap_keeps M5.1 (fun h => by have := hl1 _ h; omega) (heap_alloc_lt HX4.out)
  have hy5 := heap_keeps M5.1 (fun h => Nat.lt_irrefl _ (Un.lt h)) (heap_new w4 _)
  have B5 : Below w.heap.size w w5 := Keeps.toBelow (step_below (step_below B1 T4.B (Nat.le_refl _)) (by repeat' (first | (with_reducible exact Below.refl _ _) | (with_reducible refine Below.setCell ?_ (by first | (simp; done) | (simp; omega)) _) | (with_reducible refine below_dn ?_ _) | (with_reducible refine Below.alloc ?_ (by first | (simp; done) | (simp; omega)) _))) (Nat.le_refl _)) M5.1 (by simp; omega) (fun i h => by have := hl1 i h; omega)
  have y0 : w5.cell? ⟨w4.heap.size, 0, .none⟩ = some (.int .u32 fr) := by rw [cell_at hy5]; rfl
  have y1 : w5.cell? ⟨w4.heap.size, 1, .none⟩ = some (.int .u32 pd) := by rw [cell_at hy5]; rfl
  have y2 : w5.cell? ⟨w4.heap.size, 2, .none⟩ = some (.int .u32 pt) := by rw [cell_at hy5]; rfl
  have y3 : w5.cell? ⟨w4.heap.size, 3, .none⟩ = some (.bool xw) := by rw [cell_at hy5]; rfl
  have y4 : w5.cell? ⟨w4.heap.size, 4, .none⟩ = some (.bool xu) := by rw [cell_at hy5]; rfl
  have x1 : w5.cell? ⟨w.heap.size, 1, .none⟩ = some (.int .u32 l) := by rw [cell_at hx5]; rfl
  have z5 := heap_lt hy5
  have z6 := heap_lt hx5
  clear hx5 hy5 M5 H5 k0 k1 k2 k3 k4 f1 f2 HX4 Un T4
  rcases HOK.out with h0 | ⟨h0, h1, h2, h3, h4, h5, h6, h7⟩
  · have h0 : 0 ≤ cd := h0
    go_wp2_with fail
    go_returns
    exact ⟨rfl, step_below B5 (by repeat' (first | (with_reducible exact Below.refl _ _) | (with_reducible refine Below.setCell ?_ (by first | (simp; done) | (simp; omega)) _) | (with_reducible refine below_dn ?_ _) | (with_reducible refine Below.alloc ?_ (by first | (simp; done) | (simp; omega)) _))) (Nat.le_refl _)⟩
  · have h0 : cd = -1 := h0
    subst h0
    have v32 : Rr.read pt 4 < 4294967296 := RS.read_lt hm5.isok _ 4
    have gv := a4095 (Rr.read pt 4) v32
    rw [h5] at gv
    have g1 : ((fr : Int) % 4096 == 0) = true := by rw [beq_iff_eq]; omega
    have g2 : ((pt : Int) % 4096 / 4 == (l : Int) / 4096 % 1024) = true := by rw [beq_iff_eq]; omega
    have g3 : ((pd : Int) % 4096 / 4 == (l : Int) / 4194304) = true := by rw [beq_iff_eq]; omega
    clear h1 h5 h6 h7 HOK HR HLOW HO1 HO2
    go_wp2_with fail
    refine (read_4 (hm5.below (by repeat' (first | (with_reducible exact Below.refl _ _) | (with_reducible refine Below.setCell ?_ (by first | (simp; done) | (simp; omega)) _) | (with_reducible refine below_dn ?_ _) | (with_reducible refine Below.alloc ?_ (by first | (simp; done) | (simp; omega)) _)))) pt h4).mono ?_
    rintro e w6 ⟨rfl, n6, rfl⟩
    generalize Rr.read pt 4 = v at *
    go_wp2_with fail
    go_returns
    exact ⟨rfl, step_below B5 (by repeat' (first | (with_reducible exact Below.refl _ _) | (with_reducible refine Below.setCell ?_ (by first | (simp; done) | (simp; omega)) _) | (with_reducible refine below_dn ?_ _) | (with_reducible refine Below.alloc ?_ (by first | (simp; done) | (simp; omega)) _))) (Nat.le_refl _)⟩

set_option maxRecDepth 100000 in
theorem lifted (os : Os) (started : os.Started) (H : Type) (enc : TypeId × Value → H) :
    ReturnsInHanded {} Try.checked os 4 .any (Rows.pageMovesSpec.pre6 enc Try.prog Try.f4 Rows.pageMovesRow.domain false) (Rows.pageMovesSpec.post enc Try.prog Try.f4 false true false false) := by
  refine returnsInHanded_of_change (C := Try.checked) own started (by kernel_rfl) Try.func4
    (ChangeSpec.witness6 (enc := enc) (C := Try.checked) false ⟨#[], #[.slice none 0 0, .agg #[.int .u32 0, .int .u32 0, .bool false, .bool false, .bool false], .int .u32 0, .int .u32 0], []⟩ 8 (by kernel_rfl) (by kernel_rfl) (by kernel_rfl) (by kernel_rfl)) ?_
  intro W base args ds gs before hval0 hW hcnd _
  have hval : ∀ (j : Nat) t v, Try.f4.params[j]? = some t → args[j]? = some v → Value.okWide Try.prog W .any base t v := hval0
  have hW' := hW
  obtain ⟨p, q, hA0, hV, rfl, hfz, hnd⟩ := hW
  have hA : DataW.TrodAll enc Try.prog W 0 (fun _ => true) true Try.f4.params.toList args.toList ds p := hA0
  rw [Try.params4] at hA hval
  obtain ⟨v0, vs0, d0, ds0, p0, q0, hargs, rfl, rfl, h0, r0⟩ := trodAll_cons hA
  obtain ⟨v1, vs1, d1, ds1, p1, q1, rfl, rfl, rfl, h1, r1⟩ := trodAll_cons r0
  obtain ⟨v2, vs2, d2, ds2, p2, q2, rfl, rfl, rfl, h2, r2⟩ := trodAll_cons r1
  obtain ⟨v3, vs3, d3, ds3, p3, q3, rfl, rfl, rfl, h3, r3⟩ := trodAll_cons r2
  obtain ⟨rfl, rfl, rfl⟩ := trodAll_nil r3
  obtain rfl : args = #[v0, v1, v2, v3] := by cases args; simp_all
  clear hA0 hval0
  obtain ⟨a0, n0, c0, t0, x0, rfl, m0, J0⟩ := arg_words (hval 0 34 v0 rfl rfl) h0
  obtain ⟨ac, al, ap, aq, ar, rfl, ahc, ahl⟩ := open_ask (hval 1 26 v1 rfl rfl)
  obtain ⟨a2, rfl, l2, u2⟩ := arg_int Try.underlying22 (hval 2 22 v2 rfl rfl)
  obtain ⟨a3, rfl, l3, u3⟩ := arg_int Try.underlying22 (hval 3 22 v3 rfl rfl)
  exact law_end (by kernel_rfl) hW' rfl (by kernel_rfl) Try.underlying4 rfl rfl (walk W a0 n0 c0 t0 x0 m0 J0 ac al ap aq ar ahc ahl a2 l2 u2 a3 l3 u3)

theorem proved : Rows.PageMovesSaid :=
  OpenClaim.holds_of_wide 4 Try.f4 rfl rfl rfl rfl rfl rfl rfl ⟨rfl, rfl, rfl, rfl, rfl⟩ rfl rfl rfl rfl rfl (by kernel_rfl) Try.func4 (by kernel_rfl)
    (of_decide_eq_true (by kernel_rfl)) (by unfold Func.isWrapper; first | (rw [if_pos (by decide +kernel)]; kernel_rfl) | (rw [if_neg (by decide +kernel)]; exact ⟨rfl, rfl⟩))
    (fun os started H enc _ => lifted os started H enc)
#print axioms proved
end Go.Proofs.Ytipkfbfmpnilmaa.pageMoves
