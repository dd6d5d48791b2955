/- 'drawloom/drawloomlaw10.TlbFinds' answers true for every input. Conditions: none. -/
import Derived.Test.YthogfhejfnmdkaaFrame
import Derived.Test.YthogfhejfnmdkaaTlbI
import Derived.Test.YthogfhejfnmdkaaAlike1
namespace Go.Proofs.Ythogfhejfnmdkaa.tlbFinds
open Go.ChangeShapes Go.WideShapes Go.ChangeAt Go.RowKit
set_option linter.unusedVariables false

open Go.MapKept
def FRel (w1 wr : World) (t b1 b2 m k : Nat) : Prop := ∃ R wF, Tri w1 wr (KpP t b1 m k R) (RefP b2 R) Nothing none_ wF
def OCells (ki : Int) (cr lin : Nat) (x y z : Bool) (a v : Nat) : Array Value := #[.int .i64 ki, .int .u32 (cr : Nat), .int .u32 (lin : Nat), .bool x, .bool y, .bool z, .int .u32 (a : Nat), .int .u32 (v : Nat)]
def Box8 (W : World) (g : Nat) (ki : Int) (cr lin : Nat) (x y z : Bool) (a v : Nat) : Prop := W.heap[g]? = some (.cells (OCells ki cr lin x y z a v) 50)
theorem Box8.facts {W : World} {g : Nat} {ki : Int} {cr lin : Nat} {x y z : Bool} {a v : Nat} (h : Box8 W g ki cr lin x y z a v) : W.cell? ⟨g, 0, none⟩ = some (.int .i64 ki) ∧ W.cell? ⟨g, 1, none⟩ = some (.int .u32 (cr : Nat)) ∧ W.cell? ⟨g, 2, none⟩ = some (.int .u32 (lin : Nat)) ∧ W.cell? ⟨g, 3, none⟩ = some (.bool x) ∧ W.cell? ⟨g, 4, none⟩ = some (.bool y) ∧ W.cell? ⟨g, 5, none⟩ = some (.bool z) ∧
    W.cell? ⟨g, 6, none⟩ = some (.int .u32 (a : Nat)) ∧ W.cell? ⟨g, 7, none⟩ = some (.int .u32 (v : Nat)) ∧ g < W.heap.size := by
  unfold Box8 at h
  refine ⟨?_, ?_, ?_, ?_, ?_, ?_, ?_, ?_, heap_lt h⟩ <;> (rw [cell_at h]; rfl)
theorem arg_ints' {w : World} {a : Option Addr} {len : Nat} {z : Nat → Int} (h : IntsIn .i64 w a len z) : IntsOf w a len z := by
  rcases h with h | ⟨b, off, e, hb, h⟩
  · exact .inl h
  · exact .inr ⟨b, off, e, fun i hi => (h i hi).1, fun i hi => ⟨(h i hi).2.1, (h i hi).2.2⟩, hb⟩
def BoxW (W : World) (g : Nat) (fr pd pt : Nat) (xw xu : Bool) : Prop := W.heap[g]? = some (.cells #[.int .u32 (fr : Nat), .int .u32 (pd : Nat), .int .u32 (pt : Nat), .bool xw, .bool xu] 38)
theorem BoxW.facts {W : World} {g fr pd pt : Nat} {xw xu : Bool} (h : BoxW W g fr pd pt xw xu) : W.cell? ⟨g, 0, none⟩ = some (.int .u32 (fr : Nat)) ∧ W.cell? ⟨g, 1, none⟩ = some (.int .u32 (pd : Nat)) ∧ W.cell? ⟨g, 2, none⟩ = some (.int .u32 (pt : Nat)) ∧ W.cell? ⟨g, 3, none⟩ = some (.bool xw) ∧ W.cell? ⟨g, 4, none⟩ = some (.bool xu) ∧ g < W.heap.size := by
  unfold BoxW at h
  refine ⟨?_, ?_, ?_, ?_, ?_, heap_lt h⟩ <;> (rw [cell_at h]; rfl)
theorem ops_eight {w : World} {b off len : Nat} {ki : Nat → Int} {cr lin : Nat → Nat} {wr us wp : Nat → Bool} {at_ v : Nat → Nat} (A : OpsAt w b off len ki cr lin wr us wp at_ v) (k : Nat) (hk : k < len) :
    w.cell? ⟨b, off + k * 8, none⟩ = some (.int .i64 (ki k)) ∧ w.cell? ⟨b, off + k * 8 + 1, none⟩ = some (.int .u32 (cr k : Nat)) ∧ w.cell? ⟨b, off + k * 8 + 2, none⟩ = some (.int .u32 (lin k : Nat)) ∧ w.cell? ⟨b, off + k * 8 + 3, none⟩ = some (.bool (wr k)) ∧ w.cell? ⟨b, off + k * 8 + 4, none⟩ = some (.bool (us k)) ∧
      w.cell? ⟨b, off + k * 8 + 5, none⟩ = some (.bool (wp k)) ∧ w.cell? ⟨b, off + k * 8 + 6, none⟩ = some (.int .u32 (at_ k : Nat)) ∧ w.cell? ⟨b, off + k * 8 + 7, none⟩ = some (.int .u32 (v k : Nat)) ∧ b < w.heap.size :=
  ⟨A.c0 k hk, A.c1 k hk, A.c2 k hk, A.c3 k hk, A.c4 k hk, A.c5 k hk, A.c6 k hk, A.c7 k hk, A.hb⟩
set_option maxRecDepth 100000 in
set_option maxHeartbeats 4000000 in
theorem walk (m : Int) (lo : -9223372036854775808 ≤ m) (hi : m ≤ 9223372036854775807) (w : World) (ad : Option Addr) (len cap : Nat) (at_ x : Nat → Nat) (hlen : len ≤ 9223372036854775807) (J : WordsIn w ad len at_ x)
    (od : Option Addr) (ol oc : Nat) (o : Nat → Int) (hol : ol ≤ 9223372036854775807) (I0 : IntsIn .i64 w od ol o)
    (sd : Option Addr) (sl sc : Nat) (ki : Nat → Int) (cr lin : Nat → Nat) (fw fu fp : Nat → Bool) (wa wv : Nat → Nat) (hsl : sl ≤ 9223372036854775807) (A : OpsIn w sd sl ki cr lin fw fu fp wa wv) (hreach : sl * 32 ≤ 140737488351232) :
    Calls Try.prog 7 #[.int .i64 m, .slice ad len cap, .slice od ol oc, .slice sd sl sc] w fun e w' => e = .returned (.bool true) ∧ Below w.heap.size w w' := by
  have I := arg_ints' I0
  have HRE := Lib.hid (show sl * 12 ≤ 140737488355328 by omega)
  have HLEN := Lib.hid hlen
  have HOL := Lib.hid hol
  clear hreach hlen hol I0
  go_enter Try.func7, Try.ntmps7
  go_wp2_with fail
  refine (awake_any _).mono ?_
  rintro e w1 ⟨rfl, B1⟩
  have HB1 := Lib.hid B1
  have HA1 := Lib.hid (A.below B1)
  have HJ1 := Lib.hid (words_below J B1)
  have HI1 : Hid (IntsOf w1 od ol o) := Lib.hid (by
    rcases I with h | ⟨b, off, e, h⟩
    · exact .inl h
    · exact .inr ⟨b, off, e, h.below B1⟩)
  clear A J B1 I
  go_wp2_with fail
  refine (both_any w1 16 ad len cap at_ x HJ1.out od ol oc o HI1.out HLEN.out HOL.out).mono ?_
  rintro e w2 ⟨b1, S1, b2, S2, rfl, T1⟩
  have HU1 := Lib.hid (tri_both2 T1)
  have HWD := Lib.hid (Wide.both 16 at_ x len o ol)
  clear T1
  generalize bothR 16 at_ x len o ol = R0 at *
  by_cases hbad : m < 0 ∨ 64 < m
  · go_wp2_with fail
    refine (tnew_bad _ _ m hbad).mono ?_
    rintro e w3 ⟨rfl, rfl⟩
    by_cases h0 : m < 0
    · clear hbad
      go_wp2_with fail
      go_returns
      exact ⟨rfl, step_below HB1.out HU1.out.B (Nat.le_refl _)⟩
    · have h1 : 64 < m := by omega
      clear hbad
      go_wp2_with fail
      go_returns
      exact ⟨rfl, step_below HB1.out HU1.out.B (Nat.le_refl _)⟩
  · obtain ⟨m, rfl⟩ : ∃ n : Nat, m = (n : Int) := ⟨m.toNat, by omega⟩
    have hm : m ≤ 64 := by omega
    have h0 : ¬ (m : Int) < 0 := by omega
    have h1 : ¬ 64 < (m : Int) := by omega
    clear hbad
    go_wp2_with fail
    refine (tri_new HU1.out (RefP.local _ _) Nothing.local HWD.out m hm _ rfl).mono ?_
    rintro e w3 ⟨t, rfl, T2⟩
    have HU2 := Lib.hid T2
    clear T2 HU1 HWD HJ1 HI1
    go_wp2_with fail
    refine (tri_keptc HU2.out).mono ?_
    rintro e w4 ⟨rfl, rfl⟩
    go_wp2_with fail
    go_loopw [14] (fun i wr => ∃ k : Nat, k ≤ sl ∧ i = .int .i64 k ∧ FRel w1 wr t b1 b2 m k) (fun i _ => sl - (intOf i).toNat)
    case atStart => exact ⟨0, by omega, rfl, R0, _, tri_known HU2.out⟩
    case round =>
      clear HU2
      obtain ⟨k, hk, rfl, R, wF, T0⟩ := hrel
      have HT0 := Lib.hid T0
      clear T0
      by_cases hlt : k < sl
      · obtain ⟨kb, ko, rfl, A2⟩ : ∃ b off, sd = some ⟨b, off, none⟩ ∧ OpsAt w1 b off sl ki cr lin fw fu fp wa wv := by
          rcases HA1.out with h | h
          · omega
          · exact h
        have hu1 := A2.u1 k hlt
        have hu2 := A2.u2 k hlt
        have hu6 := A2.u6 k hlt
        have hu7 := A2.u7 k hlt
        obtain ⟨c0, c1, c2, c3, c4, c5, c6, c7, cb⟩ := ops_eight (A2.below HT0.out.B) k hlt
        have q1 : (0 : Int) ≤ (k : Int) := by omega
        have q2 : (k : Int) < (sl : Int) := by omega
        have HLT := Lib.hid hlt
        have hkn : (k + 1) * 12 ≤ 140737488355328 := by have := HRE.out; omega
        have HKN := Lib.hid hkn
        clear A2 hkn
        go_upto_region 14 with (fail)
        have HX8 : Hid (Box8 (wr.alloc (.cells #[.int .i64 (ki k), .int .u32 (cr k : Nat), .int .u32 (lin k : Nat), .bool (fw k), .bool (fu k), .bool (fp k), .int .u32 (wa k : Nat), .int .u32 (wv k : Nat)] 50)) wr.heap.size (ki k) (cr k) (lin k) (fw k) (fu k) (fp k) (wa k) (wv k)) := Lib.hid (heap_new wr _)
        have HT1 := Lib.hid (HT0.out.boxes (KpP.local _ _ _ _ _) (RefP.local _ _) Nothing.local ((Below.refl wr.heap.size wr).alloc (Nat.le_refl _) (.cells #[.int .i64 (ki k), .int .u32 (cr k : Nat), .int .u32 (lin k : Nat), .bool (fw k), .bool (fu k), .bool (fp k), .int .u32 (wa k : Nat), .int .u32 (wv k : Nat)] 50)) (F' := fun j => j = wr.heap.size) (fun j h => .inr (by simp; omega)))
        generalize hW : wr.alloc (.cells #[.int .i64 (ki k), .int .u32 (cr k : Nat), .int .u32 (lin k : Nat), .bool (fw k), .bool (fu k), .bool (fp k), .int .u32 (wa k : Nat), .int .u32 (wv k : Nat)] 50) = W at *
        generalize hg1 : wr.heap.size = g1 at *
        clear hW hg1 c0 c1 c2 c3 c4 c5 c6 c7 cb HT0
        obtain ⟨y0, y1, y2, y3, y4, y5, y6, y7, yl⟩ := HX8.out.facts
        by_cases hk1 : ki k = 1
        · have hb1 : (ki k == 1) = true := by simp [hk1]
          have HKK := Lib.hid hk1
          rcases hr : find R (cr k) (lin k) (fw k) (fu k) (fp k) with ⟨⟨fr, pd, pt, xw, xu⟩, cd, R'⟩
          have HR := Lib.hid hr
          clear hr hk1
          go_wp2_with fail
          refine (tri_find HT1.out (RefP.local _ _) Nothing.local (cr k) (lin k) hu1 hu2 (fw k) (fu k) (fp k) HKN.out _ _ rfl rfl HR.out).mono ?_
          rintro e w7 ⟨rfl, T⟩
          have HT2 := Lib.hid (T.boxes (KpP.local _ _ _ _ _) (RefP.local _ _) Nothing.local ((Below.refl w7.heap.size w7).alloc (Nat.le_refl _) (.cells #[.int .u32 (fr : Nat), .int .u32 (pd : Nat), .int .u32 (pt : Nat), .bool xw, .bool xu] 38)) (F' := fun j => j = g1 ∨ j = w7.heap.size) (fun j h => h.imp id (fun h => ⟨by omega, by simp; omega⟩))).rot
          have HXA : Hid (Box8 (w7.alloc (.cells #[.int .u32 (fr : Nat), .int .u32 (pd : Nat), .int .u32 (pt : Nat), .bool xw, .bool xu] 38)) g1 (ki k) (cr k) (lin k) (fw k) (fu k) (fp k) (wa k) (wv k)) := Lib.hid (heap_alloc_lt ((T.box rfl).trans HX8.out))
          have HXB : Hid (BoxW (w7.alloc (.cells #[.int .u32 (fr : Nat), .int .u32 (pd : Nat), .int .u32 (pt : Nat), .bool xw, .bool xu] 38)) w7.heap.size fr pd pt xw xu) := Lib.hid (heap_new w7 _)
          clear T HT1 y0 y1 y2 y3 y4 y5 y6 y7 yl
          go_upto_region 17 with (fail)
          generalize hW : w7.alloc (.cells #[.int .u32 (fr : Nat), .int .u32 (pd : Nat), .int .u32 (pt : Nat), .bool xw, .bool xu] 38) = W7 at *
          generalize hG : w7.heap.size = gx at *
          clear hW hG
          obtain ⟨y0, y1, y2, y3, y4, y5, y6, y7, yl⟩ := HXA.out.facts
          go_wp2_with fail
          refine (tri_reffind HT2.out Nothing.local (KpP.local _ _ _ _ _) (cr k) (lin k) hu1 hu2 (fw k) (fu k) (fp k) _ _ rfl rfl HR.out).mono ?_
          rintro e w8 ⟨rfl, T⟩
          have HTZ := Lib.hid (T.boxes (RefP.local _ _) Nothing.local (KpP.local _ _ _ _ _) ((Below.refl w8.heap.size w8).alloc (Nat.le_refl _) (.cells #[.int .u32 (fr : Nat), .int .u32 (pd : Nat), .int .u32 (pt : Nat), .bool xw, .bool xu] 38)) (F' := fun j => (j = g1 ∨ j = gx) ∨ j = w8.heap.size) (fun j h => h.imp id (fun h => ⟨by omega, by simp; omega⟩))).rot.rot
          have HXB3 : Hid (BoxW (w8.alloc (.cells #[.int .u32 (fr : Nat), .int .u32 (pd : Nat), .int .u32 (pt : Nat), .bool xw, .bool xu] 38)) gx fr pd pt xw xu) := Lib.hid (heap_alloc_lt ((T.box (.inr rfl)).trans HXB.out))
          have HXC3 : Hid (BoxW (w8.alloc (.cells #[.int .u32 (fr : Nat), .int .u32 (pd : Nat), .int .u32 (pt : Nat), .bool xw, .bool xu] 38)) w8.heap.size fr pd pt xw xu) := Lib.hid (heap_new w8 _)
          clear T HT2 HXA HXB y0 y1 y2 y3 y4 y5 y6 y7 yl
          go_upto_region 18 with (fail)
          generalize hW : w8.alloc (.cells #[.int .u32 (fr : Nat), .int .u32 (pd : Nat), .int .u32 (pt : Nat), .bool xw, .bool xu] 38) = W8 at *
          generalize hG : w8.heap.size = gy at *
          clear hW hG
          obtain ⟨y0, y1, y2, y3, y4, yl⟩ := HXB3.out.facts
          obtain ⟨v0, v1, v2, v3, v4, vl⟩ := HXC3.out.facts
          go_wp2_with fail
          clear y0 y1 y2 y3 y4 yl v0 v1 v2 v3 v4 vl
          refine (tri_kept HTZ.out).mono ?_
          rintro e wz ⟨cz, rfl, hcz, -, rfl⟩
          go_wp2_with fail
          refine (tri_kept HTZ.out).mono ?_
          rintro e wz ⟨cy, rfl, hcy, -, rfl⟩
          go_wp2_with fail
          go_roundw
          case rel => exact ⟨k + 1, by have := HLT.out; omega, by go_num, _, _, HTZ.out.drop⟩
          case measure => have := HLT.out; simp [intOf]; omega
        · have hb1 : (ki k == 1) = false := by simp [hk1]
          by_cases hk2 : ki k = 2
          · have hb2 : (ki k == 2) = true := by simp [hk2]
            have HKK := Lib.hid hk2
            clear hk2
            go_wp2_with fail
            refine (tri_write HT1.out (RefP.local _ _) Nothing.local (wa k) (wv k) hu6 hu7 _ _ rfl rfl).mono ?_
            rintro e w7 ⟨rfl, T⟩
            have HT2 := Lib.hid T.rot
            obtain ⟨y0, y1, y2, y3, y4, y5, y6, y7, yl⟩ := Box8.facts ((T.box rfl).trans HX8.out)
            clear T HT1
            go_wp2_with fail
            refine (tri_refwrite HT2.out Nothing.local (KpP.local _ _ _ _ _) (wa k) (wv k) hu6 hu7 _ _ rfl rfl).mono ?_
            rintro e w8 ⟨rfl, T⟩
            have HTZ := Lib.hid (tri_more T.rot.rot (Nat.le_succ k))
            clear T HT2 y0 y1 y2 y3 y4 y5 y6 y7 yl
            go_wp2_with fail
            refine (tri_kept HTZ.out).mono ?_
            rintro e wz ⟨cz, rfl, hcz, -, rfl⟩
            go_wp2_with fail
            refine (tri_kept HTZ.out).mono ?_
            rintro e wz ⟨cy, rfl, hcy, -, rfl⟩
            go_wp2_with fail
            go_roundw
            case rel => exact ⟨k + 1, by have := HLT.out; omega, by go_num, _, _, HTZ.out.drop⟩
            case measure => have := HLT.out; simp [intOf]; omega
          · have hb2 : (ki k == 2) = false := by simp [hk2]
            by_cases hk3 : ki k = 3
            · have hb3 : (ki k == 3) = true := by simp [hk3]
              have HKK := Lib.hid hk3
              clear hk3
              go_wp2_with fail
              refine (tri_flush HT1.out (RefP.local _ _) Nothing.local).mono ?_
              rintro e w7 ⟨rfl, T⟩
              have HT2 := Lib.hid T
              have HTZ := Lib.hid (tri_more (tri_known T) (Nat.le_succ k))
              clear T HT1 y0 y1 y2 y3 y4 y5 y6 y7 yl
              go_wp2_with fail
              refine (tri_keptc HT2.out).mono ?_
              rintro e w8 ⟨rfl, rfl⟩
              go_wp2_with fail
              refine (tri_kept HTZ.out).mono ?_
              rintro e wz ⟨cz, rfl, hcz, -, rfl⟩
              go_wp2_with fail
              refine (tri_kept HTZ.out).mono ?_
              rintro e wz ⟨cy, rfl, hcy, -, rfl⟩
              go_wp2_with fail
              go_roundw
              case rel => exact ⟨k + 1, by have := HLT.out; omega, by go_num, _, _, HTZ.out.drop⟩
              case measure => have := HLT.out; simp [intOf]; omega
            · have hb3 : (ki k == 3) = false := by simp [hk3]
              by_cases hk4 : ki k = 4
              · have hb4 : (ki k == 4) = true := by simp [hk4]
                have HKK := Lib.hid hk4
                clear hk4
                go_wp2_with fail
                refine (tri_drop HT1.out (RefP.local _ _) Nothing.local (lin k) hu2 _ rfl).mono ?_
                rintro e w7 ⟨rfl, T⟩
                have HTZ := Lib.hid (tri_more T (Nat.le_succ k))
                clear T HT1 y0 y1 y2 y3 y4 y5 y6 y7 yl
                go_wp2_with fail
                refine (tri_kept HTZ.out).mono ?_
                rintro e wz ⟨cz, rfl, hcz, -, rfl⟩
                go_wp2_with fail
                refine (tri_kept HTZ.out).mono ?_
                rintro e wz ⟨cy, rfl, hcy, -, rfl⟩
                go_wp2_with fail
                go_roundw
                case rel => exact ⟨k + 1, by have := HLT.out; omega, by go_num, _, _, HTZ.out.drop⟩
                case measure => have := HLT.out; simp [intOf]; omega
              · have hb4 : (ki k == 4) = false := by simp [hk4]
                have HTZ := Lib.hid (tri_more HT1.out (Nat.le_succ k))
                clear HT1
                go_wp2_with fail
                clear y0 y1 y2 y3 y4 y5 y6 y7 yl
                refine (tri_kept HTZ.out).mono ?_
                rintro e wz ⟨cz, rfl, hcz, -, rfl⟩
                go_wp2_with fail
                refine (tri_kept HTZ.out).mono ?_
                rintro e wz ⟨cy, rfl, hcy, -, rfl⟩
                go_wp2_with fail
                go_roundw
                case rel => exact ⟨k + 1, by have := HLT.out; omega, by go_num, _, _, HTZ.out.drop⟩
                case measure => have := HLT.out; simp [intOf]; omega
      · obtain ⟨A, B, C, sp, a, b, c, f⟩ := HT0.out
        have hBB := HT0.out.B
        obtain ⟨SA, hA⟩ := a.hasRam
        have hR : Ref wr b2 B R := b
        have HA := Lib.hid hA
        have HR := Lib.hid hR
        have HBB := Lib.hid hBB
        clear f c a b sp hA hR hBB HT0
        go_wp2_with fail
        refine (alike_any HA.out HR.out).mono ?_
        rintro e w7 ⟨rfl, hb⟩
        have HBB7 := Lib.hid (step_below HBB.out hb (Nat.le_refl _))
        clear hb
        go_wp2_with fail
        go_returns
        exact ⟨rfl, step_below HB1.out HBB7.out (Nat.le_refl _)⟩

set_option maxRecDepth 100000 in
theorem lifted (os : Os) (started : os.Started) (H : Type) (enc : TypeId × Value → H) :
    ReturnsInHanded {} Try.checked os 7 .any (Rows.tlbFindsSpec.pre6 enc Try.prog Try.f7 Rows.tlbFindsRow.domain false) (Rows.tlbFindsSpec.post enc Try.prog Try.f7 false true false false) := by
  refine returnsInHanded_of_change_sized (C := Try.checked) own started (by kernel_rfl) Try.func7
    (ChangeSpec.witness6 (enc := enc) (C := Try.checked) false ⟨#[], #[.int .i64 0, .slice none 0 0, .slice none 0 0, .slice none 0 0], []⟩ 8 (by kernel_rfl) (by kernel_rfl) (by kernel_rfl) (by kernel_rfl)) ?_
  intro W base args ds gs before hval0 hW hcnd hsz _
  have hval : ∀ (j : Nat) t v, Try.f7.params[j]? = some t → args[j]? = some v → Value.okWide Try.prog W .any base t v := hval0
  have hW' := hW
  obtain ⟨p, q, hA0, hV, rfl, hfz, hnd⟩ := hW
  have hA : DataW.TrodAll enc Try.prog W 0 (fun _ => true) true Try.f7.params.toList args.toList ds p := hA0
  rw [Try.params7] at hA hval
  obtain ⟨v0, vs0, d0, ds0, p0, q0, hargs, rfl, rfl, h0, r0⟩ := trodAll_cons hA
  obtain ⟨v1, vs1, d1, ds1, p1, q1, rfl, rfl, rfl, h1, r1⟩ := trodAll_cons r0
  obtain ⟨v2, vs2, d2, ds2, p2, q2, rfl, rfl, rfl, h2, r2⟩ := trodAll_cons r1
  obtain ⟨v3, vs3, d3, ds3, p3, q3, rfl, rfl, rfl, h3, r3⟩ := trodAll_cons r2
  obtain ⟨rfl, rfl, rfl⟩ := trodAll_nil r3
  obtain rfl : args = #[v0, v1, v2, v3] := by cases args; simp_all
  clear hA0 hval0
  obtain ⟨a0, rfl, l0, u0⟩ := arg_int Try.underlying3 (hval 0 3 v0 rfl rfl)
  obtain ⟨a1, n1, c1, t1, x1, rfl, m1, J1⟩ := arg_words (hval 1 23 v1 rfl rfl) h1
  obtain ⟨a4, n4, c4, z4, rfl, m4, J4⟩ := arg_ints Try.underlying57 Try.underlying3 (by kernel_rfl) (hval 2 57 v2 rfl rfl) h2
  obtain ⟨a5, n5, c5, ki5, cr5, ln5, wr5, us5, wp5, at5, vv5, rfl, m5, J5⟩ := arg_ops (hval 3 52 v3 rfl rfl) h3
  have R5 : n5 * Try.prog.bytesOf 50 ≤ 140737488351232 := arg_reach (j := 3) hsz rfl rfl Try.underlying52 h3
  rw [show Try.prog.bytesOf 50 = 32 by kernel_rfl] at R5
  exact law_end (by kernel_rfl) hW' rfl (by kernel_rfl) Try.underlying4 rfl rfl (walk a0 l0 u0 W a1 n1 c1 t1 x1 m1 J1 a4 n4 c4 z4 m4 J4 a5 n5 c5 ki5 cr5 ln5 wr5 us5 wp5 at5 vv5 m5 J5 R5)

theorem proved : Rows.TlbFindsSaid :=
  OpenClaim.holds_of_wide 7 Try.f7 rfl rfl rfl rfl rfl rfl rfl ⟨rfl, rfl, rfl, rfl, rfl⟩ rfl rfl rfl rfl rfl (by kernel_rfl) Try.func7 (by kernel_rfl)
    (of_decide_eq_true (by kernel_rfl)) (by unfold Func.isWrapper; first | (rw [if_pos (by decide +kernel)]; kernel_rfl) | (rw [if_neg (by decide +kernel)]; exact ⟨rfl, rfl⟩))
    (fun os started H enc _ => lifted os started H enc)
#print axioms proved
end Go.Proofs.Ythogfhejfnmdkaa.tlbFinds
