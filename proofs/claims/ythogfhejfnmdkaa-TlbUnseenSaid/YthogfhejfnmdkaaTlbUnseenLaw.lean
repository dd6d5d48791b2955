/- 'drawloom/drawloomlaw10.TlbUnseen' answers true for every input. Conditions: none. -/
import Derived.Test.YthogfhejfnmdkaaFrame
import Derived.Test.YthogfhejfnmdkaaTlbH
namespace Go.Proofs.Ythogfhejfnmdkaa.tlbUnseen
open Go.ChangeShapes Go.WideShapes Go.ChangeAt Go.RowKit
set_option linter.unusedVariables false

open Go.MapKept
/-- The three are alike. -/
def URel (w1 wr : World) (t b1 u b2 b3 k : Nat) : Prop := ∃ R wF, Tri w1 wr (KpP t b1 64 k R) (KpP u b2 0 k R) (RamP b3 R) none_ wF
def Box5 (W : World) (g : Nat) (c l : Nat) (x y z : Bool) : Prop := W.heap[g]? = some (.cells #[.int .u32 (c : Nat), .int .u32 (l : Nat), .bool x, .bool y, .bool z] 44)
theorem Box5.facts {W : World} {g c l : Nat} {x y z : Bool} (h : Box5 W g c l x y z) : W.cell? ⟨g, 0, none⟩ = some (.int .u32 (c : Nat)) ∧ W.cell? ⟨g, 1, none⟩ = some (.int .u32 (l : Nat)) ∧ W.cell? ⟨g, 2, none⟩ = some (.bool x) ∧ W.cell? ⟨g, 3, none⟩ = some (.bool y) ∧ W.cell? ⟨g, 4, none⟩ = some (.bool z) ∧ g < W.heap.size := by
  unfold Box5 at h
  refine ⟨?_, ?_, ?_, ?_, ?_, heap_lt h⟩ <;> (rw [cell_at h]; rfl)
def Box2 (W : World) (g : Nat) (c l : Nat) : Prop := W.heap[g]? = some (.cells #[.int .u32 (c : Nat), .int .u32 (l : Nat)] 48)
theorem Box2.facts {W : World} {g c l : Nat} (h : Box2 W g c l) : W.cell? ⟨g, 0, none⟩ = some (.int .u32 (c : Nat)) ∧ W.cell? ⟨g, 1, none⟩ = some (.int .u32 (l : Nat)) ∧ g < W.heap.size := by
  unfold Box2 at h
  refine ⟨?_, ?_, heap_lt h⟩ <;> (rw [cell_at h]; rfl)
def BoxW (W : World) (g : Nat) (fr pd pt : Nat) (xw xu : Bool) : Prop := W.heap[g]? = some (.cells #[.int .u32 (fr : Nat), .int .u32 (pd : Nat), .int .u32 (pt : Nat), .bool xw, .bool xu] 38)
theorem BoxW.facts {W : World} {g fr pd pt : Nat} {xw xu : Bool} (h : BoxW W g fr pd pt xw xu) : W.cell? ⟨g, 0, none⟩ = some (.int .u32 (fr : Nat)) ∧ W.cell? ⟨g, 1, none⟩ = some (.int .u32 (pd : Nat)) ∧ W.cell? ⟨g, 2, none⟩ = some (.int .u32 (pt : Nat)) ∧ W.cell? ⟨g, 3, none⟩ = some (.bool xw) ∧ W.cell? ⟨g, 4, none⟩ = some (.bool xu) ∧ g < W.heap.size := by
  unfold BoxW at h
  refine ⟨?_, ?_, ?_, ?_, ?_, heap_lt h⟩ <;> (rw [cell_at h]; rfl)
theorem ops_eight {w : World} {b off len : Nat} {ki : Nat → Int} {cr lin : Nat → Nat} {wr us wp : Nat → Bool} {at_ v : Nat → Nat} (A : OpsAt w b off len ki cr lin wr us wp at_ v) (k : Nat) (hk : k < len) :
    w.cell? ⟨b, off + k * 8, none⟩ = some (.int .i64 (ki k)) ∧ w.cell? ⟨b, off + k * 8 + 1, none⟩ = some (.int .u32 (cr k : Nat)) ∧ w.cell? ⟨b, off + k * 8 + 2, none⟩ = some (.int .u32 (lin k : Nat)) ∧ w.cell? ⟨b, off + k * 8 + 3, none⟩ = some (.bool (wr k)) ∧ w.cell? ⟨b, off + k * 8 + 4, none⟩ = some (.bool (us k)) ∧
      w.cell? ⟨b, off + k * 8 + 5, none⟩ = some (.bool (wp k)) ∧ w.cell? ⟨b, off + k * 8 + 6, none⟩ = some (.int .u32 (at_ k : Nat)) ∧ w.cell? ⟨b, off + k * 8 + 7, none⟩ = some (.int .u32 (v k : Nat)) ∧ b < w.heap.size :=
  ⟨A.c0 k hk, A.c1 k hk, A.c2 k hk, A.c3 k hk, A.c4 k hk, A.c5 k hk, A.c6 k hk, A.c7 k hk, A.hb⟩
set_option maxRecDepth 100000 in
set_option maxHeartbeats 4000000 in
theorem walk (w : World) (ad : Option Addr) (len cap : Nat) (at_ x : Nat → Nat) (hlen : len ≤ 9223372036854775807) (J : WordsIn w ad len at_ x)
    (sd : Option Addr) (sl sc : Nat) (ki : Nat → Int) (cr lin : Nat → Nat) (fw fu fp : Nat → Bool) (wa wv : Nat → Nat) (hsl : sl ≤ 9223372036854775807) (A : OpsIn w sd sl ki cr lin fw fu fp wa wv) (hreach : sl * 32 ≤ 140737488351232) :
    Calls Try.prog 6 #[.slice ad len cap, .slice sd sl sc] w fun e w' => e = .returned (.bool true) ∧ Below w.heap.size w w' := by
  have HRE := Lib.hid (show sl * 12 ≤ 140737488355328 by omega)
  have HLEN := Lib.hid hlen
  clear hreach hlen
  go_enter Try.func6, Try.ntmps6
  go_wp2_with fail
  refine (awake_any _).mono ?_
  rintro e w1 ⟨rfl, B1⟩
  have HB1 := Lib.hid B1
  have HA1 := Lib.hid (A.below B1)
  have HJ1 := Lib.hid (words_below J B1)
  clear A J B1
  go_wp2_with fail
  refine (both_any w1 16 ad len cap at_ x HJ1.out .none 0 0 (fun _ => 0) (.inl rfl) HLEN.out (by decide)).mono ?_
  rintro e w2 ⟨b1, S1, b1', S1', rfl, T1⟩
  have HU1 := Lib.hid (tri_both (Tri.zero w1) Nothing.local Nothing.local T1)
  have HJ2 := Lib.hid (words_below HJ1.out T1.B)
  clear T1
  go_wp2_with fail
  refine (both_any w2 16 ad len cap at_ x HJ2.out .none 0 0 (fun _ => 0) (.inl rfl) HLEN.out (by decide)).mono ?_
  rintro e w3 ⟨b2, S2, b2', S2', rfl, T2⟩
  have HU2 := Lib.hid (tri_both HU1.out.rot Nothing.local (RamP.local _ _) T2)
  have HJ3 := Lib.hid (words_below HJ2.out T2.B)
  clear T2
  go_wp2_with fail
  refine (both_any w3 16 ad len cap at_ x HJ3.out .none 0 0 (fun _ => 0) (.inl rfl) HLEN.out (by decide)).mono ?_
  rintro e w4 ⟨b3, S3, b3', S3', rfl, T3⟩
  have HU3 := Lib.hid (tri_both HU2.out.rot (RamP.local _ _) (RamP.local _ _) T3).rot
  have HWD := Lib.hid (Wide.both 16 at_ x len (fun _ => 0) 0)
  clear T3
  generalize bothR 16 at_ x len (fun _ => 0) 0 = R0 at *
  go_wp2_with fail
  refine (tri_new HU3.out (RamP.local _ _) (RamP.local _ _) HWD.out 64 (by decide) _ rfl).mono ?_
  rintro e w5 ⟨t, rfl, T4⟩
  have HU4 := Lib.hid (T4.weak (PA' := KpP t b1 64 0 R0) fun _ h => ⟨_, h⟩).rot
  clear T4
  go_wp2_with fail
  refine (tri_new HU4.out (RamP.local _ _) (KpP.local _ _ _ _ _) HWD.out 0 (by decide) _ rfl).mono ?_
  rintro e w6 ⟨u, rfl, T5⟩
  have HU5 := Lib.hid (T5.weak (PA' := KpP u b2 0 0 R0) fun _ h => ⟨_, h⟩).rot.rot
  clear T5 HU1 HU2 HU3 HU4 HJ1 HJ2 HJ3
  go_wp2_with fail
  go_loopw [16] (fun i wr => ∃ k : Nat, k ≤ sl ∧ i = .int .i64 k ∧ URel w1 wr t b1 u b2 b3 k) (fun i _ => sl - (intOf i).toNat)
  case atStart => exact ⟨0, by omega, rfl, R0, _, HU5.out⟩
  case round =>
    clear HU5 HWD
    obtain ⟨k, hk, rfl, R, wF, T0⟩ := hrel
    have HT0 := Lib.hid T0
    clear T0
    by_cases hlt : k < sl
    · obtain ⟨kb, ko, rfl, A2⟩ : ∃ b off, sd = some ⟨b, off, none⟩ ∧ OpsAt w1 b off sl ki cr lin fw fu fp wa wv := by
        rcases HA1.out with h | h
        · omega
        · exact h
      have hu1 := A2.u1 k hlt
      have hu2 := A2.u2 k hlt
      have hu6 := A2.u6 k hlt
      have hu7 := A2.u7 k hlt
      obtain ⟨c0, c1, c2, c3, c4, c5, c6, c7, cb⟩ := ops_eight (A2.below HT0.out.B) k hlt
      have q1 : (0 : Int) ≤ (k : Int) := by omega
      have q2 : (k : Int) < (sl : Int) := by omega
      have HLT := Lib.hid hlt
      have hkn : (k + 1) * 12 ≤ 140737488355328 := by have := HRE.out; omega
      have HKN := Lib.hid hkn
      clear A2 hkn
      have hkb : decide (ki k = 2) = (ki k == 2) := by rfl
      clear hkb
      go_upto_region 14 with (fail)
      have HX5 : Hid (Box5 ((wr.alloc (.cells #[.int .u32 (cr k : Nat), .int .u32 (lin k : Nat), .bool (fw k), .bool (fu k), .bool (fp k)] 44)).alloc (.cells #[.int .u32 (wa k : Nat), .int .u32 (wv k : Nat)] 48)) wr.heap.size (cr k) (lin k) (fw k) (fu k) (fp k)) := Lib.hid (heap_alloc_lt (heap_new wr _))
      have HX2 : Hid (Box2 ((wr.alloc (.cells #[.int .u32 (cr k : Nat), .int .u32 (lin k : Nat), .bool (fw k), .bool (fu k), .bool (fp k)] 44)).alloc (.cells #[.int .u32 (wa k : Nat), .int .u32 (wv k : Nat)] 48)) (wr.heap.size + 1) (wa k) (wv k)) :=
        Lib.hid (by unfold Box2; rw [show wr.heap.size + 1 = (wr.alloc (.cells #[.int .u32 (cr k : Nat), .int .u32 (lin k : Nat), .bool (fw k), .bool (fu k), .bool (fp k)] 44)).heap.size by simp]; exact heap_new _ _)
      have HT1 := Lib.hid (HT0.out.boxes (KpP.local _ _ _ _ _) (KpP.local _ _ _ _ _) (RamP.local _ _) (((Below.refl wr.heap.size wr).alloc (Nat.le_refl _) (.cells #[.int .u32 (cr k : Nat), .int .u32 (lin k : Nat), .bool (fw k), .bool (fu k), .bool (fp k)] 44)).alloc (by simp) (.cells #[.int .u32 (wa k : Nat), .int .u32 (wv k : Nat)] 48)) (F' := fun j => j = wr.heap.size ∨ j = wr.heap.size + 1) (fun j h => .inr (by simp; omega)))
      have hgg : wr.heap.size ≠ wr.heap.size + 1 := by omega
      generalize hW : (wr.alloc (.cells #[.int .u32 (cr k : Nat), .int .u32 (lin k : Nat), .bool (fw k), .bool (fu k), .bool (fp k)] 44)).alloc (.cells #[.int .u32 (wa k : Nat), .int .u32 (wv k : Nat)] 48) = W at *
      generalize hg2 : wr.heap.size + 1 = g2 at *
      generalize hg1 : wr.heap.size = g1 at *
      clear hW hg1 hg2 hgg c1 c2 c3 c4 c5 c6 c7 HT0
      have HA2 : Hid (W.cell? ⟨kb, ko + k * 8, none⟩ = some (.int .i64 (ki k)) ∧ kb < W.heap.size) := by
        obtain h | ⟨b', o', e, A2⟩ := HA1.out
        · omega
        · cases e
          have := ops_eight (A2.below HT1.out.B) k hlt
          exact Lib.hid ⟨this.1, this.2.2.2.2.2.2.2.2⟩
      clear c0 cb
      obtain ⟨c0, cb⟩ := HA2.out
      have HX5' := HX5.out
      have HX2' := HX2.out
      by_cases hkk : ki k = 2
      · have hkb : (ki k == 2) = true := by simp [hkk]
        have HKK := Lib.hid hkk
        clear hkk
        obtain ⟨y0, y1, yl⟩ := HX2'.facts
        clear HX5' HX2'
        go_wp2_with fail
        refine (tri_write HT1.out (KpP.local _ _ _ _ _) (RamP.local _ _) (wa k) (wv k) hu6 hu7 _ _ rfl rfl).mono ?_
        rintro e w7 ⟨rfl, T⟩
        have HT2 := Lib.hid T.rot
        obtain ⟨y0, y1, yl⟩ := Box2.facts ((T.box (.inr rfl)).trans HX2.out)
        clear T
        go_wp2_with fail
        refine (tri_write HT2.out (RamP.local _ _) (KpP.local _ _ _ _ _) (wa k) (wv k) hu6 hu7 _ _ rfl rfl).mono ?_
        rintro e w8 ⟨rfl, T⟩
        have HT3 := Lib.hid T.rot
        obtain ⟨y0, y1, yl⟩ := Box2.facts ((T.box (.inr rfl)).trans HX2.out)
        clear T
        go_wp2_with fail
        refine (tri_rwrite HT3.out (KpP.local _ _ _ _ _) (KpP.local _ _ _ _ _) (wa k) (wv k) hu6 hu7 _ _ rfl rfl).mono ?_
        rintro e w9 ⟨rfl, T⟩
        have HT4 := Lib.hid (((T.rot.weak fun _ h => KpP.more h (Nat.le_succ k)).rot.weak fun _ h => KpP.more h (Nat.le_succ k)).rot.rot)
        clear T y0 y1 yl
        go_wp2_with fail
        go_roundw
        case rel => exact ⟨k + 1, by have := HLT.out; omega, by go_num, _, _, HT4.out.drop⟩
        case measure => have := HLT.out; simp [intOf]; omega
      · have hkb : (ki k == 2) = false := by simp [hkk]
        have HKK := Lib.hid hkk
        clear hkk
        rcases hr : find R (cr k) (lin k) (fw k) (fu k) (fp k) with ⟨⟨fr, pd, pt, xw, xu⟩, cd, R'⟩
        have HR := Lib.hid hr
        obtain ⟨y0, y1, y2, y3, y4, yl⟩ := HX5'.facts
        clear HX5' HX2' hr
        go_wp2_with fail
        refine (tri_find HT1.out (KpP.local _ _ _ _ _) (RamP.local _ _) (cr k) (lin k) hu1 hu2 (fw k) (fu k) (fp k) HKN.out _ _ rfl rfl HR.out).mono ?_
        rintro e w7 ⟨rfl, T⟩
        have HT2 := Lib.hid (T.boxes (KpP.local _ _ _ _ _) (KpP.local _ _ _ _ _) (RamP.local _ _) ((Below.refl w7.heap.size w7).alloc (Nat.le_refl _) (.cells #[.int .u32 (fr : Nat), .int .u32 (pd : Nat), .int .u32 (pt : Nat), .bool xw, .bool xu] 38)) (F' := fun j => j = g1 ∨ j = w7.heap.size) (fun j h => h.imp (fun h => .inl h) (fun h => ⟨by omega, by simp; omega⟩))).rot
        have HXA : Hid (Box5 (w7.alloc (.cells #[.int .u32 (fr : Nat), .int .u32 (pd : Nat), .int .u32 (pt : Nat), .bool xw, .bool xu] 38)) g1 (cr k) (lin k) (fw k) (fu k) (fp k)) := Lib.hid (heap_alloc_lt ((T.box (.inl rfl)).trans HX5.out))
        have HXB : Hid (BoxW (w7.alloc (.cells #[.int .u32 (fr : Nat), .int .u32 (pd : Nat), .int .u32 (pt : Nat), .bool xw, .bool xu] 38)) w7.heap.size fr pd pt xw xu) := Lib.hid (heap_new w7 _)
        clear T HT1 y0 y1 y2 y3 y4 yl
        go_upto_region 19 with (fail)
        generalize hW : w7.alloc (.cells #[.int .u32 (fr : Nat), .int .u32 (pd : Nat), .int .u32 (pt : Nat), .bool xw, .bool xu] 38) = W7 at *
        generalize hG : w7.heap.size = gx at *
        clear hW hG
        obtain ⟨y0, y1, y2, y3, y4, yl⟩ := HXA.out.facts
        go_wp2_with fail
        refine (tri_find HT2.out (RamP.local _ _) (KpP.local _ _ _ _ _) (cr k) (lin k) hu1 hu2 (fw k) (fu k) (fp k) HKN.out _ _ rfl rfl HR.out).mono ?_
        rintro e w8 ⟨rfl, T⟩
        have HT3 := Lib.hid (T.boxes (KpP.local _ _ _ _ _) (RamP.local _ _) (KpP.local _ _ _ _ _) ((Below.refl w8.heap.size w8).alloc (Nat.le_refl _) (.cells #[.int .u32 (fr : Nat), .int .u32 (pd : Nat), .int .u32 (pt : Nat), .bool xw, .bool xu] 38)) (F' := fun j => (j = g1 ∨ j = gx) ∨ j = w8.heap.size) (fun j h => h.imp id (fun h => ⟨by omega, by simp; omega⟩))).rot
        have HXA3 : Hid (Box5 (w8.alloc (.cells #[.int .u32 (fr : Nat), .int .u32 (pd : Nat), .int .u32 (pt : Nat), .bool xw, .bool xu] 38)) g1 (cr k) (lin k) (fw k) (fu k) (fp k)) := Lib.hid (heap_alloc_lt ((T.box (.inl rfl)).trans HXA.out))
        have HXB3 : Hid (BoxW (w8.alloc (.cells #[.int .u32 (fr : Nat), .int .u32 (pd : Nat), .int .u32 (pt : Nat), .bool xw, .bool xu] 38)) gx fr pd pt xw xu) := Lib.hid (heap_alloc_lt ((T.box (.inr rfl)).trans HXB.out))
        have HXC3 : Hid (BoxW (w8.alloc (.cells #[.int .u32 (fr : Nat), .int .u32 (pd : Nat), .int .u32 (pt : Nat), .bool xw, .bool xu] 38)) w8.heap.size fr pd pt xw xu) := Lib.hid (heap_new w8 _)
        clear T HT2 HXA HXB y0 y1 y2 y3 y4 yl
        go_upto_region 20 with (fail)
        generalize hW : w8.alloc (.cells #[.int .u32 (fr : Nat), .int .u32 (pd : Nat), .int .u32 (pt : Nat), .bool xw, .bool xu] 38) = W8 at *
        generalize hG : w8.heap.size = gy at *
        clear hW hG
        obtain ⟨y0, y1, y2, y3, y4, yl⟩ := HXA3.out.facts
        go_wp2_with fail
        refine (tri_rfind HT3.out (KpP.local _ _ _ _ _) (KpP.local _ _ _ _ _) (cr k) (lin k) hu1 hu2 (fw k) (fu k) (fp k) _ _ rfl rfl HR.out).mono ?_
        rintro e w9 ⟨rfl, T⟩
        have HT4 := Lib.hid (T.boxes (RamP.local _ _) (KpP.local _ _ _ _ _) (KpP.local _ _ _ _ _) ((Below.refl w9.heap.size w9).alloc (Nat.le_refl _) (.cells #[.int .u32 (fr : Nat), .int .u32 (pd : Nat), .int .u32 (pt : Nat), .bool xw, .bool xu] 38)) (F' := fun j => ((j = g1 ∨ j = gx) ∨ j = gy) ∨ j = w9.heap.size) (fun j h => h.imp id (fun h => ⟨by omega, by simp; omega⟩))).rot
        have HXB4 : Hid (BoxW (w9.alloc (.cells #[.int .u32 (fr : Nat), .int .u32 (pd : Nat), .int .u32 (pt : Nat), .bool xw, .bool xu] 38)) gx fr pd pt xw xu) := Lib.hid (heap_alloc_lt ((T.box (.inl (.inr rfl))).trans HXB3.out))
        have HXC4 : Hid (BoxW (w9.alloc (.cells #[.int .u32 (fr : Nat), .int .u32 (pd : Nat), .int .u32 (pt : Nat), .bool xw, .bool xu] 38)) gy fr pd pt xw xu) := Lib.hid (heap_alloc_lt ((T.box (.inr rfl)).trans HXC3.out))
        have HXD4 : Hid (BoxW (w9.alloc (.cells #[.int .u32 (fr : Nat), .int .u32 (pd : Nat), .int .u32 (pt : Nat), .bool xw, .bool xu] 38)) w9.heap.size fr pd pt xw xu) := Lib.hid (heap_new w9 _)
        clear T HT3 HXA3 HXB3 HXC3 y0 y1 y2 y3 y4 yl
        go_upto_region 21 with (fail)
        generalize hW : w9.alloc (.cells #[.int .u32 (fr : Nat), .int .u32 (pd : Nat), .int .u32 (pt : Nat), .bool xw, .bool xu] 38) = W9 at *
        generalize hG : w9.heap.size = gz at *
        clear hW hG c0 cb
        obtain ⟨y0, y1, y2, y3, y4, yl⟩ := HXB4.out.facts
        obtain ⟨v0, v1, v2, v3, v4, vl⟩ := HXC4.out.facts
        obtain ⟨z0, z1, z2, z3, z4, zl⟩ := HXD4.out.facts
        go_wp2_with fail
        go_roundw
        case rel => exact ⟨k + 1, by have := HLT.out; omega, by go_num, _, _, HT4.out.drop⟩
        case measure => have := HLT.out; simp [intOf]; omega
    · obtain ⟨A, B, C, sp, a, b, c, f⟩ := HT0.out
      have hBB := HT0.out.B
      obtain ⟨SA, hA⟩ := a.hasRam
      obtain ⟨SB, hB⟩ := b.hasRam
      have hC : Ram wr b3 C R := c
      obtain ⟨cB, hKB⟩ := b
      have hc0 : cB = 0 := by have := hKB.c1; omega
      subst hc0
      have HA := Lib.hid hA
      have HB := Lib.hid hB
      have HC := Lib.hid hC
      have HK := Lib.hid hKB
      have HBB := Lib.hid hBB
      clear f c a sp hA hB hC hKB hBB HT0
      go_wp2_with fail
      refine (len_any HA.out).mono ?_
      rintro e w7 ⟨rfl, rfl⟩
      go_wp2_with fail
      refine (dump_str HA.out _ rfl).mono ?_
      rintro e w7 ⟨g7, rfl, hcv, -, hb⟩
      have hcv7 := hcv w7 rfl
      have HB7 := Lib.hid (HB.out.below hb)
      have HC7 := Lib.hid (HC.out.below hb)
      have HK7 := Lib.hid (HK.out.below hb)
      have HBB7 := Lib.hid (step_below HBB.out hb (Nat.le_refl _))
      clear hcv hb HA HB HC HK HBB
      go_wp2_with fail
      clear hcv7
      refine (len_any HB7.out).mono ?_
      rintro e w8 ⟨rfl, rfl⟩
      go_wp2_with fail
      refine (dump_str HB7.out _ rfl).mono ?_
      rintro e w8 ⟨g8, rfl, hcv, -, hb⟩
      have hcv8 := hcv w8 rfl
      have HC8 := Lib.hid (HC7.out.below hb)
      have HK8 := Lib.hid (HK7.out.below hb)
      have HBB8 := Lib.hid (step_below HBB7.out hb (Nat.le_refl _))
      have hee : ((strOf R.size R.byte).toList == (strOf R.size R.byte).toList) = true := by simp
      clear hcv hb HB7 HC7 HK7 HBB7
      go_wp2_with fail
      clear hcv8
      refine (len_any HC8.out).mono ?_
      rintro e w9 ⟨rfl, rfl⟩
      go_wp2_with fail
      refine (dump_str HC8.out _ rfl).mono ?_
      rintro e w9 ⟨g9, rfl, hcv, -, hb⟩
      have hcv9 := hcv w9 rfl
      have HK9 := Lib.hid (HK8.out.below hb)
      have HBB9 := Lib.hid (step_below HBB8.out hb (Nat.le_refl _))
      clear hcv hb HC8 HK8 HBB8
      go_wp2_with fail
      refine (tl_kept HK9.out).mono ?_
      rintro e w10 ⟨rfl, rfl⟩
      clear hcv9
      go_wp2_with fail
      go_returns
      exact ⟨rfl, step_below HB1.out HBB9.out (Nat.le_refl _)⟩

set_option maxRecDepth 100000 in
theorem lifted (os : Os) (started : os.Started) (H : Type) (enc : TypeId × Value → H) :
    ReturnsInHanded {} Try.checked os 6 .any (Rows.tlbUnseenSpec.pre6 enc Try.prog Try.f6 Rows.tlbUnseenRow.domain false) (Rows.tlbUnseenSpec.post enc Try.prog Try.f6 false true false false) := by
  refine returnsInHanded_of_change_sized (C := Try.checked) own started (by kernel_rfl) Try.func6
    (ChangeSpec.witness6 (enc := enc) (C := Try.checked) false ⟨#[], #[.slice none 0 0, .slice none 0 0], []⟩ 8 (by kernel_rfl) (by kernel_rfl) (by kernel_rfl) (by kernel_rfl)) ?_
  intro W base args ds gs before hval0 hW hcnd hsz _
  have hval : ∀ (j : Nat) t v, Try.f6.params[j]? = some t → args[j]? = some v → Value.okWide Try.prog W .any base t v := hval0
  have hW' := hW
  obtain ⟨p, q, hA0, hV, rfl, hfz, hnd⟩ := hW
  have hA : DataW.TrodAll enc Try.prog W 0 (fun _ => true) true Try.f6.params.toList args.toList ds p := hA0
  rw [Try.params6] at hA hval
  obtain ⟨v0, vs0, d0, ds0, p0, q0, hargs, rfl, rfl, h0, r0⟩ := trodAll_cons hA
  obtain ⟨v1, vs1, d1, ds1, p1, q1, rfl, rfl, rfl, h1, r1⟩ := trodAll_cons r0
  obtain ⟨rfl, rfl, rfl⟩ := trodAll_nil r1
  obtain rfl : args = #[v0, v1] := by cases args; simp_all
  clear hA0 hval0
  obtain ⟨a0, n0, c0, t0, x0, rfl, m0, J0⟩ := arg_words (hval 0 23 v0 rfl rfl) h0
  obtain ⟨a1, n1, c1, ki1, cr1, ln1, wr1, us1, wp1, at1, vv1, rfl, m1, J1⟩ := arg_ops (hval 1 52 v1 rfl rfl) h1
  have R1 : n1 * Try.prog.bytesOf 50 ≤ 140737488351232 := arg_reach (j := 1) hsz rfl rfl Try.underlying52 h1
  rw [show Try.prog.bytesOf 50 = 32 by kernel_rfl] at R1
  exact law_end (by kernel_rfl) hW' rfl (by kernel_rfl) Try.underlying4 rfl rfl (walk W a0 n0 c0 t0 x0 m0 J0 a1 n1 c1 ki1 cr1 ln1 wr1 us1 wp1 at1 vv1 m1 J1 R1)

theorem proved : Rows.TlbUnseenSaid :=
  OpenClaim.holds_of_wide 6 Try.f6 rfl rfl rfl rfl rfl rfl rfl ⟨rfl, rfl, rfl, rfl, rfl⟩ rfl rfl rfl rfl rfl (by kernel_rfl) Try.func6 (by kernel_rfl)
    (of_decide_eq_true (by kernel_rfl)) (by unfold Func.isWrapper; first | (rw [if_pos (by decide +kernel)]; kernel_rfl) | (rw [if_neg (by decide +kernel)]; exact ⟨rfl, rfl⟩))
    (fun os started H enc _ => lifted os started H enc)
#print axioms proved
end Go.Proofs.Ythogfhejfnmdkaa.tlbUnseen
