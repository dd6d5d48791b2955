/- Steps of a proof: BusT, BusU, together. -/
import Derived.Test.YtojmpdddfnkffaaGreatS16
set_option maxHeartbeats 40000000
set_option maxRecDepth 20000
/- bus's laws: the calls at the head of all statements. -/
namespace Go.Proofs.YtojmpdddfnkffaaGreat
open Go.RowKit Go.MapKept
set_option linter.unusedVariables false

def B0 (p n : Nat) : Bs := Bs.new (RS.new p) n (Ide.dsk 0)
theorem B0_ok (p n : Nat) : (B0 p n).ok := Bs.lines_ok ⟨⟨Pit.ctNew_ok 0 (Int.le_refl 0), Pit.ctNew_ok 0 (Int.le_refl 0), Pit.ctNew_ok 0 (Int.le_refl 0)⟩, by show 0 < _; decide⟩
theorem B0_fits (p n : Nat) : (B0 p n).fits 0 := Bs.lines_fits ⟨Nat.le_refl _, Nat.le_refl _⟩
def aw1 : Bs := (B0 1 1).out 1016 1 65
def aw3 : Bs := aw1.quit.inS 4660 2
def aw4 : Bs := aw3.out 32 1 17
def aw5 : Bs := aw4.out 33 1 8
def aw6 : Bs := aw5.out 33 1 4
def aw7 : Bs := aw6.out 33 1 1
def aw8 : Bs := aw7.out 67 1 16
def aw9 : Bs := aw8.out 64 1 5
def aw10 : Bs := aw9.ticks 5
theorem aw_sent : aw1.u.sent = [65] := by kernel_rfl
theorem aw_in : aw1.quit.wideV 4660 2 = 65535 := by kernel_rfl
theorem aw_no : Pic.told0 aw9.c aw9.d = false := by kernel_rfl
theorem aw_yes : Pic.told0 aw10.c aw10.d = true := by kernel_rfl
theorem aw_vec : Pic.vec0 aw10.c aw10.d = 8 := by kernel_rfl
theorem aw_t : aw10.t = 5 := by kernel_rfl
theorem aw_t9 : aw9.t = 0 := by kernel_rfl
theorem aw1_ok : aw1.ok := Bs.out_ok (B0_ok 1 1) _ _ _
theorem quit_ok {B : Bs} (h : B.ok) : B.quit.ok := ⟨h.T, h.t⟩
theorem aw3_ok : aw3.ok := Bs.inS_ok (quit_ok aw1_ok) _ _
theorem aw4_ok : aw4.ok := Bs.out_ok aw3_ok _ _ _
theorem aw5_ok : aw5.ok := Bs.out_ok aw4_ok _ _ _
theorem aw6_ok : aw6.ok := Bs.out_ok aw5_ok _ _ _
theorem aw7_ok : aw7.ok := Bs.out_ok aw6_ok _ _ _
theorem aw8_ok : aw8.ok := Bs.out_ok aw7_ok _ _ _
theorem aw9_ok : aw9.ok := Bs.out_ok aw8_ok _ _ _
theorem aw10_ok : aw10.ok := (Bs.ticks_ok aw9_ok 5 (by rw [aw_t9]; decide)).1
theorem aw3_fits : aw3.fits 16 := ⟨by decide +kernel, by decide +kernel⟩
theorem aw4_fits : aw4.fits 32 := Bs.out_fits aw3_fits _ _ _ (by decide)
theorem aw5_fits : aw5.fits 48 := Bs.out_fits aw4_fits _ _ _ (by decide)
theorem aw6_fits : aw6.fits 64 := Bs.out_fits aw5_fits _ _ _ (by decide)
theorem aw7_fits : aw7.fits 80 := Bs.out_fits aw6_fits _ _ _ (by decide)
theorem aw8_fits : aw8.fits 96 := Bs.out_fits aw7_fits _ _ _ (by decide)
theorem ack_t (B : Bs) : B.ack.t = B.t := rfl
theorem Reads_law {w : World} {v : Value} {n s B : Nat} (h : w.ownsRow B 5 1 v (n * 512) (Ide.bytesL (n * 512) (Ide.dsk s))) : Ide.Reads w v (n * 512) (Ide.dsk s) := Ide.reads_row h
theorem bus_awake (w : World) : Calls Tryz.prog 4 #[] w fun e w' => e = .returned (.bool true) ∧ Below w.heap.size w w' := by
 have E := Lib.hid (And.intro aw_in (And.intro aw_no (And.intro aw_yes (And.intro aw_vec (And.intro aw_t aw_sent)))))
 go_enter Tryz.func4, Tryz.ntmps4
 go_wp2_with fail
 refine (Ide.lawdisk_any 1 (by decide) (by decide) 0 (by decide) w).mono ?_
 rintro e w1 ⟨v, rfl, hr, hb⟩
 have HR := Lib.hid (And.intro (Reads_law (n := 1) hr) hb)
 obtain ⟨va, vc, rfl, -⟩ := Reads_law (n := 1) hr
 clear hr hb
 go_wp2_with fail
 refine (both_any w1 _ 1 (by decide) (by decide) HR.out.1 (by decide) (Ide.dsk_lt 0)).mono ?_
 rintro e w2 ⟨b, c, m, r, rfl, T⟩
 have HT := Lib.hid (show Hp w1 (fun _ => False) w2 [oBus b m (B0 1 1)] from Hp.left (l1 := [oBus b m (B0 1 1)]) T)
 clear T
 go_wp2_with fail
 refine (HT.out.act 0 rfl (bus_out (B0_ok 1 1) ((B0_fits 1 1).le (by decide)) 1016 1 65 (by decide) (.inl rfl) (by decide))).mono ?_
 rintro e w3 ⟨rfl, T3⟩
 have HT3 := Lib.hid (show Hp w1 (fun _ => False) w3 [oBus b m aw1] from T3)
 clear T3
 go_wp2_with fail
 refine (sent_call HT3.out 0 rfl).mono ?_
 rintro e w4 ⟨sv, rfl, T4⟩
 have HT4 := Lib.hid (show Hp w1 (fun _ => False) w4 [oBus b m aw1.quit, oRow 5 sv aw1.u.sent.length (Uart.bytesV aw1.u.sent)] from T4)
 obtain ⟨AR, hrow, -⟩ := T4.get 1 rfl
 rw [aw_sent] at hrow
 obtain ⟨sg, sc, rfl, -, -⟩ := Uart.byte_at (L := [65]) hrow 0 65 rfl
 clear T4 hrow
 go_wp2_with fail
 refine (HT4.out.act 0 rfl (bus_in (quit_ok aw1_ok) 4660 2 (by decide) (.inr (.inl rfl)))).mono ?_
 rintro e w5 ⟨rfl, T5⟩
 have HT5 := Lib.hid (show Hp w1 (fun _ => False) w5 [oBus b m aw3, oRow 5 (.slice (some ⟨sg, 0, none⟩) 1 sc) aw1.u.sent.length (Uart.bytesV aw1.u.sent)] from T5)
 clear T5
 rw [E.out.1]
 go_wp2_with fail
 refine (HT5.out.act 0 rfl (bus_out aw3_ok (aw3_fits.le (by decide)) 32 1 17 (by decide) (.inl rfl) (by decide))).mono ?_
 rintro e w6 ⟨rfl, T6⟩
 have HT6 := Lib.hid (show Hp w1 (fun _ => False) w6 [oBus b m aw4, oRow 5 (.slice (some ⟨sg, 0, none⟩) 1 sc) aw1.u.sent.length (Uart.bytesV aw1.u.sent)] from T6)
 clear T6 HT5
 go_wp2_with fail
 refine (HT6.out.act 0 rfl (bus_out aw4_ok (aw4_fits.le (by decide)) 33 1 8 (by decide) (.inl rfl) (by decide))).mono ?_
 rintro e w7 ⟨rfl, T7⟩
 have HT7 := Lib.hid (show Hp w1 (fun _ => False) w7 [oBus b m aw5, oRow 5 (.slice (some ⟨sg, 0, none⟩) 1 sc) aw1.u.sent.length (Uart.bytesV aw1.u.sent)] from T7)
 clear T7 HT6
 go_wp2_with fail
 refine (HT7.out.act 0 rfl (bus_out aw5_ok (aw5_fits.le (by decide)) 33 1 4 (by decide) (.inl rfl) (by decide))).mono ?_
 rintro e w8 ⟨rfl, T8⟩
 have HT8 := Lib.hid (show Hp w1 (fun _ => False) w8 [oBus b m aw6, oRow 5 (.slice (some ⟨sg, 0, none⟩) 1 sc) aw1.u.sent.length (Uart.bytesV aw1.u.sent)] from T8)
 clear T8 HT7
 go_wp2_with fail
 refine (HT8.out.act 0 rfl (bus_out aw6_ok (aw6_fits.le (by decide)) 33 1 1 (by decide) (.inl rfl) (by decide))).mono ?_
 rintro e w9 ⟨rfl, T9⟩
 have HT9 := Lib.hid (show Hp w1 (fun _ => False) w9 [oBus b m aw7, oRow 5 (.slice (some ⟨sg, 0, none⟩) 1 sc) aw1.u.sent.length (Uart.bytesV aw1.u.sent)] from T9)
 clear T9 HT8
 go_wp2_with fail
 refine (HT9.out.act 0 rfl (bus_out aw7_ok (aw7_fits.le (by decide)) 67 1 16 (by decide) (.inl rfl) (by decide))).mono ?_
 rintro e w10 ⟨rfl, T10⟩
 have HT10 := Lib.hid (show Hp w1 (fun _ => False) w10 [oBus b m aw8, oRow 5 (.slice (some ⟨sg, 0, none⟩) 1 sc) aw1.u.sent.length (Uart.bytesV aw1.u.sent)] from T10)
 clear T10 HT9
 go_wp2_with fail
 refine (HT10.out.act 0 rfl (bus_out aw8_ok (aw8_fits.le (by decide)) 64 1 5 (by decide) (.inl rfl) (by decide))).mono ?_
 rintro e w11 ⟨rfl, T11⟩
 have HT11 := Lib.hid (show Hp w1 (fun _ => False) w11 [oBus b m aw9, oRow 5 (.slice (some ⟨sg, 0, none⟩) 1 sc) aw1.u.sent.length (Uart.bytesV aw1.u.sent)] from T11)
 clear T11 HT10
 go_wp2_with fail
 refine (HT11.out.act 0 rfl bus_pending).mono ?_
 rintro e w12 ⟨rfl, T12⟩
 have HT12 := Lib.hid T12
 clear T12
 rw [E.out.2.1]
 go_wp2_with fail
 refine (HT12.out.act 0 rfl (bus_tick aw9_ok 5 (by decide) (by rw [aw_t9]; decide))).mono ?_
 rintro e w13 ⟨rfl, T13⟩
 have HT13 := Lib.hid (show Hp w1 (fun _ => False) w13 [oBus b m aw10, oRow 5 (.slice (some ⟨sg, 0, none⟩) 1 sc) aw1.u.sent.length (Uart.bytesV aw1.u.sent)] from T13)
 clear T13
 have hcv : (convert 22 9 (.slice (some ⟨sg, 0, none⟩) 1 sc)).run Tryz.prog w13 = .ok (.string ⟨#[65]⟩) w13 := by
  obtain ⟨AR, hrow, -⟩ := HT13.out.get 1 rfl
  rw [aw_sent] at hrow
  have h := Uart.conv_row (L := [65]) hrow
  rw [show Uart.strL [65] = ⟨#[65]⟩ by kernel_rfl] at h
  exact h
 go_wp2_with fail
 refine (HT13.out.act 0 rfl bus_pending).mono ?_
 rintro e w14 ⟨rfl, T14⟩
 have HT14 := Lib.hid T14
 clear T14 hcv
 rw [E.out.2.2.1]
 go_wp2_with fail
 refine (HT14.out.act 0 rfl (bus_ack aw10_ok)).mono ?_
 rintro e w15 ⟨rfl, T15⟩
 have HT15 := Lib.hid T15
 clear T15
 rw [E.out.2.2.2.1]
 go_wp2_with fail
 refine (HT15.out.act 0 rfl bus_now).mono ?_
 rintro e w16 ⟨rfl, T16⟩
 have HT16 := Lib.hid T16
 clear T16
 rw [ack_t, E.out.2.2.2.2.1]
 go_wp2_with fail
 go_ret
 exact ⟨rfl, step_below HR.out.2 HT16.out.below (Nat.le_refl _)⟩
end Go.Proofs.YtojmpdddfnkffaaGreat

/- bus's laws: a script of calls as an argument; a call of any size; two buses. -/
namespace Go.Proofs.YtojmpdddfnkffaaGreat
open Go.RowKit Go.WideShapes Go.ChangeShapes
set_option linter.unusedVariables false

theorem trod_struct4 {H : Type} {enc : TypeId × Value → H} {P : Program} {w : World} {base : Nat} {spare : Nat → Bool} {held : Bool} {t : TypeId} {f0 f1 f2 f3 : Field} {fuel : Nat} {cs : List Value} {x : DataW H × List MemPlace}
    (ht : P.underlying t = some (.struct #[f0, f1, f2, f3])) (h : DataW.trod enc P w base spare held fuel t cs = some x) :
    ∃ y0 y1 y2 y3 n, DataW.trod enc P w base spare held n f0.type ((cs.drop f0.offset).take (P.cellsOf f0.type)) = some y0 ∧
     DataW.trod enc P w base spare held n f1.type ((cs.drop f1.offset).take (P.cellsOf f1.type)) = some y1 ∧ DataW.trod enc P w base spare held n f2.type ((cs.drop f2.offset).take (P.cellsOf f2.type)) = some y2 ∧
     DataW.trod enc P w base spare held n f3.type ((cs.drop f3.offset).take (P.cellsOf f3.type)) = some y3 := by
 obtain ⟨xs, n, _, rfl, hl, hlen, hf⟩ := DataW.trod_struct ht h
 match xs, hlen with
 | [y0, y1, y2, y3], _ => exact ⟨y0, y1, y2, y3, n, by simpa using hf 0 f0 rfl, by simpa using hf 1 f1 rfl, by simpa using hf 2 f2 rfl, by simpa using hf 3 f3 rfl⟩
structure OpsAt (w : World) (b off len : Nat) (kd : Nat → Int) (pt : Nat → Nat) (sz : Nat → Int) (v : Nat → Nat) : Prop where
 c0 : ∀ i, i < len → w.cell? ⟨b, off + i * 4, none⟩ = some (.int .i64 (kd i))
 c1 : ∀ i, i < len → w.cell? ⟨b, off + i * 4 + 1, none⟩ = some (.int .u16 (pt i : Nat))
 c2 : ∀ i, i < len → w.cell? ⟨b, off + i * 4 + 2, none⟩ = some (.int .i64 (sz i))
 c3 : ∀ i, i < len → w.cell? ⟨b, off + i * 4 + 3, none⟩ = some (.int .u32 (v i : Nat))
 u1 : ∀ i, i < len → pt i < 65536
 u2 : ∀ i, i < len → sz i ≤ 9223372036854775807 ∧ -9223372036854775808 ≤ sz i
 u3 : ∀ i, i < len → v i < 4294967296
 hb : b < w.heap.size
theorem OpsAt.below {w w1 : World} {b off len : Nat} {kd : Nat → Int} {pt : Nat → Nat} {sz : Nat → Int} {v : Nat → Nat} {B : Nat} (h : OpsAt w b off len kd pt sz v) (hb : Below B w w1) (hB : b < B) : OpsAt w1 b off len kd pt sz v :=
 ⟨fun i hi => (hb.cell hB).trans (h.c0 i hi), fun i hi => (hb.cell hB).trans (h.c1 i hi), fun i hi => (hb.cell hB).trans (h.c2 i hi), fun i hi => (hb.cell hB).trans (h.c3 i hi), h.u1, h.u2, h.u3, Nat.lt_of_lt_of_le h.hb hb.size⟩
def OpsIn (w : World) (a : Option Addr) (len : Nat) (kd : Nat → Int) (pt : Nat → Nat) (sz : Nat → Int) (v : Nat → Nat) : Prop := len = 0 ∨ ∃ b off, a = some ⟨b, off, none⟩ ∧ OpsAt w b off len kd pt sz v
theorem wf_u16 {n : Int} (h : (Lit.int .u16 n).wf = true) : 0 ≤ n ∧ n < 65536 := by
 simp only [Lit.wf, Bool.and_eq_true, decide_eq_true_eq] at h
 exact ⟨h.1, Int.lt_of_le_of_lt h.2 (by decide)⟩
set_option maxRecDepth 100000 in
theorem arg_ops {H : Type} {enc : TypeId × Value → H} {w : World} {r : Reach} {base base' : Nat} {spare : Nat → Bool} {held : Bool} {v : Value} {d : DataW H} {ps : List MemPlace}
    (h : Value.okWide Tryz.prog w r base 23 v) (hd : DataW.Trod enc Tryz.prog w base' spare held 23 v d ps) :
    ∃ a len cap kd pt sz x, v = .slice a len cap ∧ len ≤ 9223372036854775807 ∧ OpsIn w a len kd pt sz x := by
 have hC : Tryz.prog.cellsOf 44 = 4 := by kernel_rfl
 have h1 : Tryz.prog.cellsOf 41 = 1 := by kernel_rfl
 have h2 : Tryz.prog.cellsOf 42 = 1 := by kernel_rfl
 have h3 : Tryz.prog.cellsOf 3 = 1 := by kernel_rfl
 obtain ⟨a, len, cap, rfl, hl, h0 | ⟨b, off, rfl, hb, hrow⟩⟩ := arg_rows (enc := enc) Tryz.underlying23 (by rw [hC]; decide) h hd
 ·exact ⟨a, len, cap, fun _ => 0, fun _ => 0, fun _ => 0, fun _ => 0, rfl, hl, .inl h0⟩
 ·have key : ∀ i, i < len → ∃ (k r u y : Int), w.cell? ⟨b, off + i * 4, none⟩ = some (.int .i64 k) ∧ w.cell? ⟨b, off + i * 4 + 1, none⟩ = some (.int .u16 r) ∧ w.cell? ⟨b, off + i * 4 + 2, none⟩ = some (.int .i64 u) ∧ w.cell? ⟨b, off + i * 4 + 3, none⟩ = some (.int .u32 y) ∧ (0 ≤ r ∧ r < 65536) ∧ (-9223372036854775808 ≤ u ∧ u ≤ 9223372036854775807) ∧ (0 ≤ y ∧ y < 4294967296) := by
    intro i hi
    obtain ⟨cs, y, n, hcl, hat, hy⟩ := hrow i hi
    rw [hC] at hcl hat
    obtain ⟨y0, y1, y2, y3, m, g0, g1, g2, g3⟩ := trod_struct4 Tryz.underlying44 hy
    match cs, hcl with
    | [c0, c1, c2, c3], _ =>
     simp only [h1, h2, h3] at g0 g1 g2 g3
     obtain ⟨p0, e0, _, w0⟩ := DataW.trod_int Tryz.underlying3 g0
     obtain ⟨p1, e1, _, w1⟩ := DataW.trod_int Tryz.underlying41 g1
     obtain ⟨p2, e2, _, w2⟩ := DataW.trod_int Tryz.underlying3 g2
     obtain ⟨p3, e3, _, w3⟩ := DataW.trod_int Tryz.underlying42 g3
     have a0 := hat 0 (by decide)
     have a1 := hat 1 (by decide)
     have a2 := hat 2 (by decide)
     have a3 := hat 3 (by decide)
     simp at e0 e1 e2 e3 a0 a1 a2 a3
     subst e0 e1 e2 e3
     simp only [Nat.add_assoc]
     exact ⟨p0, p1, p2, p3, a0, a1, a2, a3, wf_u16 w1, wf_i64 w2, wf_u32 w3⟩
  refine ⟨_, len, cap, fun i => numAt w b (off + i * 4), fun i => (numAt w b (off + i * 4 + 1)).toNat, fun i => numAt w b (off + i * 4 + 2), fun i => (numAt w b (off + i * 4 + 3)).toNat, rfl, hl, .inr ⟨b, off, rfl, ?_, ?_, ?_, ?_, ?_, ?_, ?_, hb⟩⟩
  all_goals
   intro i hi
   obtain ⟨k, r, u, y, a0, a1, a2, a3, p1, p2, p3⟩ := key i hi
  ·rw [a0, numAt_of a0]
  ·rw [a1, numAt_of a1]; congr 2; omega
  ·rw [a2, numAt_of a2]
  ·rw [a3, numAt_of a3]; congr 2; omega
  ·rw [numAt_of a1]; omega
  ·rw [numAt_of a2]; omega
  ·rw [numAt_of a3]; omega
theorem out_bad {b : Nat} (s : Int) (h1 : s ≠ 1) (h2 : s ≠ 2) (h4 : s ≠ 4) (p x : Int) (w : World) : Calls Tryz.prog 18 #[.pointer (some ⟨b, 0, none⟩), .int .u16 p, .int .i64 s, .int .u32 x] w fun e w' => e = .returned (.int .i64 2) ∧ w = w' := by
 go_enter Tryz.func18, Tryz.ntmps18
 go_wp2_with fail
 refine (check_bad s h1 h2 h4 w).mono ?_
 rintro e w1 ⟨rfl, rfl⟩
 go_wp2_with fail
 go_ret
 exact ⟨rfl, rfl⟩
def Bs.any (B : Bs) (p : Nat) (s : Int) (v : Nat) : Bs := if s = 1 ∨ s = 2 ∨ s = 4 then B.out p s.toNat v else B
theorem lines_pic {B : Bs} (h : B.c.ok ∧ B.d.ok) : B.lines.c.ok ∧ B.lines.d.ok :=
 show (Pic.lnc (Pic.lnc (Pic.lnc B.c 0 (B.T.a.line B.t)) 4 B.u.line) 14 B.k.line).ok ∧ (Pic.lnd (Pic.lnd (Pic.lnd B.d 0 (B.T.a.line B.t)) 4 B.u.line) 14 B.k.line).ok from
 ⟨Pic.lnc_ok (Pic.lnc_ok (Pic.lnc_ok h.1 _ _) _ _) _ _, Pic.lnd_ok (Pic.lnd_ok (Pic.lnd_ok h.2 _ _) _ _) _ _⟩
theorem out1_pic {B : Bs} (h : B.c.ok ∧ B.d.ok) (k n v : Nat) (hv : v < 256) : (B.out1 k n v).c.ok ∧ (B.out1 k n v).d.ok := by
 unfold Bs.out1
 split
 ·exact ⟨Pic.otc_ok h.1 _ _ hv, Pic.otd_ok h.2 _ _ hv⟩
 all_goals exact h
theorem outs_pic {B : Bs} (h : B.c.ok ∧ B.d.ok) (a v : Nat) : ∀ k, (B.outs a v k).c.ok ∧ (B.outs a v k).d.ok
 | 0 => h
 | k + 1 => by
  show (Bs.outP _ _ _).c.ok ∧ (Bs.outP _ _ _).d.ok
  unfold Bs.outP
  split
  ·exact outs_pic h a v k
  ·exact out1_pic (outs_pic h a v k) _ _ _ (Nat.mod_lt _ (by decide))
theorem wide_pic {B : Bs} (h : B.c.ok ∧ B.d.ok) (a s v : Nat) : (B.wide a s v).c.ok ∧ (B.wide a s v).d.ok := by
 unfold Bs.wide
 split
 ·exact h
 ·exact outs_pic h a v s
structure Good (B : Bs) (n : Nat) : Prop where
 ok : B.ok
 f : B.fits (16 * n)
 t : B.t = 0
 l : ∃ C : Bs, (C.c.ok ∧ C.d.ok) ∧ B = C.lines
theorem Good.any {B : Bs} {n : Nat} (h : Good B n) (p : Nat) (s : Int) (v : Nat) : Good (B.any p s v) (n + 1) := by
 unfold Bs.any
 split
 ·exact ⟨Bs.out_ok h.ok _ _ _, (Bs.out_fits h.f _ _ _ (by omega)).le (by omega), (Bs.out_t h.ok _ _ _).trans h.t, ⟨_, wide_pic (by obtain ⟨C, hc, e⟩ := h.l; rw [e]; exact lines_pic hc) _ _ _, rfl⟩⟩
 ·exact ⟨h.ok, h.f.le (by omega), h.t, h.l⟩
theorem Good.next {B : Bs} {n : Nat} (h : Good B n) : Good B (n + 1) := ⟨h.ok, h.f.le (by omega), h.t, h.l⟩
theorem Good.start (p n : Nat) : Good (B0 p n) 0 := ⟨B0_ok p n, (B0_fits p n).le (Nat.zero_le _), rfl, ⟨_, ⟨Pic.chip0_ok, Pic.chip0_ok⟩, rfl⟩⟩
theorem Hp.both {w0 w w1 : World} {os l : List Ob} (T : Hp w0 (fun _ => False) w os) (T1 : Hp w (fun _ => False) w1 l) : Hp w0 (fun _ => False) w1 (os ++ l) := by
 obtain ⟨A, a, M⟩ := T
 obtain ⟨B, b, N⟩ := T1
 have hb : Below w.heap.size w w1 := Keeps.toBelow (Below.refl _ _) N.1 (Nat.le_refl _) fun k h => h.elim
 refine ⟨fun k => A k ∨ B k, Side.join os l (Side.loc os a fun k hk => hb.block k (Side.lt os a k hk)) b fun k h1 h2 => ?_, M.1.below hb, fun k hk => ?_⟩
 ·rcases N.2 k h2 with h | h
  ·exact h
  ·have := Side.lt os a k h1; omega
 ·rcases hk with hk | hk
  ·exact M.2 k hk
  ·rcases N.2 k hk with h | h
   ·exact h.elim
   ·exact .inr (Nat.le_trans M.1.size h)
end Go.Proofs.YtojmpdddfnkffaaGreat
