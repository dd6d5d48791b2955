/- pic's law: the program's pair and the document's, side by side; a script of calls as an argument. -/
import Derived.Test.YtfijohgbgadhiaaPicS
import Derived.Test.YtfijohgbgadhiaaIn
namespace Go.Proofs.Ytfijohgbgadhiaa
open Go.RowKit Go.WideShapes Go.ChangeShapes
set_option linter.unusedVariables false

/-- Two pairs behind the world w0; a block g (the law's own) holds what it held in wF. -/
structure TwoP (w0 w : World) (b rb : Nat) (c d c1 d1 : Chip) (F : Nat → Prop) (wF : World) : Prop where
  H : Pair w b c d
  R : ∃ v u, RP w rb v u c1 d1
  ok : (c.ok ∧ d.ok) ∧ c1.ok ∧ d1.ok
  lo : w0.heap.size ≤ b ∧ w0.heap.size ≤ rb
  F0 : ¬ F b ∧ ¬ F rb
  F1 : ∀ k, F k → k < wF.heap.size ∧ w.heap[k]? = wF.heap[k]?
  B : Below w0.heap.size w0 w
  s : wF.heap.size ≤ w.heap.size
section
variable {w0 w w' wF : World} {b rb : Nat} {c d c1 d1 : Chip} {F : Nat → Prop}
theorem TwoP.ne (h : TwoP w0 w b rb c d c1 d1 F wF) : b ≠ rb := by
  rintro rfl
  obtain ⟨v, u, R⟩ := h.R
  have := h.H
  unfold Pair at this
  rw [R.obj] at this
  injection this with this; injection this with _ h _; exact absurd h (by decide)
theorem RP.apartP {v u : Value} (R : RP w rb v u c1 d1) (H : Pair w b c d) {x : Value} {n : Nat} {xs : List Value} (hx : RowC w 3 1 x n xs) {k : Nat} (hk : x.ownBlock = some k) : k ≠ b := by
  obtain ⟨cur, hc⟩ := hx.block hk
  rintro rfl
  unfold Pair at H
  rw [H] at hc
  injection hc with hc; injection hc with _ hc _; exact absurd hc (by decide)
/-- A call of the program's pair. -/
theorem TwoP.went (h : TwoP w0 w b rb c d c1 d1 F wF) {c' d' : Chip} (H' : Pair w' b c' d') (K : Keeps (· = b) w w') (ok : c'.ok ∧ d'.ok) : TwoP w0 w' b rb c' d' c1 d1 F wF := by
  have hne := h.ne
  obtain ⟨v, u, R⟩ := h.R
  refine ⟨H', ⟨v, u, (K.block rb R.lt (fun e => hne e.symm)).trans R.obj, R.cw.of_heap fun k hk => K.block k (R.cw.lt hk) (R.apartP h.H R.cw hk), R.dw.of_heap fun k hk => K.block k (R.dw.lt hk) (R.apartP h.H R.dw hk)⟩, ⟨ok, h.ok.2⟩, h.lo, h.F0, fun k hk => ⟨(h.F1 k hk).1, ?_⟩, Keeps.toBelow h.B K h.B.size (fun k hk => by rw [hk]; exact h.lo.1), Nat.le_trans h.s K.size⟩
  exact (K.block k (Nat.lt_of_lt_of_le (h.F1 k hk).1 h.s) (fun e => h.F0.1 (e ▸ hk))).trans (h.F1 k hk).2
/-- A call of the document's. -/
theorem TwoP.rwent (h : TwoP w0 w b rb c d c1 d1 F wF) {c' d' : Chip} (R' : ∃ v u, RP w' rb v u c' d') (K : Keeps (· = rb) w w') (ok : c'.ok ∧ d'.ok) : TwoP w0 w' b rb c d c' d' F wF := by
  have hne := h.ne
  have hb := heap_lt (show w.heap[b]? = some _ from h.H)
  refine ⟨(K.block b hb hne).trans h.H, R', ⟨h.ok.1, ok⟩, h.lo, h.F0, fun k hk => ⟨(h.F1 k hk).1, ?_⟩, Keeps.toBelow h.B K h.B.size (fun k hk => by rw [hk]; exact h.lo.2), Nat.le_trans h.s K.size⟩
  exact (K.block k (Nat.lt_of_lt_of_le (h.F1 k hk).1 h.s) (fun e => h.F0.2 (e ▸ hk))).trans (h.F1 k hk).2
theorem TwoP.move (h : TwoP w0 w b rb c d c1 d1 F wF) (hb : Below w.heap.size w w') : TwoP w0 w' b rb c d c1 d1 F wF := by
  obtain ⟨v, u, R⟩ := h.R
  exact ⟨h.H.below hb, ⟨v, u, R.below hb⟩, h.ok, h.lo, h.F0, fun k hk => ⟨(h.F1 k hk).1, (hb.block k (Nat.lt_of_lt_of_le (h.F1 k hk).1 h.s)).trans (h.F1 k hk).2⟩, h.B.trans (hb.mono h.B.size), Nat.le_trans h.s hb.size⟩
theorem TwoP.drewN (h : TwoP w0 w b rb c d c1 d1 F wF) (n : Nat) : TwoP w0 (w.drewN n) b rb c d c1 d1 F wF := h.move ⟨rfl, rfl, rfl, Nat.le_refl _, fun _ _ => rfl⟩
theorem TwoP.drew (h : TwoP w0 w b rb c d c1 d1 F wF) : TwoP w0 w.drew b rb c d c1 d1 F wF := h.move ⟨rfl, rfl, rfl, Nat.le_refl _, fun _ _ => rfl⟩
theorem TwoP.grow (h : TwoP w0 w b rb c d c1 d1 F wF) (o : Obj) : TwoP w0 (w.alloc o) b rb c d c1 d1 (fun k => k = w.heap.size) (w.alloc o) := by
  have hm := h.move (w' := w.alloc o) ((Below.refl _ _).alloc (Nat.le_refl _) _)
  obtain ⟨v, u, R⟩ := h.R
  have hb := heap_lt (show w.heap[b]? = some _ from h.H)
  exact ⟨hm.H, hm.R, hm.ok, hm.lo, ⟨by omega, by have := R.lt; omega⟩, fun k hk => ⟨by rw [hk]; simp, rfl⟩, hm.B, Nat.le_refl _⟩
theorem TwoP.bare (h : TwoP w0 w b rb c d c1 d1 F wF) : TwoP w0 w b rb c d c1 d1 (fun _ => False) w := ⟨h.H, h.R, h.ok, h.lo, ⟨fun h => h, fun h => h⟩, fun k h => h.elim, h.B, Nat.le_refl _⟩
theorem TwoP.cell (h : TwoP w0 w b rb c d c1 d1 F wF) {k : Nat} (hk : F k) (j : Nat) : w.cell? ⟨k, j, none⟩ = wF.cell? ⟨k, j, none⟩ := World.cell?_of_block (h.F1 k hk).2
theorem out_tw (h : TwoP w0 w b rb c d c1 d1 F wF) (n : Int) (x : Nat) (hx : x < 256) :
    Calls Try.prog 10 #[.pointer (some ⟨b, 0, none⟩), .int .i64 n, .int .u8 (x : Nat)] w fun e w' => e = .returned (.int .i64 (perr n)) ∧ TwoP w0 w' b rb (otc c n x) (otd d n x) c1 d1 F wF :=
  (out_any b c d h.ok.1.1 h.ok.1.2 n x hx w h.H).mono fun _ _ ⟨e, H, K⟩ => ⟨e, h.went H K ⟨otc_ok h.ok.1.1 n x hx, otd_ok h.ok.1.2 n x hx⟩⟩
theorem rout_tw (h : TwoP w0 w b rb c d c1 d1 F wF) (n : Int) (x : Nat) (hx : x < 256) :
    Calls Try.prog 16 #[.pointer (some ⟨rb, 0, none⟩), .int .i64 n, .int .u8 (x : Nat)] w fun e w' => e = .returned (.int .i64 (perr n)) ∧ TwoP w0 w' b rb c d (otc c1 n x) (otd d1 n x) F wF := by
  obtain ⟨v, u, R⟩ := h.R
  exact (rout_any R h.ok.2.1 h.ok.2.2 n x hx).mono fun _ _ ⟨e, v', u', H, K⟩ => ⟨e, h.rwent ⟨v', u', H⟩ K ⟨otc_ok h.ok.2.1 n x hx, otd_ok h.ok.2.2 n x hx⟩⟩
theorem line_tw (h : TwoP w0 w b rb c d c1 d1 F wF) (n : Int) (up : Bool) :
    Calls Try.prog 11 #[.pointer (some ⟨b, 0, none⟩), .int .i64 n, .bool up] w fun e w' => e = .returned (.int .i64 (lerr n)) ∧ TwoP w0 w' b rb (lnc c n up) (lnd d n up) c1 d1 F wF :=
  (line_e b c d h.ok.1.1 h.ok.1.2 n up w h.H).mono fun _ _ ⟨e, H, K⟩ => ⟨e, h.went H K ⟨lnc_ok h.ok.1.1 n up, lnd_ok h.ok.1.2 n up⟩⟩
theorem rline_tw (h : TwoP w0 w b rb c d c1 d1 F wF) (n : Int) (up : Bool) :
    Calls Try.prog 19 #[.pointer (some ⟨rb, 0, none⟩), .int .i64 n, .bool up] w fun e w' => e = .returned (.int .i64 (lerr n)) ∧ TwoP w0 w' b rb c d (lnc c1 n up) (lnd d1 n up) F wF := by
  obtain ⟨v, u, R⟩ := h.R
  exact (rline_any R h.ok.2.1 h.ok.2.2 n up).mono fun _ _ ⟨e, H, K⟩ => ⟨e, h.rwent ⟨v, u, H⟩ K ⟨lnc_ok h.ok.2.1 n up, lnd_ok h.ok.2.2 n up⟩⟩
theorem ack_tw (h : TwoP w0 w b rb c d c1 d1 F wF) :
    Calls Try.prog 13 #[.pointer (some ⟨b, 0, none⟩)] w fun e w' => e = .returned (.int .i64 (vec0 c d : Nat)) ∧ TwoP w0 w' b rb (tkc c d) (tkd c d) c1 d1 F wF :=
  (ack_any b c d h.ok.1.1 h.ok.1.2 w h.H).mono fun _ _ ⟨e, H, K⟩ => ⟨e, h.went H K ⟨tkc_ok h.ok.1.1, tkd_ok h.ok.1.2⟩⟩
theorem rack_tw (h : TwoP w0 w b rb c d c1 d1 F wF) :
    Calls Try.prog 20 #[.pointer (some ⟨rb, 0, none⟩)] w fun e w' => e = .returned (.int .i64 (vec0 c1 d1 : Nat)) ∧ TwoP w0 w' b rb c d (tkc c1 d1) (tkd c1 d1) F wF := by
  obtain ⟨v, u, R⟩ := h.R
  exact (rack_any R h.ok.2.1 h.ok.2.2).mono fun _ _ ⟨e, H, K⟩ => ⟨e, h.rwent ⟨v, u, H⟩ K ⟨tkc_ok h.ok.2.1, tkd_ok h.ok.2.2⟩⟩
theorem in_tw (h : TwoP w0 w b rb c d c1 d1 F wF) (n : Int) :
    Calls Try.prog 17 #[.pointer (some ⟨b, 0, none⟩), .int .i64 n] w fun e w' => e = .returned (.tuple #[.int .u8 (inv c d n : Nat), .int .i64 (perr n)]) ∧ TwoP w0 w' b rb c d c1 d1 F wF :=
  (in_any b c d h.ok.1.1 h.ok.1.2 n w h.H).mono fun _ _ ⟨e, B⟩ => ⟨e, h.move B⟩
theorem rin_tw (h : TwoP w0 w b rb c d c1 d1 F wF) (n : Int) :
    Calls Try.prog 18 #[.pointer (some ⟨rb, 0, none⟩), .int .i64 n] w fun e w' => e = .returned (.tuple #[.int .u8 (inv c1 d1 n : Nat), .int .i64 (perr n)]) ∧ TwoP w0 w' b rb c d c1 d1 F wF := by
  obtain ⟨v, u, R⟩ := h.R
  exact (rin_any R h.ok.2.1 h.ok.2.2 n).mono fun _ _ ⟨e, B⟩ => ⟨e, h.move B⟩
theorem pending_tw (h : TwoP w0 w b rb c d c1 d1 F wF) :
    Calls Try.prog 12 #[.pointer (some ⟨b, 0, none⟩)] w fun e w' => e = .returned (.bool (told0 c d)) ∧ TwoP w0 w' b rb c d c1 d1 F wF :=
  (pending_any b c d h.ok.1.1 h.ok.1.2 w h.H).mono fun _ _ ⟨e, n, k⟩ => ⟨e, by rw [k]; exact h.drewN n⟩
theorem rpending_tw (h : TwoP w0 w b rb c d c1 d1 F wF) :
    Calls Try.prog 21 #[.pointer (some ⟨rb, 0, none⟩)] w fun e w' => e = .returned (.bool (told0 c1 d1)) ∧ TwoP w0 w' b rb c d c1 d1 F wF := by
  obtain ⟨v, u, R⟩ := h.R
  exact (rpending_any R h.ok.2.1 h.ok.2.2).mono fun _ _ ⟨e, B⟩ => ⟨e, h.move B⟩
/-- Both are made. -/
theorem new_tw (w0 : World) (B : Below w0.heap.size w0 w) (s : w0.heap.size ≤ w.heap.size) (H : Pair w b chip0 chip0) (hb : w0.heap.size ≤ b) :
    Calls Try.prog 15 #[] w fun e w' => ∃ rb, e = .returned (.pointer (some ⟨rb, 0, none⟩)) ∧ TwoP w0 w' b rb chip0 chip0 chip0 chip0 (fun _ => False) w' := by
  refine (rnew_any w).mono ?_
  rintro e w1 ⟨rfl, R, Bl⟩
  exact ⟨_, rfl, H.below Bl, ⟨_, _, R⟩, ⟨⟨chip0_ok, chip0_ok⟩, chip0_ok, chip0_ok⟩, ⟨hb, s⟩, ⟨fun h => h, fun h => h⟩, fun k h => h.elim, B.trans (Bl.mono s), Nat.le_refl _⟩
end

theorem trod_struct4 {H : Type} {enc : TypeId × Value → H} {P : Program} {w : World} {base : Nat} {spare : Nat → Bool} {held : Bool} {t : TypeId} {f0 f1 f2 f3 : Field} {fuel : Nat} {cs : List Value} {x : DataW H × List MemPlace}
    (ht : P.underlying t = some (.struct #[f0, f1, f2, f3])) (h : DataW.trod enc P w base spare held fuel t cs = some x) :
    ∃ y0 y1 y2 y3 n, DataW.trod enc P w base spare held n f0.type ((cs.drop f0.offset).take (P.cellsOf f0.type)) = some y0 ∧
      DataW.trod enc P w base spare held n f1.type ((cs.drop f1.offset).take (P.cellsOf f1.type)) = some y1 ∧ DataW.trod enc P w base spare held n f2.type ((cs.drop f2.offset).take (P.cellsOf f2.type)) = some y2 ∧
      DataW.trod enc P w base spare held n f3.type ((cs.drop f3.offset).take (P.cellsOf f3.type)) = some y3 := by
  obtain ⟨xs, n, _, rfl, hl, hlen, hf⟩ := DataW.trod_struct ht h
  match xs, hlen with
  | [y0, y1, y2, y3], _ => exact ⟨y0, y1, y2, y3, n, by simpa using hf 0 f0 rfl, by simpa using hf 1 f1 rfl, by simpa using hf 2 f2 rfl, by simpa using hf 3 f3 rfl⟩
/-- A script. -/
structure OpsAt (w : World) (b off len : Nat) (kd rg : Nat → Int) (v : Nat → Nat) (up : Nat → Bool) : Prop where
  c0 : ∀ i, i < len → w.cell? ⟨b, off + i * 4, none⟩ = some (.int .i64 (kd i))
  c1 : ∀ i, i < len → w.cell? ⟨b, off + i * 4 + 1, none⟩ = some (.int .i64 (rg i))
  c2 : ∀ i, i < len → w.cell? ⟨b, off + i * 4 + 2, none⟩ = some (.int .u8 (v i : Nat))
  c3 : ∀ i, i < len → w.cell? ⟨b, off + i * 4 + 3, none⟩ = some (.bool (up i))
  u2 : ∀ i, i < len → v i < 256
  hb : b < w.heap.size
theorem OpsAt.below {w w1 : World} {b off len : Nat} {kd rg : Nat → Int} {v : Nat → Nat} {up : Nat → Bool} {B : Nat} (h : OpsAt w b off len kd rg v up) (hb : Below B w w1) (hB : b < B) : OpsAt w1 b off len kd rg v up :=
  ⟨fun i hi => (hb.cell hB).trans (h.c0 i hi), fun i hi => (hb.cell hB).trans (h.c1 i hi), fun i hi => (hb.cell hB).trans (h.c2 i hi), fun i hi => (hb.cell hB).trans (h.c3 i hi), h.u2, Nat.lt_of_lt_of_le h.hb hb.size⟩
def OpsIn (w : World) (a : Option Addr) (len : Nat) (kd rg : Nat → Int) (v : Nat → Nat) (up : Nat → Bool) : Prop := len = 0 ∨ ∃ b off, a = some ⟨b, off, none⟩ ∧ OpsAt w b off len kd rg v up
theorem arg_ops {H : Type} {enc : TypeId × Value → H} {w : World} {r : Reach} {base base' : Nat} {spare : Nat → Bool} {held : Bool} {v : Value} {d : DataW H} {ps : List MemPlace}
    (h : Value.okWide Try.prog w r base 36 v) (hd : DataW.Trod enc Try.prog w base' spare held 36 v d ps) :
    ∃ a len cap kd rg x up, v = .slice a len cap ∧ len ≤ 9223372036854775807 ∧ OpsIn w a len kd rg x up := by
  have hC : Try.prog.cellsOf 40 = 4 := by kernel_rfl
  have h1 : Try.prog.cellsOf 5 = 1 := by kernel_rfl
  have h2 : Try.prog.cellsOf 4 = 1 := by kernel_rfl
  have h3 : Try.prog.cellsOf 3 = 1 := by kernel_rfl
  obtain ⟨a, len, cap, rfl, hl, h0 | ⟨b, off, rfl, hb, hrow⟩⟩ := arg_rows (enc := enc) Try.underlying36 (by rw [hC]; decide) h hd
  · exact ⟨a, len, cap, fun _ => 0, fun _ => 0, fun _ => 0, fun _ => false, rfl, hl, .inl h0⟩
  · have key : ∀ i, i < len → ∃ (k r u : Int) (y : Bool), w.cell? ⟨b, off + i * 4, none⟩ = some (.int .i64 k) ∧ w.cell? ⟨b, off + i * 4 + 1, none⟩ = some (.int .i64 r) ∧ w.cell? ⟨b, off + i * 4 + 2, none⟩ = some (.int .u8 u) ∧ w.cell? ⟨b, off + i * 4 + 3, none⟩ = some (.bool y) ∧ (0 ≤ u ∧ u < 256) := by
      intro i hi
      obtain ⟨cs, y, n, hcl, hat, hy⟩ := hrow i hi
      rw [hC] at hcl hat
      obtain ⟨y0, y1, y2, y3, m, g0, g1, g2, g3⟩ := trod_struct4 Try.underlying40 hy
      match cs, hcl with
      | [c0, c1, c2, c3], _ =>
        simp only [h1, h2, h3] at g0 g1 g2 g3
        obtain ⟨p0, e0, _, w0⟩ := DataW.trod_int Try.underlying3 g0
        obtain ⟨p1, e1, _, w1⟩ := DataW.trod_int Try.underlying3 g1
        obtain ⟨p2, e2, _, w2⟩ := DataW.trod_int Try.underlying5 g2
        obtain ⟨p3, e3, _⟩ := DataW.trod_bool Try.underlying4 g3
        have a0 := hat 0 (by decide)
        have a1 := hat 1 (by decide)
        have a2 := hat 2 (by decide)
        have a3 := hat 3 (by decide)
        simp at e0 e1 e2 e3 a0 a1 a2 a3
        subst e0 e1 e2 e3
        simp only [Nat.add_assoc]
        exact ⟨p0, p1, p2, p3, a0, a1, a2, a3, wf_u8 w2⟩
    refine ⟨_, len, cap, fun i => numAt w b (off + i * 4), fun i => numAt w b (off + i * 4 + 1), fun i => (numAt w b (off + i * 4 + 2)).toNat, fun i => boolAt w b (off + i * 4 + 3), rfl, hl, .inr ⟨b, off, rfl, ?_, ?_, ?_, ?_, ?_, hb⟩⟩
    all_goals
      intro i hi
      obtain ⟨k, r, u, y, a0, a1, a2, a3, p0, p1⟩ := key i hi
    · rw [a0, numAt_of a0]
    · rw [a1, numAt_of a1]
    · rw [a2, numAt_of a2]; congr 2; omega
    · rw [a3, boolAt_of a3]
    · rw [numAt_of a2]; omega
end Go.Proofs.Ytfijohgbgadhiaa
