/- 'drawloom/drawloomlaw15.BusGates' answers true for every input. Conditions: none. -/
import Derived.Test.YtojmpdddfnkffaaFrame
import Derived.Test.YtojmpdddfnkffaaMbusd
namespace Go.Proofs.Ytojmpdddfnkffaa.busGates
open Go.ChangeShapes Go.WideShapes Go.ChangeAt Go.RowKit
set_option linter.unusedVariables false

/-- A memory of 256 pages, none of them of the kind that can only be read. -/
structure Gk (c : Bool) (R : RS) : Prop where
  closed : R.closed = c
  pages : R.pages = 256
  only : ∀ k, R.only k = false
theorem Gk.size {c : Bool} {R : RS} (h : Gk c R) : R.size = 1048576 := by unfold RS.size; rw [h.pages]
theorem Gk.place {c : Bool} {R : RS} (h : Gk c R) (n : Nat) (hn : n < 1048576) : R.place n = n := by
  unfold RS.place
  split
  · rw [place_bit n (by omega), if_neg (by omega)]
  · rfl
theorem Gk.wr {c : Bool} {R : RS} (h : Gk c R) (n p v : Nat) (hp : R.place p = n) (hn : n < 1048576) : Gk c (R.wr p v) ∧ (R.wr p v).byte n = v := by
  unfold RS.wr
  rw [hp, h.size, if_pos ⟨hn, h.only _⟩]
  exact ⟨⟨h.closed, h.pages, h.only⟩, if_pos rfl⟩
theorem Gk.high {R : RS} (h : Gk true R) (n : Nat) (hn : n < 1048576) : R.place (n + 1048576) = n := by
  unfold RS.place
  rw [h.closed, if_pos rfl, place_bit _ (by omega), if_pos (by omega)]
  omega
theorem Gk.far {R : RS} (h : Gk false R) (n : Nat) : R.place (n + 1048576) = n + 1048576 := by
  unfold RS.place
  rw [h.closed]
  exact if_neg (by decide)
theorem at32_id (a : Nat) (h : a < 4294967296) : at32 a 0 = a := by unfold at32; omega
theorem write1 (R : RS) (a v : Nat) (ha : a < 4294967296) (hv : v < 256) : R.write a v 1 = R.wr a v := by
  show (R.write a v 0).wr (at32 a 0) (v / 256 ^ 0 % 256) = _
  rw [at32_id a ha, Nat.pow_zero, Nat.div_one, Nat.mod_eq_of_lt hv]; rfl
theorem read1 (R : RS) (a : Nat) (ha : a < 4294967296) : R.read a 1 = R.get a := by
  show 0 + R.get (at32 a 0) * 256 ^ 0 = _
  rw [at32_id a ha, Nat.pow_zero, Nat.mul_one, Nat.zero_add]
def G1 (A a : Nat) : Bs := { B0 256 0 with R := (B0 256 0).R.write A a 1 }
def G2 (A a b : Nat) : Bs := { G1 A a with R := (G1 A a).R.write (A + 1048576) b 1 }
def G3 (A a b v : Nat) : Bs := (G2 A a b).out 146 1 v
def G4 (A a b v : Nat) : Bs := (G3 A a b v).inS 146 1
def G5 (A a b v : Nat) : Bs := { G4 A a b v with R := (G4 A a b v).R.write (A + 1048576) b 1 }
theorem G2_R (A a b : Nat) (hA : A < 1048576) (ha : a < 256) (hb : b < 256) : Gk false (G2 A a b).R ∧ (G2 A a b).R.byte A = a := by
  have h0 : Gk false (B0 256 0).R := ⟨rfl, rfl, fun _ => rfl⟩
  have h1 := h0.wr A A a (h0.place A hA) hA
  have e : (G2 A a b).R = (B0 256 0).R.wr A a := by
    show ((B0 256 0).R.write A a 1).write (A + 1048576) b 1 = _
    rw [write1 _ _ _ (by omega) ha, write1 _ _ _ (by omega) hb]
    unfold RS.wr
    rw [if_neg]
    intro h
    have h2 := h.1
    have h3 := h1.1.far A
    unfold RS.wr at h3
    rw [h3] at h2
    have h4 := h1.1.size
    unfold RS.wr at h4
    rw [h4] at h2
    omega
  rw [e]
  exact h1
theorem lines_R (B : Bs) : B.lines.R = B.R := rfl
theorem lines_g (B : Bs) : B.lines.g = B.g := rfl
theorem lines_k (B : Bs) : B.lines.k = B.k := rfl
theorem dev146 : dev 146 = some (4, 0) := by decide
theorem out146 (B : Bs) (v : Nat) (hv : v < 256) : (B.out 146 1 v).R = B.R.gate (gateBit v) ∧ (B.out 146 1 v).g = gateBit v := by
  have e : B.outs 146 v 1 = B.out1 4 0 v := by
    show Bs.outP B ((146 + 0) % 65536) (v / 256 ^ 0 % 256) = _
    rw [show (146 + 0) % 65536 = 146 from rfl, Nat.pow_zero, Nat.div_one, Nat.mod_eq_of_lt hv]
    unfold Bs.outP
    rw [dev146]
  unfold Bs.out Bs.wide
  rw [if_neg (by decide), e, lines_R, lines_g]
  exact ⟨rfl, rfl⟩
theorem in146 (B : Bs) : B.wideV 146 1 = (if B.g then 2 else 0) ∧ (B.inS 146 1).R = B.R := by
  have e1 : B.insV 146 1 = (if B.g then 2 else 0) := by
    show 0 + Bs.inPV B ((146 + 0) % 65536) * 256 ^ 0 = _
    rw [show (146 + 0) % 65536 = 146 from rfl, Nat.pow_zero, Nat.mul_one, Nat.zero_add]
    unfold Bs.inPV
    rw [dev146]
    show (if B.g then (2 : Int) else 0).toNat = _
    cases B.g <;> rfl
  have e2 : B.insS 146 1 = B := by
    show Bs.inPS B ((146 + 0) % 65536) = _
    rw [show (146 + 0) % 65536 = 146 from rfl]
    unfold Bs.inPS
    rw [dev146]; rfl
  unfold Bs.wideV Bs.inS Bs.wideS
  rw [if_neg (show ¬ (146 = 496) by decide), if_neg (show ¬ (146 = 496) by decide), e1, e2]
  exact ⟨rfl, rfl⟩
theorem G3_R (A a b v : Nat) (hA : A < 1048576) (ha : a < 256) (hb : b < 256) (hv : v < 256) : Gk (!gateBit v) (G3 A a b v).R ∧ (G3 A a b v).R.byte A = a ∧ (G3 A a b v).g = gateBit v := by
  obtain ⟨h1, h2⟩ := G2_R A a b hA ha hb
  obtain ⟨e1, e2⟩ := out146 (G2 A a b) v hv
  refine ⟨?_, ?_, e2⟩
  · show Gk _ ((G2 A a b).out 146 1 v).R
    rw [e1]
    exact ⟨rfl, h1.pages, h1.only⟩
  · show ((G2 A a b).out 146 1 v).R.byte A = a
    rw [e1]; exact h2
theorem G_open (A a b v : Nat) (hA : A < 1048576) (ha : a < 256) (hb : b < 256) (hv : v < 256) (hg : gateBit v = true) : (G3 A a b v).wideV 146 1 = 2 ∧ (G4 A a b v).R.read (A + 1048576) 1 = 255 := by
  obtain ⟨h1, h2, h3⟩ := G3_R A a b v hA ha hb hv
  obtain ⟨e1, e2⟩ := in146 (G3 A a b v)
  rw [h3, hg] at e1
  rw [hg] at h1
  refine ⟨e1, ?_⟩
  show ((G3 A a b v).inS 146 1).R.read _ 1 = _
  rw [e2, read1 _ _ (by omega)]
  unfold RS.get
  rw [Gk.far h1, h1.size, if_neg (by omega)]
theorem G_shut (A a b v : Nat) (hA : A < 1048576) (ha : a < 256) (hb : b < 256) (hv : v < 256) (hg : gateBit v = false) : (G3 A a b v).wideV 146 1 = 0 ∧ (G4 A a b v).R.read (A + 1048576) 1 = a ∧ (G5 A a b v).R.read A 1 = b := by
  obtain ⟨h1, h2, h3⟩ := G3_R A a b v hA ha hb hv
  obtain ⟨e1, e2⟩ := in146 (G3 A a b v)
  rw [h3, hg] at e1
  rw [hg] at h1
  refine ⟨e1, ?_, ?_⟩
  · show ((G3 A a b v).inS 146 1).R.read _ 1 = _
    rw [e2, read1 _ _ (by omega)]
    unfold RS.get
    rw [Gk.high h1 A hA, h1.size, if_pos hA, h2]
  · show (((G3 A a b v).inS 146 1).R.write (A + 1048576) b 1).read A 1 = _
    rw [e2, write1 _ _ _ (by omega) hb, read1 _ _ (by omega)]
    obtain ⟨h5, h6⟩ := h1.wr A (A + 1048576) b (Gk.high h1 A hA) hA
    unfold RS.get
    rw [h5.place A hA, h5.size, if_pos hA, h6]
theorem B0_inS_ok {B : Bs} (h : B.ok) : (B.inS 146 1).ok := Bs.inS_ok h _ _
theorem R_ok {B : Bs} (h : B.ok) (R : RS) : ({ B with R := R } : Bs).ok := ⟨h.T, h.t⟩
theorem G2_ok (A a b : Nat) : (G2 A a b).ok := R_ok (R_ok (B0_ok 256 0) _) _
theorem G2_fits (A a b : Nat) : (G2 A a b).fits 0 := ⟨Nat.le_refl _, Nat.le_refl _⟩
set_option maxRecDepth 20000 in
set_option maxHeartbeats 8000000 in
theorem walk (t0 : Int) (l0 : 0 ≤ t0) (u0 : t0 ≤ 4294967295) (a0 : Int) (l1 : 0 ≤ a0) (u1 : a0 ≤ 255) (b0 : Int) (l2 : 0 ≤ b0) (u2 : b0 ≤ 255) (v0 : Int) (l3 : 0 ≤ v0) (u3 : v0 ≤ 255) (w : World) :
    Calls Try.prog 6 #[.int .u32 t0, .int .u8 a0, .int .u8 b0, .int .u8 v0] w fun e w' => e = .returned (.bool true) ∧ Below w.heap.size w w' := by
  obtain ⟨t, rfl⟩ := Int.eq_ofNat_of_zero_le l0
  obtain ⟨a, rfl⟩ := Int.eq_ofNat_of_zero_le l1
  obtain ⟨b, rfl⟩ := Int.eq_ofNat_of_zero_le l2
  obtain ⟨v, rfl⟩ := Int.eq_ofNat_of_zero_le l3
  obtain ⟨A, hA⟩ : ∃ A, A = t % 1048576 := ⟨_, rfl⟩
  have hA1 : A < 1048576 := by omega
  have ht : (t : Int) % 1048576 = (A : Int) := by omega
  have ha : a < 256 := by omega
  have hb : b < 256 := by omega
  have hv : v < 256 := by omega
  have HA := Lib.hid (And.intro hA1 (And.intro ha (And.intro hb hv)))
  clear hA l0 l1 l2 l3 u0 u1 u2 u3
  go_enter Try.func6, Try.ntmps6
  go_wp2_with fail
  refine (bus_awake _).mono ?_
  rintro e w1 ⟨rfl, hb1⟩
  have HB := Lib.hid hb1
  clear hb1
  go_wp2_with fail
  refine (both_any (n := 0) (d := Ide.dsk 0) w1 (.slice none 0 0) 256 (by decide) (by decide) ⟨none, 0, rfl, .inl ⟨rfl, fun _ => rfl⟩⟩ (by decide) (Ide.dsk_lt 0)).mono ?_
  rintro e w2 ⟨bb, c, m, r, rfl, T⟩
  have HT := Lib.hid (show Hp w1 (fun _ => False) w2 [oBus bb m (B0 256 0)] from Hp.left (l1 := [oBus bb m (B0 256 0)]) T)
  clear T
  go_wp2_with fail
  refine (HT.out.act 0 rfl (bus_write A a (by omega) (by omega) 1 (.inl rfl))).mono ?_
  rintro e w3 ⟨rfl, T3⟩
  have HT3 := Lib.hid (show Hp w1 (fun _ => False) w3 [oBus bb m (G1 A a)] from T3)
  clear T3
  go_wp2_with fail
  refine (HT3.out.act 0 rfl (bus_write (A + 1048576) b (by omega) (by omega) 1 (.inl rfl))).mono ?_
  rintro e w4 ⟨rfl, T4⟩
  have HT4 := Lib.hid (show Hp w1 (fun _ => False) w4 [oBus bb m (G2 A a b)] from T4)
  clear T4
  go_wp2_with fail
  refine (HT4.out.act 0 rfl (bus_out (G2_ok A a b) ((G2_fits A a b).le (by decide)) 146 1 v (by decide) (.inl rfl) (by omega))).mono ?_
  rintro e w5 ⟨rfl, T5⟩
  have HT5 := Lib.hid (show Hp w1 (fun _ => False) w5 [oBus bb m (G3 A a b v)] from T5)
  have ok3 : (G3 A a b v).ok := Bs.out_ok (G2_ok A a b) _ _ _
  have HO3 := Lib.hid ok3
  clear T5 ok3
  cases hg : gateBit v
  · have hv2 : (v : Int) / 2 % 2 = 0 := by
      unfold gateBit at hg
      have : ¬ (v / 2 % 2 = 1) := by simpa using hg
      omega
    have E := Lib.hid (G_shut A a b v hA1 ha hb hv hg)
    clear hg
    go_wp2_with fail
    refine (HT5.out.act 0 rfl (bus_in HO3.out 146 1 (by decide) (.inl rfl))).mono ?_
    rintro e w6 ⟨rfl, T6⟩
    have HT6 := Lib.hid (show Hp w1 (fun _ => False) w6 [oBus bb m (G4 A a b v)] from T6)
    clear T6
    rw [E.out.1]
    go_wp2_with fail
    refine (HT6.out.act 0 rfl (bus_read (A + 1048576) (by omega) 1 (.inl rfl))).mono ?_
    rintro e w7 ⟨rfl, T7⟩
    have HT7 := Lib.hid (show Hp w1 (fun _ => False) w7 [oBus bb m (G4 A a b v)] from T7)
    clear T7
    rw [E.out.2.1]
    go_wp2_with fail
    refine (HT7.out.act 0 rfl (bus_write (A + 1048576) b (by omega) (by omega) 1 (.inl rfl))).mono ?_
    rintro e w8 ⟨rfl, T8⟩
    have HT8 := Lib.hid (show Hp w1 (fun _ => False) w8 [oBus bb m (G5 A a b v)] from T8)
    clear T8
    go_wp2_with fail
    refine (HT8.out.act 0 rfl (bus_read A (by omega) 1 (.inl rfl))).mono ?_
    rintro e w9 ⟨rfl, T9⟩
    have HT9 := Lib.hid T9
    clear T9
    rw [E.out.2.2]
    go_wp2_with fail
    go_ret
    exact ⟨rfl, step_below HB.out HT9.out.below (Nat.le_refl _)⟩
  · have hv2 : (v : Int) / 2 % 2 = 1 := by
      unfold gateBit at hg
      have : (v / 2 % 2 = 1) := by simpa using hg
      omega
    have E := Lib.hid (G_open A a b v hA1 ha hb hv hg)
    clear hg
    go_wp2_with fail
    refine (HT5.out.act 0 rfl (bus_in HO3.out 146 1 (by decide) (.inl rfl))).mono ?_
    rintro e w6 ⟨rfl, T6⟩
    have HT6 := Lib.hid (show Hp w1 (fun _ => False) w6 [oBus bb m (G4 A a b v)] from T6)
    clear T6
    rw [E.out.1]
    go_wp2_with fail
    refine (HT6.out.act 0 rfl (bus_read (A + 1048576) (by omega) 1 (.inl rfl))).mono ?_
    rintro e w7 ⟨rfl, T7⟩
    have HT7 := Lib.hid (show Hp w1 (fun _ => False) w7 [oBus bb m (G4 A a b v)] from T7)
    clear T7
    rw [E.out.2]
    go_wp2_with fail
    go_ret
    exact ⟨rfl, step_below HB.out HT7.out.below (Nat.le_refl _)⟩

set_option maxRecDepth 100000 in
theorem lifted (os : Os) (started : os.Started) (H : Type) (enc : TypeId × Value → H) :
    ReturnsInHanded {} Try.checked os 6 .any (Rows.busGatesSpec.pre6 enc Try.prog Try.f6 Rows.busGatesRow.domain false) (Rows.busGatesSpec.post enc Try.prog Try.f6 false true false false) := by
  refine returnsInHanded_of_change (C := Try.checked) own started (by kernel_rfl) Try.func6
    (ChangeSpec.witness6 (enc := enc) (C := Try.checked) false ⟨#[], #[.int .u32 0, .int .u8 0, .int .u8 0, .int .u8 0], []⟩ 8 (by kernel_rfl) (by kernel_rfl) (by kernel_rfl) (by kernel_rfl)) ?_
  intro W base args ds gs before hval0 hW hcnd _
  have hval : ∀ (j : Nat) t v, Try.f6.params[j]? = some t → args[j]? = some v → Value.okWide Try.prog W .any base t v := hval0
  have hW' := hW
  obtain ⟨p, q, hA0, hV, rfl, hfz, hnd⟩ := hW
  have hA : DataW.TrodAll enc Try.prog W 0 (fun _ => true) true Try.f6.params.toList args.toList ds p := hA0
  rw [Try.params6] at hA hval
  obtain ⟨v0, vs0, d0, ds0, p0, q0, hargs, rfl, rfl, h0, r0⟩ := trodAll_cons hA
  obtain ⟨v1, vs1, d1, ds1, p1, q1, rfl, rfl, rfl, h1, r1⟩ := trodAll_cons r0
  obtain ⟨v2, vs2, d2, ds2, p2, q2, rfl, rfl, rfl, h2, r2⟩ := trodAll_cons r1
  obtain ⟨v3, vs3, d3, ds3, p3, q3, rfl, rfl, rfl, h3, r3⟩ := trodAll_cons r2
  obtain ⟨rfl, rfl, rfl⟩ := trodAll_nil r3
  obtain rfl : args = #[v0, v1, v2, v3] := by cases args; simp_all
  clear hA0 hval0
  obtain ⟨a0, rfl, l0, u0⟩ := arg_int Try.underlying33 (hval 0 33 v0 rfl rfl)
  obtain ⟨a1, rfl, l1, u1⟩ := arg_int Try.underlying5 (hval 1 5 v1 rfl rfl)
  obtain ⟨a2, rfl, l2, u2⟩ := arg_int Try.underlying5 (hval 2 5 v2 rfl rfl)
  obtain ⟨a3, rfl, l3, u3⟩ := arg_int Try.underlying5 (hval 3 5 v3 rfl rfl)
  exact law_end (by kernel_rfl) hW' rfl (by kernel_rfl) Try.underlying4 rfl rfl (walk a0 l0 u0 a1 l1 u1 a2 l2 u2 a3 l3 u3 W)

theorem proved : Rows.BusGatesSaid :=
  OpenClaim.holds_of_wide 6 Try.f6 rfl rfl rfl rfl rfl rfl rfl ⟨rfl, rfl, rfl, rfl, rfl⟩ rfl rfl rfl rfl rfl (by kernel_rfl) Try.func6 (by kernel_rfl)
    (of_decide_eq_true (by kernel_rfl)) (by unfold Func.isWrapper; first | (rw [if_pos (by decide +kernel)]; kernel_rfl) | (rw [if_neg (by decide +kernel)]; exact ⟨rfl, rfl⟩))
    (fun os started H enc _ => lifted os started H enc)
#print axioms proved
end Go.Proofs.Ytojmpdddfnkffaa.busGates
