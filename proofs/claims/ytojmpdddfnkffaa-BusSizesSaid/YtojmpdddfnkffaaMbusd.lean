/- BusR BusS BusT BusU BusV, together. -/
import Derived.Test.YtojmpdddfnkffaaMbusc
import Derived.Test.YtojmpdddfnkffaaMram
import Derived.Test.YtojmpdddfnkffaaMpicc
import Derived.Test.YtojmpdddfnkffaaMuartb
import Derived.Test.YtojmpdddfnkffaaMided
import Derived.Test.YtojmpdddfnkffaaMidec
/- bus: the document's bus: its devices, its lines, New. -/
namespace Go.Proofs.Ytojmpdddfnkffaa
open Go.RowKit Go.MapKept
set_option linter.unusedVariables false
set_option linter.unusedSimpArgs false

/-- The document's counters. -/
def rct (c : Pit.Ct) : List Value := [.int .i64 c.m, .int .i64 c.h, .int .u64 c.l, .int .u64 c.g, .bool c.st, .bool c.wn, .int .u8 c.f, .bool c.up, .bool c.hd, .int .u64 c.v]
def rcts (T : Tm3) : Array Value := (rct T.a ++ rct T.b ++ rct T.c).toArray
def oRTm (b : Nat) (T : Tm3) : Ob := Ob.box b (.cells (rcts T) 155)
def oRPic (b : Nat) (c d : Pic.Chip) : Ob := ⟨fun w H => ∃ v u, Pic.RP w b v u c d ∧ (c.ok ∧ d.ok) ∧ ∀ k, H k ↔ (k = b ∨ v.ownBlock = some k ∨ u.ownBlock = some k),
  fun ⟨v, u, h, ok, e⟩ g => ⟨v, u, ⟨(g b ((e b).2 (.inl rfl))).trans h.obj, h.cw.of_heap fun k hk => g k ((e k).2 (.inr (.inl hk))), h.dw.of_heap fun k hk => g k ((e k).2 (.inr (.inr hk)))⟩, ok, e⟩,
  fun ⟨v, u, h, ok, e⟩ k hk => by
    rcases (e k).1 hk with rfl | hk | hk
    · exact h.lt
    · exact h.cw.lt hk
    · exact h.dw.lt hk⟩
def oRUart (b : Nat) (U : Uart.Ut) : Ob := ⟨fun w H => ∃ cv ov, Uart.RfIn w b cv ov U ∧ ∀ k, H k ↔ Uart.RHeld b cv ov k,
  fun ⟨q, sv, h, e⟩ g => ⟨q, sv, h.of_heap fun k hk => g k ((e k).2 hk), e⟩, fun ⟨q, sv, h, e⟩ k hk => h.lt ((e k).1 hk)⟩
def oRIde (b : Nat) (D : Ide.Dk) : Ob := ⟨fun w H => ∃ ds lv, Ide.IdeIn 144 w b ds lv D ∧ D.room ∧ ∀ k, H k ↔ Ide.Held b ds lv k,
  fun ⟨q, sv, h, r, e⟩ g => ⟨q, sv, h.of_heap fun k hk => g k ((e k).2 hk), r, e⟩, fun ⟨q, sv, h, r, e⟩ k hk => Ide.Held.lt h ((e k).1 hk)⟩
def oRef (b : Nat) (R : RS) : Ob := ⟨fun w H => Ref w b H R,
  fun {w w' H} h g => by
    obtain ⟨g0, g1, g2, g3, h, e⟩ := h
    exact ⟨g0, g1, g2, g3, { h with
      obj := (g b ((e b).2 (.inl rfl))).trans h.obj
      r0 := (g g0 ((e g0).2 (.inr (.inl rfl)))).trans h.r0
      r1 := (g g1 ((e g1).2 (.inr (.inr (.inl rfl))))).trans h.r1
      r2 := (g g2 ((e g2).2 (.inr (.inr (.inr (.inl rfl)))))).trans h.r2
      r3 := (g g3 ((e g3).2 (.inr (.inr (.inr (.inr rfl)))))).trans h.r3 }, e⟩,
  fun {w H} h k hk => by
    obtain ⟨g0, g1, g2, g3, h, e⟩ := h
    rcases (e k).1 hk with rfl | rfl | rfl | rfl | rfl
    · exact heap_lt h.obj
    · exact heap_lt h.r0
    · exact heap_lt h.r1
    · exact heap_lt h.r2
    · exact heap_lt h.r3⟩
def rbusCells (pm pp pt pu pi : Nat) (t : Nat) : Array Value :=
  #[.pointer (some ⟨pm, 0, none⟩), .pointer (some ⟨pp, 0, none⟩), .pointer (some ⟨pt, 0, none⟩), .pointer (some ⟨pu, 0, none⟩), .pointer (some ⟨pi, 0, none⟩), .int .u64 (t : Nat)]
def rbusObs (b pm pp pt pu pi : Nat) (B : Bs) : List Ob := [Ob.box b (.cells (rbusCells pm pp pt pu pi B.t) 108), oRPic pp B.c B.d, oRTm pt B.T, oRUart pu B.u, oRIde pi B.k, oRef pm B.R]
theorem rbus_facts {w : World} {b pp pt pu pi pm : Nat} {t : Nat} (h : w.heap[b]? = some (.cells (rbusCells pm pp pt pu pi t) 108)) :
    w.cell? ⟨b, 0, none⟩ = some (.pointer (some ⟨pm, 0, none⟩)) ∧ w.cell? ⟨b, 1, none⟩ = some (.pointer (some ⟨pp, 0, none⟩)) ∧ w.cell? ⟨b, 2, none⟩ = some (.pointer (some ⟨pt, 0, none⟩)) ∧ w.cell? ⟨b, 3, none⟩ = some (.pointer (some ⟨pu, 0, none⟩)) ∧ w.cell? ⟨b, 4, none⟩ = some (.pointer (some ⟨pi, 0, none⟩)) ∧
    w.cell? ⟨b, 5, none⟩ = some (.int .u64 (t : Nat)) ∧ (∀ k, w.frozen? ⟨b, k, none⟩ = false) ∧ b < w.heap.size := by
  refine ⟨?_, ?_, ?_, ?_, ?_, ?_, fun k => free_at h, heap_lt h⟩ <;> (rw [cell_at h]; rfl)
section
variable {b : Nat} {c d : Pic.Chip} {U : Uart.Ut} {D : Ide.Dk} {R : RS}
theorem rpic_line (n : Int) (up : Bool) : Acts 80 #[.pointer (some ⟨b, 0, none⟩), .int .i64 n, .bool up] (oRPic b c d) (.int .i64 (Pic.lerr n)) (oRPic b (Pic.lnc c n up) (Pic.lnd d n up)) := by
  rintro w A ⟨v, u, H, ok, e⟩
  refine (Pic.rline_any H ok.1 ok.2 n up).mono ?_
  rintro x w1 ⟨rfl, H1, K⟩
  exact ⟨rfl, A, ⟨v, u, H1, ⟨Pic.lnc_ok ok.1 n up, Pic.lnd_ok ok.2 n up⟩, e⟩, K.mono fun k _ h => (e k).2 (.inl h), fun k hk => .inl hk⟩
theorem ruart_line : Acts 82 #[.pointer (some ⟨b, 0, none⟩)] (oRUart b U) (.bool U.line) (oRUart b U) := by
  rintro w A ⟨v, u, H, e⟩
  refine (Uart.rline_any H).mono ?_
  rintro x w1 ⟨rfl, rfl⟩
  exact ⟨rfl, A, ⟨v, u, H, e⟩, Moves.refl _ _⟩
theorem ride_line : Acts 83 #[.pointer (some ⟨b, 0, none⟩)] (oRIde b D) (.bool D.line) (oRIde b D) := by
  rintro w A ⟨v, u, H, r, e⟩
  refine (Ide.rline_in H).mono ?_
  rintro x w1 ⟨rfl, rfl⟩
  exact ⟨rfl, A, ⟨v, u, H, r, e⟩, Moves.refl _ _⟩
def tm0 : Tm3 := ⟨Pit.ctNew, Pit.ctNew, Pit.ctNew⟩
set_option maxHeartbeats 1000000 in
theorem rtm_new (w : World) : Calls Try.prog 57 #[] w fun e w' => e = .returned (.pointer (some ⟨w.heap.size, 0, none⟩)) ∧ w'.heap[w.heap.size]? = some (.cells (rcts tm0) 155) ∧ Below w.heap.size w w' := by
  go_enter Try.func57, Try.ntmps57
  go_wp2
  go_rounds 4
  go_ret
  exact ⟨rfl, heap_new w _, by go_grown⟩
theorem rct_facts {w : World} {T : Tm3} (h : w.heap[b]? = some (.cells (rcts T) 155)) : w.rangeAt b 0 (rct T.a) := fun j x hj => by
  rw [cell_at h]
  have hl : j < 10 := (List.getElem?_eq_some_iff.1 hj).1
  unfold rcts
  rw [Nat.zero_add, List.append_assoc]
  simp only [List.getElem?_toArray]
  rw [List.getElem?_append_left (by exact hl)]
  exact hj
theorem rtm0_facts {w : World} (h : w.heap[b]? = some (.cells (rcts tm0) 155)) :
    w.cell? ⟨b, 0, none⟩ = some (.int .i64 3) ∧ w.cell? ⟨b, 1, none⟩ = some (.int .i64 3) ∧ w.cell? ⟨b, 2, none⟩ = some (.int .u64 65536) ∧ w.cell? ⟨b, 3, none⟩ = some (.int .u64 0) ∧ w.cell? ⟨b, 4, none⟩ = some (.bool false) ∧
    w.cell? ⟨b, 5, none⟩ = some (.bool false) ∧ w.cell? ⟨b, 6, none⟩ = some (.int .u8 0) ∧ w.cell? ⟨b, 7, none⟩ = some (.bool false) ∧ w.cell? ⟨b, 8, none⟩ = some (.bool false) ∧ w.cell? ⟨b, 9, none⟩ = some (.int .u64 0) ∧ b < w.heap.size := by
  refine ⟨?_, ?_, ?_, ?_, ?_, ?_, ?_, ?_, ?_, ?_, heap_lt h⟩ <;> (rw [cell_at h]; rfl)
set_option maxHeartbeats 4000000 in
theorem rtm_line0 : Acts 81 #[.pointer (some ⟨b, 0, none⟩), .int .u64 0] (oRTm b tm0) (.bool true) (oRTm b tm0) := by
  rintro w A ⟨H, e⟩
  have HH := Lib.hid H
  suffices hc : Calls Try.prog 81 #[.pointer (some ⟨b, 0, none⟩), .int .u64 0] w fun e w' => e = .returned (.bool true) ∧ Below w.heap.size w w' by
    refine hc.mono ?_
    rintro x w1 ⟨rfl, hb⟩
    exact ⟨rfl, A, ⟨heap_below hb HH.out, e⟩, moves_one e (Keeps.ofBelow hb)⟩
  obtain ⟨k0, k1, k2, k3, k4, k5, k6, k7, k8, k9, kl⟩ := rtm0_facts H
  clear H e
  go_enter Try.func81, Try.ntmps81
  go_wp2_with fail
  go_quiet (fail)
  go_wp2_with fail
  go_ret
  exact ⟨rfl, Pic.below_drewN ((Below.refl _ _).alloc (Nat.le_refl _) _) _⟩
end
section
variable {b pp pt pu pi pm : Nat} {B : Bs} {w0 w : World} {A0 : Nat → Prop}
theorem Hp.rbus (T : Hp w0 A0 w (rbusObs b pm pp pt pu pi B)) : w.heap[b]? = some (.cells (rbusCells pm pp pt pu pi B.t) 108) := T.box 0 rfl
theorem Hp.r125 (T : Hp w0 A0 w (rbusObs b pm pp pt pu pi B)) : w.cell? ⟨b, 1, none⟩ = some (.pointer (some ⟨pp, 0, none⟩)) ∧ w.cell? ⟨b, 2, none⟩ = some (.pointer (some ⟨pt, 0, none⟩)) ∧ w.cell? ⟨b, 5, none⟩ = some (.int .u64 (B.t : Nat)) :=
  have h := rbus_facts T.rbus
  ⟨h.2.1, h.2.2.1, h.2.2.2.2.2.1⟩
theorem Hp.r13 (T : Hp w0 A0 w (rbusObs b pm pp pt pu pi B)) : w.cell? ⟨b, 1, none⟩ = some (.pointer (some ⟨pp, 0, none⟩)) ∧ w.cell? ⟨b, 3, none⟩ = some (.pointer (some ⟨pu, 0, none⟩)) :=
  have h := rbus_facts T.rbus
  ⟨h.2.1, h.2.2.2.1⟩
theorem Hp.r14 (T : Hp w0 A0 w (rbusObs b pm pp pt pu pi B)) : w.cell? ⟨b, 1, none⟩ = some (.pointer (some ⟨pp, 0, none⟩)) ∧ w.cell? ⟨b, 4, none⟩ = some (.pointer (some ⟨pi, 0, none⟩)) :=
  have h := rbus_facts T.rbus
  ⟨h.2.1, h.2.2.2.2.1⟩
/-- What the document's timer tells of its line. -/
def RLine (T : Tm3) (t : Nat) : Prop := ∀ b, Acts 81 #[.pointer (some ⟨b, 0, none⟩), .int .u64 (t : Nat)] (oRTm b T) (.bool (T.a.line t)) (oRTm b T)
set_option maxRecDepth 20000 in
set_option maxHeartbeats 2000000 in
theorem rlines_hp (hl : RLine B.T B.t) (T : Hp w0 A0 w (rbusObs b pm pp pt pu pi B)) :
    Calls Try.prog 59 #[.pointer (some ⟨b, 0, none⟩)] w fun e w' => e = .returned (.tuple #[]) ∧ Hp w0 A0 w' (rbusObs b pm pp pt pu pi B.lines) := by
  have HL := Lib.hid hl
  clear hl
  go_enter Try.func59, Try.ntmps59
  go_wp2_with fail
  obtain ⟨k0, k1, k2, k3, k4, k5, kf, kl⟩ := rbus_facts T.rbus
  have T0 := Lib.hid T.drew
  clear T
  go_region_held3 (fun w' => w'.cell? ⟨b, 1, none⟩ = some (.pointer (some ⟨pp, 0, none⟩)) ∧ w'.cell? ⟨b, 2, none⟩ = some (.pointer (some ⟨pt, 0, none⟩)) ∧ w'.cell? ⟨b, 5, none⟩ = some (.int .u64 (B.t : Nat))) (first | exact Hp.r125 (B := B) T0.out | exact Hp.r125 (B := (B.line 0 (B.T.a.line B.t))) T2 | exact Hp.r125 (B := B) T1 | go_keep) (first | (go_at_call 81; refine (T0.out.act 2 rfl (HL.out _)).mono ?_; rintro e w1 ⟨rfl, T1⟩; replace T1 : Hp w0 A0 w1 (rbusObs b pm pp pt pu pi B) := T1) | (go_at_call 80; refine (T1.act 1 rfl (rpic_line _ _)).mono ?_; rintro e w2 ⟨rfl, T2⟩; replace T2 : Hp w0 A0 w2 (rbusObs b pm pp pt pu pi (B.line 0 (B.T.a.line B.t))) := T2))
  clear k0 k1 k2 k3 k4 k5 kf kl T1 T0
  have S0 := T2
  clear T2
  go_wp2_with fail
  obtain ⟨k0, k1, k2, k3, k4, k5, kf, kl⟩ := rbus_facts S0.rbus
  have T0 := Lib.hid S0.drew
  clear S0
  go_region_held3 (fun w' => w'.cell? ⟨b, 1, none⟩ = some (.pointer (some ⟨pp, 0, none⟩)) ∧ w'.cell? ⟨b, 3, none⟩ = some (.pointer (some ⟨pu, 0, none⟩))) (first | exact Hp.r13 (B := (B.line 0 (B.T.a.line B.t))) T0.out | exact Hp.r13 (B := ((B.line 0 (B.T.a.line B.t)).line 4 B.u.line)) T2 | exact Hp.r13 (B := (B.line 0 (B.T.a.line B.t))) T1 | go_keep) (first | (go_at_call 82; refine (T0.out.act 3 rfl (ruart_line)).mono ?_; rintro e w1 ⟨rfl, T1⟩; replace T1 : Hp w0 A0 w1 (rbusObs b pm pp pt pu pi (B.line 0 (B.T.a.line B.t))) := T1) | (go_at_call 80; refine (T1.act 1 rfl (rpic_line _ _)).mono ?_; rintro e w2 ⟨rfl, T2⟩; replace T2 : Hp w0 A0 w2 (rbusObs b pm pp pt pu pi ((B.line 0 (B.T.a.line B.t)).line 4 B.u.line)) := T2))
  clear k0 k1 k2 k3 k4 k5 kf kl T1 T0
  have S1 := T2
  clear T2
  go_wp2_with fail
  obtain ⟨k0, k1, k2, k3, k4, k5, kf, kl⟩ := rbus_facts S1.rbus
  have T0 := Lib.hid S1.drew
  clear S1
  go_region_held3 (fun w' => w'.cell? ⟨b, 1, none⟩ = some (.pointer (some ⟨pp, 0, none⟩)) ∧ w'.cell? ⟨b, 4, none⟩ = some (.pointer (some ⟨pi, 0, none⟩))) (first | exact Hp.r14 (B := ((B.line 0 (B.T.a.line B.t)).line 4 B.u.line)) T0.out | exact Hp.r14 (B := (((B.line 0 (B.T.a.line B.t)).line 4 B.u.line).line 14 B.k.line)) T2 | exact Hp.r14 (B := ((B.line 0 (B.T.a.line B.t)).line 4 B.u.line)) T1 | go_keep) (first | (go_at_call 83; refine (T0.out.act 4 rfl (ride_line)).mono ?_; rintro e w1 ⟨rfl, T1⟩; replace T1 : Hp w0 A0 w1 (rbusObs b pm pp pt pu pi ((B.line 0 (B.T.a.line B.t)).line 4 B.u.line)) := T1) | (go_at_call 80; refine (T1.act 1 rfl (rpic_line _ _)).mono ?_; rintro e w2 ⟨rfl, T2⟩; replace T2 : Hp w0 A0 w2 (rbusObs b pm pp pt pu pi (((B.line 0 (B.T.a.line B.t)).line 4 B.u.line).line 14 B.k.line)) := T2))
  clear k0 k1 k2 k3 k4 k5 kf kl T1 T0
  have S2 := T2
  clear T2
  go_wp2_with fail
  go_returns
  exact ⟨rfl, S2⟩
theorem rline0 : RLine tm0 0 := fun b => by
  have e : Pit.Ct.line tm0.a ((0 : Nat) : Int) = true := by kernel_rfl
  rw [e]
  exact rtm_line0
def oRBus (b pm : Nat) (B : Bs) : Ob := Ob.any fun x : Nat × Nat × Nat × Nat => Ob.all (rbusObs b pm x.1 x.2.1 x.2.2.1 x.2.2.2 B)
theorem Hp.toRBus {os : List Ob} (T : Hp w0 A0 w (rbusObs b pm pp pt pu pi B ++ os)) : Hp w0 A0 w (oRBus b pm B :: os) :=
  T.pack fun A a => ⟨(pp, pt, pu, pi), a⟩
end
section
variable {pm : Nat} {R : RS} {n : Nat} {d : Nat → Nat} {v : Value} {w0 w : World} {A0 : Nat → Prop}
theorem RefIn.gate {w : World} {b g0 g1 g2 g3 : Nat} {R : RS} (H : RefIn w b g0 g1 g2 g3 R) (x : Bool) : RefIn (w.setCell ⟨b, 4, none⟩ (.bool !x)) b g0 g1 g2 g3 (R.gate x) :=
  have o : ∀ k, k ≠ b → (w.setCell ⟨b, 4, none⟩ (.bool !x)).heap[k]? = w.heap[k]? := fun k h => heap_set_other _ h
  { obj := by rw [heap_set_map, H.obj]; rfl
    r0 := (o _ H.e0.symm).trans H.r0
    r1 := (o _ H.e1.symm).trans H.r1
    r2 := (o _ H.e2.symm).trans H.r2
    r3 := (o _ H.e3.symm).trans H.r3
    d1 := H.d1
    d2 := H.d2
    d3 := H.d3
    ok := RS.gate_ok H.ok x }
theorem Hp.refgate {os : List Ob} (T : Hp w0 A0 w os) (i : Nat) (h : os[i]? = some (oRef pm R)) (x : Bool) : Hp w0 A0 (w.setCell ⟨pm, 4, none⟩ (.bool !x)) (os.set i (oRef pm (R.gate x))) := by
  obtain ⟨A, ⟨g0, g1, g2, g3, H, e⟩, g⟩ := T.turn i h
  exact g _ A (oRef pm (R.gate x)) ⟨g0, g1, g2, g3, H.gate x, e⟩ ⟨(Keeps.refl _ _).setCell (.inl ((e pm).2 (.inl rfl))) _, fun k hk => .inl hk⟩
theorem Hp.ref4 {os : List Ob} (T : Hp w0 A0 w os) (i : Nat) (h : os[i]? = some (oRef pm R)) : w.cell? ⟨pm, 4, none⟩ = some (.bool R.closed) ∧ (∀ k, w.frozen? ⟨pm, k, none⟩ = false) ∧ pm < w.heap.size := by
  obtain ⟨A, g0, g1, g2, g3, H, e⟩ := T.get i h
  exact ⟨by rw [cell_at H.obj]; rfl, fun k => free_at H.obj, heap_lt H.obj⟩
set_option maxRecDepth 20000 in
set_option maxHeartbeats 4000000 in
theorem rnew_hp (T : Hp w0 A0 w [oRef pm R]) (H : Ide.Reads w v (n * 512) d) (hn : n ≤ 64) (hd : ∀ i, d i < 256) :
    Calls Try.prog 25 #[.pointer (some ⟨pm, 0, none⟩), v] w fun e w' => ∃ b, e = .returned (.tuple #[.pointer (some ⟨b, 0, none⟩), .int .i64 0]) ∧ Hp w0 A0 w' [oRBus b pm (Bs.new R n d)] := by
  have HT := Lib.hid T
  have HH := Lib.hid (And.intro H (And.intro hn hd))
  obtain ⟨va, vc, rfl, -⟩ := H
  clear T hn hd
  go_enter Try.func25, Try.ntmps25
  go_wp2_with fail
  refine (Ide.rnew_yes HH.out.1 HH.out.2.1 HH.out.2.2).mono ?_
  rintro e w1 ⟨pi, ds, rfl, I1, i2, i3, hb1⟩
  have T1 := HT.out.new hb1 (o := oRIde pi (Ide.Dk.new n d)) (A := Ide.Held pi ds (.slice none 0 0)) ⟨ds, _, I1, Ide.room_fresh _, fun k => Iff.rfl⟩ (fun k hk => by
    rcases hk with rfl | hk | hk
    · exact i2
    · exact i3 k hk
    · cases hk)
  obtain ⟨c4, cf, cl⟩ := T1.ref4 0 rfl
  have T1 := T1.refgate 0 rfl true
  have HT1 := Lib.hid T1
  clear I1 i2 i3 hb1 T1
  go_upto_region 7 with (fail)
  clear c4 cf cl
  change Code.wp _ _ _ _ (w1.setCell ⟨pm, 4, none⟩ (.bool !true))
  generalize w1.setCell ⟨pm, 4, none⟩ (.bool !true) = w1 at *
  go_wp2_with fail
  refine (Pic.rnew_any _).mono ?_
  rintro e w2 ⟨rfl, P2, hb2⟩
  have T2 := HT1.out.new hb2 (o := oRPic w1.heap.size Pic.chip0 Pic.chip0) (A := fun k => k = w1.heap.size) ⟨_, _, P2, ⟨Pic.chip0_ok, Pic.chip0_ok⟩, fun k => ⟨fun h => .inl h, fun h => h.elim id fun h => h.elim (fun h => by cases h) (fun h => by cases h)⟩⟩ (fun k hk => by omega)
  generalize w1.heap.size = pp at *
  have HT2 := Lib.hid T2
  clear T2 P2 hb2
  go_wp2_with fail
  refine (rtm_new _).mono ?_
  rintro e w3 ⟨rfl, P3, hb3⟩
  have T3 := HT2.out.new hb3 (o := oRTm w2.heap.size tm0) (A := fun k => k = w2.heap.size) ⟨P3, fun k => Iff.rfl⟩ (fun k hk => by omega)
  generalize w2.heap.size = pt at *
  have HT3 := Lib.hid T3
  clear T3 P3 hb3
  go_wp2_with fail
  refine (Uart.rnew_any _).mono ?_
  rintro e w4 ⟨rfl, U4, hb4⟩
  have T4 := HT3.out.new hb4 (o := oRUart w3.heap.size Uart.Ut.new) (A := Uart.RHeld w3.heap.size (.slice none 0 0) (.slice none 0 0)) ⟨_, _, U4, fun k => Iff.rfl⟩ (fun k hk => by
    rcases hk with rfl | hk | hk
    · exact Nat.le_refl _
    · cases hk
    · cases hk)
  generalize w3.heap.size = pu at *
  have T5 := T4.make (.cells (rbusCells pm pp pt pu pi 0) 108)
  have HT5 := Lib.hid T5
  clear T4 T5 U4 hb4
  go_upto_region 8 with (fail)
  have T8 : Hp w0 A0 (w4.alloc (.cells #[.pointer (some ⟨pm, 0, none⟩), .pointer (some ⟨pp, 0, none⟩), .pointer (some ⟨pt, 0, none⟩), .pointer (some ⟨pu, 0, none⟩), .pointer (some ⟨pi, 0, none⟩), .int .u64 0] 108)) [oRef pm (R.gate true), oRIde pi (Ide.Dk.new n d), oRPic pp Pic.chip0 Pic.chip0, oRTm pt tm0, oRUart pu Uart.Ut.new, Ob.box w4.heap.size (.cells (rbusCells pm pp pt pu pi 0) 108)] := HT5.out
  clear HT5 HT1 HT2 HT3
  generalize w4.alloc (.cells #[.pointer (some ⟨pm, 0, none⟩), .pointer (some ⟨pp, 0, none⟩), .pointer (some ⟨pt, 0, none⟩), .pointer (some ⟨pu, 0, none⟩), .pointer (some ⟨pi, 0, none⟩), .int .u64 0] 108) = W at *
  generalize w4.heap.size = b at *
  have S1 := T8.front 1 rfl
  have S2 := S1.front 4 rfl
  have S3 := S2.front 4 rfl
  have S4 := S3.front 4 rfl
  have S5 : Hp w0 A0 W (rbusObs b pm pp pt pu pi (Bs.mk Pic.chip0 Pic.chip0 tm0 Uart.Ut.new (Ide.Dk.new n d) true (R.gate true) 0)) := S4.front 5 rfl
  have HS5 := Lib.hid S5
  clear T8 S1 S2 S3 S4 S5
  go_wp2_with fail
  refine (rlines_hp (B := Bs.mk Pic.chip0 Pic.chip0 tm0 Uart.Ut.new (Ide.Dk.new n d) true (R.gate true) 0) rline0 HS5.out).mono ?_
  rintro e v8 ⟨rfl, S8⟩
  go_wp2_with fail
  go_ret2
  exact ⟨b, rfl, S8.toRBus (os := [])⟩
end
end Go.Proofs.Ytojmpdddfnkffaa

/- bus: two buses, the program's and the document's; what was sent; the calls at the head of all statements. -/
namespace Go.Proofs.Ytojmpdddfnkffaa
open Go.RowKit Go.MapKept
set_option linter.unusedVariables false

section
variable {b pm rb rm : Nat} {B : Bs} {R : RS} {n : Nat} {d : Nat → Nat} {v : Value} {w0 w : World} {A0 : Nat → Prop} {os : List Ob}
theorem new_call (T : Hp w0 A0 w os) (i : Nat) (hi : os[i]? = some (oRam pm R)) (H : Ide.Reads w v (n * 512) d) (hn : n ≤ 64) (hd : ∀ i, d i < 256) :
    Calls Try.prog 18 #[.pointer (some ⟨pm, 0, none⟩), v] w fun e w' => ∃ b, e = .returned (.tuple #[.pointer (some ⟨b, 0, none⟩), .int .i64 0]) ∧ Hp w0 A0 w' (os.set i (oBus b pm (Bs.new R n d))) := by
  refine (T.call i (Q := fun e o => ∃ b, e = .returned (.tuple #[.pointer (some ⟨b, 0, none⟩), .int .i64 0]) ∧ o = oBus b pm (Bs.new R n d)) hi fun A a => ?_).mono ?_
  · refine (new_hp (Hp.one a) H hn hd).mono ?_
    rintro e w1 ⟨b, rfl, T1⟩
    exact ⟨_, ⟨b, rfl, rfl⟩, T1.un⟩
  · rintro e w1 ⟨o, ⟨b, rfl, rfl⟩, T1⟩
    exact ⟨b, rfl, T1⟩
theorem rnew_call (T : Hp w0 A0 w os) (i : Nat) (hi : os[i]? = some (oRef pm R)) (H : Ide.Reads w v (n * 512) d) (hn : n ≤ 64) (hd : ∀ i, d i < 256) :
    Calls Try.prog 25 #[.pointer (some ⟨pm, 0, none⟩), v] w fun e w' => ∃ b, e = .returned (.tuple #[.pointer (some ⟨b, 0, none⟩), .int .i64 0]) ∧ Hp w0 A0 w' (os.set i (oRBus b pm (Bs.new R n d))) := by
  refine (T.call i (Q := fun e o => ∃ b, e = .returned (.tuple #[.pointer (some ⟨b, 0, none⟩), .int .i64 0]) ∧ o = oRBus b pm (Bs.new R n d)) hi fun A a => ?_).mono ?_
  · refine (rnew_hp (Hp.one a) H hn hd).mono ?_
    rintro e w1 ⟨b, rfl, T1⟩
    exact ⟨_, ⟨b, rfl, rfl⟩, T1.un⟩
  · rintro e w1 ⟨o, ⟨b, rfl, rfl⟩, T1⟩
    exact ⟨b, rfl, T1⟩
set_option maxHeartbeats 4000000 in
theorem both_any (w : World) (v : Value) (p : Nat) (h1 : 1 ≤ p) (h2 : p ≤ 256) (H : Ide.Reads w v (n * 512) d) (hn : n ≤ 64) (hd : ∀ i, d i < 256) :
    Calls Try.prog 8 #[.int .i64 (p : Nat), v] w fun e w' => ∃ b c m r, e = .returned (.tuple #[.pointer (some ⟨b, 0, none⟩), .pointer (some ⟨c, 0, none⟩), .pointer (some ⟨m, 0, none⟩)]) ∧
      Hp w (fun _ => False) w' [oBus b m (Bs.new (RS.new p) n d), oRBus c r (Bs.new (RS.new p) n d)] := by
  have HH := Lib.hid (And.intro H (And.intro hn hd))
  obtain ⟨va, vc, rfl, -⟩ := H
  clear hn hd
  go_enter Try.func8, Try.ntmps8
  go_wp2_with fail
  refine (new_any w p h1 h2).mono ?_
  rintro e w1 ⟨m, S, rfl, M1, N1, hb1⟩
  have T1 : Hp w (fun _ => False) w1 [oRam m (RS.new p)] := (Hp.zero w).new hb1 (o := oRam m (RS.new p)) M1 N1
  have HT1 := Lib.hid T1
  clear T1 M1 N1 hb1
  go_wp2_with fail
  refine (rnew_any w1 p h1 h2).mono ?_
  rintro e w2 ⟨r, S2, rfl, M2, N2, hb2⟩
  have T2 : Hp w (fun _ => False) w2 [oRam m (RS.new p), oRef r (RS.new p)] := HT1.out.new hb2 (o := oRef r (RS.new p)) M2 N2
  have HT2 := Lib.hid T2
  clear T2 M2 N2 hb2 HT1
  go_wp2_with fail
  refine (new_call HT2.out 0 rfl (reads_below HH.out.1 HT2.out.below) HH.out.2.1 HH.out.2.2).mono ?_
  rintro e w3 ⟨b, rfl, T3⟩
  have HT3 := Lib.hid T3
  clear T3 HT2
  go_wp2_with fail
  refine (rnew_call HT3.out 1 rfl (reads_below HH.out.1 HT3.out.below) HH.out.2.1 HH.out.2.2).mono ?_
  rintro e w4 ⟨c, rfl, T4⟩
  have HT4 := Lib.hid T4
  clear T4 HT3
  go_wp2_with fail
  go_returns
  exact ⟨b, c, m, r, rfl, HT4.out⟩
theorem usent {U : Uart.Ut} {A : Nat → Prop} (a : (oUart b U).P w A) : Calls Try.prog 32 #[.pointer (some ⟨b, 0, none⟩)] w fun e w' => ∃ o', (∃ v, e = .returned v ∧ o' = Ob.all [oUart b U.quit, oRow 5 v U.sent.length (Uart.bytesV U.sent)]) ∧ ∃ A', o'.P w' A' ∧ Moves A A' w w' := by
  obtain ⟨q, sv, H, e⟩ := a
  have hb := H.bs
  have hq := H.qs
  refine (Uart.sent_any H).mono ?_
  rintro x w1 ⟨rfl, H1, hr, K⟩
  refine ⟨_, ⟨sv, rfl, rfl⟩, A, ⟨Uart.Held b q (.slice none 0 0), fun k => sv.ownBlock = some k, ⟨q, _, H1, fun k => Iff.rfl⟩, ⟨fun k => sv.ownBlock = some k, fun _ => False, ⟨hr, fun k => Iff.rfl⟩, fun _ h => h, fun _ _ h => h, fun k => ⟨.inl, fun h => h.elim id False.elim⟩⟩, ?_, fun k => ?_⟩, K.mono fun k _ h => (e k).2 (h.imp id .inl), fun k hk => .inl hk⟩
  · rintro k (rfl | rfl | hk) h2
    · exact hb h2
    · exact hq h2
    · cases hk
  · rw [e k]
    constructor
    · rintro (h | h | h)
      · exact .inl (.inl h)
      · exact .inl (.inr (.inl h))
      · exact .inr h
    · rintro ((h | h | h) | h)
      · exact .inl h
      · exact .inr (.inl h)
      · cases h
      · exact .inr (.inr h)
set_option maxHeartbeats 2000000 in
theorem sent_hp {pp pt pu pi mp : Nat} (T : Hp w0 A0 w (busObs b pp pt pu pi pm mp B)) :
    Calls Try.prog 16 #[.pointer (some ⟨b, 0, none⟩)] w fun e w' => ∃ v, e = .returned v ∧ Hp w0 A0 w' [oBus b pm B.quit, oRow 5 v B.u.sent.length (Uart.bytesV B.u.sent)] := by
  obtain ⟨k0, k1, k2, k3, k4, k5, k6, k7, kf, kl⟩ := bus_facts T.bus
  go_enter Try.func16, Try.ntmps16
  go_wp2_with fail
  refine (T.call 3 rfl (fun A a => usent a)).mono ?_
  rintro e w1 ⟨o, ⟨v, rfl, rfl⟩, T1⟩
  have T2 : Hp w0 A0 w1 (busObs b pp pt pu pi pm mp B.quit ++ [oRow 5 v B.u.sent.length (Uart.bytesV B.u.sent)]) := T1.two 3 rfl
  go_wp2_with fail
  go_returns
  exact ⟨v, rfl, T2.toBus⟩
theorem sent_call (T : Hp w0 A0 w os) (i : Nat) (hi : os[i]? = some (oBus b pm B)) :
    Calls Try.prog 16 #[.pointer (some ⟨b, 0, none⟩)] w fun e w' => ∃ v, e = .returned v ∧ Hp w0 A0 w' (os.set i (oBus b pm B.quit) ++ [oRow 5 v B.u.sent.length (Uart.bytesV B.u.sent)]) := by
  refine (T.call i (Q := fun e o => ∃ v, e = .returned v ∧ o = Ob.all [oBus b pm B.quit, oRow 5 v B.u.sent.length (Uart.bytesV B.u.sent)]) hi fun A a => ?_).mono ?_
  · obtain ⟨⟨pp, pt, pu, pi, mp⟩, a⟩ := a
    refine (sent_hp (Hp.start a)).mono ?_
    rintro e w1 ⟨v, rfl, T1⟩
    exact ⟨_, ⟨v, rfl, rfl⟩, T1.end_⟩
  · rintro e w1 ⟨o, ⟨v, rfl, rfl⟩, T1⟩
    have hlt : i < os.length := (List.getElem?_eq_some_iff.1 hi).1
    have h2 := T1.two i (x := oBus b pm B.quit) (y := oRow 5 v B.u.sent.length (Uart.bytesV B.u.sent)) (by rw [List.getElem?_set_self hlt])
    rw [List.set_set] at h2
    exact ⟨v, rfl, h2⟩
set_option maxHeartbeats 2000000 in
theorem disk_hp {pp pt pu pi mp : Nat} (T : Hp w0 A0 w (busObs b pp pt pu pi pm mp B)) :
    Calls Try.prog 17 #[.pointer (some ⟨b, 0, none⟩)] w fun e w' => ∃ v, e = .returned v ∧ w'.ownsRow w.heap.size 5 1 v (B.k.n * 512) (Ide.bytesL (B.k.n * 512) B.k.d) ∧ Below w.heap.size w w' := by
  obtain ⟨k0, k1, k2, k3, k4, k5, k6, k7, kf, kl⟩ := bus_facts T.bus
  obtain ⟨A, ds, lv, HI, -⟩ := T.get 4 rfl
  have HH := Lib.hid HI
  clear HI
  go_enter Try.func17, Try.ntmps17
  go_wp2_with fail
  refine (Ide.disk_in HH.out).mono ?_
  rintro e w1 ⟨v, rfl, h1, h2⟩
  go_wp2_with fail
  go_returns
  exact ⟨v, rfl, h1, h2⟩
theorem disk_call (T : Hp w0 A0 w os) (i : Nat) (hi : os[i]? = some (oBus b pm B)) :
    Calls Try.prog 17 #[.pointer (some ⟨b, 0, none⟩)] w fun e w' => ∃ v, e = .returned v ∧ Hp w0 A0 w' (os ++ [oRow 5 v (B.k.n * 512) (Ide.bytesL (B.k.n * 512) B.k.d)]) := by
  obtain ⟨A, ⟨pp, pt, pu, pi, mp⟩, a⟩ := T.get i hi
  refine (disk_hp (Hp.start a)).mono ?_
  rintro e w1 ⟨v, rfl, hr, hb⟩
  exact ⟨v, rfl, T.new hb (o := oRow 5 v (B.k.n * 512) (Ide.bytesL (B.k.n * 512) B.k.d)) (A := fun k => v.ownBlock = some k) ⟨row_down' hr (Nat.zero_le _), fun k => Iff.rfl⟩ fun k hk => (World.ownsRow.lt hr k hk).1⟩
end
end Go.Proofs.Ytojmpdddfnkffaa

/- bus's laws: the calls at the head of all statements. -/
namespace Go.Proofs.Ytojmpdddfnkffaa
open Go.RowKit Go.MapKept
set_option linter.unusedVariables false

/-- A law's own bus, with so many sectors. -/
def B0 (p n : Nat) : Bs := Bs.new (RS.new p) n (Ide.dsk 0)
theorem B0_ok (p n : Nat) : (B0 p n).ok := Bs.lines_ok ⟨⟨Pit.ctNew_ok 0 (Int.le_refl 0), Pit.ctNew_ok 0 (Int.le_refl 0), Pit.ctNew_ok 0 (Int.le_refl 0)⟩, by show 0 < _; decide⟩
theorem B0_fits (p n : Nat) : (B0 p n).fits 0 := Bs.lines_fits ⟨Nat.le_refl _, Nat.le_refl _⟩
def aw1 : Bs := (B0 1 1).out 1016 1 65
def aw3 : Bs := aw1.quit.inS 4660 2
def aw4 : Bs := aw3.out 32 1 17
def aw5 : Bs := aw4.out 33 1 8
def aw6 : Bs := aw5.out 33 1 4
def aw7 : Bs := aw6.out 33 1 1
def aw8 : Bs := aw7.out 67 1 16
def aw9 : Bs := aw8.out 64 1 5
def aw10 : Bs := aw9.ticks 5
theorem aw_sent : aw1.u.sent = [65] := by kernel_rfl
theorem aw_in : aw1.quit.wideV 4660 2 = 65535 := by kernel_rfl
theorem aw_no : Pic.told0 aw9.c aw9.d = false := by kernel_rfl
theorem aw_yes : Pic.told0 aw10.c aw10.d = true := by kernel_rfl
theorem aw_vec : Pic.vec0 aw10.c aw10.d = 8 := by kernel_rfl
theorem aw_t : aw10.t = 5 := by kernel_rfl
theorem aw_t9 : aw9.t = 0 := by kernel_rfl
theorem aw1_ok : aw1.ok := Bs.out_ok (B0_ok 1 1) _ _ _
theorem quit_ok {B : Bs} (h : B.ok) : B.quit.ok := ⟨h.T, h.t⟩
theorem aw3_ok : aw3.ok := Bs.inS_ok (quit_ok aw1_ok) _ _
theorem aw4_ok : aw4.ok := Bs.out_ok aw3_ok _ _ _
theorem aw5_ok : aw5.ok := Bs.out_ok aw4_ok _ _ _
theorem aw6_ok : aw6.ok := Bs.out_ok aw5_ok _ _ _
theorem aw7_ok : aw7.ok := Bs.out_ok aw6_ok _ _ _
theorem aw8_ok : aw8.ok := Bs.out_ok aw7_ok _ _ _
theorem aw9_ok : aw9.ok := Bs.out_ok aw8_ok _ _ _
theorem aw10_ok : aw10.ok := (Bs.ticks_ok aw9_ok 5 (by rw [aw_t9]; decide)).1
theorem aw3_fits : aw3.fits 16 := ⟨by decide +kernel, by decide +kernel⟩
theorem aw4_fits : aw4.fits 32 := Bs.out_fits aw3_fits _ _ _ (by decide)
theorem aw5_fits : aw5.fits 48 := Bs.out_fits aw4_fits _ _ _ (by decide)
theorem aw6_fits : aw6.fits 64 := Bs.out_fits aw5_fits _ _ _ (by decide)
theorem aw7_fits : aw7.fits 80 := Bs.out_fits aw6_fits _ _ _ (by decide)
theorem aw8_fits : aw8.fits 96 := Bs.out_fits aw7_fits _ _ _ (by decide)
theorem ack_t (B : Bs) : B.ack.t = B.t := rfl
theorem Reads_law {w : World} {v : Value} {n s B : Nat} (h : w.ownsRow B 5 1 v (n * 512) (Ide.bytesL (n * 512) (Ide.dsk s))) : Ide.Reads w v (n * 512) (Ide.dsk s) := Ide.reads_row h
set_option maxRecDepth 20000 in
set_option maxHeartbeats 8000000 in
theorem bus_awake (w : World) : Calls Try.prog 7 #[] w fun e w' => e = .returned (.bool true) ∧ Below w.heap.size w w' := by
  have E := Lib.hid (And.intro aw_in (And.intro aw_no (And.intro aw_yes (And.intro aw_vec (And.intro aw_t aw_sent)))))
  go_enter Try.func7, Try.ntmps7
  go_wp2_with fail
  refine (Ide.lawdisk_any 1 (by decide) (by decide) 0 (by decide) w).mono ?_
  rintro e w1 ⟨v, rfl, hr, hb⟩
  have HR := Lib.hid (And.intro (Reads_law (n := 1) hr) hb)
  obtain ⟨va, vc, rfl, -⟩ := Reads_law (n := 1) hr
  clear hr hb
  go_wp2_with fail
  refine (both_any w1 _ 1 (by decide) (by decide) HR.out.1 (by decide) (Ide.dsk_lt 0)).mono ?_
  rintro e w2 ⟨b, c, m, r, rfl, T⟩
  have HT := Lib.hid (show Hp w1 (fun _ => False) w2 [oBus b m (B0 1 1)] from Hp.left (l1 := [oBus b m (B0 1 1)]) T)
  clear T
  go_wp2_with fail
  refine (HT.out.act 0 rfl (bus_out (B0_ok 1 1) ((B0_fits 1 1).le (by decide)) 1016 1 65 (by decide) (.inl rfl) (by decide))).mono ?_
  rintro e w3 ⟨rfl, T3⟩
  have HT3 := Lib.hid (show Hp w1 (fun _ => False) w3 [oBus b m aw1] from T3)
  clear T3
  go_wp2_with fail
  refine (sent_call HT3.out 0 rfl).mono ?_
  rintro e w4 ⟨sv, rfl, T4⟩
  have HT4 := Lib.hid (show Hp w1 (fun _ => False) w4 [oBus b m aw1.quit, oRow 5 sv aw1.u.sent.length (Uart.bytesV aw1.u.sent)] from T4)
  obtain ⟨AR, hrow, -⟩ := T4.get 1 rfl
  rw [aw_sent] at hrow
  obtain ⟨sg, sc, rfl, -, -⟩ := Uart.byte_at (L := [65]) hrow 0 65 rfl
  clear T4 hrow
  go_wp2_with fail
  refine (HT4.out.act 0 rfl (bus_in (quit_ok aw1_ok) 4660 2 (by decide) (.inr (.inl rfl)))).mono ?_
  rintro e w5 ⟨rfl, T5⟩
  have HT5 := Lib.hid (show Hp w1 (fun _ => False) w5 [oBus b m aw3, oRow 5 (.slice (some ⟨sg, 0, none⟩) 1 sc) aw1.u.sent.length (Uart.bytesV aw1.u.sent)] from T5)
  clear T5
  rw [E.out.1]
  go_wp2_with fail
  refine (HT5.out.act 0 rfl (bus_out aw3_ok (aw3_fits.le (by decide)) 32 1 17 (by decide) (.inl rfl) (by decide))).mono ?_
  rintro e w6 ⟨rfl, T6⟩
  have HT6 := Lib.hid (show Hp w1 (fun _ => False) w6 [oBus b m aw4, oRow 5 (.slice (some ⟨sg, 0, none⟩) 1 sc) aw1.u.sent.length (Uart.bytesV aw1.u.sent)] from T6)
  clear T6 HT5
  go_wp2_with fail
  refine (HT6.out.act 0 rfl (bus_out aw4_ok (aw4_fits.le (by decide)) 33 1 8 (by decide) (.inl rfl) (by decide))).mono ?_
  rintro e w7 ⟨rfl, T7⟩
  have HT7 := Lib.hid (show Hp w1 (fun _ => False) w7 [oBus b m aw5, oRow 5 (.slice (some ⟨sg, 0, none⟩) 1 sc) aw1.u.sent.length (Uart.bytesV aw1.u.sent)] from T7)
  clear T7 HT6
  go_wp2_with fail
  refine (HT7.out.act 0 rfl (bus_out aw5_ok (aw5_fits.le (by decide)) 33 1 4 (by decide) (.inl rfl) (by decide))).mono ?_
  rintro e w8 ⟨rfl, T8⟩
  have HT8 := Lib.hid (show Hp w1 (fun _ => False) w8 [oBus b m aw6, oRow 5 (.slice (some ⟨sg, 0, none⟩) 1 sc) aw1.u.sent.length (Uart.bytesV aw1.u.sent)] from T8)
  clear T8 HT7
  go_wp2_with fail
  refine (HT8.out.act 0 rfl (bus_out aw6_ok (aw6_fits.le (by decide)) 33 1 1 (by decide) (.inl rfl) (by decide))).mono ?_
  rintro e w9 ⟨rfl, T9⟩
  have HT9 := Lib.hid (show Hp w1 (fun _ => False) w9 [oBus b m aw7, oRow 5 (.slice (some ⟨sg, 0, none⟩) 1 sc) aw1.u.sent.length (Uart.bytesV aw1.u.sent)] from T9)
  clear T9 HT8
  go_wp2_with fail
  refine (HT9.out.act 0 rfl (bus_out aw7_ok (aw7_fits.le (by decide)) 67 1 16 (by decide) (.inl rfl) (by decide))).mono ?_
  rintro e w10 ⟨rfl, T10⟩
  have HT10 := Lib.hid (show Hp w1 (fun _ => False) w10 [oBus b m aw8, oRow 5 (.slice (some ⟨sg, 0, none⟩) 1 sc) aw1.u.sent.length (Uart.bytesV aw1.u.sent)] from T10)
  clear T10 HT9
  go_wp2_with fail
  refine (HT10.out.act 0 rfl (bus_out aw8_ok (aw8_fits.le (by decide)) 64 1 5 (by decide) (.inl rfl) (by decide))).mono ?_
  rintro e w11 ⟨rfl, T11⟩
  have HT11 := Lib.hid (show Hp w1 (fun _ => False) w11 [oBus b m aw9, oRow 5 (.slice (some ⟨sg, 0, none⟩) 1 sc) aw1.u.sent.length (Uart.bytesV aw1.u.sent)] from T11)
  clear T11 HT10
  go_wp2_with fail
  refine (HT11.out.act 0 rfl bus_pending).mono ?_
  rintro e w12 ⟨rfl, T12⟩
  have HT12 := Lib.hid T12
  clear T12
  rw [E.out.2.1]
  go_wp2_with fail
  refine (HT12.out.act 0 rfl (bus_tick aw9_ok 5 (by decide) (by rw [aw_t9]; decide))).mono ?_
  rintro e w13 ⟨rfl, T13⟩
  have HT13 := Lib.hid (show Hp w1 (fun _ => False) w13 [oBus b m aw10, oRow 5 (.slice (some ⟨sg, 0, none⟩) 1 sc) aw1.u.sent.length (Uart.bytesV aw1.u.sent)] from T13)
  clear T13
  have hcv : (convert 30 9 (.slice (some ⟨sg, 0, none⟩) 1 sc)).run Try.prog w13 = .ok (.string ⟨#[65]⟩) w13 := by
    obtain ⟨AR, hrow, -⟩ := HT13.out.get 1 rfl
    rw [aw_sent] at hrow
    have h := Uart.conv_row (L := [65]) hrow
    rw [show Uart.strL [65] = ⟨#[65]⟩ by kernel_rfl] at h
    exact h
  go_wp2_with fail
  refine (HT13.out.act 0 rfl bus_pending).mono ?_
  rintro e w14 ⟨rfl, T14⟩
  have HT14 := Lib.hid T14
  clear T14 hcv
  rw [E.out.2.2.1]
  go_wp2_with fail
  refine (HT14.out.act 0 rfl (bus_ack aw10_ok)).mono ?_
  rintro e w15 ⟨rfl, T15⟩
  have HT15 := Lib.hid T15
  clear T15
  rw [E.out.2.2.2.1]
  go_wp2_with fail
  refine (HT15.out.act 0 rfl bus_now).mono ?_
  rintro e w16 ⟨rfl, T16⟩
  have HT16 := Lib.hid T16
  clear T16
  rw [ack_t, E.out.2.2.2.2.1]
  go_wp2_with fail
  go_ret
  exact ⟨rfl, step_below HR.out.2 HT16.out.below (Nat.le_refl _)⟩
end Go.Proofs.Ytojmpdddfnkffaa

/- bus's laws: a script of calls as an argument; a call of any size; two buses. -/
namespace Go.Proofs.Ytojmpdddfnkffaa
open Go.RowKit Go.WideShapes Go.ChangeShapes
set_option linter.unusedVariables false

theorem trod_struct4 {H : Type} {enc : TypeId × Value → H} {P : Program} {w : World} {base : Nat} {spare : Nat → Bool} {held : Bool} {t : TypeId} {f0 f1 f2 f3 : Field} {fuel : Nat} {cs : List Value} {x : DataW H × List MemPlace}
    (ht : P.underlying t = some (.struct #[f0, f1, f2, f3])) (h : DataW.trod enc P w base spare held fuel t cs = some x) :
    ∃ y0 y1 y2 y3 n, DataW.trod enc P w base spare held n f0.type ((cs.drop f0.offset).take (P.cellsOf f0.type)) = some y0 ∧
      DataW.trod enc P w base spare held n f1.type ((cs.drop f1.offset).take (P.cellsOf f1.type)) = some y1 ∧ DataW.trod enc P w base spare held n f2.type ((cs.drop f2.offset).take (P.cellsOf f2.type)) = some y2 ∧
      DataW.trod enc P w base spare held n f3.type ((cs.drop f3.offset).take (P.cellsOf f3.type)) = some y3 := by
  obtain ⟨xs, n, _, rfl, hl, hlen, hf⟩ := DataW.trod_struct ht h
  match xs, hlen with
  | [y0, y1, y2, y3], _ => exact ⟨y0, y1, y2, y3, n, by simpa using hf 0 f0 rfl, by simpa using hf 1 f1 rfl, by simpa using hf 2 f2 rfl, by simpa using hf 3 f3 rfl⟩
/-- A script. -/
structure OpsAt (w : World) (b off len : Nat) (kd : Nat → Int) (pt : Nat → Nat) (sz : Nat → Int) (v : Nat → Nat) : Prop where
  c0 : ∀ i, i < len → w.cell? ⟨b, off + i * 4, none⟩ = some (.int .i64 (kd i))
  c1 : ∀ i, i < len → w.cell? ⟨b, off + i * 4 + 1, none⟩ = some (.int .u16 (pt i : Nat))
  c2 : ∀ i, i < len → w.cell? ⟨b, off + i * 4 + 2, none⟩ = some (.int .i64 (sz i))
  c3 : ∀ i, i < len → w.cell? ⟨b, off + i * 4 + 3, none⟩ = some (.int .u32 (v i : Nat))
  u1 : ∀ i, i < len → pt i < 65536
  u2 : ∀ i, i < len → sz i ≤ 9223372036854775807 ∧ -9223372036854775808 ≤ sz i
  u3 : ∀ i, i < len → v i < 4294967296
  hb : b < w.heap.size
theorem OpsAt.below {w w1 : World} {b off len : Nat} {kd : Nat → Int} {pt : Nat → Nat} {sz : Nat → Int} {v : Nat → Nat} {B : Nat} (h : OpsAt w b off len kd pt sz v) (hb : Below B w w1) (hB : b < B) : OpsAt w1 b off len kd pt sz v :=
  ⟨fun i hi => (hb.cell hB).trans (h.c0 i hi), fun i hi => (hb.cell hB).trans (h.c1 i hi), fun i hi => (hb.cell hB).trans (h.c2 i hi), fun i hi => (hb.cell hB).trans (h.c3 i hi), h.u1, h.u2, h.u3, Nat.lt_of_lt_of_le h.hb hb.size⟩
def OpsIn (w : World) (a : Option Addr) (len : Nat) (kd : Nat → Int) (pt : Nat → Nat) (sz : Nat → Int) (v : Nat → Nat) : Prop := len = 0 ∨ ∃ b off, a = some ⟨b, off, none⟩ ∧ OpsAt w b off len kd pt sz v
theorem wf_u16 {n : Int} (h : (Lit.int .u16 n).wf = true) : 0 ≤ n ∧ n < 65536 := by
  simp only [Lit.wf, Bool.and_eq_true, decide_eq_true_eq] at h
  exact ⟨h.1, Int.lt_of_le_of_lt h.2 (by decide)⟩
set_option maxRecDepth 100000 in
theorem arg_ops {H : Type} {enc : TypeId × Value → H} {w : World} {r : Reach} {base base' : Nat} {spare : Nat → Bool} {held : Bool} {v : Value} {d : DataW H} {ps : List MemPlace}
    (h : Value.okWide Try.prog w r base 22 v) (hd : DataW.Trod enc Try.prog w base' spare held 22 v d ps) :
    ∃ a len cap kd pt sz x, v = .slice a len cap ∧ len ≤ 9223372036854775807 ∧ OpsIn w a len kd pt sz x := by
  have hC : Try.prog.cellsOf 35 = 4 := by kernel_rfl
  have h1 : Try.prog.cellsOf 32 = 1 := by kernel_rfl
  have h2 : Try.prog.cellsOf 33 = 1 := by kernel_rfl
  have h3 : Try.prog.cellsOf 3 = 1 := by kernel_rfl
  obtain ⟨a, len, cap, rfl, hl, h0 | ⟨b, off, rfl, hb, hrow⟩⟩ := arg_rows (enc := enc) Try.underlying22 (by rw [hC]; decide) h hd
  · exact ⟨a, len, cap, fun _ => 0, fun _ => 0, fun _ => 0, fun _ => 0, rfl, hl, .inl h0⟩
  · have key : ∀ i, i < len → ∃ (k r u y : Int), w.cell? ⟨b, off + i * 4, none⟩ = some (.int .i64 k) ∧ w.cell? ⟨b, off + i * 4 + 1, none⟩ = some (.int .u16 r) ∧ w.cell? ⟨b, off + i * 4 + 2, none⟩ = some (.int .i64 u) ∧ w.cell? ⟨b, off + i * 4 + 3, none⟩ = some (.int .u32 y) ∧ (0 ≤ r ∧ r < 65536) ∧ (-9223372036854775808 ≤ u ∧ u ≤ 9223372036854775807) ∧ (0 ≤ y ∧ y < 4294967296) := by
      intro i hi
      obtain ⟨cs, y, n, hcl, hat, hy⟩ := hrow i hi
      rw [hC] at hcl hat
      obtain ⟨y0, y1, y2, y3, m, g0, g1, g2, g3⟩ := trod_struct4 Try.underlying35 hy
      match cs, hcl with
      | [c0, c1, c2, c3], _ =>
        simp only [h1, h2, h3] at g0 g1 g2 g3
        obtain ⟨p0, e0, _, w0⟩ := DataW.trod_int Try.underlying3 g0
        obtain ⟨p1, e1, _, w1⟩ := DataW.trod_int Try.underlying32 g1
        obtain ⟨p2, e2, _, w2⟩ := DataW.trod_int Try.underlying3 g2
        obtain ⟨p3, e3, _, w3⟩ := DataW.trod_int Try.underlying33 g3
        have a0 := hat 0 (by decide)
        have a1 := hat 1 (by decide)
        have a2 := hat 2 (by decide)
        have a3 := hat 3 (by decide)
        simp at e0 e1 e2 e3 a0 a1 a2 a3
        subst e0 e1 e2 e3
        simp only [Nat.add_assoc]
        exact ⟨p0, p1, p2, p3, a0, a1, a2, a3, wf_u16 w1, wf_i64 w2, wf_u32 w3⟩
    refine ⟨_, len, cap, fun i => numAt w b (off + i * 4), fun i => (numAt w b (off + i * 4 + 1)).toNat, fun i => numAt w b (off + i * 4 + 2), fun i => (numAt w b (off + i * 4 + 3)).toNat, rfl, hl, .inr ⟨b, off, rfl, ?_, ?_, ?_, ?_, ?_, ?_, ?_, hb⟩⟩
    all_goals
      intro i hi
      obtain ⟨k, r, u, y, a0, a1, a2, a3, p1, p2, p3⟩ := key i hi
    · rw [a0, numAt_of a0]
    · rw [a1, numAt_of a1]; congr 2; omega
    · rw [a2, numAt_of a2]
    · rw [a3, numAt_of a3]; congr 2; omega
    · rw [numAt_of a1]; omega
    · rw [numAt_of a2]; omega
    · rw [numAt_of a3]; omega
theorem out_bad {b : Nat} (s : Int) (h1 : s ≠ 1) (h2 : s ≠ 2) (h4 : s ≠ 4) (p x : Int) (w : World) : Calls Try.prog 10 #[.pointer (some ⟨b, 0, none⟩), .int .u16 p, .int .i64 s, .int .u32 x] w fun e w' => e = .returned (.int .i64 2) ∧ w = w' := by
  go_enter Try.func10, Try.ntmps10
  go_wp2_with fail
  refine (check_bad s h1 h2 h4 w).mono ?_
  rintro e w1 ⟨rfl, rfl⟩
  go_wp2_with fail
  go_ret
  exact ⟨rfl, rfl⟩
/-- A call of any size. -/
def Bs.any (B : Bs) (p : Nat) (s : Int) (v : Nat) : Bs := if s = 1 ∨ s = 2 ∨ s = 4 then B.out p s.toNat v else B
def outErr (s : Int) : Int := if s = 1 ∨ s = 2 ∨ s = 4 then 0 else 2
theorem bus_any {b pm : Nat} {B : Bs} (h : B.ok) (hf : B.fits 1000000) (p : Nat) (s : Int) (v : Nat) (hp : p < 65536) (hv : v < 4294967296) :
    Acts 10 #[.pointer (some ⟨b, 0, none⟩), .int .u16 (p : Nat), .int .i64 s, .int .u32 (v : Nat)] (oBus b pm B) (.int .i64 (outErr s)) (oBus b pm (B.any p s v)) := by
  unfold Bs.any outErr
  by_cases hs : s = 1 ∨ s = 2 ∨ s = 4
  · rw [if_pos hs, if_pos hs]
    have := bus_out (b := b) (pm := pm) h hf p s.toNat v hp (by omega) hv
    rwa [show ((s.toNat : Nat) : Int) = s by omega] at this
  · rw [if_neg hs, if_neg hs]
    intro w A a
    refine (out_bad s (fun e => hs (.inl e)) (fun e => hs (.inr (.inl e))) (fun e => hs (.inr (.inr e))) p v w).mono ?_
    rintro e w1 ⟨rfl, rfl⟩
    exact ⟨rfl, A, a, Moves.refl _ _⟩
theorem lines_pic {B : Bs} (h : B.c.ok ∧ B.d.ok) : B.lines.c.ok ∧ B.lines.d.ok :=
  show (Pic.lnc (Pic.lnc (Pic.lnc B.c 0 (B.T.a.line B.t)) 4 B.u.line) 14 B.k.line).ok ∧ (Pic.lnd (Pic.lnd (Pic.lnd B.d 0 (B.T.a.line B.t)) 4 B.u.line) 14 B.k.line).ok from
  ⟨Pic.lnc_ok (Pic.lnc_ok (Pic.lnc_ok h.1 _ _) _ _) _ _, Pic.lnd_ok (Pic.lnd_ok (Pic.lnd_ok h.2 _ _) _ _) _ _⟩
theorem out1_pic {B : Bs} (h : B.c.ok ∧ B.d.ok) (k n v : Nat) (hv : v < 256) : (B.out1 k n v).c.ok ∧ (B.out1 k n v).d.ok := by
  unfold Bs.out1
  split
  · exact ⟨Pic.otc_ok h.1 _ _ hv, Pic.otd_ok h.2 _ _ hv⟩
  all_goals exact h
theorem outs_pic {B : Bs} (h : B.c.ok ∧ B.d.ok) (a v : Nat) : ∀ k, (B.outs a v k).c.ok ∧ (B.outs a v k).d.ok
  | 0 => h
  | k + 1 => by
    show (Bs.outP _ _ _).c.ok ∧ (Bs.outP _ _ _).d.ok
    unfold Bs.outP
    split
    · exact outs_pic h a v k
    · exact out1_pic (outs_pic h a v k) _ _ _ (Nat.mod_lt _ (by decide))
theorem wide_pic {B : Bs} (h : B.c.ok ∧ B.d.ok) (a s v : Nat) : (B.wide a s v).c.ok ∧ (B.wide a s v).d.ok := by
  unfold Bs.wide
  split
  · exact h
  · exact outs_pic h a v s
/-- A bus behind some of a law's calls. -/
structure Good (B : Bs) (n : Nat) : Prop where
  ok : B.ok
  f : B.fits (16 * n)
  t : B.t = 0
  l : ∃ C : Bs, (C.c.ok ∧ C.d.ok) ∧ B = C.lines
theorem Good.any {B : Bs} {n : Nat} (h : Good B n) (p : Nat) (s : Int) (v : Nat) : Good (B.any p s v) (n + 1) := by
  unfold Bs.any
  split
  · exact ⟨Bs.out_ok h.ok _ _ _, (Bs.out_fits h.f _ _ _ (by omega)).le (by omega), (Bs.out_t h.ok _ _ _).trans h.t, ⟨_, wide_pic (by obtain ⟨C, hc, e⟩ := h.l; rw [e]; exact lines_pic hc) _ _ _, rfl⟩⟩
  · exact ⟨h.ok, h.f.le (by omega), h.t, h.l⟩
theorem Good.next {B : Bs} {n : Nat} (h : Good B n) : Good B (n + 1) := ⟨h.ok, h.f.le (by omega), h.t, h.l⟩
theorem Good.start (p n : Nat) : Good (B0 p n) 0 := ⟨B0_ok p n, (B0_fits p n).le (Nat.zero_le _), rfl, ⟨_, ⟨Pic.chip0_ok, Pic.chip0_ok⟩, rfl⟩⟩
/-- Two buses alike, each with its memory. -/
def Two (w0 w : World) (b m c r : Nat) (B C : Bs) : Prop := Hp w0 (fun _ => False) w [oBus b m B, oBus c r C]
theorem two_new (w0 w : World) {b m c0 r0 : Nat} {B C : Bs} (T : Hp w0 (fun _ => False) w [oBus b m B, oRBus c0 r0 C]) : Hp w0 (fun _ => False) w [oBus b m B] := Hp.left (l1 := [oBus b m B]) T
theorem Hp.both {w0 w w1 : World} {os l : List Ob} (T : Hp w0 (fun _ => False) w os) (T1 : Hp w (fun _ => False) w1 l) : Hp w0 (fun _ => False) w1 (os ++ l) := by
  obtain ⟨A, a, M⟩ := T
  obtain ⟨B, b, N⟩ := T1
  have hb : Below w.heap.size w w1 := Keeps.toBelow (Below.refl _ _) N.1 (Nat.le_refl _) fun k h => h.elim
  refine ⟨fun k => A k ∨ B k, Side.join os l (Side.loc os a fun k hk => hb.block k (Side.lt os a k hk)) b fun k h1 h2 => ?_, M.1.below hb, fun k hk => ?_⟩
  · rcases N.2 k h2 with h | h
    · exact h
    · have := Side.lt os a k h1; omega
  · rcases hk with hk | hk
    · exact M.2 k hk
    · rcases N.2 k hk with h | h
      · exact h.elim
      · exact .inr (Nat.le_trans M.1.size h)
theorem ticks_add (B : Bs) (n : Nat) : ∀ m, B.ticks (n + m) = (B.ticks n).ticks m
  | 0 => rfl
  | m + 1 => by show (B.ticks (n + m)).tick = _; rw [ticks_add B n m]; rfl
end Go.Proofs.Ytojmpdddfnkffaa

/- bus: wide calls are narrow ones, in plain words. -/
namespace Go.Proofs.Ytojmpdddfnkffaa
open Go.RowKit
set_option linter.unusedVariables false

namespace Pic
theorem again_up (c : Chip) (hc : c.ok) (k : Nat) (hk : k < 8) : lineC (lineC c k true) k true = lineC c k true := by
  have h1 := (lineC_ok hc k hk true).asks
  have h2 := (lineC_ok (lineC_ok hc k hk true) k hk true).asks
  have hp : 2 ^ k < 256 := Nat.pow_lt_pow_right (a := 2) (by decide) hk
  have hu := (lineC_ok hc k hk true).up
  have ea : (lineC (lineC c k true) k true).asks = (lineC c k true).asks := by
    refine bits_eq h2 h1 fun j hj => ?_
    show ((c.asks ||| (2 ^ k &&& (255 - c.up))) ||| (2 ^ k &&& (255 - (c.up ||| 2 ^ k)))).testBit j = (c.asks ||| (2 ^ k &&& (255 - c.up))).testBit j
    simp only [Nat.testBit_or, Nat.testBit_and]
    rw [bit_not _ _ hc.up hj, bit_not (c.up ||| 2 ^ k) j hu hj, Nat.testBit_or]
    cases c.asks.testBit j <;> cases (2 ^ k).testBit j <;> cases c.up.testBit j <;> rfl
  have eu : (lineC (lineC c k true) k true).up = (lineC c k true).up := by
    show (c.up ||| 2 ^ k) ||| 2 ^ k = c.up ||| 2 ^ k
    rw [Nat.or_assoc, Nat.or_self]
  show ({ lineC c k true with asks := (lineC (lineC c k true) k true).asks, up := (lineC (lineC c k true) k true).up } : Chip) = _
  rw [ea, eu]
theorem again_down (c : Chip) (k : Nat) : lineC (lineC c k false) k false = lineC c k false := by
  show ({ c with asks := (c.asks &&& (255 - 2 ^ k)) &&& (255 - 2 ^ k), up := (c.up &&& (255 - 2 ^ k)) &&& (255 - 2 ^ k) } : Chip) = { c with asks := c.asks &&& (255 - 2 ^ k), up := c.up &&& (255 - 2 ^ k) }
  rw [Nat.and_assoc, Nat.and_self, Nat.and_assoc, Nat.and_self]
theorem again (c : Chip) (hc : c.ok) (k : Nat) (hk : k < 8) (x : Bool) : lineC (lineC c k x) k x = lineC c k x := by
  cases x
  · exact again_down c k
  · exact again_up c hc k hk
theorem apart_bits (j k i : Nat) (h : j ≠ k) (hj : j < 8) (hk : k < 8) (hi : i < 8) : ((2 ^ j).testBit i && (2 ^ k).testBit i) = false := by
  rw [bit_pow j i hj hi, bit_pow k i hk hi]
  cases h1 : decide (j = i) <;> cases h2 : decide (k = i) <;> simp_all
theorem comm (c : Chip) (hc : c.ok) (j k : Nat) (hj : j < 8) (hk : k < 8) (h : j ≠ k) (x y : Bool) : lineC (lineC c j x) k y = lineC (lineC c k y) j x := by
  have hpj : 2 ^ j < 256 := Nat.pow_lt_pow_right (a := 2) (by decide) hj
  have hpk : 2 ^ k < 256 := Nat.pow_lt_pow_right (a := 2) (by decide) hk
  have o1 := lineC_ok hc j hj x
  have o2 := lineC_ok hc k hk y
  have o3 := lineC_ok o1 k hk y
  have o4 := lineC_ok o2 j hj x
  have ea : (lineC (lineC c j x) k y).asks = (lineC (lineC c k y) j x).asks := by
    refine bits_eq o3.asks o4.asks fun i hi => ?_
    have ha := apart_bits j k i h hj hk hi
    have u1 := o1.up
    have u2 := o2.up
    cases x <;> cases y
    · show ((c.asks &&& (255 - 2 ^ j)) &&& (255 - 2 ^ k)).testBit i = ((c.asks &&& (255 - 2 ^ k)) &&& (255 - 2 ^ j)).testBit i
      rw [Nat.and_assoc, Nat.and_comm (255 - 2 ^ j), ← Nat.and_assoc]
    · show ((c.asks &&& (255 - 2 ^ j)) ||| (2 ^ k &&& (255 - (c.up &&& (255 - 2 ^ j))))).testBit i = ((c.asks ||| (2 ^ k &&& (255 - c.up))) &&& (255 - 2 ^ j)).testBit i
      simp only [Nat.testBit_or, Nat.testBit_and]
      rw [bit_not (c.up &&& (255 - 2 ^ j)) i u1 hi, bit_not _ _ hc.up hi, Nat.testBit_and, bit_not _ _ hpj hi]
      revert ha
      cases c.asks.testBit i <;> cases (2 ^ k).testBit i <;> cases (2 ^ j).testBit i <;> cases c.up.testBit i <;> simp
    · show ((c.asks ||| (2 ^ j &&& (255 - c.up))) &&& (255 - 2 ^ k)).testBit i = ((c.asks &&& (255 - 2 ^ k)) ||| (2 ^ j &&& (255 - (c.up &&& (255 - 2 ^ k))))).testBit i
      simp only [Nat.testBit_or, Nat.testBit_and]
      rw [bit_not (c.up &&& (255 - 2 ^ k)) i u2 hi, bit_not _ _ hc.up hi, Nat.testBit_and, bit_not _ _ hpk hi]
      revert ha
      cases c.asks.testBit i <;> cases (2 ^ k).testBit i <;> cases (2 ^ j).testBit i <;> cases c.up.testBit i <;> simp
    · show ((c.asks ||| (2 ^ j &&& (255 - c.up))) ||| (2 ^ k &&& (255 - (c.up ||| 2 ^ j)))).testBit i = ((c.asks ||| (2 ^ k &&& (255 - c.up))) ||| (2 ^ j &&& (255 - (c.up ||| 2 ^ k)))).testBit i
      simp only [Nat.testBit_or, Nat.testBit_and]
      rw [bit_not (c.up ||| 2 ^ j) i u1 hi, bit_not _ _ hc.up hi, bit_not (c.up ||| 2 ^ k) i u2 hi, Nat.testBit_or, Nat.testBit_or]
      revert ha
      cases c.asks.testBit i <;> cases (2 ^ k).testBit i <;> cases (2 ^ j).testBit i <;> cases c.up.testBit i <;> simp
  have eu : (lineC (lineC c j x) k y).up = (lineC (lineC c k y) j x).up := by
    refine bits_eq o3.up o4.up fun i hi => ?_
    have ha := apart_bits j k i h hj hk hi
    cases x <;> cases y
    · show ((c.up &&& (255 - 2 ^ j)) &&& (255 - 2 ^ k)).testBit i = ((c.up &&& (255 - 2 ^ k)) &&& (255 - 2 ^ j)).testBit i
      rw [Nat.and_assoc, Nat.and_comm (255 - 2 ^ j), ← Nat.and_assoc]
    · show ((c.up &&& (255 - 2 ^ j)) ||| 2 ^ k).testBit i = ((c.up ||| 2 ^ k) &&& (255 - 2 ^ j)).testBit i
      simp only [Nat.testBit_or, Nat.testBit_and]
      rw [bit_not _ _ hpj hi]
      revert ha
      cases c.up.testBit i <;> cases (2 ^ k).testBit i <;> cases (2 ^ j).testBit i <;> simp
    · show ((c.up ||| 2 ^ j) &&& (255 - 2 ^ k)).testBit i = ((c.up &&& (255 - 2 ^ k)) ||| 2 ^ j).testBit i
      simp only [Nat.testBit_or, Nat.testBit_and]
      rw [bit_not _ _ hpk hi]
      revert ha
      cases c.up.testBit i <;> cases (2 ^ k).testBit i <;> cases (2 ^ j).testBit i <;> simp
    · show ((c.up ||| 2 ^ j) ||| 2 ^ k).testBit i = ((c.up ||| 2 ^ k) ||| 2 ^ j).testBit i
      rw [Nat.or_assoc, Nat.or_comm (2 ^ j), ← Nat.or_assoc]
  have hx : ∀ (c : Chip) (k : Nat) (y : Bool), lineC c k y = { c with asks := (lineC c k y).asks, up := (lineC c k y).up } := fun c k y => by cases y <;> rfl
  rw [hx (lineC c j x) k y, hx (lineC c k y) j x, ea, eu, hx c j x, hx c k y]
end Pic
theorem lines_c (B : Bs) : B.lines.c = Pic.lineC (Pic.lineC B.c 0 (B.T.a.line B.t)) 4 B.u.line := rfl
theorem lines_d (B : Bs) : B.lines.d = Pic.lineC B.d 6 B.k.line := rfl
theorem lines_twice {B : Bs} (h : B.c.ok ∧ B.d.ok) : B.lines.lines = B.lines := by
  have o0 := Pic.lineC_ok h.1 0 (by decide) (B.T.a.line B.t)
  have o4 := Pic.lineC_ok h.1 4 (by decide) B.u.line
  have ec : B.lines.lines.c = B.lines.c := by
    show Pic.lineC (Pic.lineC (Pic.lineC (Pic.lineC B.c 0 (B.T.a.line B.t)) 4 B.u.line) 0 (B.T.a.line B.t)) 4 B.u.line = Pic.lineC (Pic.lineC B.c 0 (B.T.a.line B.t)) 4 B.u.line
    rw [Pic.comm _ o0 4 0 (by decide) (by decide) (by decide), Pic.again _ h.1 0 (by decide), Pic.again _ o0 4 (by decide)]
  have ed : B.lines.lines.d = B.lines.d := Pic.again _ h.2 6 (by decide) _
  show ({ B.lines with c := B.lines.lines.c, d := B.lines.lines.d } : Bs) = _
  rw [ec, ed]
/-- All is the same but the chips that tell interrupts. -/
structure Eqv (A B : Bs) : Prop where
  T : A.T = B.T
  u : A.u = B.u
  k : A.k = B.k
  g : A.g = B.g
  R : A.R = B.R
  t : A.t = B.t
theorem Eqv.refl (A : Bs) : Eqv A A := ⟨rfl, rfl, rfl, rfl, rfl, rfl⟩
theorem Eqv.lines (A : Bs) : Eqv A.lines A := ⟨rfl, rfl, rfl, rfl, rfl, rfl⟩
theorem Eqv.trans {A B C : Bs} (h : Eqv A B) (k : Eqv B C) : Eqv A C := ⟨h.T.trans k.T, h.u.trans k.u, h.k.trans k.k, h.g.trans k.g, h.R.trans k.R, h.t.trans k.t⟩
theorem Eqv.symm {A B : Bs} (h : Eqv A B) : Eqv B A := ⟨h.T.symm, h.u.symm, h.k.symm, h.g.symm, h.R.symm, h.t.symm⟩
theorem Eqv.eq {A B : Bs} (h : Eqv A B) : A = { B with c := A.c, d := A.d } := by
  cases A; cases B; cases h; simp_all
theorem Eqv.out1 {A B : Bs} (h : Eqv A B) (k n v : Nat) : Eqv (A.out1 k n v) (B.out1 k n v) := by
  rw [h.eq]
  unfold Bs.out1
  split <;> exact ⟨rfl, rfl, rfl, rfl, rfl, rfl⟩
theorem Eqv.in1 {A B : Bs} (h : Eqv A B) (k n : Nat) : Eqv (A.in1S k n) (B.in1S k n) := by
  rw [h.eq]
  unfold Bs.in1S
  split <;> exact ⟨rfl, rfl, rfl, rfl, rfl, rfl⟩
theorem Eqv.val {A B : Bs} (h : Eqv A B) (k n : Nat) (hk : k ≠ 0) : A.in1V k n = B.in1V k n := by
  rw [h.eq]
  unfold Bs.in1V
  split
  · exact absurd rfl hk
  all_goals rfl
theorem Eqv.outP {A B : Bs} (h : Eqv A B) (p v : Nat) : Eqv (A.outP p v) (B.outP p v) := by
  unfold Bs.outP
  split
  · exact h
  · exact h.out1 _ _ _
theorem Eqv.inPS {A B : Bs} (h : Eqv A B) (p : Nat) : Eqv (A.inPS p) (B.inPS p) := by
  unfold Bs.inPS
  split
  · exact h
  · exact h.in1 _ _
theorem Eqv.inPV {A B : Bs} (h : Eqv A B) (p : Nat) (hp : ∀ n, dev p ≠ some (0, n)) : A.inPV p = B.inPV p := by
  unfold Bs.inPV
  split
  · rfl
  · rename_i x hx
    rw [h.val x.1 x.2 (fun e => hp x.2 (by rw [hx, ← e]))]
theorem dev496 : dev 496 = some (3, 0) := by decide
/-- A narrow call. -/
theorem out_one (B : Bs) (p v : Nat) (hp : p < 65536) (hv : v < 256) : B.out p 1 v = (B.outP p v).lines := by
  unfold Bs.out Bs.wide
  by_cases h : p = 496
  · subst h
    rw [if_pos rfl]
    unfold Bs.outP
    rw [dev496]; rfl
  · rw [if_neg h]
    show (Bs.outP B ((p + 0) % 65536) (v / 256 ^ 0 % 256)).lines = _
    rw [Nat.add_zero, Nat.mod_eq_of_lt hp, Nat.pow_zero, Nat.div_one, Nat.mod_eq_of_lt hv]
theorem in_one (B : Bs) (p : Nat) (hp : p < 65536) (hd : B.k.inV 0 1 < 256) : B.wideV p 1 = B.inPV p ∧ B.inS p 1 = (B.inPS p).lines := by
  unfold Bs.wideV Bs.inS Bs.wideS
  by_cases h : p = 496
  · subst h
    rw [if_pos rfl, if_pos rfl]
    unfold Bs.inPV Bs.inPS
    rw [dev496]
    refine ⟨?_, rfl⟩
    show B.k.inV 0 1 = ((B.k.inV ((0 : Nat) : Int) 1 : Nat) % 256 : Int).toNat
    have e : B.k.inV ((0 : Nat) : Int) 1 = B.k.inV 0 1 := rfl
    rw [e]; omega
  · rw [if_neg h, if_neg h]
    show 0 + Bs.inPV B ((p + 0) % 65536) * 256 ^ 0 = _ ∧ (Bs.inPS B ((p + 0) % 65536)).lines = _
    rw [Nat.add_zero, Nat.mod_eq_of_lt hp, Nat.pow_zero, Nat.mul_one, Nat.zero_add]
    exact ⟨rfl, rfl⟩
/-- Narrow reads, one behind the other; narrow writes. -/
def Bs.nar (B : Bs) (p : Nat) : Nat → Bs
  | 0 => B
  | k + 1 => (B.nar p k).inS ((p + k) % 65536) 1
def Bs.nout (B : Bs) (p v : Nat) : Nat → Bs
  | 0 => B
  | k + 1 => (B.nout p v k).out ((p + k) % 65536) 1 (v / 256 ^ k % 256)
theorem nar_eqv {B : Bs} {p : Nat} : ∀ k, (∀ j, j < k → (B.nar p j).k.inV 0 1 < 256) → Eqv (B.nar p k) (B.insS p k)
  | 0, _ => Eqv.refl B
  | k + 1, hd => by
    show Eqv ((B.nar p k).inS ((p + k) % 65536) 1) ((B.insS p k).inPS ((p + k) % 65536))
    rw [(in_one _ _ (Nat.mod_lt _ (by decide)) (hd k (Nat.lt_succ_self k))).2]
    exact (Eqv.lines _).trans ((nar_eqv k fun j hj => hd j (Nat.lt_succ_of_lt hj)).inPS _)
theorem dev_none_far (p i j : Nat) (n m : Nat) (hp : p < 65536) (hi : i < 4) (hj : j < 4) (h : dev ((p + i) % 65536) = some (0, n)) : dev ((p + j) % 65536) = none ∨ ∃ m, dev ((p + j) % 65536) = some (0, m) := by
  have hb : (0x20 ≤ (p + i) % 65536 ∧ (p + i) % 65536 < 0x22) ∨ (0xA0 ≤ (p + i) % 65536 ∧ (p + i) % 65536 < 0xA2) := by
    unfold dev at h
    (repeat' split at h)
    · left; assumption
    · right; assumption
    all_goals (first | cases h | (simp at h))
  unfold dev
  by_cases h1 : 0x20 ≤ (p + j) % 65536 ∧ (p + j) % 65536 < 0x22
  · rw [if_pos h1]; exact .inr ⟨_, rfl⟩
  rw [if_neg h1]
  by_cases h2 : 0xA0 ≤ (p + j) % 65536 ∧ (p + j) % 65536 < 0xA2
  · rw [if_pos h2]; exact .inr ⟨_, rfl⟩
  rw [if_neg h2, if_neg (by omega), if_neg (by omega), if_neg (by omega), if_neg (by omega), if_neg (by omega)]
  exact .inl rfl
/-- Each narrow read tells the wide one's byte. -/
theorem nar_val {B : Bs} {p : Nat} (hp : p < 65536) (hl : B.lines = B) (k : Nat) (hd : ∀ j, j ≤ k → (B.nar p j).k.inV 0 1 < 256) (hk : k < 4) : (B.nar p k).wideV ((p + k) % 65536) 1 = (B.insS p k).inPV ((p + k) % 65536) := by
  rw [(in_one _ _ (Nat.mod_lt _ (by decide)) (hd k (Nat.le_refl k))).1]
  by_cases hpic : ∃ i, i < 4 ∧ ∃ n, dev ((p + i) % 65536) = some (0, n)
  · obtain ⟨i, hi, n, hn⟩ := hpic
    have hS : ∀ (X : Bs) (j : Nat), j < 4 → X.inPS ((p + j) % 65536) = X := fun X j hj => by
      unfold Bs.inPS
      rcases dev_none_far p i j n 0 hp hi hj hn with h | ⟨m, h⟩ <;> (rw [h]; try rfl)
    have h1 : ∀ j, j ≤ 4 → B.insS p j = B := fun j => by
      induction j with
      | zero => intro _; rfl
      | succ j ih => intro hj; show (B.insS p j).inPS _ = _; rw [ih (by omega), hS _ _ (by omega)]
    have h2 : ∀ j, j ≤ k → B.nar p j = B := fun j => by
      induction j with
      | zero => intro _; rfl
      | succ j ih =>
        intro hj
        show (B.nar p j).inS _ 1 = _
        rw [(in_one _ _ (Nat.mod_lt _ (by decide)) (hd j (by omega))).2, ih (by omega), hS _ _ (by omega), hl]
    rw [h1 k (by omega), h2 k (Nat.le_refl k)]
  · exact (nar_eqv k fun j hj => hd j (Nat.le_of_lt hj)).inPV _ fun n h => hpic ⟨k, hk, n, h⟩
theorem nout_eqv {A B : Bs} {p v : Nat} (h : Eqv A B) : ∀ k, Eqv (A.outs p v k) (B.nout p v k)
  | 0 => h
  | k + 1 => by
    show Eqv ((A.outs p v k).outP _ _) ((B.nout p v k).out _ 1 _)
    rw [out_one _ _ _ (Nat.mod_lt _ (by decide)) (Nat.mod_lt _ (by decide))]
    exact ((nout_eqv h k).outP _ _).trans (Eqv.lines _).symm
theorem getB_log (S : Ide.Dk) : S.getB.log = S.log := by
  unfold Ide.Dk.getB
  (repeat' split)
  · rfl
  · rfl
  · exact Ide.next_log _
  · rfl
theorem getN_log (S : Ide.Dk) : ∀ k, (S.getN k).log = S.log
  | 0 => rfl
  | k + 1 => (getB_log _).trans (getN_log S k)
theorem inS_log (S : Ide.Dk) (r s : Int) : (S.inS r s).log = S.log := by
  unfold Ide.Dk.inS
  (repeat' split)
  · rfl
  · rfl
  · exact getN_log _ _
  · rfl
  · rfl
theorem inS_sent (U : Uart.Ut) (n : Int) : (U.inS n).sent = U.sent := by
  unfold Uart.Ut.inS
  (repeat' split) <;> first | rfl | (unfold Uart.Ut.ask; (repeat' split) <;> rfl)
theorem in1_fits {B : Bs} {m : Nat} (h : B.fits m) (k n : Nat) : (B.in1S k n).fits m := by
  unfold Bs.in1S
  split
  · exact h
  · exact ⟨h.s, h.l⟩
  · exact ⟨by show (B.u.inS n).sent.length ≤ m; rw [inS_sent]; exact h.s, h.l⟩
  · exact ⟨h.s, by show (B.k.inS n 1).log.length ≤ m; rw [inS_log]; exact h.l⟩
  · exact h
theorem insS_fits {B : Bs} {m : Nat} (h : B.fits m) (a : Nat) : ∀ k, (B.insS a k).fits m
  | 0 => h
  | k + 1 => by
    show (Bs.inPS _ _).fits m
    unfold Bs.inPS
    split
    · exact insS_fits h a k
    · exact in1_fits (insS_fits h a k) _ _
theorem inS_fits {B : Bs} {m : Nat} (h : B.fits m) (a s : Nat) : (B.inS a s).fits m := by
  unfold Bs.inS Bs.wideS
  split
  · exact Bs.lines_fits ⟨h.s, by show (B.k.inS 0 s).log.length ≤ m; rw [inS_log]; exact h.l⟩
  · exact Bs.lines_fits (insS_fits h a s)
theorem nar_fits {B : Bs} {m : Nat} (h : B.fits m) (p : Nat) : ∀ k, (B.nar p k).fits m
  | 0 => h
  | k + 1 => inS_fits (nar_fits h p k) _ _
theorem nar_ok {B : Bs} (h : B.ok) (p : Nat) : ∀ k, (B.nar p k).ok
  | 0 => h
  | k + 1 => Bs.inS_ok (nar_ok h p k) _ _
theorem nout_ok {B : Bs} (h : B.ok) (p v : Nat) : ∀ k, (B.nout p v k).ok
  | 0 => h
  | k + 1 => Bs.out_ok (nout_ok h p v k) _ _ _
theorem nout_fits {B : Bs} {m : Nat} (h : B.fits m) (p v : Nat) : ∀ k, (B.nout p v k).fits (m + 16 * k)
  | 0 => h
  | k + 1 => (Bs.out_fits (nout_fits h p v k) _ _ _ (by decide)).le (by omega)
theorem Hp.dk8 {w0 w : World} {A0 : Nat → Prop} {os : List Ob} {b pm : Nat} {B : Bs} (T : Hp w0 A0 w os) (i : Nat) (hi : os[i]? = some (oBus b pm B)) : B.k.inV 0 1 < 256 := by
  obtain ⟨A, ⟨pp, pt, pu, pi, mp⟩, a⟩ := T.get i hi
  obtain ⟨A4, ds, lv, h3, h4, -⟩ := (Hp.start a).get 4 rfl
  have hg := Ide.gets_lt h3.ok
  unfold Ide.Dk.inV
  (repeat' split)
  · decide
  · decide
  · show 0 + (B.k.getN 0).gets * 256 ^ 0 < 256
    rw [Nat.pow_zero, Nat.mul_one, Nat.zero_add]; exact hg
  all_goals (first | omega | (rename_i hx _; exact absurd rfl hx) | (rename_i hx; exact absurd rfl hx))
/-- Both buses hold the same, in the end. -/
theorem sizes_end {B : Bs} {p s v : Nat} (h496 : p ≠ 496) (hd : ∀ j, j < s → (B.nar p j).k.inV 0 1 < 256) : Eqv ((B.inS p s).out p s v) ((B.nar p s).nout p v s) := by
  have e1 : Eqv (B.inS p s) (B.nar p s) := by
    have h := nar_eqv s hd
    unfold Bs.inS Bs.wideS
    rw [if_neg h496]
    exact (Eqv.lines _).trans h.symm
  have e2 : Eqv ((B.inS p s).out p s v) ((B.inS p s).outs p v s) := by
    unfold Bs.out Bs.wide
    rw [if_neg h496]
    exact Eqv.lines _
  exact e2.trans (nout_eqv e1 s)
theorem Good.same {B : Bs} {n : Nat} (h : Good B n) : B.lines = B := by
  obtain ⟨C, hc, e⟩ := h.l
  rw [e, lines_twice hc]
end Go.Proofs.Ytojmpdddfnkffaa

