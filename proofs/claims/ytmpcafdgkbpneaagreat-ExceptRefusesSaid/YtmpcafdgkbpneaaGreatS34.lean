/- Steps of a proof: RamG, BusA, BusB, BusC, BusD, BusE, BusF, BusG, BusH, together. -/
import Derived.Test.YtmpcafdgkbpneaaGreatS2
import Derived.Maps.RangeRun
import Derived.Test.YtmpcafdgkbpneaaGreatS13
import Derived.Test.YtmpcafdgkbpneaaGreatS29
import Derived.Test.YtmpcafdgkbpneaaGreatS30
import Derived.Test.YtmpcafdgkbpneaaGreatS32
import Derived.Test.YtmpcafdgkbpneaaGreatS33
import Derived.Test.YtmpcafdgkbpneaaGreatS0
import Derived.BigQuiet
import Derived.Deep.RegionWith
import Derived.Deep.QuietTactic
import Derived.Deep.RegionHeld3
import Derived.Laws.BitsAll
import Derived.StillTailTactics
import Derived.Lib.BitFns
/- ram: the gate, watching, and calls on none. -/
set_option maxHeartbeats 4000000
set_option maxRecDepth 20000
namespace Go.Proofs.YtmpcafdgkbpneaaGreat
open Go.RowKit Go.MapKept
set_option linter.unusedVariables false

def RS.gate (R : RS) (x : Bool) : RS := { R with closed := !x }
theorem RS.gate_ok {R : RS} (h : R.ok) (x : Bool) : (R.gate x).ok := ⟨h.p1, h.p2, h.b⟩
section
variable {w w' : World} {b bp bo bw bn : Nat} {pg : Nat → Option Nat} {R : RS}
theorem RamIn.turnClosed (H : RamIn w b bp bo bw bn pg R) (x : Bool) : RamIn (w.setCell ⟨b, 5, .none⟩ (.bool !x)) b bp bo bw bn pg (R.gate x) := by
 obtain ⟨f, mo, hf⟩ := H.mo
 have hne : ∀ k, k ≠ b → (w.setCell ⟨b, 5, .none⟩ (.bool !x)).heap[k]? = w.heap[k]? := fun k h => heap_set_other _ h
 exact { H with
  obj := by rw [heap_set_map, H.obj]; rfl
  mp := H.mp.of_heap (hne _ H.b_p.symm)
  mo := ⟨f, mo.of_heap (hne _ H.b_o.symm), hf⟩
  mw := MapAt.of_heap H.mw (hne _ H.b_w.symm)
  mn := MapAt.of_heap H.mn (hne _ H.b_n.symm)
  page := fun k q hq => by rw [hne q (H.q_b hq)]; exact H.page k q hq
  ok := RS.gate_ok H.ok x }
end
theorem gate_any {w : World} {b : Nat} {S : Nat → Prop} {R : RS} (H : Ram w b S R) (x : Bool) :
    Calls Tryz.prog 78 #[.pointer (some ⟨b, 0, .none⟩), .bool x] w fun e w' => e = .returned (.tuple #[]) ∧ Ram w' b S (R.gate x) ∧ Keeps S w w' := by
 obtain ⟨bp, bo, bw, bn, pg, I, hS⟩ := H
 obtain ⟨-, -, -, -, -, k5, kf, klt⟩ := I.facts
 have HI := Lib.hid I
 clear I
 go_enter Tryz.func78, Tryz.ntmps78
 go_wp2_with fail
 go_end0
 exact ⟨rfl, ⟨bp, bo, bw, bn, pg, HI.out.turnClosed x, hS⟩, (Keeps.refl S w).setCell (.inl ((hS b).2 (.inl rfl))) _⟩
end Go.Proofs.YtmpcafdgkbpneaaGreat

/- bus: the devices as objects; their calls. -/
namespace Go.Proofs.YtmpcafdgkbpneaaGreat
open Go.RowKit
set_option linter.unusedVariables false

def oPic (b : Nat) (c d : Pic.Chip) : Ob := ⟨fun w H => Pic.Pair w b c d ∧ (c.ok ∧ d.ok) ∧ ∀ k, H k ↔ k = b,
 fun h g => ⟨(g b ((h.2.2 b).2 rfl)).trans h.1, h.2⟩, fun {w H} h k hk => by rw [(h.2.2 k).1 hk]; exact heap_lt (show w.heap[b]? = some _ from h.1)⟩
def oPit (b : Nat) (c0 c1 c2 : Pit.Ct) : Ob := ⟨fun w H => Pit.Tm w b c0 c1 c2 ∧ ∀ k, H k ↔ k = b,
 fun h g => ⟨(g b ((h.2 b).2 rfl)).trans h.1, h.2⟩, fun h k hk => by rw [(h.2 k).1 hk]; exact h.1.lt⟩
def oUart (b : Nat) (U : Uart.Ut) : Ob := ⟨fun w H => ∃ q sv, Uart.UtIn w b q sv U ∧ ∀ k, H k ↔ Uart.Held b q sv k,
 fun ⟨q, sv, h, e⟩ g => ⟨q, sv, h.of_heap fun k hk => g k ((e k).2 hk), e⟩, fun ⟨q, sv, h, e⟩ k hk => h.lt ((e k).1 hk)⟩
def oIde (b : Nat) (D : Ide.Dk) : Ob := ⟨fun w H => ∃ ds lv, Ide.IdeIn 218 w b ds lv D ∧ D.room ∧ ∀ k, H k ↔ Ide.Held b ds lv k,
 fun ⟨q, sv, h, r, e⟩ g => ⟨q, sv, h.of_heap fun k hk => g k ((e k).2 hk), r, e⟩, fun ⟨q, sv, h, r, e⟩ k hk => Ide.Held.lt h ((e k).1 hk)⟩
def oRam (b : Nat) (R : RS) : Ob := ⟨fun w H => Ram w b H R,
 fun {w w' H} h g => by
  obtain ⟨bp, bo, bw, bn, pg, h, e⟩ := h
  exact ⟨bp, bo, bw, bn, pg, h.of_heap fun k hk => g k ((e k).2 hk), e⟩, fun h k hk => h.lt hk⟩
theorem moves_one {A : Nat → Prop} {b : Nat} {w w' : World} (h : ∀ k, A k ↔ k = b) (K : Keeps (· = b) w w') : Moves A A w w' := ⟨K.mono fun k _ e => (h k).2 e, fun k hk => .inl hk⟩
section
variable {b : Nat} {c d : Pic.Chip} {p q r : Pit.Ct} {t : Int} {U : Uart.Ut} {D : Ide.Dk} {R : RS}
theorem pic_line3 (n : Int) (hn : n = 0 ∨ n = 4 ∨ n = 14) (up : Bool) : Acts 132 #[.pointer (some ⟨b, 0, none⟩), .int .i64 n, .bool up] (oPic b c d) (.int .i64 (Pic.lerr n)) (oPic b (Pic.lnc c n up) (Pic.lnd d n up)) := by
 rintro w A ⟨H, ok, e⟩
 refine (Pic.line_three b c d ok.1 ok.2 n hn up w H).mono ?_
 rintro x w1 ⟨rfl, H1, K⟩
 exact ⟨rfl, A, ⟨H1, ⟨Pic.lnc_ok ok.1 n up, Pic.lnd_ok ok.2 n up⟩, e⟩, moves_one e K⟩
theorem pit_line (h : p.ok t) (ht : t < 18446744073709551616) : Acts 133 #[.pointer (some ⟨b, 0, none⟩), .int .u64 t] (oPit b p q r) (.bool (p.line t)) (oPit b p q r) := by
 rintro w A ⟨H, e⟩
 refine (Pit.line_tm H h ht).mono ?_
 rintro x w1 ⟨rfl, hb⟩
 exact ⟨rfl, A, ⟨H.below hb, e⟩, moves_one e (Keeps.ofBelow hb)⟩
structure Tm3 where
 a : Pit.Ct
 b : Pit.Ct
 c : Pit.Ct
structure Tm3.ok (T : Tm3) (t : Int) : Prop where
 a : T.a.ok t
 b : T.b.ok t
 c : T.c.ok t
def oTm (b : Nat) (T : Tm3) : Ob := oPit b T.a T.b T.c
theorem uart_went {f : FuncId} {args : Array Value} {v : Value} {U' : Uart.Ut} (h : ∀ w q sv, Uart.UtIn w b q sv U → Calls Tryz.prog f args w fun e w' => e = .returned v ∧ Uart.Went w b q sv U' w') : Acts f args (oUart b U) v (oUart b U') := by
 rintro w A ⟨q, sv, H, e⟩
 refine (h w q sv H).mono ?_
 rintro x w1 ⟨rfl, sv', H1, K, N⟩
 refine ⟨rfl, Uart.Held b q sv', ⟨q, sv', H1, fun k => Iff.rfl⟩, K.mono fun k _ h => (e k).2 h, fun k hk => ?_⟩
 rcases hk with hk | hk | hk
 ·exact .inl ((e k).2 (.inl hk))
 ·exact .inl ((e k).2 (.inr (.inl hk)))
 ·exact (N k hk).imp (fun h => (e k).2 (.inr (.inr h))) id
theorem uart_line : Acts 134 #[.pointer (some ⟨b, 0, none⟩)] (oUart b U) (.bool U.line) (oUart b U) :=
 uart_went fun w q sv H => by
  refine (Uart.line_any H).mono ?_
  rintro e w1 ⟨rfl, rfl⟩
  exact ⟨rfl, Uart.Went.of H (Keeps.refl _ _)⟩
theorem ide_went {f : FuncId} {args : Array Value} {v : Value} {D' : Ide.Dk} (hr : D.room → D'.room) (h : ∀ w ds lv, D.room → Ide.IdeIn 218 w b ds lv D → Calls Tryz.prog f args w fun e w' => e = .returned v ∧ Ide.Went w b ds lv D' w') : Acts f args (oIde b D) v (oIde b D') := by
 rintro w A ⟨ds, lv, H, ro, e⟩
 refine (h w ds lv ro H).mono ?_
 rintro x w1 ⟨rfl, lv', H1, K, N⟩
 refine ⟨rfl, Ide.Held b ds lv', ⟨ds, lv', H1, hr ro, fun k => Iff.rfl⟩, K.mono fun k _ h => (e k).2 h, fun k hk => ?_⟩
 rcases hk with hk | hk | hk
 ·exact .inl ((e k).2 (.inl hk))
 ·exact .inl ((e k).2 (.inr (.inl hk)))
 ·exact (N k hk).imp (fun h => (e k).2 (.inr (.inr h))) id
theorem ide_line : Acts 135 #[.pointer (some ⟨b, 0, none⟩)] (oIde b D) (.bool D.line) (oIde b D) :=
 ide_went id fun w ds lv ro H => by
  refine (Ide.line_in H).mono ?_
  rintro e w1 ⟨rfl, rfl⟩
  exact ⟨rfl, Ide.Went.of H (Keeps.refl _ _)⟩
theorem ram_gate (x : Bool) : Acts 78 #[.pointer (some ⟨b, 0, none⟩), .bool x] (oRam b R) (.tuple #[]) (oRam b (R.gate x)) := by
 rintro w A H
 refine (gate_any H x).mono ?_
 rintro e w1 ⟨rfl, H1, K⟩
 exact ⟨rfl, A, H1, K, fun k hk => .inl hk⟩
end
end Go.Proofs.YtmpcafdgkbpneaaGreat

/- bus: a bus as one object; its lines; a byte to a device, a byte of one. -/
namespace Go.Proofs.YtmpcafdgkbpneaaGreat
open Go.RowKit Go.MapKept
set_option linter.unusedVariables false

structure Bs where
 c : Pic.Chip
 d : Pic.Chip
 T : Tm3
 u : Uart.Ut
 k : Ide.Dk
 g : Bool
 R : RS
 t : Nat
def Bs.line (B : Bs) (n : Int) (up : Bool) : Bs := { B with c := Pic.lnc B.c n up, d := Pic.lnd B.d n up }
def Bs.lines (B : Bs) : Bs := ((B.line 0 (B.T.a.line B.t)).line 4 B.u.line).line 14 B.k.line
def dev (p : Nat) : Option (Nat × Nat) :=
 if 0x20 ≤ p ∧ p < 0x22 then some (0, p - 0x20) else if 0xA0 ≤ p ∧ p < 0xA2 then some (0, p - 0xA0 + 2) else if 0x40 ≤ p ∧ p < 0x44 then some (1, p - 0x40)
 else if 0x3F8 ≤ p ∧ p < 0x400 then some (2, p - 0x3F8) else if 0x1F0 ≤ p ∧ p < 0x1F8 then some (3, p - 0x1F0) else if p = 0x3F6 then some (3, 8) else if p = 0x92 then some (4, 0) else none
def pv (fo fi b n : Nat) : Value := .agg #[.func (.func fo) #[.pointer (some ⟨b, 0, none⟩)] #[], .func (.func fi) #[.pointer (some ⟨b, 0, none⟩)] #[], .int .i64 (n : Nat)]
def outF : Nat → Nat
 | 0 => 80
 | 1 => 82
 | 2 => 84
 | 3 => 86
 | _ => 88
def inF : Nat → Nat
 | 0 => 81
 | 1 => 83
 | 2 => 85
 | 3 => 87
 | _ => 89
def prt (b p : Nat) : Option Value := (dev p).map fun x => pv (outF x.1) (inF x.1) b x.2
def oMap (m : Nat) (f : Nat → Option Value) : Ob := ⟨fun w H => MapAt w m .u16 f ∧ ∀ k, H k ↔ k = m, fun h g => ⟨h.1.of_heap (g m ((h.2 m).2 rfl)), h.2⟩, fun h k hk => by rw [(h.2 k).1 hk]; exact h.1.lt⟩
def busCells (pp pt pu pi pm mp : Nat) (g : Bool) (t : Nat) : Array Value :=
 #[.pointer (some ⟨pp, 0, none⟩), .pointer (some ⟨pt, 0, none⟩), .pointer (some ⟨pu, 0, none⟩), .pointer (some ⟨pi, 0, none⟩), .pointer (some ⟨pm, 0, none⟩), .bool g, .int .u64 (t : Nat), .map (some mp)]
def busObs (b pp pt pu pi pm mp : Nat) (B : Bs) : List Ob := [Ob.box b (.cells (busCells pp pt pu pi pm mp B.g B.t) 132), oPic pp B.c B.d, oTm pt B.T, oUart pu B.u, oIde pi B.k, oRam pm B.R, oMap mp (prt b)]
structure Bs.ok (B : Bs) : Prop where
 T : B.T.ok B.t
 t : B.t < 18446744073709551615
theorem bus_facts {w : World} {b pp pt pu pi pm mp : Nat} {g : Bool} {t : Nat} (h : w.heap[b]? = some (.cells (busCells pp pt pu pi pm mp g t) 132)) :
    w.cell? ⟨b, 0, none⟩ = some (.pointer (some ⟨pp, 0, none⟩)) ∧ w.cell? ⟨b, 1, none⟩ = some (.pointer (some ⟨pt, 0, none⟩)) ∧ w.cell? ⟨b, 2, none⟩ = some (.pointer (some ⟨pu, 0, none⟩)) ∧ w.cell? ⟨b, 3, none⟩ = some (.pointer (some ⟨pi, 0, none⟩)) ∧
    w.cell? ⟨b, 4, none⟩ = some (.pointer (some ⟨pm, 0, none⟩)) ∧ w.cell? ⟨b, 5, none⟩ = some (.bool g) ∧ w.cell? ⟨b, 6, none⟩ = some (.int .u64 (t : Nat)) ∧ w.cell? ⟨b, 7, none⟩ = some (.map (some mp)) ∧ (∀ k, w.frozen? ⟨b, k, none⟩ = false) ∧ b < w.heap.size := by
 refine ⟨?_, ?_, ?_, ?_, ?_, ?_, ?_, ?_, fun k => free_at h, heap_lt h⟩ <;> (rw [cell_at h]; rfl)
section
variable {b pp pt pu pi pm mp : Nat} {B : Bs} {w0 w : World} {A0 : Nat → Prop}
theorem Hp.bus (T : Hp w0 A0 w (busObs b pp pt pu pi pm mp B)) : w.heap[b]? = some (.cells (busCells pp pt pu pi pm mp B.g B.t) 132) := T.box 0 rfl
theorem Hp.b016 (T : Hp w0 A0 w (busObs b pp pt pu pi pm mp B)) : w.cell? ⟨b, 0, none⟩ = some (.pointer (some ⟨pp, 0, none⟩)) ∧ w.cell? ⟨b, 1, none⟩ = some (.pointer (some ⟨pt, 0, none⟩)) ∧ w.cell? ⟨b, 6, none⟩ = some (.int .u64 (B.t : Nat)) :=
 have h := bus_facts T.bus
 ⟨h.1, h.2.1, h.2.2.2.2.2.2.1⟩
theorem Hp.b02 (T : Hp w0 A0 w (busObs b pp pt pu pi pm mp B)) : w.cell? ⟨b, 0, none⟩ = some (.pointer (some ⟨pp, 0, none⟩)) ∧ w.cell? ⟨b, 2, none⟩ = some (.pointer (some ⟨pu, 0, none⟩)) :=
 have h := bus_facts T.bus
 ⟨h.1, h.2.2.1⟩
theorem Hp.b03 (T : Hp w0 A0 w (busObs b pp pt pu pi pm mp B)) : w.cell? ⟨b, 0, none⟩ = some (.pointer (some ⟨pp, 0, none⟩)) ∧ w.cell? ⟨b, 3, none⟩ = some (.pointer (some ⟨pi, 0, none⟩)) :=
 have h := bus_facts T.bus
 ⟨h.1, h.2.2.2.1⟩
theorem lines_hp (h : B.ok) (T : Hp w0 A0 w (busObs b pp pt pu pi pm mp B)) :
    Calls Tryz.prog 60 #[.pointer (some ⟨b, 0, none⟩)] w fun e w' => e = .returned (.tuple #[]) ∧ Hp w0 A0 w' (busObs b pp pt pu pi pm mp B.lines) := by
 have ht : (B.t : Int) < 18446744073709551616 := by have := h.t; omega
 have HT := Lib.hid (And.intro h.T.a ht)
 clear h ht
 go_enter Tryz.func60, Tryz.ntmps60
 go_wp2_with fail
 obtain ⟨k0, k1, k2, k3, -, -, k6, -, kf, kl⟩ := bus_facts T.bus
 have T0 := Lib.hid T.drew
 clear T
 go_region_held3 (fun w' => w'.cell? ⟨b, 0, none⟩ = some (.pointer (some ⟨pp, 0, none⟩)) ∧ w'.cell? ⟨b, 1, none⟩ = some (.pointer (some ⟨pt, 0, none⟩)) ∧ w'.cell? ⟨b, 6, none⟩ = some (.int .u64 (B.t : Nat))) (first | exact Hp.b016 (B := B) T0.out | exact Hp.b016 (B := (B.line 0 (B.T.a.line B.t))) T2 | exact Hp.b016 (B := B) T1 | go_keep) (first | (go_at_call 133; refine (T0.out.act 2 rfl (pit_line HT.out.1 HT.out.2)).mono ?_; rintro e w1 ⟨rfl, T1⟩; replace T1 : Hp w0 A0 w1 (busObs b pp pt pu pi pm mp B) := T1) | (go_at_call 132; refine (T1.act 1 rfl (pic_line3 _ (by decide) _)).mono ?_; rintro e w2 ⟨rfl, T2⟩; replace T2 : Hp w0 A0 w2 (busObs b pp pt pu pi pm mp (B.line 0 (B.T.a.line B.t))) := T2))
 clear k0 k1 k2 k3 k6 kf kl T1 T0
 have S0 := T2
 clear T2
 go_wp2_with fail
 obtain ⟨k0, k1, k2, k3, -, -, k6, -, kf, kl⟩ := bus_facts S0.bus
 have T0 := Lib.hid S0.drew
 clear S0
 go_region_held3 (fun w' => w'.cell? ⟨b, 0, none⟩ = some (.pointer (some ⟨pp, 0, none⟩)) ∧ w'.cell? ⟨b, 2, none⟩ = some (.pointer (some ⟨pu, 0, none⟩))) (first | exact Hp.b02 (B := (B.line 0 (B.T.a.line B.t))) T0.out | exact Hp.b02 (B := ((B.line 0 (B.T.a.line B.t)).line 4 B.u.line)) T2 | exact Hp.b02 (B := (B.line 0 (B.T.a.line B.t))) T1 | go_keep) (first | (go_at_call 134; refine (T0.out.act 3 rfl (uart_line)).mono ?_; rintro e w1 ⟨rfl, T1⟩; replace T1 : Hp w0 A0 w1 (busObs b pp pt pu pi pm mp (B.line 0 (B.T.a.line B.t))) := T1) | (go_at_call 132; refine (T1.act 1 rfl (pic_line3 _ (by decide) _)).mono ?_; rintro e w2 ⟨rfl, T2⟩; replace T2 : Hp w0 A0 w2 (busObs b pp pt pu pi pm mp ((B.line 0 (B.T.a.line B.t)).line 4 B.u.line)) := T2))
 clear k0 k1 k2 k3 k6 kf kl T1 T0
 have S1 := T2
 clear T2
 go_wp2_with fail
 obtain ⟨k0, k1, k2, k3, -, -, k6, -, kf, kl⟩ := bus_facts S1.bus
 have T0 := Lib.hid S1.drew
 clear S1
 go_region_held3 (fun w' => w'.cell? ⟨b, 0, none⟩ = some (.pointer (some ⟨pp, 0, none⟩)) ∧ w'.cell? ⟨b, 3, none⟩ = some (.pointer (some ⟨pi, 0, none⟩))) (first | exact Hp.b03 (B := ((B.line 0 (B.T.a.line B.t)).line 4 B.u.line)) T0.out | exact Hp.b03 (B := (((B.line 0 (B.T.a.line B.t)).line 4 B.u.line).line 14 B.k.line)) T2 | exact Hp.b03 (B := ((B.line 0 (B.T.a.line B.t)).line 4 B.u.line)) T1 | go_keep) (first | (go_at_call 135; refine (T0.out.act 4 rfl (ide_line)).mono ?_; rintro e w1 ⟨rfl, T1⟩; replace T1 : Hp w0 A0 w1 (busObs b pp pt pu pi pm mp ((B.line 0 (B.T.a.line B.t)).line 4 B.u.line)) := T1) | (go_at_call 132; refine (T1.act 1 rfl (pic_line3 _ (by decide) _)).mono ?_; rintro e w2 ⟨rfl, T2⟩; replace T2 : Hp w0 A0 w2 (busObs b pp pt pu pi pm mp (((B.line 0 (B.T.a.line B.t)).line 4 B.u.line).line 14 B.k.line)) := T2))
 clear k0 k1 k2 k3 k6 kf kl T1 T0
 have S2 := T2
 clear T2
 go_wp2_with fail
 go_returns
 exact ⟨rfl, S2⟩
end
end Go.Proofs.YtmpcafdgkbpneaaGreat

/- bus: a byte to a device, and of one. -/
namespace Go.Proofs.YtmpcafdgkbpneaaGreat
open Go.RowKit Go.MapKept
set_option linter.unusedVariables false

section
variable {b pp pt pu pi pm mp : Nat} {B : Bs} {w0 w : World} {A0 : Nat → Prop}
set_option maxHeartbeats 2000000
end
end Go.Proofs.YtmpcafdgkbpneaaGreat

/- bus: Out. -/
namespace Go.Proofs.YtmpcafdgkbpneaaGreat
open Go.RowKit Go.MapKept
set_option linter.unusedVariables false

theorem Bs.lines_ok {B : Bs} (h : B.ok) : B.lines.ok := ⟨h.T, h.t⟩
section
variable {b pp pt pu pi pm mp : Nat} {B : Bs} {w0 w : World} {A0 : Nat → Prop}
end
end Go.Proofs.YtmpcafdgkbpneaaGreat

/- bus: In. -/
namespace Go.Proofs.YtmpcafdgkbpneaaGreat
open Go.RowKit Go.MapKept
set_option linter.unusedVariables false

section
variable {b pp pt pu pi pm mp : Nat} {B : Bs} {w0 w : World} {A0 : Nat → Prop}
end
end Go.Proofs.YtmpcafdgkbpneaaGreat

/- bus: time, what comes, what is told; what was sent, the disk. -/
namespace Go.Proofs.YtmpcafdgkbpneaaGreat
open Go.RowKit Go.MapKept
set_option linter.unusedVariables false

section
variable {b pp pt pu pi pm mp : Nat} {B : Bs} {w0 w : World} {A0 : Nat → Prop}
end
end Go.Proofs.YtmpcafdgkbpneaaGreat

/- bus: New: its ports are laid. -/
namespace Go.Proofs.YtmpcafdgkbpneaaGreat
open Go.RowKit Go.MapKept
set_option linter.unusedVariables false

theorem Side.front {o : Ob} : ∀ (os : List Ob) (i : Nat) {w : World} {H : Nat → Prop}, os[i]? = some o → Side os w H → Side (o :: os.eraseIdx i) w H
 | [], i, w, H, hi, S => by simp at hi
 | x :: os, 0, w, H, hi, S => by
  have hx : x = o := by simpa using hi
  subst hx
  exact S
 | x :: os, i + 1, w, H, hi, S => by
  obtain ⟨A, B, a, b, d, e⟩ := S
  obtain ⟨C, D, c, dd, f, g⟩ := Side.front os i (by simpa using hi) b
  refine ⟨C, fun k => A k ∨ D k, c, ⟨A, D, a, dd, fun k h1 h2 => d k h1 ((g k).2 (.inr h2)), fun k => Iff.rfl⟩, fun k h1 h2 => ?_, fun k => ?_⟩
  ·rcases h2 with h2 | h2
   ·exact d k h2 ((g k).2 (.inl h1))
   ·exact f k h1 h2
  ·rw [e k, g k]
   constructor
   ·rintro (h | h | h)
    ·exact .inr (.inl h)
    ·exact .inl h
    ·exact .inr (.inr h)
   ·rintro (h | h | h)
    ·exact .inr (.inl h)
    ·exact .inl h
    ·exact .inr (.inr h)
theorem Hp.front {w0 w : World} {A0 : Nat → Prop} {os : List Ob} {o : Ob} (T : Hp w0 A0 w os) (i : Nat) (h : os[i]? = some o) : Hp w0 A0 w (o :: os.eraseIdx i) := by
 obtain ⟨A, a, M⟩ := T
 exact ⟨A, Side.front os i h a, M⟩
theorem Hp.one {w : World} {A : Nat → Prop} {o : Ob} (h : o.P w A) : Hp w A w [o] := ⟨A, ⟨A, fun _ => False, h, fun _ h => h, fun _ _ h => h, fun k => ⟨.inl, fun h => h.elim id False.elim⟩⟩, Moves.refl _ _⟩
theorem Hp.un {w0 w : World} {A0 : Nat → Prop} {o : Ob} (T : Hp w0 A0 w [o]) : ∃ A, o.P w A ∧ Moves A0 A w0 w := by
 obtain ⟨A, ⟨B, C, b, c, d, e⟩, M⟩ := T
 exact ⟨B, b, M.1, fun k hk => M.2 k ((e k).2 (.inl hk))⟩
def oBus (b pm : Nat) (B : Bs) : Ob := Ob.any fun x : Nat × Nat × Nat × Nat × Nat => Ob.all (busObs b x.1 x.2.1 x.2.2.1 x.2.2.2.1 pm x.2.2.2.2 B)
theorem acts_bus {f : FuncId} {args : Array Value} {r : Value} {b pm : Nat} {B B' : Bs}
    (h : ∀ (w0 w : World) (A0 : Nat → Prop) (pp pt pu pi mp : Nat), Hp w0 A0 w (busObs b pp pt pu pi pm mp B) → Calls Tryz.prog f args w fun e w' => e = .returned r ∧ Hp w0 A0 w' (busObs b pp pt pu pi pm mp B')) : Acts f args (oBus b pm B) r (oBus b pm B') := by
 rintro w A ⟨⟨pp, pt, pu, pi, mp⟩, a⟩
 refine (h w w A pp pt pu pi mp (Hp.start a)).mono ?_
 rintro e w' ⟨rfl, T⟩
 obtain ⟨A', a', M⟩ := T.end_
 exact ⟨rfl, A', ⟨(pp, pt, pu, pi, mp), a'⟩, M⟩
theorem Hp.toBus {w0 w : World} {A0 : Nat → Prop} {b pp pt pu pi pm mp : Nat} {B : Bs} {os : List Ob} (T : Hp w0 A0 w (busObs b pp pt pu pi pm mp B ++ os)) : Hp w0 A0 w (oBus b pm B :: os) :=
 T.pack fun A a => ⟨(pp, pt, pu, pi, mp), a⟩
section
variable {b pm : Nat} {B : Bs}
end
def laid (first from_ n : Nat) (fo fi : Value) (f : Nat → Option Value) : Nat → Option Value := fun p => if first ≤ p ∧ p < first + n then some (.agg #[fo, fi, .int .i64 ((from_ + (p - first) : Nat) : Int)]) else f p
theorem laid_zero (first from_ : Nat) (fo fi : Value) (f : Nat → Option Value) (p : Nat) : laid first from_ 0 fo fi f p = f p := if_neg (by omega)
theorem laid_succ (first from_ n : Nat) (fo fi : Value) (f : Nat → Option Value) (p : Nat) : laid first from_ (n + 1) fo fi f p = if p = first + n then some (.agg #[fo, fi, .int .i64 ((from_ + n : Nat) : Int)]) else laid first from_ n fo fi f p := by
 unfold laid
 by_cases h : p = first + n
 ·subst h
  rw [if_pos rfl, if_pos (by omega), show first + n - first = n by omega]
 ·rw [if_neg h]
  by_cases h2 : first ≤ p ∧ p < first + n
  ·rw [if_pos h2, if_pos (by omega)]
  ·rw [if_neg h2, if_neg (by omega)]
theorem lay_any {w : World} {x b mp : Nat} (first from_ n : Nat) (fo gi : FuncId) (f : Nat → Option Value) (hx : w.cell? ⟨x, 0, none⟩ = some (.pointer (some ⟨b, 0, none⟩))) (hb : w.cell? ⟨b, 7, none⟩ = some (.map (some mp)))
    (H : MapAt w mp .u16 f) (h1 : x ≠ mp) (h2 : b ≠ mp) (hn : n ≤ 8) (hf : first + n < 65536) (hfr : from_ ≤ 8) :
    Calls Tryz.prog 79 #[.int .u16 (first : Nat), .func (.func fo) #[.pointer (some ⟨b, 0, none⟩)] #[], .func (.func gi) #[.pointer (some ⟨b, 0, none⟩)] #[], .int .i64 (from_ : Nat), .int .i64 (n : Nat), .pointer (some ⟨x, 0, none⟩)] w
     fun e w' => e = .returned (.tuple #[]) ∧ MapAt w' mp .u16 (laid first from_ n (.func (.func fo) #[.pointer (some ⟨b, 0, none⟩)] #[]) (.func (.func gi) #[.pointer (some ⟨b, 0, none⟩)] #[]) f) ∧ Keeps (· = mp) w w' := by
 have HX := Lib.hid (And.intro hx hb)
 have HH := Lib.hid H
 have hxl := World.block_lt_of_cell? _ _ hx
 have hbl := World.block_lt_of_cell? _ _ hb
 clear hx hb H
 go_enter Tryz.func79, Tryz.ntmps79
 go_wp2_with fail
 go_loopw [13] (fun i wr => ∃ k : Nat, k ≤ n ∧ i = .int .i64 k ∧ MapAt wr mp .u16 (laid first from_ k (.func (.func fo) #[.pointer (some ⟨b, 0, none⟩)] #[]) (.func (.func gi) #[.pointer (some ⟨b, 0, none⟩)] #[]) f) ∧ Keeps (· = mp) w wr) (fun i _ => n - (intOf i).toNat)
 case atStart => exact ⟨0, by omega, rfl, HH.out.ext (laid_zero _ _ _ _ _), Keeps.refl _ _⟩
 case round =>
  rename_i wr
  obtain ⟨k, hk, rfl, M, K⟩ := hrel
  by_cases hlt : k < n
  ·have c1 : wr.cell? ⟨x, 0, none⟩ = some (.pointer (some ⟨b, 0, none⟩)) := (World.cell?_of_block (K.block x hxl h1)).trans HX.out.1
   have c2 : wr.cell? ⟨b, 7, none⟩ = some (.map (some mp)) := (World.cell?_of_block (K.block b hbl h2)).trans HX.out.2
   obtain ⟨w4, hup, M4, K4⟩ := M.update (P := Tryz.prog) (t := 130) (k := 27) (e := 137) (by kernel_rfl) (by kernel_rfl) (first + k) ((first : Int) + (k : Int)) (by omega) (.agg #[.func (.func fo) #[.pointer (some ⟨b, 0, none⟩)] #[], .func (.func gi) #[.pointer (some ⟨b, 0, none⟩)] #[], .int .i64 ((from_ : Int) + (k : Int))])
   have HM4 := Lib.hid M4
   have HK4 := Lib.hid (K.trans K4)
   clear M K M4 K4
   go_wp2_with fail
   go_roundw
   case rel => exact ⟨k + 1, by omega, by go_num, HM4.out.ext fun p => by rw [laid_succ, Int.natCast_add], HK4.out⟩
   case measure => (simp [intOf]) <;> omega
  ·have hk2 : k = n := by omega
   subst hk2
   have HM := Lib.hid (And.intro M K)
   clear M K
   go_wp2_with fail
   go_returns
   exact ⟨rfl, HM.out.1, HM.out.2⟩
end Go.Proofs.YtmpcafdgkbpneaaGreat

/- bus: New. -/
namespace Go.Proofs.YtmpcafdgkbpneaaGreat
open Go.RowKit Go.MapKept
set_option linter.unusedVariables false

def Bs.new (R : RS) (n : Nat) (d : Nat → Nat) : Bs := (Bs.mk Pic.chip0 Pic.chip0 ⟨Pit.ctNew, Pit.ctNew, Pit.ctNew⟩ Uart.Ut.new (Ide.Dk.new n d) true (R.gate true) 0).lines
def fv (g b : Nat) : Value := .func (.func g) #[.pointer (some ⟨b, 0, none⟩)] #[]
def lay7 (b : Nat) : Nat → Option Value :=
 laid 0x92 0 1 (fv (outF 4) b) (fv (inF 4) b) (laid 0x3F6 8 1 (fv (outF 3) b) (fv (inF 3) b) (laid 0x1F0 0 8 (fv (outF 3) b) (fv (inF 3) b) (laid 0x3F8 0 8 (fv (outF 2) b) (fv (inF 2) b)
  (laid 0x40 0 4 (fv (outF 1) b) (fv (inF 1) b) (laid 0xA0 2 2 (fv (outF 0) b) (fv (inF 0) b) (laid 0x20 0 2 (fv (outF 0) b) (fv (inF 0) b) (fun _ => none)))))))
theorem lay7_prt (b p : Nat) : prt b p = lay7 b p := by
 unfold prt lay7 laid dev fv
 by_cases h1 : 0x20 ≤ p ∧ p < 0x22
 ·rw [if_pos h1]; repeat rw [if_neg (by omega)]
  rw [if_pos (by omega), Nat.zero_add]; rfl
 rw [if_neg h1]
 by_cases h2 : 0xA0 ≤ p ∧ p < 0xA2
 ·rw [if_pos h2]; repeat rw [if_neg (by omega)]
  rw [if_pos (by omega), Nat.add_comm]; rfl
 rw [if_neg h2]
 by_cases h3 : 0x40 ≤ p ∧ p < 0x44
 ·rw [if_pos h3]; repeat rw [if_neg (by omega)]
  rw [if_pos (by omega), Nat.zero_add]; rfl
 rw [if_neg h3]
 by_cases h4 : 0x3F8 ≤ p ∧ p < 0x400
 ·rw [if_pos h4]; repeat rw [if_neg (by omega)]
  rw [if_pos (by omega), Nat.zero_add]; rfl
 rw [if_neg h4]
 by_cases h5 : 0x1F0 ≤ p ∧ p < 0x1F8
 ·rw [if_pos h5]; repeat rw [if_neg (by omega)]
  rw [if_pos (by omega), Nat.zero_add]; rfl
 rw [if_neg h5]
 by_cases h6 : p = 0x3F6
 ·subst h6; rfl
 rw [if_neg h6]
 by_cases h7 : p = 0x92
 ·subst h7; rfl
 rw [if_neg h7]
 repeat rw [if_neg (by omega)]
 rfl
def newObs (b x pp pt pu pi pm mp : Nat) (R : RS) (n : Nat) (d : Nat → Nat) (f : Nat → Option Value) : List Ob :=
 [oRam pm R, oIde pi (Ide.Dk.new n d), oPic pp Pic.chip0 Pic.chip0, oTm pt ⟨Pit.ctNew, Pit.ctNew, Pit.ctNew⟩, oUart pu Uart.Ut.new, oMap mp f, Ob.box b (.cells (busCells pp pt pu pi pm mp true 0) 132), Ob.box x (.cells #[.pointer (some ⟨b, 0, none⟩)] 38)]
section
variable {b x pp pt pu pi pm mp : Nat} {R : RS} {n : Nat} {d : Nat → Nat} {f : Nat → Option Value} {w0 w : World} {A0 : Nat → Prop}
theorem lay_hp (T : Hp w0 A0 w (newObs b x pp pt pu pi pm mp R n d f)) (first from_ m : Nat) (fo gi : FuncId) (hm : m ≤ 8) (hf : first + m < 65536) (hfr : from_ ≤ 8) :
    Calls Tryz.prog 79 #[.int .u16 (first : Nat), fv fo b, fv gi b, .int .i64 (from_ : Nat), .int .i64 (m : Nat), .pointer (some ⟨x, 0, none⟩)] w
     fun e w' => e = .returned (.tuple #[]) ∧ Hp w0 A0 w' (newObs b x pp pt pu pi pm mp R n d (laid first from_ m (fv fo b) (fv gi b) f)) := by
 have hb := T.box 6 rfl
 have hx := T.box 7 rfl
 have hb7 := (bus_facts hb).2.2.2.2.2.2.2.1
 have hx0 : w.cell? ⟨x, 0, none⟩ = some (.pointer (some ⟨b, 0, none⟩)) := by rw [cell_at hx]; rfl
 obtain ⟨A, ⟨M, e⟩, g⟩ := T.turn 5 rfl
 have h1 : x ≠ mp := by
  rintro rfl
  obtain ⟨es, clock, hm, -⟩ := M
  rw [hx] at hm; cases hm
 have h2 : b ≠ mp := by
  rintro rfl
  obtain ⟨es, clock, hm, -⟩ := M
  rw [hb] at hm; cases hm
 refine (lay_any first from_ m fo gi f hx0 hb7 M h1 h2 hm hf hfr).mono ?_
 rintro e' w1 ⟨rfl, M1, K⟩
 exact ⟨rfl, g w1 A (oMap mp (laid first from_ m (fv fo b) (fv gi b) f)) ⟨M1, e⟩ (moves_one e K)⟩
theorem Hp.built (T : Hp w0 A0 w (newObs b x pp pt pu pi pm mp R n d (lay7 b))) : Hp w0 A0 w (busObs b pp pt pu pi pm mp (Bs.mk Pic.chip0 Pic.chip0 ⟨Pit.ctNew, Pit.ctNew, Pit.ctNew⟩ Uart.Ut.new (Ide.Dk.new n d) true R 0) ++ [Ob.box x (.cells #[.pointer (some ⟨b, 0, none⟩)] 38)]) := by
 have T1 := T.alter 5 (x := oMap mp (prt b)) rfl fun A h => ⟨h.1.ext (lay7_prt b), h.2⟩
 have T2 := T1.front 5 rfl
 have T3 := T2.front 1 rfl
 have T4 := T3.front 2 rfl
 have T5 := T4.front 5 rfl
 have T6 := T5.front 5 rfl
 have T7 := T6.front 5 rfl
 exact T7.front 6 rfl
end
theorem mk_map (w : World) : (Instr.makeMap 130 none).run Tryz.prog w = .ok (.map (some w.heap.size)) (w.alloc (.map #[] 0)) := by kernel_rfl
section
variable {pm : Nat} {R : RS} {n : Nat} {d : Nat → Nat} {v : Value} {w0 w : World} {A0 : Nat → Prop}
theorem new_hp (T : Hp w0 A0 w [oRam pm R]) (H : Ide.Reads w v (n * 512) d) (hn : n ≤ 64) (hd : ∀ i, d i < 256) :
    Calls Tryz.prog 38 #[.pointer (some ⟨pm, 0, none⟩), v] w fun e w' => ∃ b, e = .returned (.tuple #[.pointer (some ⟨b, 0, none⟩), .int .i64 0]) ∧ Hp w0 A0 w' [oBus b pm (Bs.new R n d)] := by
 have HT := Lib.hid T
 have HH := Lib.hid (And.intro H (And.intro hn hd))
 obtain ⟨va, vc, rfl, -⟩ := H
 clear T hn hd
 go_enter Tryz.func38, Tryz.ntmps38
 go_wp2_with fail
 refine (Ide.new_yes HH.out.1 HH.out.2.1 HH.out.2.2).mono ?_
 rintro e w1 ⟨pi, ds, rfl, I1, i2, i3, hb1⟩
 have T1 := HT.out.new hb1 (o := oIde pi (Ide.Dk.new n d)) (A := Ide.Held pi ds (.slice none 0 0)) ⟨ds, _, I1, Ide.room_fresh _, fun k => Iff.rfl⟩ (fun k hk => by
  rcases hk with rfl | hk | hk
  ·exact i2
  ·exact i3 k hk
  ·cases hk)
 have HT1 := Lib.hid T1
 clear I1 i2 i3 hb1 T1
 go_wp2_with fail
 refine (Pic.new_any _).mono ?_
 rintro e w2 ⟨rfl, P2, hb2⟩
 have T2 := HT1.out.new hb2 (o := oPic w1.heap.size Pic.chip0 Pic.chip0) (A := fun k => k = w1.heap.size) ⟨P2, ⟨Pic.chip0_ok, Pic.chip0_ok⟩, fun k => Iff.rfl⟩ (fun k hk => by omega)
 generalize w1.heap.size = pp at *
 have HT2 := Lib.hid T2
 clear T2 P2 hb2
 go_wp2_with fail
 refine (Pit.tm_new _).mono ?_
 rintro e w3 ⟨rfl, P3, hb3⟩
 have T3 := HT2.out.new hb3 (o := oTm w2.heap.size ⟨Pit.ctNew, Pit.ctNew, Pit.ctNew⟩) (A := fun k => k = w2.heap.size) ⟨P3, fun k => Iff.rfl⟩ (fun k hk => by omega)
 generalize w2.heap.size = pt at *
 have HT3 := Lib.hid T3
 clear T3 P3 hb3
 go_wp2_with fail
 refine (Uart.new_any _).mono ?_
 rintro e w4 ⟨pu, q, rfl, U4, u1, u2, hb4⟩
 have T4 := HT3.out.new hb4 (o := oUart pu Uart.Ut.new) (A := Uart.Held pu q (.slice none 0 0)) ⟨q, _, U4, fun k => Iff.rfl⟩ (fun k hk => by
  rcases hk with rfl | rfl | hk
  ·exact u1
  ·exact u2
  ·cases hk)
 have T5 := T4.new (w' := w4.alloc (.map #[] 0)) (o := oMap w4.heap.size (fun _ => none)) ((Below.refl _ _).alloc (Nat.le_refl _) _) (A := fun k => k = w4.heap.size) ⟨MapAt.new w4 .u16, fun k => Iff.rfl⟩ (fun k hk => by omega)
 have T6 := T5.make (.cells (busCells pp pt pu pi pm w4.heap.size true 0) 132)
 have T7 := T6.make (.cells #[.pointer (some ⟨(w4.alloc (.map #[] 0)).heap.size, 0, none⟩)] 38)
 simp only [World.size_alloc] at T7
 have HT7 := Lib.hid T7
 clear T4 T5 T6 T7 U4 u1 u2 hb4
 have hmk := mk_map w4
 go_upto_region 7 with (fail)
 have T8 : Hp w0 A0 (((w4.alloc (.map #[] 0)).alloc (.cells #[.pointer (some ⟨pp, 0, none⟩), .pointer (some ⟨pt, 0, none⟩), .pointer (some ⟨pu, 0, none⟩), .pointer (some ⟨pi, 0, none⟩), .pointer (some ⟨pm, 0, none⟩), .bool true, .int .u64 0, .map (some w4.heap.size)] 132)).alloc (.cells #[.pointer (some ⟨w4.heap.size + 1, 0, none⟩)] 38)) (newObs (w4.heap.size + 1) (w4.heap.size + 1 + 1) pp pt pu pi pm w4.heap.size R n d (fun _ => none)) := HT7.out
 clear HT7 hmk HT1 HT2 HT3
 generalize (((w4.alloc (.map #[] 0)).alloc (.cells #[.pointer (some ⟨pp, 0, none⟩), .pointer (some ⟨pt, 0, none⟩), .pointer (some ⟨pu, 0, none⟩), .pointer (some ⟨pi, 0, none⟩), .pointer (some ⟨pm, 0, none⟩), .bool true, .int .u64 0, .map (some w4.heap.size)] 132)).alloc (.cells #[.pointer (some ⟨w4.heap.size + 1, 0, none⟩)] 38)) = W at *
 generalize w4.heap.size + 1 + 1 = x at *
 generalize w4.heap.size + 1 = b at *
 generalize w4.heap.size = mp at *
 go_wp2_with fail
 refine (T8.act 0 rfl (ram_gate true)).mono ?_
 rintro e v0 ⟨rfl, S0⟩
 replace S0 : Hp w0 A0 v0 (newObs b x pp pt pu pi pm mp (R.gate true) n d (fun _ => none)) := S0
 clear T8
 have hx : v0.cell? ⟨x, 0, none⟩ = some (.pointer (some ⟨b, 0, none⟩)) := by rw [cell_at (S0.box 7 rfl)]; rfl
 have HS0 := Lib.hid S0
 clear S0
 go_wp2_with fail
 refine (lay_hp HS0.out 32 0 2 80 81 (by decide) (by decide) (by decide)).mono ?_
 rintro e v1 ⟨rfl, S1⟩
 replace S1 : Hp w0 A0 v1 (newObs b x pp pt pu pi pm mp (R.gate true) n d (laid 32 0 2 (fv (outF 0) b) (fv (inF 0) b) (fun _ => none))) := S1
 clear hx
 have hx : v1.cell? ⟨x, 0, none⟩ = some (.pointer (some ⟨b, 0, none⟩)) := by rw [cell_at (S1.box 7 rfl)]; rfl
 have HS1 := Lib.hid S1
 clear S1
 go_wp2_with fail
 refine (lay_hp HS1.out 160 2 2 80 81 (by decide) (by decide) (by decide)).mono ?_
 rintro e v2 ⟨rfl, S2⟩
 replace S2 : Hp w0 A0 v2 (newObs b x pp pt pu pi pm mp (R.gate true) n d (laid 160 2 2 (fv (outF 0) b) (fv (inF 0) b) (laid 32 0 2 (fv (outF 0) b) (fv (inF 0) b) (fun _ => none)))) := S2
 clear hx
 have hx : v2.cell? ⟨x, 0, none⟩ = some (.pointer (some ⟨b, 0, none⟩)) := by rw [cell_at (S2.box 7 rfl)]; rfl
 have HS2 := Lib.hid S2
 clear S2
 go_wp2_with fail
 refine (lay_hp HS2.out 64 0 4 82 83 (by decide) (by decide) (by decide)).mono ?_
 rintro e v3 ⟨rfl, S3⟩
 replace S3 : Hp w0 A0 v3 (newObs b x pp pt pu pi pm mp (R.gate true) n d (laid 64 0 4 (fv (outF 1) b) (fv (inF 1) b) (laid 160 2 2 (fv (outF 0) b) (fv (inF 0) b) (laid 32 0 2 (fv (outF 0) b) (fv (inF 0) b) (fun _ => none))))) := S3
 clear hx
 have hx : v3.cell? ⟨x, 0, none⟩ = some (.pointer (some ⟨b, 0, none⟩)) := by rw [cell_at (S3.box 7 rfl)]; rfl
 have HS3 := Lib.hid S3
 clear S3
 go_wp2_with fail
 refine (lay_hp HS3.out 1016 0 8 84 85 (by decide) (by decide) (by decide)).mono ?_
 rintro e v4 ⟨rfl, S4⟩
 replace S4 : Hp w0 A0 v4 (newObs b x pp pt pu pi pm mp (R.gate true) n d (laid 1016 0 8 (fv (outF 2) b) (fv (inF 2) b) (laid 64 0 4 (fv (outF 1) b) (fv (inF 1) b) (laid 160 2 2 (fv (outF 0) b) (fv (inF 0) b) (laid 32 0 2 (fv (outF 0) b) (fv (inF 0) b) (fun _ => none)))))) := S4
 clear hx
 have hx : v4.cell? ⟨x, 0, none⟩ = some (.pointer (some ⟨b, 0, none⟩)) := by rw [cell_at (S4.box 7 rfl)]; rfl
 have HS4 := Lib.hid S4
 clear S4
 go_wp2_with fail
 refine (lay_hp HS4.out 496 0 8 86 87 (by decide) (by decide) (by decide)).mono ?_
 rintro e v5 ⟨rfl, S5⟩
 replace S5 : Hp w0 A0 v5 (newObs b x pp pt pu pi pm mp (R.gate true) n d (laid 496 0 8 (fv (outF 3) b) (fv (inF 3) b) (laid 1016 0 8 (fv (outF 2) b) (fv (inF 2) b) (laid 64 0 4 (fv (outF 1) b) (fv (inF 1) b) (laid 160 2 2 (fv (outF 0) b) (fv (inF 0) b) (laid 32 0 2 (fv (outF 0) b) (fv (inF 0) b) (fun _ => none))))))) := S5
 clear hx
 have hx : v5.cell? ⟨x, 0, none⟩ = some (.pointer (some ⟨b, 0, none⟩)) := by rw [cell_at (S5.box 7 rfl)]; rfl
 have HS5 := Lib.hid S5
 clear S5
 go_wp2_with fail
 refine (lay_hp HS5.out 1014 8 1 86 87 (by decide) (by decide) (by decide)).mono ?_
 rintro e v6 ⟨rfl, S6⟩
 replace S6 : Hp w0 A0 v6 (newObs b x pp pt pu pi pm mp (R.gate true) n d (laid 1014 8 1 (fv (outF 3) b) (fv (inF 3) b) (laid 496 0 8 (fv (outF 3) b) (fv (inF 3) b) (laid 1016 0 8 (fv (outF 2) b) (fv (inF 2) b) (laid 64 0 4 (fv (outF 1) b) (fv (inF 1) b) (laid 160 2 2 (fv (outF 0) b) (fv (inF 0) b) (laid 32 0 2 (fv (outF 0) b) (fv (inF 0) b) (fun _ => none)))))))) := S6
 clear hx
 have hx : v6.cell? ⟨x, 0, none⟩ = some (.pointer (some ⟨b, 0, none⟩)) := by rw [cell_at (S6.box 7 rfl)]; rfl
 have HS6 := Lib.hid S6
 clear S6
 go_wp2_with fail
 refine (lay_hp HS6.out 146 0 1 88 89 (by decide) (by decide) (by decide)).mono ?_
 rintro e v7 ⟨rfl, S7⟩
 replace S7 : Hp w0 A0 v7 (newObs b x pp pt pu pi pm mp (R.gate true) n d (laid 146 0 1 (fv (outF 4) b) (fv (inF 4) b) (laid 1014 8 1 (fv (outF 3) b) (fv (inF 3) b) (laid 496 0 8 (fv (outF 3) b) (fv (inF 3) b) (laid 1016 0 8 (fv (outF 2) b) (fv (inF 2) b) (laid 64 0 4 (fv (outF 1) b) (fv (inF 1) b) (laid 160 2 2 (fv (outF 0) b) (fv (inF 0) b) (laid 32 0 2 (fv (outF 0) b) (fv (inF 0) b) (fun _ => none))))))))) := S7
 clear hx
 have hx : v7.cell? ⟨x, 0, none⟩ = some (.pointer (some ⟨b, 0, none⟩)) := by rw [cell_at (S7.box 7 rfl)]; rfl
 have HS7 := Lib.hid (Hp.built S7)
 clear S7
 go_wp2_with fail
 have ok0 : (Bs.mk Pic.chip0 Pic.chip0 ⟨Pit.ctNew, Pit.ctNew, Pit.ctNew⟩ Uart.Ut.new (Ide.Dk.new n d) true (R.gate true) 0).ok := ⟨⟨Pit.ctNew_ok 0 (Int.le_refl 0), Pit.ctNew_ok 0 (Int.le_refl 0), Pit.ctNew_ok 0 (Int.le_refl 0)⟩, by show 0 < _; decide⟩
 have TL := HS7.out.toBus
 obtain ⟨A1, h1, hg⟩ := TL.turn 0 rfl
 have TX := Hp.left (l1 := busObs b pp pt pu pi pm mp (Bs.mk Pic.chip0 Pic.chip0 ⟨Pit.ctNew, Pit.ctNew, Pit.ctNew⟩ Uart.Ut.new (Ide.Dk.new n d) true (R.gate true) 0)) HS7.out
 have hx9 := hx
 have hl := acts_bus (b := b) (pm := pm) (fun w0 w A0 pp pt pu pi mp T => lines_hp ok0 T)
 refine (TL.act 0 rfl hl).mono ?_
 rintro e v8 ⟨rfl, S8⟩
 have hx8 : v8.cell? ⟨x, 0, none⟩ = some (.pointer (some ⟨b, 0, none⟩)) := by rw [cell_at (S8.box 1 rfl)]; rfl
 clear hx hx9
 go_wp2_with fail
 go_ret2
 exact ⟨b, rfl, Hp.left (l1 := [oBus b pm (Bs.new R n d)]) S8⟩
end
end Go.Proofs.YtmpcafdgkbpneaaGreat

