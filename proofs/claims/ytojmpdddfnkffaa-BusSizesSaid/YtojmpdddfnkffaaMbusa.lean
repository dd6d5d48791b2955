/- BusA BusB BusC, together. -/
import Derived.Test.YtojmpdddfnkffaaMheap
import Derived.Test.YtojmpdddfnkffaaMpicb
import Derived.Test.YtojmpdddfnkffaaMpitc
import Derived.Test.YtojmpdddfnkffaaMuartb
import Derived.Test.YtojmpdddfnkffaaMidec
import Derived.Test.YtojmpdddfnkffaaMram
import Derived.Test.YtojmpdddfnkffaaMap
import Derived.BigQuiet
import Derived.Deep.RegionWith
import Derived.Deep.QuietTactic
import Derived.Deep.RegionHeld3
import Derived.Laws.BitsAll
/- bus: the devices as objects; their calls. -/
namespace Go.Proofs.Ytojmpdddfnkffaa
open Go.RowKit
set_option linter.unusedVariables false

def oPic (b : Nat) (c d : Pic.Chip) : Ob := ⟨fun w H => Pic.Pair w b c d ∧ (c.ok ∧ d.ok) ∧ ∀ k, H k ↔ k = b,
  fun h g => ⟨(g b ((h.2.2 b).2 rfl)).trans h.1, h.2⟩, fun {w H} h k hk => by rw [(h.2.2 k).1 hk]; exact heap_lt (show w.heap[b]? = some _ from h.1)⟩
def oPit (b : Nat) (c0 c1 c2 : Pit.Ct) : Ob := ⟨fun w H => Pit.Tm w b c0 c1 c2 ∧ ∀ k, H k ↔ k = b,
  fun h g => ⟨(g b ((h.2 b).2 rfl)).trans h.1, h.2⟩, fun h k hk => by rw [(h.2 k).1 hk]; exact h.1.lt⟩
def oUart (b : Nat) (U : Uart.Ut) : Ob := ⟨fun w H => ∃ q sv, Uart.UtIn w b q sv U ∧ ∀ k, H k ↔ Uart.Held b q sv k,
  fun ⟨q, sv, h, e⟩ g => ⟨q, sv, h.of_heap fun k hk => g k ((e k).2 hk), e⟩, fun ⟨q, sv, h, e⟩ k hk => h.lt ((e k).1 hk)⟩
def oIde (b : Nat) (D : Ide.Dk) : Ob := ⟨fun w H => ∃ ds lv, Ide.IdeIn 113 w b ds lv D ∧ D.room ∧ ∀ k, H k ↔ Ide.Held b ds lv k,
  fun ⟨q, sv, h, r, e⟩ g => ⟨q, sv, h.of_heap fun k hk => g k ((e k).2 hk), r, e⟩, fun ⟨q, sv, h, r, e⟩ k hk => Ide.Held.lt h ((e k).1 hk)⟩
def oRam (b : Nat) (R : RS) : Ob := ⟨fun w H => Ram w b H R,
  fun {w w' H} h g => by
    obtain ⟨bp, bo, bw, bn, pg, h, e⟩ := h
    exact ⟨bp, bo, bw, bn, pg, h.of_heap fun k hk => g k ((e k).2 hk), e⟩, fun h k hk => h.lt hk⟩
theorem moves_one {A : Nat → Prop} {b : Nat} {w w' : World} (h : ∀ k, A k ↔ k = b) (K : Keeps (· = b) w w') : Moves A A w w' := ⟨K.mono fun k _ e => (h k).2 e, fun k hk => .inl hk⟩
section
variable {b : Nat} {c d : Pic.Chip} {p q r : Pit.Ct} {t : Int} {U : Uart.Ut} {D : Ide.Dk} {R : RS}
theorem pic_out (n : Int) (v : Nat) (hv : v < 256) : Acts 73 #[.pointer (some ⟨b, 0, none⟩), .int .i64 n, .int .u8 v] (oPic b c d) (.int .i64 (Pic.perr n)) (oPic b (Pic.otc c n v) (Pic.otd d n v)) := by
  rintro w A ⟨H, ok, e⟩
  refine (Pic.out_any b c d ok.1 ok.2 n v hv w H).mono ?_
  rintro x w1 ⟨rfl, H1, K⟩
  exact ⟨rfl, A, ⟨H1, ⟨Pic.otc_ok ok.1 n v hv, Pic.otd_ok ok.2 n v hv⟩, e⟩, moves_one e K⟩
theorem pic_line (n : Int) (up : Bool) : Acts 65 #[.pointer (some ⟨b, 0, none⟩), .int .i64 n, .bool up] (oPic b c d) (.int .i64 (Pic.lerr n)) (oPic b (Pic.lnc c n up) (Pic.lnd d n up)) := by
  rintro w A ⟨H, ok, e⟩
  refine (Pic.line_e b c d ok.1 ok.2 n up w H).mono ?_
  rintro x w1 ⟨rfl, H1, K⟩
  exact ⟨rfl, A, ⟨H1, ⟨Pic.lnc_ok ok.1 n up, Pic.lnd_ok ok.2 n up⟩, e⟩, moves_one e K⟩
theorem pic_in (n : Int) : Acts 74 #[.pointer (some ⟨b, 0, none⟩), .int .i64 n] (oPic b c d) (.tuple #[.int .u8 (Pic.inv c d n : Nat), .int .i64 (Pic.perr n)]) (oPic b c d) := by
  rintro w A ⟨H, ok, e⟩
  refine (Pic.in_any b c d ok.1 ok.2 n w H).mono ?_
  rintro x w1 ⟨rfl, hb⟩
  exact ⟨rfl, A, ⟨H.below hb, ok, e⟩, moves_one e (Keeps.ofBelow hb)⟩
theorem pic_pending : Acts 30 #[.pointer (some ⟨b, 0, none⟩)] (oPic b c d) (.bool (Pic.told0 c d)) (oPic b c d) := by
  rintro w A ⟨H, ok, e⟩
  refine (Pic.pending_any b c d ok.1 ok.2 w H).mono ?_
  rintro x w1 ⟨rfl, n, rfl⟩
  exact ⟨rfl, A, ⟨H, ok, e⟩, Moves.drewN _ _ _⟩
theorem pic_ack : Acts 31 #[.pointer (some ⟨b, 0, none⟩)] (oPic b c d) (.int .i64 (Pic.vec0 c d : Nat)) (oPic b (Pic.tkc c d) (Pic.tkd c d)) := by
  rintro w A ⟨H, ok, e⟩
  refine (Pic.ack_any b c d ok.1 ok.2 w H).mono ?_
  rintro x w1 ⟨rfl, H1, K⟩
  exact ⟨rfl, A, ⟨H1, ⟨Pic.tkc_ok ok.1, Pic.tkd_ok ok.2⟩, e⟩, moves_one e K⟩
theorem pit_line (h : p.ok t) (ht : t < 18446744073709551616) : Acts 66 #[.pointer (some ⟨b, 0, none⟩), .int .u64 t] (oPit b p q r) (.bool (p.line t)) (oPit b p q r) := by
  rintro w A ⟨H, e⟩
  refine (Pit.line_tm H h ht).mono ?_
  rintro x w1 ⟨rfl, hb⟩
  exact ⟨rfl, A, ⟨H.below hb, e⟩, moves_one e (Keeps.ofBelow hb)⟩
/-- Three counters behind a byte to a port. -/
structure Tm3 where
  a : Pit.Ct
  b : Pit.Ct
  c : Pit.Ct
structure Tm3.ok (T : Tm3) (t : Int) : Prop where
  a : T.a.ok t
  b : T.b.ok t
  c : T.c.ok t
def Tm3.out (T : Tm3) (n : Int) (x t : Int) : Tm3 :=
  if n = 0 then { T with a := T.a.put x t } else if n = 1 then { T with b := T.b.put x t } else if n = 2 then { T with c := T.c.put x t }
  else if x / 64 = 0 then { T with a := T.a.cmd x t } else if x / 64 = 1 then { T with b := T.b.cmd x t } else if x / 64 = 2 then { T with c := T.c.cmd x t } else T
def Tm3.inV (T : Tm3) (n t : Int) : Int := if n = 0 then T.a.getV t else if n = 1 then T.b.getV t else if n = 2 then T.c.getV t else 255
def Tm3.inS (T : Tm3) (n : Int) : Tm3 := if n = 0 then { T with a := T.a.getS } else if n = 1 then { T with b := T.b.getS } else if n = 2 then { T with c := T.c.getS } else T
theorem Tm3.out_ok {T : Tm3} (h : T.ok t) (n x : Int) (h0 : 0 ≤ x) (h1 : x < 256) : (T.out n x t).ok t := by
  unfold Tm3.out
  (repeat' split)
  · exact ⟨Pit.Ct.put_ok h.a h0 h1, h.b, h.c⟩
  · exact ⟨h.a, Pit.Ct.put_ok h.b h0 h1, h.c⟩
  · exact ⟨h.a, h.b, Pit.Ct.put_ok h.c h0 h1⟩
  · exact ⟨Pit.Ct.cmd_ok h.a h0 h1, h.b, h.c⟩
  · exact ⟨h.a, Pit.Ct.cmd_ok h.b h0 h1, h.c⟩
  · exact ⟨h.a, h.b, Pit.Ct.cmd_ok h.c h0 h1⟩
  · exact h
theorem Tm3.inS_ok {T : Tm3} (h : T.ok t) (n : Int) : (T.inS n).ok t := by
  unfold Tm3.inS
  (repeat' split)
  · exact ⟨Pit.Ct.getS_ok h.a, h.b, h.c⟩
  · exact ⟨h.a, Pit.Ct.getS_ok h.b, h.c⟩
  · exact ⟨h.a, h.b, Pit.Ct.getS_ok h.c⟩
  · exact h
def oTm (b : Nat) (T : Tm3) : Ob := oPit b T.a T.b T.c
theorem tm_acts {f : FuncId} {args : Array Value} {v : Value} {T T' : Tm3} (h : ∀ w, Pit.Tm w b T.a T.b T.c → Calls Try.prog f args w fun e w' => e = .returned v ∧ Pit.Tm w' b T'.a T'.b T'.c ∧ Keeps (· = b) w w') : Acts f args (oTm b T) v (oTm b T') := by
  rintro w A ⟨H, e⟩
  refine (h w H).mono ?_
  rintro x w1 ⟨rfl, H1, K⟩
  exact ⟨rfl, A, ⟨H1, e⟩, moves_one e K⟩
theorem pit_out (T : Tm3) (h : T.ok t) (ht : t < 18446744073709551616) (n : Nat) (hn : n < 4) (x : Nat) (hx : x < 256) :
    Acts 75 #[.pointer (some ⟨b, 0, none⟩), .int .i64 (n : Nat), .int .u8 (x : Nat), .int .u64 t] (oTm b T) (.int .i64 0) (oTm b (T.out n x t)) := by
  refine tm_acts fun w H => ?_
  unfold Tm3.out
  rcases (show n = 0 ∨ n = 1 ∨ n = 2 ∨ n = 3 by omega) with rfl | rfl | rfl | rfl
  · exact Pit.put_ct0 H h.a x (by omega) (by omega)
  · exact Pit.put_ct1 H h.b x (by omega) (by omega)
  · exact Pit.put_ct2 H h.c x (by omega) (by omega)
  · rw [if_neg (by omega), if_neg (by omega), if_neg (by omega)]
    by_cases h0 : (x : Int) / 64 = 0
    · rw [if_pos h0]; exact Pit.putc_ct0 H h.a ht x (by omega) (by omega) h0
    · rw [if_neg h0]
      by_cases h1 : (x : Int) / 64 = 1
      · rw [if_pos h1]; exact Pit.putc_ct1 H h.b ht x (by omega) (by omega) h1
      · rw [if_neg h1]
        by_cases h2 : (x : Int) / 64 = 2
        · rw [if_pos h2]; exact Pit.putc_ct2 H h.c ht x (by omega) (by omega) h2
        · rw [if_neg h2]; exact Pit.putc_3 H x (by omega) (by omega) (by omega)
theorem pit_in (T : Tm3) (h : T.ok t) (ht : t < 18446744073709551616) (n : Nat) (hn : n < 4) :
    Acts 76 #[.pointer (some ⟨b, 0, none⟩), .int .i64 (n : Nat), .int .u64 t] (oTm b T) (.tuple #[.int .u8 (T.inV n t), .int .i64 0]) (oTm b (T.inS n)) := by
  refine tm_acts fun w H => ?_
  unfold Tm3.inV Tm3.inS
  rcases (show n = 0 ∨ n = 1 ∨ n = 2 ∨ n = 3 by omega) with rfl | rfl | rfl | rfl
  · exact Pit.get_ct0 H h.a ht
  · exact Pit.get_ct1 H h.b ht
  · exact Pit.get_ct2 H h.c ht
  · exact Pit.get_3 H
theorem uart_went {f : FuncId} {args : Array Value} {v : Value} {U' : Uart.Ut} (h : ∀ w q sv, Uart.UtIn w b q sv U → Calls Try.prog f args w fun e w' => e = .returned v ∧ Uart.Went w b q sv U' w') : Acts f args (oUart b U) v (oUart b U') := by
  rintro w A ⟨q, sv, H, e⟩
  refine (h w q sv H).mono ?_
  rintro x w1 ⟨rfl, sv', H1, K, N⟩
  refine ⟨rfl, Uart.Held b q sv', ⟨q, sv', H1, fun k => Iff.rfl⟩, K.mono fun k _ h => (e k).2 h, fun k hk => ?_⟩
  rcases hk with hk | hk | hk
  · exact .inl ((e k).2 (.inl hk))
  · exact .inl ((e k).2 (.inr (.inl hk)))
  · exact (N k hk).imp (fun h => (e k).2 (.inr (.inr h))) id
theorem uart_out (n : Int) (v : Nat) (hv : v < 256) (hL : U.sent.length + 1 ≤ 140737488355328) : Acts 77 #[.pointer (some ⟨b, 0, none⟩), .int .i64 n, .int .u8 (v : Nat)] (oUart b U) (.int .i64 (Uart.callErr n)) (oUart b (U.out n v)) :=
  uart_went fun w q sv H => Uart.out_any H n v hv hL
theorem uart_in (n : Int) : Acts 78 #[.pointer (some ⟨b, 0, none⟩), .int .i64 n] (oUart b U) (.tuple #[.int .u8 (U.inV n : Nat), .int .i64 (Uart.callErr n)]) (oUart b (U.inS n)) :=
  uart_went fun w q sv H => Uart.in_any H n
theorem uart_push (x : Nat) (hx : x < 256) : Acts 50 #[.pointer (some ⟨b, 0, none⟩), .int .u8 (x : Nat)] (oUart b U) (.tuple #[]) (oUart b (U.push x)) :=
  uart_went fun w q sv H => by
    refine (Uart.push_any H x hx).mono ?_
    rintro e w1 ⟨rfl, H1, K⟩
    exact ⟨rfl, Uart.Went.of H1 (K.mono fun k _ h => h.imp id fun h => .inl h)⟩
theorem uart_line : Acts 67 #[.pointer (some ⟨b, 0, none⟩)] (oUart b U) (.bool U.line) (oUart b U) :=
  uart_went fun w q sv H => by
    refine (Uart.line_any H).mono ?_
    rintro e w1 ⟨rfl, rfl⟩
    exact ⟨rfl, Uart.Went.of H (Keeps.refl _ _)⟩
theorem ide_went {f : FuncId} {args : Array Value} {v : Value} {D' : Ide.Dk} (hr : D.room → D'.room) (h : ∀ w ds lv, D.room → Ide.IdeIn 113 w b ds lv D → Calls Try.prog f args w fun e w' => e = .returned v ∧ Ide.Went w b ds lv D' w') : Acts f args (oIde b D) v (oIde b D') := by
  rintro w A ⟨ds, lv, H, ro, e⟩
  refine (h w ds lv ro H).mono ?_
  rintro x w1 ⟨rfl, lv', H1, K, N⟩
  refine ⟨rfl, Ide.Held b ds lv', ⟨ds, lv', H1, hr ro, fun k => Iff.rfl⟩, K.mono fun k _ h => (e k).2 h, fun k hk => ?_⟩
  rcases hk with hk | hk | hk
  · exact .inl ((e k).2 (.inl hk))
  · exact .inl ((e k).2 (.inr (.inl hk)))
  · exact (N k hk).imp (fun h => (e k).2 (.inr (.inr h))) id
theorem ide_out (reg size : Int) (v : Nat) (hv : v < 4294967296) (hL : D.log.length + 4 < 17592186044416) : Acts 27 #[.pointer (some ⟨b, 0, none⟩), .int .i64 reg, .int .i64 size, .int .u32 v] (oIde b D) (.int .i64 (Ide.callErr reg size)) (oIde b (D.out reg size v)) :=
  ide_went (fun h => Ide.Dk.room_out h reg size v) fun w ds lv ro H => Ide.out_any H ro reg size v hv hL
theorem ide_in (reg size : Int) : Acts 29 #[.pointer (some ⟨b, 0, none⟩), .int .i64 reg, .int .i64 size] (oIde b D) (.tuple #[.int .u32 (D.inV reg size : Nat), .int .i64 (Ide.callErr reg size)]) (oIde b (D.inS reg size)) :=
  ide_went (fun h => Ide.Dk.room_inS h reg size) fun w ds lv ro H => Ide.in_any H ro reg size
theorem ide_line : Acts 68 #[.pointer (some ⟨b, 0, none⟩)] (oIde b D) (.bool D.line) (oIde b D) :=
  ide_went id fun w ds lv ro H => by
    refine (Ide.line_in H).mono ?_
    rintro e w1 ⟨rfl, rfl⟩
    exact ⟨rfl, Ide.Went.of H (Keeps.refl _ _)⟩
theorem ram_gate (x : Bool) : Acts 38 #[.pointer (some ⟨b, 0, none⟩), .bool x] (oRam b R) (.tuple #[]) (oRam b (R.gate x)) := by
  rintro w A H
  refine (gate_any H x).mono ?_
  rintro e w1 ⟨rfl, H1, K⟩
  exact ⟨rfl, A, H1, K, fun k hk => .inl hk⟩
theorem ram_write (a v : Nat) (ha : a < 4294967296) (hv : v < 4294967296) (s : Nat) (hs : s = 1 ∨ s = 2 ∨ s = 4) : Acts 21 #[.pointer (some ⟨b, 0, .none⟩), .int .u32 a, .int .i64 (s : Nat), .int .u32 v] (oRam b R) (.int .i64 0) (oRam b (R.write a v s)) := by
  rintro w A H
  refine (write_any H a v ha hv s hs).mono ?_
  rintro e w1 ⟨rfl, A', H1, M⟩
  exact ⟨rfl, A', H1, M⟩
theorem ram_read (a : Nat) (ha : a < 4294967296) (s : Nat) (hs : s = 1 ∨ s = 2 ∨ s = 4) : Acts 22 #[.pointer (some ⟨b, 0, .none⟩), .int .u32 a, .int .i64 (s : Nat)] (oRam b R) (.tuple #[.int .u32 (R.read a s : Nat), .int .i64 0]) (oRam b R) := by
  rintro w A H
  refine (read_any H a ha s hs).mono ?_
  rintro e w1 ⟨rfl, n, rfl⟩
  exact ⟨rfl, A, H.drewN n, Moves.drewN _ _ _⟩
end
end Go.Proofs.Ytojmpdddfnkffaa

/- bus: a bus as one object; its lines; a byte to a device, a byte of one. -/
namespace Go.Proofs.Ytojmpdddfnkffaa
open Go.RowKit Go.MapKept
set_option linter.unusedVariables false

/-- A bus, plain. -/
structure Bs where
  c : Pic.Chip
  d : Pic.Chip
  T : Tm3
  u : Uart.Ut
  k : Ide.Dk
  g : Bool
  R : RS
  t : Nat
def Bs.line (B : Bs) (n : Int) (up : Bool) : Bs := { B with c := Pic.lnc B.c n up, d := Pic.lnd B.d n up }
def Bs.lines (B : Bs) : Bs := ((B.line 0 (B.T.a.line B.t)).line 4 B.u.line).line 14 B.k.line
/-- Which device a port is of, and its number there. -/
def dev (p : Nat) : Option (Nat × Nat) :=
  if 0x20 ≤ p ∧ p < 0x22 then some (0, p - 0x20) else if 0xA0 ≤ p ∧ p < 0xA2 then some (0, p - 0xA0 + 2) else if 0x40 ≤ p ∧ p < 0x44 then some (1, p - 0x40)
  else if 0x3F8 ≤ p ∧ p < 0x400 then some (2, p - 0x3F8) else if 0x1F0 ≤ p ∧ p < 0x1F8 then some (3, p - 0x1F0) else if p = 0x3F6 then some (3, 8) else if p = 0x92 then some (4, 0) else none
def pv (fo fi b n : Nat) : Value := .agg #[.func (.func fo) #[.pointer (some ⟨b, 0, none⟩)] #[], .func (.func fi) #[.pointer (some ⟨b, 0, none⟩)] #[], .int .i64 (n : Nat)]
def outF : Nat → Nat
  | 0 => 40
  | 1 => 42
  | 2 => 44
  | 3 => 46
  | _ => 48
def inF : Nat → Nat
  | 0 => 41
  | 1 => 43
  | 2 => 45
  | 3 => 47
  | _ => 49
def prt (b p : Nat) : Option Value := (dev p).map fun x => pv (outF x.1) (inF x.1) b x.2
def oMap (m : Nat) (f : Nat → Option Value) : Ob := ⟨fun w H => MapAt w m .u16 f ∧ ∀ k, H k ↔ k = m, fun h g => ⟨h.1.of_heap (g m ((h.2 m).2 rfl)), h.2⟩, fun h k hk => by rw [(h.2 k).1 hk]; exact h.1.lt⟩
def busCells (pp pt pu pi pm mp : Nat) (g : Bool) (t : Nat) : Array Value :=
  #[.pointer (some ⟨pp, 0, none⟩), .pointer (some ⟨pt, 0, none⟩), .pointer (some ⟨pu, 0, none⟩), .pointer (some ⟨pi, 0, none⟩), .pointer (some ⟨pm, 0, none⟩), .bool g, .int .u64 (t : Nat), .map (some mp)]
def busObs (b pp pt pu pi pm mp : Nat) (B : Bs) : List Ob := [Ob.box b (.cells (busCells pp pt pu pi pm mp B.g B.t) 72), oPic pp B.c B.d, oTm pt B.T, oUart pu B.u, oIde pi B.k, oRam pm B.R, oMap mp (prt b)]
structure Bs.ok (B : Bs) : Prop where
  T : B.T.ok B.t
  t : B.t < 18446744073709551615
theorem bus_facts {w : World} {b pp pt pu pi pm mp : Nat} {g : Bool} {t : Nat} (h : w.heap[b]? = some (.cells (busCells pp pt pu pi pm mp g t) 72)) :
    w.cell? ⟨b, 0, none⟩ = some (.pointer (some ⟨pp, 0, none⟩)) ∧ w.cell? ⟨b, 1, none⟩ = some (.pointer (some ⟨pt, 0, none⟩)) ∧ w.cell? ⟨b, 2, none⟩ = some (.pointer (some ⟨pu, 0, none⟩)) ∧ w.cell? ⟨b, 3, none⟩ = some (.pointer (some ⟨pi, 0, none⟩)) ∧
    w.cell? ⟨b, 4, none⟩ = some (.pointer (some ⟨pm, 0, none⟩)) ∧ w.cell? ⟨b, 5, none⟩ = some (.bool g) ∧ w.cell? ⟨b, 6, none⟩ = some (.int .u64 (t : Nat)) ∧ w.cell? ⟨b, 7, none⟩ = some (.map (some mp)) ∧ (∀ k, w.frozen? ⟨b, k, none⟩ = false) ∧ b < w.heap.size := by
  refine ⟨?_, ?_, ?_, ?_, ?_, ?_, ?_, ?_, fun k => free_at h, heap_lt h⟩ <;> (rw [cell_at h]; rfl)
section
variable {b pp pt pu pi pm mp : Nat} {B : Bs} {w0 w : World} {A0 : Nat → Prop}
theorem Hp.bus (T : Hp w0 A0 w (busObs b pp pt pu pi pm mp B)) : w.heap[b]? = some (.cells (busCells pp pt pu pi pm mp B.g B.t) 72) := T.box 0 rfl
theorem Hp.b016 (T : Hp w0 A0 w (busObs b pp pt pu pi pm mp B)) : w.cell? ⟨b, 0, none⟩ = some (.pointer (some ⟨pp, 0, none⟩)) ∧ w.cell? ⟨b, 1, none⟩ = some (.pointer (some ⟨pt, 0, none⟩)) ∧ w.cell? ⟨b, 6, none⟩ = some (.int .u64 (B.t : Nat)) :=
  have h := bus_facts T.bus
  ⟨h.1, h.2.1, h.2.2.2.2.2.2.1⟩
theorem Hp.b02 (T : Hp w0 A0 w (busObs b pp pt pu pi pm mp B)) : w.cell? ⟨b, 0, none⟩ = some (.pointer (some ⟨pp, 0, none⟩)) ∧ w.cell? ⟨b, 2, none⟩ = some (.pointer (some ⟨pu, 0, none⟩)) :=
  have h := bus_facts T.bus
  ⟨h.1, h.2.2.1⟩
theorem Hp.b03 (T : Hp w0 A0 w (busObs b pp pt pu pi pm mp B)) : w.cell? ⟨b, 0, none⟩ = some (.pointer (some ⟨pp, 0, none⟩)) ∧ w.cell? ⟨b, 3, none⟩ = some (.pointer (some ⟨pi, 0, none⟩)) :=
  have h := bus_facts T.bus
  ⟨h.1, h.2.2.2.1⟩
set_option maxHeartbeats 2000000 in
theorem lines_hp (h : B.ok) (T : Hp w0 A0 w (busObs b pp pt pu pi pm mp B)) :
    Calls Try.prog 28 #[.pointer (some ⟨b, 0, none⟩)] w fun e w' => e = .returned (.tuple #[]) ∧ Hp w0 A0 w' (busObs b pp pt pu pi pm mp B.lines) := by
  have ht : (B.t : Int) < 18446744073709551616 := by have := h.t; omega
  have HT := Lib.hid (And.intro h.T.a ht)
  clear h ht
  go_enter Try.func28, Try.ntmps28
  go_wp2_with fail
  obtain ⟨k0, k1, k2, k3, -, -, k6, -, kf, kl⟩ := bus_facts T.bus
  have T0 := Lib.hid T.drew
  clear T
  go_region_held3 (fun w' => w'.cell? ⟨b, 0, none⟩ = some (.pointer (some ⟨pp, 0, none⟩)) ∧ w'.cell? ⟨b, 1, none⟩ = some (.pointer (some ⟨pt, 0, none⟩)) ∧ w'.cell? ⟨b, 6, none⟩ = some (.int .u64 (B.t : Nat))) (first | exact Hp.b016 (B := B) T0.out | exact Hp.b016 (B := (B.line 0 (B.T.a.line B.t))) T2 | exact Hp.b016 (B := B) T1 | go_keep) (first | (go_at_call 66; refine (T0.out.act 2 rfl (pit_line HT.out.1 HT.out.2)).mono ?_; rintro e w1 ⟨rfl, T1⟩; replace T1 : Hp w0 A0 w1 (busObs b pp pt pu pi pm mp B) := T1) | (go_at_call 65; refine (T1.act 1 rfl (pic_line _ _)).mono ?_; rintro e w2 ⟨rfl, T2⟩; replace T2 : Hp w0 A0 w2 (busObs b pp pt pu pi pm mp (B.line 0 (B.T.a.line B.t))) := T2))
  clear k0 k1 k2 k3 k6 kf kl T1 T0
  have S0 := T2
  clear T2
  go_wp2_with fail
  obtain ⟨k0, k1, k2, k3, -, -, k6, -, kf, kl⟩ := bus_facts S0.bus
  have T0 := Lib.hid S0.drew
  clear S0
  go_region_held3 (fun w' => w'.cell? ⟨b, 0, none⟩ = some (.pointer (some ⟨pp, 0, none⟩)) ∧ w'.cell? ⟨b, 2, none⟩ = some (.pointer (some ⟨pu, 0, none⟩))) (first | exact Hp.b02 (B := (B.line 0 (B.T.a.line B.t))) T0.out | exact Hp.b02 (B := ((B.line 0 (B.T.a.line B.t)).line 4 B.u.line)) T2 | exact Hp.b02 (B := (B.line 0 (B.T.a.line B.t))) T1 | go_keep) (first | (go_at_call 67; refine (T0.out.act 3 rfl (uart_line)).mono ?_; rintro e w1 ⟨rfl, T1⟩; replace T1 : Hp w0 A0 w1 (busObs b pp pt pu pi pm mp (B.line 0 (B.T.a.line B.t))) := T1) | (go_at_call 65; refine (T1.act 1 rfl (pic_line _ _)).mono ?_; rintro e w2 ⟨rfl, T2⟩; replace T2 : Hp w0 A0 w2 (busObs b pp pt pu pi pm mp ((B.line 0 (B.T.a.line B.t)).line 4 B.u.line)) := T2))
  clear k0 k1 k2 k3 k6 kf kl T1 T0
  have S1 := T2
  clear T2
  go_wp2_with fail
  obtain ⟨k0, k1, k2, k3, -, -, k6, -, kf, kl⟩ := bus_facts S1.bus
  have T0 := Lib.hid S1.drew
  clear S1
  go_region_held3 (fun w' => w'.cell? ⟨b, 0, none⟩ = some (.pointer (some ⟨pp, 0, none⟩)) ∧ w'.cell? ⟨b, 3, none⟩ = some (.pointer (some ⟨pi, 0, none⟩))) (first | exact Hp.b03 (B := ((B.line 0 (B.T.a.line B.t)).line 4 B.u.line)) T0.out | exact Hp.b03 (B := (((B.line 0 (B.T.a.line B.t)).line 4 B.u.line).line 14 B.k.line)) T2 | exact Hp.b03 (B := ((B.line 0 (B.T.a.line B.t)).line 4 B.u.line)) T1 | go_keep) (first | (go_at_call 68; refine (T0.out.act 4 rfl (ide_line)).mono ?_; rintro e w1 ⟨rfl, T1⟩; replace T1 : Hp w0 A0 w1 (busObs b pp pt pu pi pm mp ((B.line 0 (B.T.a.line B.t)).line 4 B.u.line)) := T1) | (go_at_call 65; refine (T1.act 1 rfl (pic_line _ _)).mono ?_; rintro e w2 ⟨rfl, T2⟩; replace T2 : Hp w0 A0 w2 (busObs b pp pt pu pi pm mp (((B.line 0 (B.T.a.line B.t)).line 4 B.u.line).line 14 B.k.line)) := T2))
  clear k0 k1 k2 k3 k6 kf kl T1 T0
  have S2 := T2
  clear T2
  go_wp2_with fail
  go_returns
  exact ⟨rfl, S2⟩
end
end Go.Proofs.Ytojmpdddfnkffaa

/- bus: a byte to a device, and of one. -/
namespace Go.Proofs.Ytojmpdddfnkffaa
open Go.RowKit Go.MapKept
set_option linter.unusedVariables false

def gateBit (v : Nat) : Bool := v / 2 % 2 == 1
theorem and_2 (v : Nat) (h : v < 256) : (bits BinOp.and IntKind.u8 (v : Int) 2 != 0) = gateBit v := by
  have q : ∀ v : Fin 256, (bits BinOp.and IntKind.u8 ((v.val : Nat) : Int) 2 != 0) = gateBit v.val := by decide +kernel
  exact q ⟨v, h⟩
def Bs.out1 (B : Bs) (k n v : Nat) : Bs :=
  match k with
  | 0 => { B with c := Pic.otc B.c n v, d := Pic.otd B.d n v }
  | 1 => { B with T := B.T.out n v B.t }
  | 2 => { B with u := B.u.out n v }
  | 3 => { B with k := B.k.out n 1 v }
  | _ => { B with g := gateBit v, R := B.R.gate (gateBit v) }
def Bs.in1V (B : Bs) (k n : Nat) : Int :=
  match k with
  | 0 => (Pic.inv B.c B.d n : Nat)
  | 1 => B.T.inV n B.t
  | 2 => (B.u.inV n : Nat)
  | 3 => (B.k.inV n 1 : Nat) % 256
  | _ => if B.g then 2 else 0
def Bs.in1S (B : Bs) (k n : Nat) : Bs :=
  match k with
  | 0 => B
  | 1 => { B with T := B.T.inS n }
  | 2 => { B with u := B.u.inS n }
  | 3 => { B with k := B.k.inS n 1 }
  | _ => B
/-- Room for so many bytes more, sent and written. -/
structure Bs.fits (B : Bs) (n : Nat) : Prop where
  s : B.u.sent.length ≤ n
  l : B.k.log.length ≤ n
section
variable {b pp pt pu pi pm mp : Nat} {B : Bs} {w0 w : World} {A0 : Nat → Prop}
set_option maxHeartbeats 2000000
theorem Hp.b45 (T : Hp w0 A0 w (busObs b pp pt pu pi pm mp B)) : w.cell? ⟨b, 4, none⟩ = some (.pointer (some ⟨pm, 0, none⟩)) ∧ w.cell? ⟨b, 5, none⟩ = some (.bool B.g) :=
  have h := bus_facts T.bus
  ⟨h.2.2.2.2.1, h.2.2.2.2.2.1⟩
theorem outPic_hp (T : Hp w0 A0 w (busObs b pp pt pu pi pm mp B)) (n v : Nat) (hv : v < 256) :
    Calls Try.prog 40 #[.pointer (some ⟨b, 0, none⟩), .int .i64 (n : Nat), .int .u8 (v : Nat)] w fun e w' => e = .returned (.tuple #[]) ∧ Hp w0 A0 w' (busObs b pp pt pu pi pm mp (B.out1 0 n v)) := by
  obtain ⟨k0, k1, k2, k3, k4, k5, k6, k7, kf, kl⟩ := bus_facts T.bus
  go_enter Try.func40, Try.ntmps40
  go_wp2_with fail
  refine (T.act 1 rfl (pic_out n v hv)).mono ?_
  rintro e w1 ⟨rfl, T1⟩
  go_wp2_with fail
  go_returns
  exact ⟨rfl, T1⟩
theorem outPort_hp (T : Hp w0 A0 w (busObs b pp pt pu pi pm mp B)) (n v : Nat) (hv : v < 256) (hL : B.u.sent.length + 1 ≤ 140737488355328) :
    Calls Try.prog 44 #[.pointer (some ⟨b, 0, none⟩), .int .i64 (n : Nat), .int .u8 (v : Nat)] w fun e w' => e = .returned (.tuple #[]) ∧ Hp w0 A0 w' (busObs b pp pt pu pi pm mp (B.out1 2 n v)) := by
  obtain ⟨k0, k1, k2, k3, k4, k5, k6, k7, kf, kl⟩ := bus_facts T.bus
  have HL := Lib.hid hL
  clear hL
  go_enter Try.func44, Try.ntmps44
  go_wp2_with fail
  refine (T.act 3 rfl (uart_out n v hv HL.out)).mono ?_
  rintro e w1 ⟨rfl, T1⟩
  go_wp2_with fail
  go_returns
  exact ⟨rfl, T1⟩
theorem outDrive_hp (T : Hp w0 A0 w (busObs b pp pt pu pi pm mp B)) (n v : Nat) (hv : v < 256) (hL : B.k.log.length + 4 < 17592186044416) :
    Calls Try.prog 46 #[.pointer (some ⟨b, 0, none⟩), .int .i64 (n : Nat), .int .u8 (v : Nat)] w fun e w' => e = .returned (.tuple #[]) ∧ Hp w0 A0 w' (busObs b pp pt pu pi pm mp (B.out1 3 n v)) := by
  obtain ⟨k0, k1, k2, k3, k4, k5, k6, k7, kf, kl⟩ := bus_facts T.bus
  have HL := Lib.hid hL
  clear hL
  go_enter Try.func46, Try.ntmps46
  go_wp2_with fail
  refine (T.act 4 rfl (ide_out n 1 v (by omega) HL.out)).mono ?_
  rintro e w1 ⟨rfl, T1⟩
  go_wp2_with fail
  go_returns
  exact ⟨rfl, T1⟩
theorem outTimer_hp (h : B.ok) (T : Hp w0 A0 w (busObs b pp pt pu pi pm mp B)) (n v : Nat) (hn : n < 4) (hv : v < 256) :
    Calls Try.prog 42 #[.pointer (some ⟨b, 0, none⟩), .int .i64 (n : Nat), .int .u8 (v : Nat)] w fun e w' => e = .returned (.tuple #[]) ∧ Hp w0 A0 w' (busObs b pp pt pu pi pm mp (B.out1 1 n v)) := by
  obtain ⟨k0, k1, k2, k3, k4, k5, k6, k7, kf, kl⟩ := bus_facts T.bus
  have ht : (B.t : Int) < 18446744073709551616 := by have := h.t; omega
  have HT := Lib.hid (And.intro h.T ht)
  have T0 := Lib.hid T.drew
  clear h ht T
  go_enter Try.func42, Try.ntmps42
  go_wp2_with fail
  go_region_held3 (fun w' => w'.cell? ⟨b, 0, none⟩ = some (.pointer (some ⟨pp, 0, none⟩)) ∧ w'.cell? ⟨b, 1, none⟩ = some (.pointer (some ⟨pt, 0, none⟩)) ∧ w'.cell? ⟨b, 6, none⟩ = some (.int .u64 (B.t : Nat))) (first | exact Hp.b016 (B := B) T0.out | exact Hp.b016 (B := B.out1 1 n v) T1 | go_keep) (first | (go_at_call 75; refine (T0.out.act 2 rfl (pit_out B.T HT.out.1 HT.out.2 n hn v hv)).mono ?_; rintro e w1 ⟨rfl, T1⟩))
  go_wp2_with fail
  go_returns
  exact ⟨rfl, T1⟩
theorem outGate_hp (T : Hp w0 A0 w (busObs b pp pt pu pi pm mp B)) (n v : Nat) (hv : v < 256) :
    Calls Try.prog 48 #[.pointer (some ⟨b, 0, none⟩), .int .i64 (n : Nat), .int .u8 (v : Nat)] w fun e w' => e = .returned (.tuple #[]) ∧ Hp w0 A0 w' (busObs b pp pt pu pi pm mp (B.out1 4 n v)) := by
  obtain ⟨k0, k1, k2, k3, k4, k5, k6, k7, kf, kl⟩ := bus_facts T.bus
  have e2 := and_2 v hv
  have T1 : Hp w0 A0 (w.setCell ⟨b, 5, none⟩ (.bool (gateBit v))) (busObs b pp pt pu pi pm mp { B with g := gateBit v }) := T.set 0 rfl 5 (.bool (gateBit v))
  have T2 := Lib.hid T1
  have T3 := Lib.hid T1.drew
  clear T T1
  go_enter Try.func48, Try.ntmps48
  go_upto_region 1 with (fail)
  clear k0 k1 k2 k3 k4 k5 k6 k7 kf kl
  obtain ⟨k0, k1, k2, k3, k4, k5, k6, k7, kf, kl⟩ := bus_facts T2.out.bus
  go_region_held3 (fun w' => w'.cell? ⟨b, 4, none⟩ = some (.pointer (some ⟨pm, 0, none⟩)) ∧ w'.cell? ⟨b, 5, none⟩ = some (.bool (gateBit v))) (first | exact Hp.b45 (B := { B with g := gateBit v }) T3.out | exact Hp.b45 (B := B.out1 4 n v) T4 | go_keep) (first | (go_at_call 38; refine (T3.out.act 5 rfl (ram_gate _)).mono ?_; rintro e w1 ⟨rfl, T4⟩))
  go_wp2_with fail
  go_returns
  exact ⟨rfl, T4⟩
theorem inPic_hp (T : Hp w0 A0 w (busObs b pp pt pu pi pm mp B)) (n : Nat) :
    Calls Try.prog 41 #[.pointer (some ⟨b, 0, none⟩), .int .i64 (n : Nat)] w fun e w' => e = .returned (.int .u8 (B.in1V 0 n)) ∧ Hp w0 A0 w' (busObs b pp pt pu pi pm mp (B.in1S 0 n)) := by
  obtain ⟨k0, k1, k2, k3, k4, k5, k6, k7, kf, kl⟩ := bus_facts T.bus
  go_enter Try.func41, Try.ntmps41
  go_wp2_with fail
  refine (T.act 1 rfl (pic_in n)).mono ?_
  rintro e w1 ⟨rfl, T1⟩
  go_wp2_with fail
  go_ret
  exact ⟨rfl, T1⟩
theorem inPort_hp (T : Hp w0 A0 w (busObs b pp pt pu pi pm mp B)) (n : Nat) :
    Calls Try.prog 45 #[.pointer (some ⟨b, 0, none⟩), .int .i64 (n : Nat)] w fun e w' => e = .returned (.int .u8 (B.in1V 2 n)) ∧ Hp w0 A0 w' (busObs b pp pt pu pi pm mp (B.in1S 2 n)) := by
  obtain ⟨k0, k1, k2, k3, k4, k5, k6, k7, kf, kl⟩ := bus_facts T.bus
  go_enter Try.func45, Try.ntmps45
  go_wp2_with fail
  refine (T.act 3 rfl (uart_in n)).mono ?_
  rintro e w1 ⟨rfl, T1⟩
  go_wp2_with fail
  go_ret
  exact ⟨rfl, T1⟩
theorem inDrive_hp (T : Hp w0 A0 w (busObs b pp pt pu pi pm mp B)) (n : Nat) :
    Calls Try.prog 47 #[.pointer (some ⟨b, 0, none⟩), .int .i64 (n : Nat)] w fun e w' => e = .returned (.int .u8 (B.in1V 3 n)) ∧ Hp w0 A0 w' (busObs b pp pt pu pi pm mp (B.in1S 3 n)) := by
  obtain ⟨k0, k1, k2, k3, k4, k5, k6, k7, kf, kl⟩ := bus_facts T.bus
  go_enter Try.func47, Try.ntmps47
  go_wp2_with fail
  refine (T.act 4 rfl (ide_in n 1)).mono ?_
  rintro e w1 ⟨rfl, T1⟩
  go_wp2_with fail
  go_ret
  exact ⟨rfl, T1⟩
theorem inTimer_hp (h : B.ok) (T : Hp w0 A0 w (busObs b pp pt pu pi pm mp B)) (n : Nat) (hn : n < 4) :
    Calls Try.prog 43 #[.pointer (some ⟨b, 0, none⟩), .int .i64 (n : Nat)] w fun e w' => e = .returned (.int .u8 (B.in1V 1 n)) ∧ Hp w0 A0 w' (busObs b pp pt pu pi pm mp (B.in1S 1 n)) := by
  obtain ⟨k0, k1, k2, k3, k4, k5, k6, k7, kf, kl⟩ := bus_facts T.bus
  have ht : (B.t : Int) < 18446744073709551616 := by have := h.t; omega
  have HT := Lib.hid (And.intro h.T ht)
  have T0 := Lib.hid T.drew
  clear h ht T
  go_enter Try.func43, Try.ntmps43
  go_upto_region 1 with (fail)
  go_region_held3 (fun w' => w'.cell? ⟨b, 0, none⟩ = some (.pointer (some ⟨pp, 0, none⟩)) ∧ w'.cell? ⟨b, 1, none⟩ = some (.pointer (some ⟨pt, 0, none⟩)) ∧ w'.cell? ⟨b, 6, none⟩ = some (.int .u64 (B.t : Nat))) (first | exact Hp.b016 (B := B) T0.out | exact Hp.b016 (B := B.in1S 1 n) T1 | go_keep) (first | (go_at_call 76; refine (T0.out.act 2 rfl (pit_in B.T HT.out.1 HT.out.2 n hn)).mono ?_; rintro e w1 ⟨rfl, T1⟩))
  go_wp2_with fail
  go_ret
  exact ⟨rfl, T1⟩
theorem inGate_hp (T : Hp w0 A0 w (busObs b pp pt pu pi pm mp B)) (n : Nat) :
    Calls Try.prog 49 #[.pointer (some ⟨b, 0, none⟩), .int .i64 (n : Nat)] w fun e w' => e = .returned (.int .u8 (B.in1V 4 n)) ∧ Hp w0 A0 w' (busObs b pp pt pu pi pm mp (B.in1S 4 n)) := by
  obtain ⟨k0, k1, k2, k3, k4, k5, k6, k7, kf, kl⟩ := bus_facts T.bus
  show Calls _ _ _ _ fun e w' => e = .returned (.int .u8 (if B.g then 2 else 0)) ∧ _
  cases hg : B.g
  all_goals
    rw [hg] at k5
    go_enter Try.func49, Try.ntmps49
    go_wp2_with fail
    go_ret
    exact ⟨rfl, T⟩
end
end Go.Proofs.Ytojmpdddfnkffaa

