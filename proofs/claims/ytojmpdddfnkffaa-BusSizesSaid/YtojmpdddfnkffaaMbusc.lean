/- BusF BusG BusH, together. -/
import Derived.Test.YtojmpdddfnkffaaMbusb
import Derived.Test.YtojmpdddfnkffaaMheap
import Derived.Test.YtojmpdddfnkffaaMidec
/- bus: time, what comes, what is told; what was sent, the disk. -/
namespace Go.Proofs.Ytojmpdddfnkffaa
open Go.RowKit Go.MapKept
set_option linter.unusedVariables false

def Bs.tick (B : Bs) : Bs := ({ B with t := B.t + 1 } : Bs).lines
def Bs.ticks (B : Bs) : Nat → Bs
  | 0 => B
  | n + 1 => (B.ticks n).tick
def Bs.push (B : Bs) (x : Nat) : Bs := ({ B with u := B.u.push x } : Bs).lines
def Bs.ack (B : Bs) : Bs := ({ B with c := Pic.tkc B.c B.d, d := Pic.tkd B.c B.d } : Bs).lines
def Bs.quit (B : Bs) : Bs := { B with u := B.u.quit }
theorem Tm3.later {T : Tm3} {t t' : Int} (h : T.ok t) (ht : t ≤ t') : T.ok t' := ⟨Pit.Ct.later h.a ht, Pit.Ct.later h.b ht, Pit.Ct.later h.c ht⟩
theorem Bs.tick_ok {B : Bs} (h : B.ok) (ht : B.t + 1 < 18446744073709551615) : B.tick.ok := lines_ok ⟨Tm3.later h.T (by show (B.t : Int) ≤ ((B.t + 1 : Nat) : Int); omega), ht⟩
theorem Bs.ticks_ok {B : Bs} (h : B.ok) : ∀ n, B.t + n < 18446744073709551615 → (B.ticks n).ok ∧ (B.ticks n).t = B.t + n
  | 0, ht => ⟨h, rfl⟩
  | n + 1, ht => by
    have ih := ticks_ok h n (by omega)
    exact ⟨tick_ok ih.1 (by omega), by show (B.ticks n).t + 1 = _; omega⟩
section
variable {b pp pt pu pi pm mp : Nat} {B : Bs} {w0 w : World} {A0 : Nat → Prop}
set_option maxHeartbeats 2000000 in
theorem push_hp (h : B.ok) (T : Hp w0 A0 w (busObs b pp pt pu pi pm mp B)) (x : Nat) (hx : x < 256) :
    Calls Try.prog 19 #[.pointer (some ⟨b, 0, none⟩), .int .u8 (x : Nat)] w fun e w' => e = .returned (.tuple #[]) ∧ Hp w0 A0 w' (busObs b pp pt pu pi pm mp (B.push x)) := by
  have HO := Lib.hid h
  clear h
  obtain ⟨k0, k1, k2, k3, k4, k5, k6, k7, kf, kl⟩ := bus_facts T.bus
  go_enter Try.func19, Try.ntmps19
  go_wp2_with fail
  refine (T.act 3 rfl (uart_push x hx)).mono ?_
  rintro e w1 ⟨rfl, T1⟩
  have T2 : Hp w0 A0 w1 (busObs b pp pt pu pi pm mp { B with u := B.u.push x }) := T1
  clear T1
  go_wp2_with fail
  refine (lines_hp (B := { B with u := B.u.push x }) ⟨HO.out.T, HO.out.t⟩ T2).mono ?_
  rintro e w2 ⟨rfl, T3⟩
  go_wp2_with fail
  go_returns
  exact ⟨rfl, T3⟩
set_option maxHeartbeats 2000000 in
theorem ack_hp (h : B.ok) (T : Hp w0 A0 w (busObs b pp pt pu pi pm mp B)) :
    Calls Try.prog 15 #[.pointer (some ⟨b, 0, none⟩)] w fun e w' => e = .returned (.int .i64 (Pic.vec0 B.c B.d : Nat)) ∧ Hp w0 A0 w' (busObs b pp pt pu pi pm mp B.ack) := by
  have HO := Lib.hid h
  clear h
  obtain ⟨k0, k1, k2, k3, k4, k5, k6, k7, kf, kl⟩ := bus_facts T.bus
  go_enter Try.func15, Try.ntmps15
  go_wp2_with fail
  refine (T.act 1 rfl pic_ack).mono ?_
  rintro e w1 ⟨rfl, T1⟩
  have T2 : Hp w0 A0 w1 (busObs b pp pt pu pi pm mp { B with c := Pic.tkc B.c B.d, d := Pic.tkd B.c B.d }) := T1
  clear T1
  go_wp2_with fail
  refine (lines_hp (B := { B with c := Pic.tkc B.c B.d, d := Pic.tkd B.c B.d }) ⟨HO.out.T, HO.out.t⟩ T2).mono ?_
  rintro e w2 ⟨rfl, T3⟩
  go_wp2_with fail
  go_ret
  exact ⟨rfl, T3⟩
set_option maxHeartbeats 2000000 in
theorem pending_hp (T : Hp w0 A0 w (busObs b pp pt pu pi pm mp B)) :
    Calls Try.prog 14 #[.pointer (some ⟨b, 0, none⟩)] w fun e w' => e = .returned (.bool (Pic.told0 B.c B.d)) ∧ Hp w0 A0 w' (busObs b pp pt pu pi pm mp B) := by
  obtain ⟨k0, k1, k2, k3, k4, k5, k6, k7, kf, kl⟩ := bus_facts T.bus
  go_enter Try.func14, Try.ntmps14
  go_wp2_with fail
  refine (T.act 1 rfl pic_pending).mono ?_
  rintro e w1 ⟨rfl, T1⟩
  go_wp2_with fail
  go_ret
  exact ⟨rfl, T1⟩
theorem now_hp (T : Hp w0 A0 w (busObs b pp pt pu pi pm mp B)) :
    Calls Try.prog 13 #[.pointer (some ⟨b, 0, none⟩)] w fun e w' => e = .returned (.int .u64 (B.t : Nat)) ∧ w = w' := by
  obtain ⟨k0, k1, k2, k3, k4, k5, k6, k7, kf, kl⟩ := bus_facts T.bus
  go_enter Try.func13, Try.ntmps13
  go_wp2_with fail
  go_ret
  exact ⟨rfl, rfl⟩
set_option maxRecDepth 20000 in
set_option maxHeartbeats 4000000 in
theorem tick_hp (h : B.ok) (T : Hp w0 A0 w (busObs b pp pt pu pi pm mp B)) (n : Int) (hn : n < 9223372036854775808) (ht : B.t + n.toNat < 18446744073709551615) :
    Calls Try.prog 11 #[.pointer (some ⟨b, 0, none⟩), .int .i64 n] w fun e w' => e = .returned (.tuple #[]) ∧ Hp w0 A0 w' (busObs b pp pt pu pi pm mp (B.ticks n.toNat)) := by
  have HO := Lib.hid h
  have HT := Lib.hid T
  have HN := Lib.hid (And.intro hn ht)
  clear h T hn ht
  go_enter Try.func11, Try.ntmps11
  go_wp2_with fail
  go_loopw [1] (fun i wr => ∃ (k : Nat) (m : Int), m = n - k ∧ k ≤ n.toNat ∧ i = .int .i64 m ∧ Hp w0 A0 wr (busObs b pp pt pu pi pm mp (B.ticks k))) (fun i _ => (intOf i).toNat)
  case atStart => exact ⟨0, n, by omega, by omega, rfl, HT.out⟩
  case round =>
    rename_i wr
    obtain ⟨k, m, hm, hk, rfl, T⟩ := hrel
    have HTT := Lib.hid T
    have HM := Lib.hid (And.intro hm hk)
    by_cases hlt : 0 < m
    · have hkn : k < n.toNat := by omega
      have HKN := Lib.hid hkn
      have ok := Bs.ticks_ok HO.out k (by have := HN.out.2; omega)
      have hw2 : IntKind.i64.wrap (m - 1) = m - 1 := IntWalk.i64_in _ (by have := HN.out.1; omega)
      clear hm hk hkn
      have OK := Lib.hid ok
      obtain ⟨tk, htk⟩ : ∃ tk, tk = (B.ticks k).t := ⟨_, rfl⟩
      have htb := Lib.hid (show (tk : Int) < 18446744073709551614 by have := HN.out.2; have := HKN.out; rw [htk, ok.2]; omega)
      have hw1 : IntKind.u64.wrap ((tk : Int) + 1) = (tk : Int) + 1 := IntWalk.u64_in _ (by have := htb.out; omega)
      obtain ⟨k0, k1, k2, k3, k4, k5, k6, k7, kf, kl⟩ := bus_facts T.bus
      rw [← htk] at k6
      have HTK := Lib.hid htk
      have T1 : Hp w0 A0 (wr.setCell ⟨b, 6, none⟩ (.int .u64 ((tk : Int) + 1))) (busObs b pp pt pu pi pm mp { B.ticks k with t := tk + 1 }) := T.set 0 rfl 6 (.int .u64 ((tk : Int) + 1))
      have HT1 := Lib.hid T1
      clear T T1 htk ok
      go_upto_region 4 with (fail)
      clear k0 k1 k2 k3 k4 k5 k6 k7 kf kl
      go_wp2_with fail
      refine (lines_hp (B := { B.ticks k with t := tk + 1 }) ⟨Tm3.later OK.out.1.T (by show ((B.ticks k).t : Int) ≤ ((tk + 1 : Nat) : Int); rw [← HTK.out]; omega), by show tk + 1 < _; have := htb.out; omega⟩ HT1.out).mono ?_
      rintro e w2 ⟨rfl, T3⟩
      have T4 : Hp w0 A0 w2 (busObs b pp pt pu pi pm mp (B.ticks (k + 1))) := by
        have e : (B.ticks (k + 1)) = ({ B.ticks k with t := tk + 1 } : Bs).lines := by rw [HTK.out]; rfl
        rw [e]; exact T3
      have HT4 := Lib.hid T4
      clear T3 T4
      go_wp2_with fail
      go_roundw
      case rel => exact ⟨k + 1, m - 1, by have := HM.out; omega, by have := HKN.out; omega, rfl, HT4.out⟩
      case measure => (simp [intOf]) <;> omega
    · have hz : m ≤ 0 := by omega
      have hk2 : k = n.toNat := by omega
      have HK2 := Lib.hid hk2
      clear T hk2 hm hk hlt
      go_wp2_with fail
      go_returns
      exact ⟨rfl, by rw [← HK2.out]; exact HTT.out⟩
end
end Go.Proofs.Ytojmpdddfnkffaa

/- bus: New: its ports are laid. -/
namespace Go.Proofs.Ytojmpdddfnkffaa
open Go.RowKit Go.MapKept
set_option linter.unusedVariables false

theorem Side.front {o : Ob} : ∀ (os : List Ob) (i : Nat) {w : World} {H : Nat → Prop}, os[i]? = some o → Side os w H → Side (o :: os.eraseIdx i) w H
  | [], i, w, H, hi, S => by simp at hi
  | x :: os, 0, w, H, hi, S => by
    have hx : x = o := by simpa using hi
    subst hx
    exact S
  | x :: os, i + 1, w, H, hi, S => by
    obtain ⟨A, B, a, b, d, e⟩ := S
    obtain ⟨C, D, c, dd, f, g⟩ := Side.front os i (by simpa using hi) b
    refine ⟨C, fun k => A k ∨ D k, c, ⟨A, D, a, dd, fun k h1 h2 => d k h1 ((g k).2 (.inr h2)), fun k => Iff.rfl⟩, fun k h1 h2 => ?_, fun k => ?_⟩
    · rcases h2 with h2 | h2
      · exact d k h2 ((g k).2 (.inl h1))
      · exact f k h1 h2
    · rw [e k, g k]
      constructor
      · rintro (h | h | h)
        · exact .inr (.inl h)
        · exact .inl h
        · exact .inr (.inr h)
      · rintro (h | h | h)
        · exact .inr (.inl h)
        · exact .inl h
        · exact .inr (.inr h)
theorem Hp.front {w0 w : World} {A0 : Nat → Prop} {os : List Ob} {o : Ob} (T : Hp w0 A0 w os) (i : Nat) (h : os[i]? = some o) : Hp w0 A0 w (o :: os.eraseIdx i) := by
  obtain ⟨A, a, M⟩ := T
  exact ⟨A, Side.front os i h a, M⟩
theorem Hp.one {w : World} {A : Nat → Prop} {o : Ob} (h : o.P w A) : Hp w A w [o] := ⟨A, ⟨A, fun _ => False, h, fun _ h => h, fun _ _ h => h, fun k => ⟨.inl, fun h => h.elim id False.elim⟩⟩, Moves.refl _ _⟩
theorem Hp.un {w0 w : World} {A0 : Nat → Prop} {o : Ob} (T : Hp w0 A0 w [o]) : ∃ A, o.P w A ∧ Moves A0 A w0 w := by
  obtain ⟨A, ⟨B, C, b, c, d, e⟩, M⟩ := T
  exact ⟨B, b, M.1, fun k hk => M.2 k ((e k).2 (.inl hk))⟩
/-- A bus, by its own pointer and the memory's. -/
def oBus (b pm : Nat) (B : Bs) : Ob := Ob.any fun x : Nat × Nat × Nat × Nat × Nat => Ob.all (busObs b x.1 x.2.1 x.2.2.1 x.2.2.2.1 pm x.2.2.2.2 B)
theorem acts_bus {f : FuncId} {args : Array Value} {r : Value} {b pm : Nat} {B B' : Bs}
    (h : ∀ (w0 w : World) (A0 : Nat → Prop) (pp pt pu pi mp : Nat), Hp w0 A0 w (busObs b pp pt pu pi pm mp B) → Calls Try.prog f args w fun e w' => e = .returned r ∧ Hp w0 A0 w' (busObs b pp pt pu pi pm mp B')) : Acts f args (oBus b pm B) r (oBus b pm B') := by
  rintro w A ⟨⟨pp, pt, pu, pi, mp⟩, a⟩
  refine (h w w A pp pt pu pi mp (Hp.start a)).mono ?_
  rintro e w' ⟨rfl, T⟩
  obtain ⟨A', a', M⟩ := T.end_
  exact ⟨rfl, A', ⟨(pp, pt, pu, pi, mp), a'⟩, M⟩
theorem Hp.toBus {w0 w : World} {A0 : Nat → Prop} {b pp pt pu pi pm mp : Nat} {B : Bs} {os : List Ob} (T : Hp w0 A0 w (busObs b pp pt pu pi pm mp B ++ os)) : Hp w0 A0 w (oBus b pm B :: os) :=
  T.pack fun A a => ⟨(pp, pt, pu, pi, mp), a⟩
section
variable {b pm : Nat} {B : Bs}
theorem bus_out (h : B.ok) (hf : B.fits 1000000) (a s v : Nat) (ha : a < 65536) (hs : s = 1 ∨ s = 2 ∨ s = 4) (hv : v < 4294967296) :
    Acts 10 #[.pointer (some ⟨b, 0, none⟩), .int .u16 (a : Nat), .int .i64 (s : Nat), .int .u32 (v : Nat)] (oBus b pm B) (.int .i64 0) (oBus b pm (B.out a s v)) :=
  acts_bus fun w0 w A0 pp pt pu pi mp T => out_hp h hf T a s v ha hs hv
theorem bus_in (h : B.ok) (a s : Nat) (ha : a < 65536) (hs : s = 1 ∨ s = 2 ∨ s = 4) :
    Acts 12 #[.pointer (some ⟨b, 0, none⟩), .int .u16 (a : Nat), .int .i64 (s : Nat)] (oBus b pm B) (.tuple #[.int .u32 (B.wideV a s : Nat), .int .i64 0]) (oBus b pm (B.inS a s)) :=
  acts_bus fun w0 w A0 pp pt pu pi mp T => in_hp h T a s ha hs
theorem bus_tick (h : B.ok) (n : Int) (hn : n < 9223372036854775808) (ht : B.t + n.toNat < 18446744073709551615) :
    Acts 11 #[.pointer (some ⟨b, 0, none⟩), .int .i64 n] (oBus b pm B) (.tuple #[]) (oBus b pm (B.ticks n.toNat)) :=
  acts_bus fun w0 w A0 pp pt pu pi mp T => tick_hp h T n hn ht
theorem bus_push (h : B.ok) (x : Nat) (hx : x < 256) : Acts 19 #[.pointer (some ⟨b, 0, none⟩), .int .u8 (x : Nat)] (oBus b pm B) (.tuple #[]) (oBus b pm (B.push x)) :=
  acts_bus fun w0 w A0 pp pt pu pi mp T => push_hp h T x hx
theorem bus_ack (h : B.ok) : Acts 15 #[.pointer (some ⟨b, 0, none⟩)] (oBus b pm B) (.int .i64 (Pic.vec0 B.c B.d : Nat)) (oBus b pm B.ack) :=
  acts_bus fun w0 w A0 pp pt pu pi mp T => ack_hp h T
theorem bus_pending : Acts 14 #[.pointer (some ⟨b, 0, none⟩)] (oBus b pm B) (.bool (Pic.told0 B.c B.d)) (oBus b pm B) :=
  acts_bus fun w0 w A0 pp pt pu pi mp T => pending_hp T
theorem bus_now : Acts 13 #[.pointer (some ⟨b, 0, none⟩)] (oBus b pm B) (.int .u64 (B.t : Nat)) (oBus b pm B) :=
  acts_bus fun w0 w A0 pp pt pu pi mp T => by
    refine (now_hp T).mono ?_
    rintro e w1 ⟨rfl, rfl⟩
    exact ⟨rfl, T⟩
theorem bus_write (a v : Nat) (ha : a < 4294967296) (hv : v < 4294967296) (s : Nat) (hs : s = 1 ∨ s = 2 ∨ s = 4) : Acts 21 #[.pointer (some ⟨pm, 0, .none⟩), .int .u32 a, .int .i64 (s : Nat), .int .u32 v] (oBus b pm B) (.int .i64 0) (oBus b pm { B with R := B.R.write a v s }) :=
  acts_bus fun w0 w A0 pp pt pu pi mp T => T.act 5 rfl (ram_write a v ha hv s hs)
theorem bus_read (a : Nat) (ha : a < 4294967296) (s : Nat) (hs : s = 1 ∨ s = 2 ∨ s = 4) : Acts 22 #[.pointer (some ⟨pm, 0, .none⟩), .int .u32 a, .int .i64 (s : Nat)] (oBus b pm B) (.tuple #[.int .u32 (B.R.read a s : Nat), .int .i64 0]) (oBus b pm B) :=
  acts_bus fun w0 w A0 pp pt pu pi mp T => T.act 5 rfl (ram_read a ha s hs)
end
def laid (first from_ n : Nat) (fo fi : Value) (f : Nat → Option Value) : Nat → Option Value := fun p => if first ≤ p ∧ p < first + n then some (.agg #[fo, fi, .int .i64 ((from_ + (p - first) : Nat) : Int)]) else f p
theorem laid_zero (first from_ : Nat) (fo fi : Value) (f : Nat → Option Value) (p : Nat) : laid first from_ 0 fo fi f p = f p := if_neg (by omega)
theorem laid_succ (first from_ n : Nat) (fo fi : Value) (f : Nat → Option Value) (p : Nat) : laid first from_ (n + 1) fo fi f p = if p = first + n then some (.agg #[fo, fi, .int .i64 ((from_ + n : Nat) : Int)]) else laid first from_ n fo fi f p := by
  unfold laid
  by_cases h : p = first + n
  · subst h
    rw [if_pos rfl, if_pos (by omega), show first + n - first = n by omega]
  · rw [if_neg h]
    by_cases h2 : first ≤ p ∧ p < first + n
    · rw [if_pos h2, if_pos (by omega)]
    · rw [if_neg h2, if_neg (by omega)]
set_option maxRecDepth 20000 in
set_option maxHeartbeats 4000000 in
theorem lay_any {w : World} {x b mp : Nat} (first from_ n : Nat) (fo gi : FuncId) (f : Nat → Option Value) (hx : w.cell? ⟨x, 0, none⟩ = some (.pointer (some ⟨b, 0, none⟩))) (hb : w.cell? ⟨b, 7, none⟩ = some (.map (some mp)))
    (H : MapAt w mp .u16 f) (h1 : x ≠ mp) (h2 : b ≠ mp) (hn : n ≤ 8) (hf : first + n < 65536) (hfr : from_ ≤ 8) :
    Calls Try.prog 39 #[.int .u16 (first : Nat), .func (.func fo) #[.pointer (some ⟨b, 0, none⟩)] #[], .func (.func gi) #[.pointer (some ⟨b, 0, none⟩)] #[], .int .i64 (from_ : Nat), .int .i64 (n : Nat), .pointer (some ⟨x, 0, none⟩)] w
      fun e w' => e = .returned (.tuple #[]) ∧ MapAt w' mp .u16 (laid first from_ n (.func (.func fo) #[.pointer (some ⟨b, 0, none⟩)] #[]) (.func (.func gi) #[.pointer (some ⟨b, 0, none⟩)] #[]) f) ∧ Keeps (· = mp) w w' := by
  have HX := Lib.hid (And.intro hx hb)
  have HH := Lib.hid H
  have hxl := World.block_lt_of_cell? _ _ hx
  have hbl := World.block_lt_of_cell? _ _ hb
  clear hx hb H
  go_enter Try.func39, Try.ntmps39
  go_wp2_with fail
  go_loopw [13] (fun i wr => ∃ k : Nat, k ≤ n ∧ i = .int .i64 k ∧ MapAt wr mp .u16 (laid first from_ k (.func (.func fo) #[.pointer (some ⟨b, 0, none⟩)] #[]) (.func (.func gi) #[.pointer (some ⟨b, 0, none⟩)] #[]) f) ∧ Keeps (· = mp) w wr) (fun i _ => n - (intOf i).toNat)
  case atStart => exact ⟨0, by omega, rfl, HH.out.ext (laid_zero _ _ _ _ _), Keeps.refl _ _⟩
  case round =>
    rename_i wr
    obtain ⟨k, hk, rfl, M, K⟩ := hrel
    by_cases hlt : k < n
    · have c1 : wr.cell? ⟨x, 0, none⟩ = some (.pointer (some ⟨b, 0, none⟩)) := (World.cell?_of_block (K.block x hxl h1)).trans HX.out.1
      have c2 : wr.cell? ⟨b, 7, none⟩ = some (.map (some mp)) := (World.cell?_of_block (K.block b hbl h2)).trans HX.out.2
      obtain ⟨w4, hup, M4, K4⟩ := M.update (P := Try.prog) (t := 70) (k := 32) (e := 77) (by kernel_rfl) (by kernel_rfl) (first + k) ((first : Int) + (k : Int)) (by omega) (.agg #[.func (.func fo) #[.pointer (some ⟨b, 0, none⟩)] #[], .func (.func gi) #[.pointer (some ⟨b, 0, none⟩)] #[], .int .i64 ((from_ : Int) + (k : Int))])
      have HM4 := Lib.hid M4
      have HK4 := Lib.hid (K.trans K4)
      clear M K M4 K4
      go_wp2_with fail
      go_roundw
      case rel => exact ⟨k + 1, by omega, by go_num, HM4.out.ext fun p => by rw [laid_succ, Int.natCast_add], HK4.out⟩
      case measure => (simp [intOf]) <;> omega
    · have hk2 : k = n := by omega
      subst hk2
      have HM := Lib.hid (And.intro M K)
      clear M K
      go_wp2_with fail
      go_returns
      exact ⟨rfl, HM.out.1, HM.out.2⟩
end Go.Proofs.Ytojmpdddfnkffaa

/- bus: New. -/
namespace Go.Proofs.Ytojmpdddfnkffaa
open Go.RowKit Go.MapKept
set_option linter.unusedVariables false

def Bs.new (R : RS) (n : Nat) (d : Nat → Nat) : Bs := (Bs.mk Pic.chip0 Pic.chip0 ⟨Pit.ctNew, Pit.ctNew, Pit.ctNew⟩ Uart.Ut.new (Ide.Dk.new n d) true (R.gate true) 0).lines
theorem reads_below {w w' : World} {v : Value} {n : Nat} {d : Nat → Nat} (h : Ide.Reads w v n d) (hb : Below w.heap.size w w') : Ide.Reads w' v n d := by
  obtain ⟨a, c, rfl, h | ⟨b, off, rfl, hl, hc⟩⟩ := h
  · exact ⟨a, c, rfl, .inl h⟩
  · exact ⟨_, c, rfl, .inr ⟨b, off, rfl, Nat.lt_of_lt_of_le hl hb.size, fun i hi => (World.cell?_of_block (hb.block b hl)).trans (hc i hi)⟩⟩
def fv (g b : Nat) : Value := .func (.func g) #[.pointer (some ⟨b, 0, none⟩)] #[]
def lay7 (b : Nat) : Nat → Option Value :=
  laid 0x92 0 1 (fv (outF 4) b) (fv (inF 4) b) (laid 0x3F6 8 1 (fv (outF 3) b) (fv (inF 3) b) (laid 0x1F0 0 8 (fv (outF 3) b) (fv (inF 3) b) (laid 0x3F8 0 8 (fv (outF 2) b) (fv (inF 2) b)
    (laid 0x40 0 4 (fv (outF 1) b) (fv (inF 1) b) (laid 0xA0 2 2 (fv (outF 0) b) (fv (inF 0) b) (laid 0x20 0 2 (fv (outF 0) b) (fv (inF 0) b) (fun _ => none)))))))
theorem lay7_prt (b p : Nat) : prt b p = lay7 b p := by
  unfold prt lay7 laid dev fv
  by_cases h1 : 0x20 ≤ p ∧ p < 0x22
  · rw [if_pos h1]; repeat rw [if_neg (by omega)]
    rw [if_pos (by omega), Nat.zero_add]; rfl
  rw [if_neg h1]
  by_cases h2 : 0xA0 ≤ p ∧ p < 0xA2
  · rw [if_pos h2]; repeat rw [if_neg (by omega)]
    rw [if_pos (by omega), Nat.add_comm]; rfl
  rw [if_neg h2]
  by_cases h3 : 0x40 ≤ p ∧ p < 0x44
  · rw [if_pos h3]; repeat rw [if_neg (by omega)]
    rw [if_pos (by omega), Nat.zero_add]; rfl
  rw [if_neg h3]
  by_cases h4 : 0x3F8 ≤ p ∧ p < 0x400
  · rw [if_pos h4]; repeat rw [if_neg (by omega)]
    rw [if_pos (by omega), Nat.zero_add]; rfl
  rw [if_neg h4]
  by_cases h5 : 0x1F0 ≤ p ∧ p < 0x1F8
  · rw [if_pos h5]; repeat rw [if_neg (by omega)]
    rw [if_pos (by omega), Nat.zero_add]; rfl
  rw [if_neg h5]
  by_cases h6 : p = 0x3F6
  · subst h6; rfl
  rw [if_neg h6]
  by_cases h7 : p = 0x92
  · subst h7; rfl
  rw [if_neg h7]
  repeat rw [if_neg (by omega)]
  rfl
/-- Its ports are laid, so far. -/
def newObs (b x pp pt pu pi pm mp : Nat) (R : RS) (n : Nat) (d : Nat → Nat) (f : Nat → Option Value) : List Ob :=
  [oRam pm R, oIde pi (Ide.Dk.new n d), oPic pp Pic.chip0 Pic.chip0, oTm pt ⟨Pit.ctNew, Pit.ctNew, Pit.ctNew⟩, oUart pu Uart.Ut.new, oMap mp f, Ob.box b (.cells (busCells pp pt pu pi pm mp true 0) 72), Ob.box x (.cells #[.pointer (some ⟨b, 0, none⟩)] 25)]
section
variable {b x pp pt pu pi pm mp : Nat} {R : RS} {n : Nat} {d : Nat → Nat} {f : Nat → Option Value} {w0 w : World} {A0 : Nat → Prop}
theorem lay_hp (T : Hp w0 A0 w (newObs b x pp pt pu pi pm mp R n d f)) (first from_ m : Nat) (fo gi : FuncId) (hm : m ≤ 8) (hf : first + m < 65536) (hfr : from_ ≤ 8) :
    Calls Try.prog 39 #[.int .u16 (first : Nat), fv fo b, fv gi b, .int .i64 (from_ : Nat), .int .i64 (m : Nat), .pointer (some ⟨x, 0, none⟩)] w
      fun e w' => e = .returned (.tuple #[]) ∧ Hp w0 A0 w' (newObs b x pp pt pu pi pm mp R n d (laid first from_ m (fv fo b) (fv gi b) f)) := by
  have hb := T.box 6 rfl
  have hx := T.box 7 rfl
  have hb7 := (bus_facts hb).2.2.2.2.2.2.2.1
  have hx0 : w.cell? ⟨x, 0, none⟩ = some (.pointer (some ⟨b, 0, none⟩)) := by rw [cell_at hx]; rfl
  obtain ⟨A, ⟨M, e⟩, g⟩ := T.turn 5 rfl
  have h1 : x ≠ mp := by
    rintro rfl
    obtain ⟨es, clock, hm, -⟩ := M
    rw [hx] at hm; cases hm
  have h2 : b ≠ mp := by
    rintro rfl
    obtain ⟨es, clock, hm, -⟩ := M
    rw [hb] at hm; cases hm
  refine (lay_any first from_ m fo gi f hx0 hb7 M h1 h2 hm hf hfr).mono ?_
  rintro e' w1 ⟨rfl, M1, K⟩
  exact ⟨rfl, g w1 A (oMap mp (laid first from_ m (fv fo b) (fv gi b) f)) ⟨M1, e⟩ (moves_one e K)⟩
theorem Hp.built (T : Hp w0 A0 w (newObs b x pp pt pu pi pm mp R n d (lay7 b))) : Hp w0 A0 w (busObs b pp pt pu pi pm mp (Bs.mk Pic.chip0 Pic.chip0 ⟨Pit.ctNew, Pit.ctNew, Pit.ctNew⟩ Uart.Ut.new (Ide.Dk.new n d) true R 0) ++ [Ob.box x (.cells #[.pointer (some ⟨b, 0, none⟩)] 25)]) := by
  have T1 := T.alter 5 (x := oMap mp (prt b)) rfl fun A h => ⟨h.1.ext (lay7_prt b), h.2⟩
  have T2 := T1.front 5 rfl
  have T3 := T2.front 1 rfl
  have T4 := T3.front 2 rfl
  have T5 := T4.front 5 rfl
  have T6 := T5.front 5 rfl
  have T7 := T6.front 5 rfl
  exact T7.front 6 rfl
end
theorem mk_map (w : World) : (Instr.makeMap 70 none).run Try.prog w = .ok (.map (some w.heap.size)) (w.alloc (.map #[] 0)) := by kernel_rfl
section
variable {pm : Nat} {R : RS} {n : Nat} {d : Nat → Nat} {v : Value} {w0 w : World} {A0 : Nat → Prop}
set_option maxRecDepth 20000 in
set_option maxHeartbeats 4000000 in
theorem new_hp (T : Hp w0 A0 w [oRam pm R]) (H : Ide.Reads w v (n * 512) d) (hn : n ≤ 64) (hd : ∀ i, d i < 256) :
    Calls Try.prog 18 #[.pointer (some ⟨pm, 0, none⟩), v] w fun e w' => ∃ b, e = .returned (.tuple #[.pointer (some ⟨b, 0, none⟩), .int .i64 0]) ∧ Hp w0 A0 w' [oBus b pm (Bs.new R n d)] := by
  have HT := Lib.hid T
  have HH := Lib.hid (And.intro H (And.intro hn hd))
  obtain ⟨va, vc, rfl, -⟩ := H
  clear T hn hd
  go_enter Try.func18, Try.ntmps18
  go_wp2_with fail
  refine (Ide.new_yes HH.out.1 HH.out.2.1 HH.out.2.2).mono ?_
  rintro e w1 ⟨pi, ds, rfl, I1, i2, i3, hb1⟩
  have T1 := HT.out.new hb1 (o := oIde pi (Ide.Dk.new n d)) (A := Ide.Held pi ds (.slice none 0 0)) ⟨ds, _, I1, Ide.room_fresh _, fun k => Iff.rfl⟩ (fun k hk => by
    rcases hk with rfl | hk | hk
    · exact i2
    · exact i3 k hk
    · cases hk)
  have HT1 := Lib.hid T1
  clear I1 i2 i3 hb1 T1
  go_wp2_with fail
  refine (Pic.new_any _).mono ?_
  rintro e w2 ⟨rfl, P2, hb2⟩
  have T2 := HT1.out.new hb2 (o := oPic w1.heap.size Pic.chip0 Pic.chip0) (A := fun k => k = w1.heap.size) ⟨P2, ⟨Pic.chip0_ok, Pic.chip0_ok⟩, fun k => Iff.rfl⟩ (fun k hk => by omega)
  generalize w1.heap.size = pp at *
  have HT2 := Lib.hid T2
  clear T2 P2 hb2
  go_wp2_with fail
  refine (Pit.tm_new _).mono ?_
  rintro e w3 ⟨rfl, P3, hb3⟩
  have T3 := HT2.out.new hb3 (o := oTm w2.heap.size ⟨Pit.ctNew, Pit.ctNew, Pit.ctNew⟩) (A := fun k => k = w2.heap.size) ⟨P3, fun k => Iff.rfl⟩ (fun k hk => by omega)
  generalize w2.heap.size = pt at *
  have HT3 := Lib.hid T3
  clear T3 P3 hb3
  go_wp2_with fail
  refine (Uart.new_any _).mono ?_
  rintro e w4 ⟨pu, q, rfl, U4, u1, u2, hb4⟩
  have T4 := HT3.out.new hb4 (o := oUart pu Uart.Ut.new) (A := Uart.Held pu q (.slice none 0 0)) ⟨q, _, U4, fun k => Iff.rfl⟩ (fun k hk => by
    rcases hk with rfl | rfl | hk
    · exact u1
    · exact u2
    · cases hk)
  have T5 := T4.new (w' := w4.alloc (.map #[] 0)) (o := oMap w4.heap.size (fun _ => none)) ((Below.refl _ _).alloc (Nat.le_refl _) _) (A := fun k => k = w4.heap.size) ⟨MapAt.new w4 .u16, fun k => Iff.rfl⟩ (fun k hk => by omega)
  have T6 := T5.make (.cells (busCells pp pt pu pi pm w4.heap.size true 0) 72)
  have T7 := T6.make (.cells #[.pointer (some ⟨(w4.alloc (.map #[] 0)).heap.size, 0, none⟩)] 25)
  simp only [World.size_alloc] at T7
  have HT7 := Lib.hid T7
  clear T4 T5 T6 T7 U4 u1 u2 hb4
  have hmk := mk_map w4
  go_upto_region 7 with (fail)
  have T8 : Hp w0 A0 (((w4.alloc (.map #[] 0)).alloc (.cells #[.pointer (some ⟨pp, 0, none⟩), .pointer (some ⟨pt, 0, none⟩), .pointer (some ⟨pu, 0, none⟩), .pointer (some ⟨pi, 0, none⟩), .pointer (some ⟨pm, 0, none⟩), .bool true, .int .u64 0, .map (some w4.heap.size)] 72)).alloc (.cells #[.pointer (some ⟨w4.heap.size + 1, 0, none⟩)] 25)) (newObs (w4.heap.size + 1) (w4.heap.size + 1 + 1) pp pt pu pi pm w4.heap.size R n d (fun _ => none)) := HT7.out
  clear HT7 hmk HT1 HT2 HT3
  generalize (((w4.alloc (.map #[] 0)).alloc (.cells #[.pointer (some ⟨pp, 0, none⟩), .pointer (some ⟨pt, 0, none⟩), .pointer (some ⟨pu, 0, none⟩), .pointer (some ⟨pi, 0, none⟩), .pointer (some ⟨pm, 0, none⟩), .bool true, .int .u64 0, .map (some w4.heap.size)] 72)).alloc (.cells #[.pointer (some ⟨w4.heap.size + 1, 0, none⟩)] 25)) = W at *
  generalize w4.heap.size + 1 + 1 = x at *
  generalize w4.heap.size + 1 = b at *
  generalize w4.heap.size = mp at *
  go_wp2_with fail
  refine (T8.act 0 rfl (ram_gate true)).mono ?_
  rintro e v0 ⟨rfl, S0⟩
  replace S0 : Hp w0 A0 v0 (newObs b x pp pt pu pi pm mp (R.gate true) n d (fun _ => none)) := S0
  clear T8
  have hx : v0.cell? ⟨x, 0, none⟩ = some (.pointer (some ⟨b, 0, none⟩)) := by rw [cell_at (S0.box 7 rfl)]; rfl
  have HS0 := Lib.hid S0
  clear S0
  go_wp2_with fail
  refine (lay_hp HS0.out 32 0 2 40 41 (by decide) (by decide) (by decide)).mono ?_
  rintro e v1 ⟨rfl, S1⟩
  replace S1 : Hp w0 A0 v1 (newObs b x pp pt pu pi pm mp (R.gate true) n d (laid 32 0 2 (fv (outF 0) b) (fv (inF 0) b) (fun _ => none))) := S1
  clear hx
  have hx : v1.cell? ⟨x, 0, none⟩ = some (.pointer (some ⟨b, 0, none⟩)) := by rw [cell_at (S1.box 7 rfl)]; rfl
  have HS1 := Lib.hid S1
  clear S1
  go_wp2_with fail
  refine (lay_hp HS1.out 160 2 2 40 41 (by decide) (by decide) (by decide)).mono ?_
  rintro e v2 ⟨rfl, S2⟩
  replace S2 : Hp w0 A0 v2 (newObs b x pp pt pu pi pm mp (R.gate true) n d (laid 160 2 2 (fv (outF 0) b) (fv (inF 0) b) (laid 32 0 2 (fv (outF 0) b) (fv (inF 0) b) (fun _ => none)))) := S2
  clear hx
  have hx : v2.cell? ⟨x, 0, none⟩ = some (.pointer (some ⟨b, 0, none⟩)) := by rw [cell_at (S2.box 7 rfl)]; rfl
  have HS2 := Lib.hid S2
  clear S2
  go_wp2_with fail
  refine (lay_hp HS2.out 64 0 4 42 43 (by decide) (by decide) (by decide)).mono ?_
  rintro e v3 ⟨rfl, S3⟩
  replace S3 : Hp w0 A0 v3 (newObs b x pp pt pu pi pm mp (R.gate true) n d (laid 64 0 4 (fv (outF 1) b) (fv (inF 1) b) (laid 160 2 2 (fv (outF 0) b) (fv (inF 0) b) (laid 32 0 2 (fv (outF 0) b) (fv (inF 0) b) (fun _ => none))))) := S3
  clear hx
  have hx : v3.cell? ⟨x, 0, none⟩ = some (.pointer (some ⟨b, 0, none⟩)) := by rw [cell_at (S3.box 7 rfl)]; rfl
  have HS3 := Lib.hid S3
  clear S3
  go_wp2_with fail
  refine (lay_hp HS3.out 1016 0 8 44 45 (by decide) (by decide) (by decide)).mono ?_
  rintro e v4 ⟨rfl, S4⟩
  replace S4 : Hp w0 A0 v4 (newObs b x pp pt pu pi pm mp (R.gate true) n d (laid 1016 0 8 (fv (outF 2) b) (fv (inF 2) b) (laid 64 0 4 (fv (outF 1) b) (fv (inF 1) b) (laid 160 2 2 (fv (outF 0) b) (fv (inF 0) b) (laid 32 0 2 (fv (outF 0) b) (fv (inF 0) b) (fun _ => none)))))) := S4
  clear hx
  have hx : v4.cell? ⟨x, 0, none⟩ = some (.pointer (some ⟨b, 0, none⟩)) := by rw [cell_at (S4.box 7 rfl)]; rfl
  have HS4 := Lib.hid S4
  clear S4
  go_wp2_with fail
  refine (lay_hp HS4.out 496 0 8 46 47 (by decide) (by decide) (by decide)).mono ?_
  rintro e v5 ⟨rfl, S5⟩
  replace S5 : Hp w0 A0 v5 (newObs b x pp pt pu pi pm mp (R.gate true) n d (laid 496 0 8 (fv (outF 3) b) (fv (inF 3) b) (laid 1016 0 8 (fv (outF 2) b) (fv (inF 2) b) (laid 64 0 4 (fv (outF 1) b) (fv (inF 1) b) (laid 160 2 2 (fv (outF 0) b) (fv (inF 0) b) (laid 32 0 2 (fv (outF 0) b) (fv (inF 0) b) (fun _ => none))))))) := S5
  clear hx
  have hx : v5.cell? ⟨x, 0, none⟩ = some (.pointer (some ⟨b, 0, none⟩)) := by rw [cell_at (S5.box 7 rfl)]; rfl
  have HS5 := Lib.hid S5
  clear S5
  go_wp2_with fail
  refine (lay_hp HS5.out 1014 8 1 46 47 (by decide) (by decide) (by decide)).mono ?_
  rintro e v6 ⟨rfl, S6⟩
  replace S6 : Hp w0 A0 v6 (newObs b x pp pt pu pi pm mp (R.gate true) n d (laid 1014 8 1 (fv (outF 3) b) (fv (inF 3) b) (laid 496 0 8 (fv (outF 3) b) (fv (inF 3) b) (laid 1016 0 8 (fv (outF 2) b) (fv (inF 2) b) (laid 64 0 4 (fv (outF 1) b) (fv (inF 1) b) (laid 160 2 2 (fv (outF 0) b) (fv (inF 0) b) (laid 32 0 2 (fv (outF 0) b) (fv (inF 0) b) (fun _ => none)))))))) := S6
  clear hx
  have hx : v6.cell? ⟨x, 0, none⟩ = some (.pointer (some ⟨b, 0, none⟩)) := by rw [cell_at (S6.box 7 rfl)]; rfl
  have HS6 := Lib.hid S6
  clear S6
  go_wp2_with fail
  refine (lay_hp HS6.out 146 0 1 48 49 (by decide) (by decide) (by decide)).mono ?_
  rintro e v7 ⟨rfl, S7⟩
  replace S7 : Hp w0 A0 v7 (newObs b x pp pt pu pi pm mp (R.gate true) n d (laid 146 0 1 (fv (outF 4) b) (fv (inF 4) b) (laid 1014 8 1 (fv (outF 3) b) (fv (inF 3) b) (laid 496 0 8 (fv (outF 3) b) (fv (inF 3) b) (laid 1016 0 8 (fv (outF 2) b) (fv (inF 2) b) (laid 64 0 4 (fv (outF 1) b) (fv (inF 1) b) (laid 160 2 2 (fv (outF 0) b) (fv (inF 0) b) (laid 32 0 2 (fv (outF 0) b) (fv (inF 0) b) (fun _ => none))))))))) := S7
  clear hx
  have hx : v7.cell? ⟨x, 0, none⟩ = some (.pointer (some ⟨b, 0, none⟩)) := by rw [cell_at (S7.box 7 rfl)]; rfl
  have HS7 := Lib.hid (Hp.built S7)
  clear S7
  go_wp2_with fail
  have ok0 : (Bs.mk Pic.chip0 Pic.chip0 ⟨Pit.ctNew, Pit.ctNew, Pit.ctNew⟩ Uart.Ut.new (Ide.Dk.new n d) true (R.gate true) 0).ok := ⟨⟨Pit.ctNew_ok 0 (Int.le_refl 0), Pit.ctNew_ok 0 (Int.le_refl 0), Pit.ctNew_ok 0 (Int.le_refl 0)⟩, by show 0 < _; decide⟩
  have TL := HS7.out.toBus
  obtain ⟨A1, h1, hg⟩ := TL.turn 0 rfl
  have TX := Hp.left (l1 := busObs b pp pt pu pi pm mp (Bs.mk Pic.chip0 Pic.chip0 ⟨Pit.ctNew, Pit.ctNew, Pit.ctNew⟩ Uart.Ut.new (Ide.Dk.new n d) true (R.gate true) 0)) HS7.out
  have hx9 := hx
  have hl := acts_bus (b := b) (pm := pm) (fun w0 w A0 pp pt pu pi mp T => lines_hp ok0 T)
  refine (TL.act 0 rfl hl).mono ?_
  rintro e v8 ⟨rfl, S8⟩
  have hx8 : v8.cell? ⟨x, 0, none⟩ = some (.pointer (some ⟨b, 0, none⟩)) := by rw [cell_at (S8.box 1 rfl)]; rfl
  clear hx hx9
  go_wp2_with fail
  go_ret2
  exact ⟨b, rfl, Hp.left (l1 := [oBus b pm (Bs.new R n d)]) S8⟩
end
end Go.Proofs.Ytojmpdddfnkffaa

