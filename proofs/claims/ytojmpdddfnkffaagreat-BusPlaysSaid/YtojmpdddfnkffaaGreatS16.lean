/- Steps of a proof: BusS, BusAsk, IdeP, IdeQ, IdeR, IdeS, IdeT, BusAl, BusAn, together. -/
import Derived.Test.YtojmpdddfnkffaaGreatS11
import Derived.Test.YtojmpdddfnkffaaGreatS10
import Derived.Test.YtojmpdddfnkffaaGreatS15
import Derived.Deep.RegionWith
import Derived.Test.YtojmpdddfnkffaaGreatS4
import Derived.Laws.BytesArg
import Derived.BigQuiet
import Derived.Deep.RegionHeld3
/- bus: two buses, the program's and the document's; what was sent; the calls at the head of all statements. -/
set_option maxHeartbeats 40000000
set_option maxRecDepth 20000
namespace Go.Proofs.YtojmpdddfnkffaaGreat
open Go.RowKit Go.MapKept
set_option linter.unusedVariables false

section
variable {b pm rb rm : Nat} {B : Bs} {R : RS} {n : Nat} {d : Nat → Nat} {v : Value} {w0 w : World} {A0 : Nat → Prop} {os : List Ob}
theorem new_call (T : Hp w0 A0 w os) (i : Nat) (hi : os[i]? = some (oRam pm R)) (H : Ide.Reads w v (n * 512) d) (hn : n ≤ 64) (hd : ∀ i, d i < 256) :
    Calls Tryz.prog 6 #[.pointer (some ⟨pm, 0, none⟩), v] w fun e w' => ∃ b, e = .returned (.tuple #[.pointer (some ⟨b, 0, none⟩), .int .i64 0]) ∧ Hp w0 A0 w' (os.set i (oBus b pm (Bs.new R n d))) := by
 refine (T.call i (Q := fun e o => ∃ b, e = .returned (.tuple #[.pointer (some ⟨b, 0, none⟩), .int .i64 0]) ∧ o = oBus b pm (Bs.new R n d)) hi fun A a => ?_).mono ?_
 ·refine (new_hp (Hp.one a) H hn hd).mono ?_
  rintro e w1 ⟨b, rfl, T1⟩
  exact ⟨_, ⟨b, rfl, rfl⟩, T1.un⟩
 ·rintro e w1 ⟨o, ⟨b, rfl, rfl⟩, T1⟩
  exact ⟨b, rfl, T1⟩
theorem rnew_call (T : Hp w0 A0 w os) (i : Nat) (hi : os[i]? = some (oRef pm R)) (H : Ide.Reads w v (n * 512) d) (hn : n ≤ 64) (hd : ∀ i, d i < 256) :
    Calls Tryz.prog 8 #[.pointer (some ⟨pm, 0, none⟩), v] w fun e w' => ∃ b, e = .returned (.tuple #[.pointer (some ⟨b, 0, none⟩), .int .i64 0]) ∧ Hp w0 A0 w' (os.set i (oRBus b pm (Bs.new R n d))) := by
 refine (T.call i (Q := fun e o => ∃ b, e = .returned (.tuple #[.pointer (some ⟨b, 0, none⟩), .int .i64 0]) ∧ o = oRBus b pm (Bs.new R n d)) hi fun A a => ?_).mono ?_
 ·refine (rnew_hp (Hp.one a) H hn hd).mono ?_
  rintro e w1 ⟨b, rfl, T1⟩
  exact ⟨_, ⟨b, rfl, rfl⟩, T1.un⟩
 ·rintro e w1 ⟨o, ⟨b, rfl, rfl⟩, T1⟩
  exact ⟨b, rfl, T1⟩
theorem both_any (w : World) (v : Value) (p : Nat) (h1 : 1 ≤ p) (h2 : p ≤ 256) (H : Ide.Reads w v (n * 512) d) (hn : n ≤ 64) (hd : ∀ i, d i < 256) :
    Calls Tryz.prog 9 #[.int .i64 (p : Nat), v] w fun e w' => ∃ b c m r, e = .returned (.tuple #[.pointer (some ⟨b, 0, none⟩), .pointer (some ⟨c, 0, none⟩), .pointer (some ⟨m, 0, none⟩)]) ∧
     Hp w (fun _ => False) w' [oBus b m (Bs.new (RS.new p) n d), oRBus c r (Bs.new (RS.new p) n d)] := by
 have HH := Lib.hid (And.intro H (And.intro hn hd))
 obtain ⟨va, vc, rfl, -⟩ := H
 clear hn hd
 go_enter Tryz.func9, Tryz.ntmps9
 go_wp2_with fail
 refine (new_any w p h1 h2).mono ?_
 rintro e w1 ⟨m, S, rfl, M1, N1, hb1⟩
 have T1 : Hp w (fun _ => False) w1 [oRam m (RS.new p)] := (Hp.zero w).new hb1 (o := oRam m (RS.new p)) M1 N1
 have HT1 := Lib.hid T1
 clear T1 M1 N1 hb1
 go_wp2_with fail
 refine (rnew_any w1 p h1 h2).mono ?_
 rintro e w2 ⟨r, S2, rfl, M2, N2, hb2⟩
 have T2 : Hp w (fun _ => False) w2 [oRam m (RS.new p), oRef r (RS.new p)] := HT1.out.new hb2 (o := oRef r (RS.new p)) M2 N2
 have HT2 := Lib.hid T2
 clear T2 M2 N2 hb2 HT1
 go_wp2_with fail
 refine (new_call HT2.out 0 rfl (reads_below HH.out.1 HT2.out.below) HH.out.2.1 HH.out.2.2).mono ?_
 rintro e w3 ⟨b, rfl, T3⟩
 have HT3 := Lib.hid T3
 clear T3 HT2
 go_wp2_with fail
 refine (rnew_call HT3.out 1 rfl (reads_below HH.out.1 HT3.out.below) HH.out.2.1 HH.out.2.2).mono ?_
 rintro e w4 ⟨c, rfl, T4⟩
 have HT4 := Lib.hid T4
 clear T4 HT3
 go_wp2_with fail
 go_returns
 exact ⟨b, c, m, r, rfl, HT4.out⟩
theorem usent {U : Uart.Ut} {A : Nat → Prop} (a : (oUart b U).P w A) : Calls Tryz.prog 63 #[.pointer (some ⟨b, 0, none⟩)] w fun e w' => ∃ o', (∃ v, e = .returned v ∧ o' = Ob.all [oUart b U.quit, oRow 5 v U.sent.length (Uart.bytesV U.sent)]) ∧ ∃ A', o'.P w' A' ∧ Moves A A' w w' := by
 obtain ⟨q, sv, H, e⟩ := a
 have hb := H.bs
 have hq := H.qs
 refine (Uart.sent_any H).mono ?_
 rintro x w1 ⟨rfl, H1, hr, K⟩
 refine ⟨_, ⟨sv, rfl, rfl⟩, A, ⟨Uart.Held b q (.slice none 0 0), fun k => sv.ownBlock = some k, ⟨q, _, H1, fun k => Iff.rfl⟩, ⟨fun k => sv.ownBlock = some k, fun _ => False, ⟨hr, fun k => Iff.rfl⟩, fun _ h => h, fun _ _ h => h, fun k => ⟨.inl, fun h => h.elim id False.elim⟩⟩, ?_, fun k => ?_⟩, K.mono fun k _ h => (e k).2 (h.imp id .inl), fun k hk => .inl hk⟩
 ·rintro k (rfl | rfl | hk) h2
  ·exact hb h2
  ·exact hq h2
  ·cases hk
 ·rw [e k]
  constructor
  ·rintro (h | h | h)
   ·exact .inl (.inl h)
   ·exact .inl (.inr (.inl h))
   ·exact .inr h
  ·rintro ((h | h | h) | h)
   ·exact .inl h
   ·exact .inr (.inl h)
   ·cases h
   ·exact .inr (.inr h)
theorem sent_hp {pp pt pu pi mp : Nat} (T : Hp w0 A0 w (busObs b pp pt pu pi pm mp B)) :
    Calls Tryz.prog 19 #[.pointer (some ⟨b, 0, none⟩)] w fun e w' => ∃ v, e = .returned v ∧ Hp w0 A0 w' [oBus b pm B.quit, oRow 5 v B.u.sent.length (Uart.bytesV B.u.sent)] := by
 obtain ⟨k0, k1, k2, k3, k4, k5, k6, k7, kf, kl⟩ := bus_facts T.bus
 go_enter Tryz.func19, Tryz.ntmps19
 go_wp2_with fail
 refine (T.call 3 rfl (fun A a => usent a)).mono ?_
 rintro e w1 ⟨o, ⟨v, rfl, rfl⟩, T1⟩
 have T2 : Hp w0 A0 w1 (busObs b pp pt pu pi pm mp B.quit ++ [oRow 5 v B.u.sent.length (Uart.bytesV B.u.sent)]) := T1.two 3 rfl
 go_wp2_with fail
 go_returns
 exact ⟨v, rfl, T2.toBus⟩
theorem sent_call (T : Hp w0 A0 w os) (i : Nat) (hi : os[i]? = some (oBus b pm B)) :
    Calls Tryz.prog 19 #[.pointer (some ⟨b, 0, none⟩)] w fun e w' => ∃ v, e = .returned v ∧ Hp w0 A0 w' (os.set i (oBus b pm B.quit) ++ [oRow 5 v B.u.sent.length (Uart.bytesV B.u.sent)]) := by
 refine (T.call i (Q := fun e o => ∃ v, e = .returned v ∧ o = Ob.all [oBus b pm B.quit, oRow 5 v B.u.sent.length (Uart.bytesV B.u.sent)]) hi fun A a => ?_).mono ?_
 ·obtain ⟨⟨pp, pt, pu, pi, mp⟩, a⟩ := a
  refine (sent_hp (Hp.start a)).mono ?_
  rintro e w1 ⟨v, rfl, T1⟩
  exact ⟨_, ⟨v, rfl, rfl⟩, T1.end_⟩
 ·rintro e w1 ⟨o, ⟨v, rfl, rfl⟩, T1⟩
  have hlt : i < os.length := (List.getElem?_eq_some_iff.1 hi).1
  have h2 := T1.two i (x := oBus b pm B.quit) (y := oRow 5 v B.u.sent.length (Uart.bytesV B.u.sent)) (by rw [List.getElem?_set_self hlt])
  rw [List.set_set] at h2
  exact ⟨v, rfl, h2⟩
theorem disk_hp {pp pt pu pi mp : Nat} (T : Hp w0 A0 w (busObs b pp pt pu pi pm mp B)) :
    Calls Tryz.prog 60 #[.pointer (some ⟨b, 0, none⟩)] w fun e w' => ∃ v, e = .returned v ∧ w'.ownsRow w.heap.size 5 1 v (B.k.n * 512) (Ide.bytesL (B.k.n * 512) B.k.d) ∧ Below w.heap.size w w' := by
 obtain ⟨k0, k1, k2, k3, k4, k5, k6, k7, kf, kl⟩ := bus_facts T.bus
 obtain ⟨A, ds, lv, HI, -⟩ := T.get 4 rfl
 have HH := Lib.hid HI
 clear HI
 go_enter Tryz.func60, Tryz.ntmps60
 go_wp2_with fail
 refine (Ide.disk_in HH.out).mono ?_
 rintro e w1 ⟨v, rfl, h1, h2⟩
 go_wp2_with fail
 go_returns
 exact ⟨v, rfl, h1, h2⟩
theorem disk_call (T : Hp w0 A0 w os) (i : Nat) (hi : os[i]? = some (oBus b pm B)) :
    Calls Tryz.prog 60 #[.pointer (some ⟨b, 0, none⟩)] w fun e w' => ∃ v, e = .returned v ∧ Hp w0 A0 w' (os ++ [oRow 5 v (B.k.n * 512) (Ide.bytesL (B.k.n * 512) B.k.d)]) := by
 obtain ⟨A, ⟨pp, pt, pu, pi, mp⟩, a⟩ := T.get i hi
 refine (disk_hp (Hp.start a)).mono ?_
 rintro e w1 ⟨v, rfl, hr, hb⟩
 exact ⟨v, rfl, T.new hb (o := oRow 5 v (B.k.n * 512) (Ide.bytesL (B.k.n * 512) B.k.d)) (A := fun k => v.ownBlock = some k) ⟨row_down' hr (Nat.zero_le _), fun k => Iff.rfl⟩ fun k hk => (World.ownsRow.lt hr k hk).1⟩
end
end Go.Proofs.YtojmpdddfnkffaaGreat

/- bus's law: a call of both buses. -/
namespace Go.Proofs.YtojmpdddfnkffaaGreat
open Go.RowKit Go.MapKept
set_option linter.unusedVariables false

theorem acts_rbus {f : FuncId} {args : Array Value} {r : Value} {b pm : Nat} {B B' : Bs}
    (h : ∀ (w0 w : World) (A0 : Nat → Prop) (pp pt pu pi : Nat), Hp w0 A0 w (rbusObs b pm pp pt pu pi B) → Calls Tryz.prog f args w fun e w' => e = .returned r ∧ Hp w0 A0 w' (rbusObs b pm pp pt pu pi B')) : Acts f args (oRBus b pm B) r (oRBus b pm B') := by
 rintro w A ⟨⟨pp, pt, pu, pi⟩, a⟩
 refine (h w w A pp pt pu pi (Hp.start a)).mono ?_
 rintro e w' ⟨rfl, T⟩
 obtain ⟨A', a', M⟩ := T.end_
 exact ⟨rfl, A', ⟨(pp, pt, pu, pi), a'⟩, M⟩
section
variable {b pm : Nat} {B : Bs}
theorem acts_same {f : FuncId} {args : Array Value} {r : Value} {o : Ob} (h : ∀ w, Calls Tryz.prog f args w fun e w' => e = .returned r ∧ w = w') : Acts f args o r o := fun w A a => by
 refine (h w).mono ?_
 rintro e w1 ⟨rfl, rfl⟩
 exact ⟨rfl, A, a, Moves.refl _ _⟩
theorem pout_bad (s : Int) (h1 : s ≠ 1) (h2 : s ≠ 2) (h4 : s ≠ 4) (p x : Int) (w : World) : Calls Tryz.prog 18 #[.pointer (some ⟨b, 0, none⟩), .int .u16 p, .int .i64 s, .int .u32 x] w fun e w' => e = .returned (.int .i64 2) ∧ w = w' := by
 go_enter Tryz.func18, Tryz.ntmps18
 go_wp2_with fail
 refine (check_bad s h1 h2 h4 w).mono ?_
 rintro e w1 ⟨rfl, rfl⟩
 go_wp2_with fail
 go_ret
 exact ⟨rfl, rfl⟩
theorem pin_bad (s : Int) (h1 : s ≠ 1) (h2 : s ≠ 2) (h4 : s ≠ 4) (p : Int) (w : World) : Calls Tryz.prog 20 #[.pointer (some ⟨b, 0, none⟩), .int .u16 p, .int .i64 s] w fun e w' => e = .returned (.tuple #[.int .u32 0, .int .i64 2]) ∧ w = w' := by
 go_enter Tryz.func20, Tryz.ntmps20
 go_wp2_with fail
 refine (check_bad s h1 h2 h4 w).mono ?_
 rintro e w1 ⟨rfl, rfl⟩
 go_wp2_with fail
 go_ret2
 exact ⟨rfl, rfl⟩
theorem rOut_bad (s : Int) (h1 : s ≠ 1) (h2 : s ≠ 2) (h4 : s ≠ 4) (p x : Int) (w : World) : Calls Tryz.prog 45 #[.pointer (some ⟨b, 0, none⟩), .int .u16 p, .int .i64 s, .int .u32 x] w fun e w' => e = .returned (.int .i64 2) ∧ w = w' := by
 have e1 : (s != 1) = true := by simpa using h1
 have e2 : (s != 2) = true := by simpa using h2
 have e4 : (s != 4) = true := by simpa using h4
 clear h1 h2 h4
 go_enter Tryz.func45, Tryz.ntmps45
 go_wp2_with fail
 go_ret
 exact ⟨rfl, rfl⟩
theorem rIn_bad (s : Int) (h1 : s ≠ 1) (h2 : s ≠ 2) (h4 : s ≠ 4) (p : Int) (w : World) : Calls Tryz.prog 46 #[.pointer (some ⟨b, 0, none⟩), .int .u16 p, .int .i64 s] w fun e w' => e = .returned (.tuple #[.int .u32 0, .int .i64 2]) ∧ w = w' := by
 have e1 : (s != 1) = true := by simpa using h1
 have e2 : (s != 2) = true := by simpa using h2
 have e4 : (s != 4) = true := by simpa using h4
 clear h1 h2 h4
 go_enter Tryz.func46, Tryz.ntmps46
 go_wp2_with fail
 go_ret2
 exact ⟨rfl, rfl⟩
def okS (s : Int) : Prop := s = 1 ∨ s = 2 ∨ s = 4
instance (s : Int) : Decidable (okS s) := by unfold okS; infer_instance
def Bs.outA (B : Bs) (p : Nat) (s : Int) (v : Nat) : Bs := if okS s then B.out p s.toNat v else B
def Bs.inA (B : Bs) (p : Nat) (s : Int) : Bs := if okS s then B.inS p s.toNat else B
def Bs.inAV (B : Bs) (p : Nat) (s : Int) : Nat := if okS s then B.wideV p s.toNat else 0
def errS (s : Int) : Int := if okS s then 0 else 2
def Bs.ask (B : Bs) (k : Int) (p : Nat) (s : Int) (v : Nat) : Bs :=
 if k = 1 then B.outA p s v else if k = 2 then B.inA p s else if k = 3 then B.ticks (v % 7000) else if k = 4 then B.push (v % 256) else if k = 5 then B.ack else B
theorem not_okS {s : Int} (h : ¬ okS s) : s ≠ 1 ∧ s ≠ 2 ∧ s ≠ 4 := ⟨fun e => h (.inl e), fun e => h (.inr (.inl e)), fun e => h (.inr (.inr e))⟩
theorem a_out (h : B.ok) (hf : B.fits 1000000) (p : Nat) (s : Int) (v : Nat) (hp : p < 65536) (hv : v < 4294967296) :
    Acts 18 #[.pointer (some ⟨b, 0, none⟩), .int .u16 (p : Nat), .int .i64 s, .int .u32 (v : Nat)] (oBus b pm B) (.int .i64 (errS s)) (oBus b pm (B.outA p s v)) := by
 unfold Bs.outA errS
 by_cases hs : okS s
 ·rw [if_pos hs, if_pos hs]
  have hs2 := hs
  unfold okS at hs2
  have := bus_out (b := b) (pm := pm) h hf p s.toNat v hp (by omega) hv
  rwa [show ((s.toNat : Nat) : Int) = s by omega] at this
 ·rw [if_neg hs, if_neg hs]
  obtain ⟨h1, h2, h4⟩ := not_okS hs
  exact acts_same fun w => pout_bad s h1 h2 h4 p v w
theorem a_rout (h : B.ok) (hf : B.fits 1000000) (p : Nat) (s : Int) (v : Nat) (hp : p < 65536) (hv : v < 4294967296) :
    Acts 45 #[.pointer (some ⟨b, 0, none⟩), .int .u16 (p : Nat), .int .i64 s, .int .u32 (v : Nat)] (oRBus b pm B) (.int .i64 (errS s)) (oRBus b pm (B.outA p s v)) := by
 unfold Bs.outA errS
 by_cases hs : okS s
 ·rw [if_pos hs, if_pos hs]
  have hs2 := hs
  unfold okS at hs2
  have : Acts 45 #[.pointer (some ⟨b, 0, none⟩), .int .u16 (p : Nat), .int .i64 ((s.toNat : Nat) : Int), .int .u32 (v : Nat)] (oRBus b pm B) (.int .i64 0) (oRBus b pm (B.out p s.toNat v)) := acts_rbus fun w0 w A0 pp pt pu pi T => rOut_hp h hf T p s.toNat v hp (by omega) hv
  rwa [show ((s.toNat : Nat) : Int) = s by omega] at this
 ·rw [if_neg hs, if_neg hs]
  obtain ⟨h1, h2, h4⟩ := not_okS hs
  exact acts_same fun w => rOut_bad s h1 h2 h4 p v w
theorem a_in (h : B.ok) (p : Nat) (s : Int) (hp : p < 65536) :
    Acts 20 #[.pointer (some ⟨b, 0, none⟩), .int .u16 (p : Nat), .int .i64 s] (oBus b pm B) (.tuple #[.int .u32 (B.inAV p s : Nat), .int .i64 (errS s)]) (oBus b pm (B.inA p s)) := by
 unfold Bs.inA Bs.inAV errS
 by_cases hs : okS s
 ·rw [if_pos hs, if_pos hs, if_pos hs]
  have hs2 := hs
  unfold okS at hs2
  have := bus_in (b := b) (pm := pm) h p s.toNat hp (by omega)
  rwa [show ((s.toNat : Nat) : Int) = s by omega] at this
 ·rw [if_neg hs, if_neg hs, if_neg hs]
  obtain ⟨h1, h2, h4⟩ := not_okS hs
  exact acts_same fun w => pin_bad s h1 h2 h4 p w
theorem a_rin (h : B.ok) (hf : B.fits 1000000) (hg : Gt B) (p : Nat) (s : Int) (hp : p < 65536) :
    Acts 46 #[.pointer (some ⟨b, 0, none⟩), .int .u16 (p : Nat), .int .i64 s] (oRBus b pm B) (.tuple #[.int .u32 (B.inAV p s : Nat), .int .i64 (errS s)]) (oRBus b pm (B.inA p s)) := by
 unfold Bs.inA Bs.inAV errS
 by_cases hs : okS s
 ·rw [if_pos hs, if_pos hs, if_pos hs]
  have hs2 := hs
  unfold okS at hs2
  have : Acts 46 #[.pointer (some ⟨b, 0, none⟩), .int .u16 (p : Nat), .int .i64 ((s.toNat : Nat) : Int)] (oRBus b pm B) (.tuple #[.int .u32 (B.wideV p s.toNat : Nat), .int .i64 0]) (oRBus b pm (B.inS p s.toNat)) := acts_rbus fun w0 w A0 pp pt pu pi T => rIn_hp h hf hg T p s.toNat hp (by omega)
  rwa [show ((s.toNat : Nat) : Int) = s by omega] at this
 ·rw [if_neg hs, if_neg hs, if_neg hs]
  obtain ⟨h1, h2, h4⟩ := not_okS hs
  exact acts_same fun w => rIn_bad s h1 h2 h4 p w
theorem a_rtick (h : B.ok) (n : Nat) (hn : n < 9223372036854775807) (ht : B.t + n < 18446744073709551615) :
    Acts 47 #[.pointer (some ⟨b, 0, none⟩), .int .i64 (n : Nat)] (oRBus b pm B) (.tuple #[]) (oRBus b pm (B.ticks n)) :=
 acts_rbus fun w0 w A0 pp pt pu pi T => rTick_hp h T n hn ht
theorem a_tick (h : B.ok) (n : Nat) (hn : n < 9223372036854775807) (ht : B.t + n < 18446744073709551615) :
    Acts 21 #[.pointer (some ⟨b, 0, none⟩), .int .i64 (n : Nat)] (oBus b pm B) (.tuple #[]) (oBus b pm (B.ticks n)) := by
 have := bus_tick (b := b) (pm := pm) h (n : Nat) (by omega) (by rw [Int.toNat_natCast]; exact ht)
 rwa [Int.toNat_natCast] at this
theorem a_rpush (h : B.ok) (x : Nat) (hx : x < 256) : Acts 49 #[.pointer (some ⟨b, 0, none⟩), .int .u8 (x : Nat)] (oRBus b pm B) (.tuple #[]) (oRBus b pm (B.push x)) :=
 acts_rbus fun w0 w A0 pp pt pu pi T => rPush_hp h T x hx
theorem a_rack (h : B.ok) : Acts 50 #[.pointer (some ⟨b, 0, none⟩)] (oRBus b pm B) (.int .i64 (Pic.vec0 B.c B.d : Nat)) (oRBus b pm B.ack) :=
 acts_rbus fun w0 w A0 pp pt pu pi T => rAck_hp h T
end
section
variable {b c m r : Nat} {B : Bs} {w0 w : World} {A0 : Nat → Prop}
theorem Hp.opc {os : List Ob} {x : Nat} {k p s v : Int} (T : Hp w0 A0 w os) (i : Nat) (h : os[i]? = some (Ob.box x (.cells #[.int .i64 k, .int .u16 p, .int .i64 s, .int .u32 v] 44))) :
    w.cell? ⟨x, 1, none⟩ = some (.int .u16 p) ∧ w.cell? ⟨x, 2, none⟩ = some (.int .i64 s) ∧ w.cell? ⟨x, 3, none⟩ = some (.int .u32 v) := by
 have hb := T.box i h
 exact ⟨by rw [cell_at hb]; rfl, by rw [cell_at hb]; rfl, by rw [cell_at hb]; rfl⟩
theorem asked_any (h : B.ok) (hf : B.fits 1000000) (hg : Gt B) (htt : B.t < 10000000) (T : Hp w0 A0 w [oBus b m B, oRBus c r B]) (k : Int) (p : Nat) (s : Int) (v : Nat) (hp : p < 65536) (hv : v < 4294967296) :
    Calls Tryz.prog 10 #[.pointer (some ⟨b, 0, none⟩), .pointer (some ⟨c, 0, none⟩), .agg #[.int .i64 k, .int .u16 (p : Nat), .int .i64 s, .int .u32 (v : Nat)]] w fun e w' => e = .returned (.bool true) ∧ Hp w0 A0 w' [oBus b m (B.ask k p s v), oRBus c r (B.ask k p s v)] := by
 have HO := Lib.hid h
 have HF := Lib.hid (And.intro hf (And.intro hg (And.intro htt (And.intro hp hv))))
 have T1 := T.make (.cells #[.int .i64 k, .int .u16 (p : Nat), .int .i64 s, .int .u32 (v : Nat)] 44)
 clear h hf hg htt T
 go_enter Tryz.func10, Tryz.ntmps10
 go_upto_region 1 with (fail)
 generalize w.alloc (.cells #[.int .i64 k, .int .u16 (p : Nat), .int .i64 s, .int .u32 (v : Nat)] 44) = W at *
 generalize w.heap.size = x at *
 have hb := T1.box 2 rfl
 have z0 : W.cell? ⟨x, 0, none⟩ = some (.int .i64 k) := by rw [cell_at hb]; rfl
 obtain ⟨z1, z2, z3⟩ := T1.opc 2 rfl
 have zl := heap_lt hb
 have HT := Lib.hid (show Hp w0 A0 W [oBus b m B, oRBus c r B, Ob.box x (.cells #[.int .i64 k, .int .u16 (p : Nat), .int .i64 s, .int .u32 (v : Nat)] 44)] from T1)
 clear hb T1 hp hv
 by_cases h1 : k = 1
 ·subst h1
  go_upto_region 3 with (fail)
  have T0 := Lib.hid HT.out.drew
  go_region_held3 (fun w' => w'.cell? ⟨x, 1, none⟩ = some (.int .u16 (p : Nat)) ∧ w'.cell? ⟨x, 2, none⟩ = some (.int .i64 s) ∧ w'.cell? ⟨x, 3, none⟩ = some (.int .u32 (v : Nat))) (first | exact T0.out.opc 2 rfl | exact T6.opc 2 rfl | exact T5.opc 2 rfl | go_keep)
   (first
    | (go_at_call 18; refine (T0.out.act 0 rfl (a_out HO.out HF.out.1 p s v HF.out.2.2.2.1 HF.out.2.2.2.2)).mono ?_; rintro e w5 ⟨rfl, T5⟩)
    | (go_at_call 45; refine (T5.act 1 rfl (a_rout HO.out HF.out.1 p s v HF.out.2.2.2.1 HF.out.2.2.2.2)).mono ?_; rintro e w6 ⟨rfl, T6⟩))
  clear z0 z1 z2 z3 zl
  go_wp2_with fail
  go_ret
  exact ⟨by first | rfl | (simp; done), Hp.left (l1 := [oBus b m (B.ask 1 p s v), oRBus c r (B.ask 1 p s v)]) T6⟩
 have e1 : (k == 1) = false := by simpa using h1
 by_cases h2 : k = 2
 ·subst h2
  clear e1 h1
  go_wp2_with fail
  refine (HT.out.act 0 rfl (a_in HO.out p s HF.out.2.2.2.1)).mono ?_
  rintro e w5 ⟨rfl, T5⟩
  clear z0 z1 z2 z3 zl
  obtain ⟨z1, z2, z3⟩ := T5.opc 2 rfl
  have zl := heap_lt (T5.box 2 rfl)
  have HT5 := Lib.hid T5
  clear T5
  go_wp2_with fail
  refine (HT5.out.act 1 rfl (a_rin HO.out HF.out.1 HF.out.2.1 p s HF.out.2.2.2.1)).mono ?_
  rintro e w6 ⟨rfl, T6⟩
  clear z1 z2 z3 zl
  go_wp2_with fail
  go_ret
  exact ⟨by first | rfl | (simp; done), Hp.left (l1 := [oBus b m (B.ask 2 p s v), oRBus c r (B.ask 2 p s v)]) T6⟩
 have e2 : (k == 2) = false := by simpa using h2
 by_cases h3 : k = 3
 ·subst h3
  clear e1 h1 e2 h2
  go_wp2_with fail
  try rw [show (v : Int) % 7000 = ((v % 7000 : Nat) : Int) by omega]
  refine (HT.out.act 0 rfl (a_tick HO.out (v % 7000) (by omega) (by have := HF.out.2.2.1; omega))).mono ?_
  rintro e w5 ⟨rfl, T5⟩
  clear z0 z1 z2 z3 zl
  obtain ⟨z1, z2, z3⟩ := T5.opc 2 rfl
  have zl := heap_lt (T5.box 2 rfl)
  have HT5 := Lib.hid T5
  clear T5
  go_wp2_with fail
  try rw [show (v : Int) % 7000 = ((v % 7000 : Nat) : Int) by omega]
  refine (HT5.out.act 1 rfl (a_rtick HO.out (v % 7000) (by omega) (by have := HF.out.2.2.1; omega))).mono ?_
  rintro e w6 ⟨rfl, T6⟩
  clear z1 z2 z3 zl
  go_wp2_with fail
  go_ret
  exact ⟨by first | rfl | (simp; done), Hp.left (l1 := [oBus b m (B.ask 3 p s v), oRBus c r (B.ask 3 p s v)]) T6⟩
 have e3 : (k == 3) = false := by simpa using h3
 by_cases h4 : k = 4
 ·subst h4
  clear e1 h1 e2 h2 e3 h3
  go_wp2_with fail
  try rw [show (v : Int) % 256 = ((v % 256 : Nat) : Int) by omega]
  refine (HT.out.act 0 rfl (bus_push HO.out (v % 256) (Nat.mod_lt _ (by decide)))).mono ?_
  rintro e w5 ⟨rfl, T5⟩
  clear z0 z1 z2 z3 zl
  obtain ⟨z1, z2, z3⟩ := T5.opc 2 rfl
  have zl := heap_lt (T5.box 2 rfl)
  have HT5 := Lib.hid T5
  clear T5
  go_wp2_with fail
  try rw [show (v : Int) % 256 = ((v % 256 : Nat) : Int) by omega]
  refine (HT5.out.act 1 rfl (a_rpush HO.out (v % 256) (Nat.mod_lt _ (by decide)))).mono ?_
  rintro e w6 ⟨rfl, T6⟩
  clear z1 z2 z3 zl
  go_wp2_with fail
  go_ret
  exact ⟨by first | rfl | (simp; done), Hp.left (l1 := [oBus b m (B.ask 4 p s v), oRBus c r (B.ask 4 p s v)]) T6⟩
 have e4 : (k == 4) = false := by simpa using h4
 by_cases h5 : k = 5
 ·subst h5
  clear e1 h1 e2 h2 e3 h3 e4 h4
  go_wp2_with fail
  refine (HT.out.act 0 rfl (bus_ack HO.out)).mono ?_
  rintro e w5 ⟨rfl, T5⟩
  clear z0 z1 z2 z3 zl
  obtain ⟨z1, z2, z3⟩ := T5.opc 2 rfl
  have zl := heap_lt (T5.box 2 rfl)
  have HT5 := Lib.hid T5
  clear T5
  go_wp2_with fail
  refine (HT5.out.act 1 rfl (a_rack HO.out)).mono ?_
  rintro e w6 ⟨rfl, T6⟩
  clear z1 z2 z3 zl
  go_wp2_with fail
  go_ret
  exact ⟨by first | rfl | (simp; done), Hp.left (l1 := [oBus b m (B.ask 5 p s v), oRBus c r (B.ask 5 p s v)]) T6⟩
 have e5 : (k == 5) = false := by simpa using h5
 have hB : B.ask k p s v = B := by unfold Bs.ask; rw [if_neg h1, if_neg h2, if_neg h3, if_neg h4, if_neg h5]
 have HB := Lib.hid hB
 clear h1 h2 h3 h4 h5 hB
 go_wp2_with fail
 go_ret
 exact ⟨rfl, by rw [HB.out]; exact Hp.left (l1 := [oBus b m B, oRBus c r B]) HT.out⟩
end
end Go.Proofs.YtojmpdddfnkffaaGreat

/- ide's laws: what a disk tells, and reads; in plain words. -/
namespace Go.Proofs.YtojmpdddfnkffaaGreat.Ide
open Go.RowKit
set_option linter.unusedVariables false

theorem other_of {S : Dk} {x : Nat} (h : S.r 6 = x) (hx : x / 16 % 2 = 0) : S.other = false := by unfold Dk.other; rw [h, hx]; rfl

theorem out_cmd (S : Dk) (c : Nat) : S.out 7 1 c = S.command (c % 256) := rfl
structure Lies (f c : Nat) (S : Dk) : Prop where
 r6 : S.r 6 = 64
 r5 : S.r 5 = 0
 r4 : S.r 4 = 0
 r3 : S.r 3 = f
 r2 : S.r 2 = c
theorem Lies.place {f c : Nat} {S : Dk} (h : Lies f c S) : S.place = f := by unfold Dk.place; rw [h.r3, h.r4, h.r5, h.r6]; omega
theorem Lies.clean {f c : Nat} {S : Dk} (h : Lies f c S) : Lies f c S.clean := ⟨h.r6, h.r5, h.r4, h.r3, h.r2⟩
theorem Lies.other {f c : Nat} {S : Dk} (h : Lies f c S) : S.other = false := other_of h.r6 (by decide)
theorem Lies.read {f c : Nat} {S : Dk} (h : Lies f c S) : S.out 7 1 32 = S.clean.begin 1 := by
 rw [out_cmd]; unfold Dk.command
 rw [h.other, if_neg (by decide), if_pos (.inl (by decide)), h.r6, if_neg (by decide)]
theorem step_r2 (S : Dk) : S.step.r 2 = (S.r 2 + 255) % 256 := by simp only [Dk.step]; rw [upd_same]
end Go.Proofs.YtojmpdddfnkffaaGreat.Ide

/- ide's laws: a script of calls as an argument. -/
namespace Go.Proofs.YtojmpdddfnkffaaGreat.Ide
open Go.RowKit Go.WideShapes Go.ChangeShapes
set_option linter.unusedVariables false

structure OpsAt (w : World) (b off len : Nat) (kd rg sz : Nat → Int) (v : Nat → Nat) (ti : Nat → Int) : Prop where
 c0 : ∀ i, i < len → w.cell? ⟨b, off + i * 5, none⟩ = some (.int .i64 (kd i))
 c1 : ∀ i, i < len → w.cell? ⟨b, off + i * 5 + 1, none⟩ = some (.int .i64 (rg i))
 c2 : ∀ i, i < len → w.cell? ⟨b, off + i * 5 + 2, none⟩ = some (.int .i64 (sz i))
 c3 : ∀ i, i < len → w.cell? ⟨b, off + i * 5 + 3, none⟩ = some (.int .u32 (v i : Nat))
 c4 : ∀ i, i < len → w.cell? ⟨b, off + i * 5 + 4, none⟩ = some (.int .i64 (ti i))
 u3 : ∀ i, i < len → v i < 4294967296
 u0 : ∀ i, i < len → -9223372036854775808 ≤ kd i ∧ kd i ≤ 9223372036854775807
 u1 : ∀ i, i < len → -9223372036854775808 ≤ rg i ∧ rg i ≤ 9223372036854775807
 u2 : ∀ i, i < len → -9223372036854775808 ≤ sz i ∧ sz i ≤ 9223372036854775807
 u4 : ∀ i, i < len → -9223372036854775808 ≤ ti i ∧ ti i ≤ 9223372036854775807
 hb : b < w.heap.size
theorem OpsAt.below {w w1 : World} {b off len : Nat} {kd rg sz : Nat → Int} {v : Nat → Nat} {ti : Nat → Int} {B : Nat} (h : OpsAt w b off len kd rg sz v ti) (hb : Below B w w1) (hB : b < B) : OpsAt w1 b off len kd rg sz v ti :=
 ⟨fun i hi => (hb.cell hB).trans (h.c0 i hi), fun i hi => (hb.cell hB).trans (h.c1 i hi), fun i hi => (hb.cell hB).trans (h.c2 i hi), fun i hi => (hb.cell hB).trans (h.c3 i hi), fun i hi => (hb.cell hB).trans (h.c4 i hi), h.u3, h.u0, h.u1, h.u2, h.u4, Nat.lt_of_lt_of_le h.hb hb.size⟩
def OpsIn (w : World) (a : Option Addr) (len : Nat) (kd rg sz : Nat → Int) (v : Nat → Nat) (ti : Nat → Int) : Prop := len = 0 ∨ ∃ b off, a = some ⟨b, off, none⟩ ∧ OpsAt w b off len kd rg sz v ti
end Go.Proofs.YtojmpdddfnkffaaGreat.Ide

/- ide's laws: a law's own block beside the disk; bytes as a string. -/
namespace Go.Proofs.YtojmpdddfnkffaaGreat.Ide
open Go.RowKit
set_option linter.unusedVariables false

def strOf (n : Nat) (f : Nat → Nat) : ByteArray := strOfNums ((List.range n).map fun i => ((f i : Nat) : Int))
theorem row_cell {w : World} {B : Nat} {v : Value} {m : Nat} {d : Nat → Nat} (h : w.ownsRow B 5 1 v m (bytesL m d)) (i : Nat) (hi : i < m) :
    ∃ g cap, v = .slice (some ⟨g, 0, none⟩) m cap ∧ w.cell? ⟨g, i, none⟩ = some (.int .u8 (d i : Nat)) ∧ g < w.heap.size := by
 rcases h.2 with ⟨rfl, h0⟩ | ⟨g, cap, cur, rfl, _, hg, h1, h2, h3, h4⟩
 ·omega
 ·refine ⟨g, cap, rfl, ?_, heap_lt hg⟩
  rw [cell_at hg]
  rw [Nat.mul_one] at h4
  have := congrArg (fun l => l[i]?) h4
  rw [List.getElem?_take, if_pos hi, bytesL_at _ _ _ hi, Array.getElem?_toList] at this
  exact this
theorem conv_row {w : World} {B : Nat} {v : Value} {n : Nat} {f : Nat → Nat} (h : w.ownsRow B 5 1 v n (bytesL n f)) :
    (convert 22 9 v).run Tryz.prog w = .ok (.string (strOf n f)) w := by
 have hc := row_cell h
 rcases h.2 with ⟨rfl, h0⟩ | ⟨g, cap, cur, rfl, _, hg, h1, h2, h3, h4⟩
 ·subst h0
  exact run_convert_bytes_nil _ _ _ Tryz.underlying22 Tryz.underlying5 0 0 _ Tryz.underlying9
 ·refine run_convert_bytes_arg w _ _ Tryz.underlying22 Tryz.underlying5 g 0 n cap ((List.range n).map fun i => ((f i : Nat) : Int)) (by simp) ?_ _ Tryz.underlying9
  intro i hi
  obtain ⟨g', cap', e, hx, _⟩ := hc i hi
  injection e with e1 e2 e3
  injection e1 with e1
  injection e1 with e1
  subst e1
  rw [Nat.zero_add, hx]
  simp [List.getD, hi]
def AtF (w0 w : World) (b : Nat) (D : Dk) (g : Nat) (o : Obj) : Prop :=
 ∃ ds lv, IdeIn 115 w b ds lv D ∧ D.room ∧ (∀ k, Held b ds lv k → w0.heap.size ≤ k ∧ k ≠ g) ∧ w.heap[g]? = some o ∧ Below w0.heap.size w0 w
section
variable {w0 w w' : World} {b g : Nat} {D : Dk} {o : Obj}
theorem AtF.at (h : AtF w0 w b D g o) : At w0 w b D := by
 obtain ⟨ds, lv, H, R, N, O, B⟩ := h
 exact ⟨ds, lv, H, R, fun k hk => (N k hk).1, B⟩
theorem AtF.obj (h : AtF w0 w b D g o) : w.heap[g]? = some o := by obtain ⟨ds, lv, H, R, N, O, B⟩ := h; exact O
theorem AtF.new (h : At w0 w b D) (hb : Below w.heap.size w w') (ho : w'.heap[w.heap.size]? = some o) : AtF w0 w' b D w.heap.size o := by
 obtain ⟨ds, lv, H, R, N, B⟩ := h
 exact ⟨ds, lv, H.keeps (Keeps.ofBelow (S := fun _ => False) hb) (fun _ _ h => h), R, fun k hk => ⟨N k hk, Nat.ne_of_lt (hk.lt H)⟩, ho, Keeps.toBelow B (Keeps.ofBelow (S := fun _ => False) hb) B.size (fun _ h => h.elim)⟩
theorem row_len {w : World} {B : Nat} {E : TypeId} {n : Nat} {v : Value} {xs : List Value} (h : w.ownsRow B E 1 v n xs) : ∃ a c, v = .slice a n c := by
 rcases h.2 with ⟨rfl, h0⟩ | ⟨g, cap, cur, rfl, _, hg, h1, h2, h3, h4⟩
 ·subst h0; exact ⟨_, _, rfl⟩
 ·exact ⟨_, _, rfl⟩
end
end Go.Proofs.YtojmpdddfnkffaaGreat.Ide

/- ide's laws: a sector is written; in plain words. -/
namespace Go.Proofs.YtojmpdddfnkffaaGreat.Ide
open Go.RowKit
set_option linter.unusedVariables false

theorem flushAt_r (S : Dk) (o : Nat) : (S.flushAt o).r = S.r := rfl
end Go.Proofs.YtojmpdddfnkffaaGreat.Ide

/- ide's laws: two lists of numbers that are one. -/
namespace Go.Proofs.YtojmpdddfnkffaaGreat.Ide
open Go.RowKit
set_option linter.unusedVariables false

def Nums (w : World) (v : Value) (L : List Nat) : Prop := ∃ a c, v = .slice a L.length c ∧ (L = [] ∨ ∃ g off, a = some ⟨g, off, none⟩ ∧ g < w.heap.size ∧ ∀ i, i < L.length → w.cell? ⟨g, off + i, none⟩ = some (.int .i64 (L.getD i 0 : Nat)))
theorem same_any {w : World} {v u : Value} {L : List Nat} (hv : Nums w v L) (hu : Nums w u L) (hL : L.length < 17592186044416) :
    Calls Tryz.prog 56 #[v, u] w fun e w' => e = .returned (.bool true) ∧ ∃ n, w' = w.drewN n := by
 obtain ⟨a, c, rfl, hv⟩ := hv
 obtain ⟨a2, c2, rfl, hu⟩ := hu
 obtain ⟨n, hn⟩ : ∃ n, n = L.length := ⟨_, rfl⟩
 rw [← hn] at hv hu hL ⊢
 have HN := Lib.hid hn
 clear hn
 have hn2 : (n : Int) ≤ 17592186044416 := by omega
 go_enter Tryz.func56, Tryz.ntmps56
 go_wp2_with fail
 go_loopw [5] (fun i wc => ∃ k : Nat, k ≤ n ∧ i = .int .i64 k ∧ ∃ m, wc = w.drewN m) (fun i _ => n - (intOf i).toNat)
 case atStart => exact ⟨0, by omega, rfl, 0, rfl⟩
 case round =>
  obtain ⟨k, hk, rfl, m, rfl⟩ := hrel
  by_cases hlt : k < n
  ·have p1 : (0 : Int) ≤ (k : Int) := by omega
   have p2 : (k : Int) < n := by omega
   have hne : L ≠ [] := fun e => by have := HN.out; rw [e] at this; have e0 : n = 0 := this; omega
   obtain ⟨g, off, rfl, hg, hc⟩ := hv.resolve_left hne
   obtain ⟨g2, off2, rfl, hg2, hc2⟩ := hu.resolve_left hne
   have d1 := hc k hlt
   have d2 := hc2 k hlt
   generalize ((L.getD k 0 : Nat) : Int) = x at d1 d2
   clear hc hc2 hv hu hne
   go_upto_region 6 with (fail)
   have d3 : (w.drewN m).cell? ⟨g, off + k, none⟩ = some (.int .i64 x) := d1
   have d4 : (w.drewN m).cell? ⟨g2, off2 + k, none⟩ = some (.int .i64 x) := d2
   go_quiet (fail)
   go_wp2_with fail
   go_roundw
   case rel => exact ⟨k + 1, by omega, by go_num, _, rfl⟩
   case measure => (simp [intOf]) <;> omega
  ·have p2 : (n : Int) ≤ k := by omega
   go_wp2_with fail
   go_ret
   exact ⟨rfl, m, rfl⟩
end Go.Proofs.YtojmpdddfnkffaaGreat.Ide

/- bus's law: what both buses tell at the end. -/
namespace Go.Proofs.YtojmpdddfnkffaaGreat
open Go.RowKit Go.MapKept
set_option linter.unusedVariables false

def numsV (L : List Nat) : List Value := L.map fun x => .int .i64 (x : Nat)
def oRIdeD (b : Nat) (ds : Value) (D : Ide.Dk) : Ob := ⟨fun w H => ∃ lv, Ide.IdeIn 108 w b ds lv D ∧ D.room ∧ ∀ k, H k ↔ Ide.Held b ds lv k,
 fun ⟨sv, h, r, e⟩ g => ⟨sv, h.of_heap fun k hk => g k ((e k).2 hk), r, e⟩, fun ⟨sv, h, r, e⟩ k hk => Ide.Held.lt h ((e k).1 hk)⟩
section
variable {w0 w w' : World} {A0 A : Nat → Prop} {os : List Ob} {o : Ob} {b : Nat} {D : Ide.Dk} {U : Uart.Ut} {ds : Value}
theorem Hp.known {α : Type} {f : α → Ob} (T : Hp w0 A0 w os) (i : Nat) (h : os[i]? = some o) (hc : ∀ A, o.P w A → ∃ a, (f a).P w A) : ∃ a, Hp w0 A0 w (os.set i (f a)) := by
 obtain ⟨A, p, g⟩ := T.turn i h
 obtain ⟨a, q⟩ := hc A p
 exact ⟨a, g _ _ _ q (Moves.refl _ _)⟩
theorem Hp.pick {α : Type} {f : α → Ob} (T : Hp w0 A0 w (Ob.any f :: os)) : ∃ a, Hp w0 A0 w (f a :: os) := T.known (f := f) 0 rfl fun A h => h
theorem row_two {q : Ob} {E : TypeId} {v : Value} {n : Nat} {xs : List Value} {B : Nat → Prop} (h : q.P w' B) (hr : w'.ownsRow 0 E 1 v n xs) (hd : ∀ k, B k → v.ownBlock ≠ some k) (e : ∀ k, A k ↔ B k ∨ v.ownBlock = some k) : (Ob.all [q, oRow E v n xs]).P w' A :=
 ⟨B, fun k => v.ownBlock = some k, h, ⟨fun k => v.ownBlock = some k, fun _ => False, ⟨hr, fun k => Iff.rfl⟩, fun _ h => h, fun _ _ h => h, fun k => ⟨.inl, fun h => h.elim id False.elim⟩⟩, hd, e⟩
theorem held_nil {b : Nat} {ds lv : Value} {k : Nat} : Ide.Held b ds lv k ↔ Ide.Held b ds (.slice none 0 0) k ∨ lv.ownBlock = some k := by
 constructor
 ·rintro (h | h | h)
  ·exact .inl (.inl h)
  ·exact .inl (.inr (.inl h))
  ·exact .inr h
 ·rintro ((h | h | h) | h)
  ·exact .inl h
  ·exact .inr (.inl h)
  ·cases h
  ·exact .inr (.inr h)
theorem held_apart {T : TypeId} {lv : Value} (H : Ide.IdeIn T w b ds lv D) (k : Nat) (h : Ide.Held b ds (.slice none 0 0) k) : lv.ownBlock ≠ some k := by
 rcases h with rfl | h | h
 ·exact H.d2
 ·exact H.d3 k h
 ·cases h
theorem wrote (a : (oIde b D).P w A) : Calls Tryz.prog 92 #[.pointer (some ⟨b, 0, none⟩)] w fun e w' => ∃ o', (∃ v, e = .returned v ∧ o' = Ob.all [oIde b D.quit, oRow 3 v D.log.length (numsV D.log)]) ∧ ∃ A', o'.P w' A' ∧ Moves A A' w w' := by
 obtain ⟨ds, lv, H, rm, e⟩ := a
 refine (Ide.written_in H).mono ?_
 rintro x w1 ⟨rfl, H1, K⟩
 have hlg := H.log
 have hr : w1.ownsRow 0 3 1 lv D.log.length (numsV D.log) := row_of_heap' hlg fun k hk => K.block k (World.ownsRow.lt hlg k hk).2 fun e => H.d2 (by rw [hk, e])
 exact ⟨_, ⟨lv, rfl, rfl⟩, A, row_two (q := oIde b D.quit) ⟨ds, _, H1, rm, fun k => Iff.rfl⟩ hr (held_apart H) fun k => (e k).trans held_nil, K.mono fun k _ h => (e k).2 (.inl h), fun k hk => .inl hk⟩
theorem rwrote (a : (oRIdeD b ds D).P w A) : Calls Tryz.prog 58 #[.pointer (some ⟨b, 0, none⟩)] w fun e w' => ∃ o', (∃ v, e = .returned v ∧ o' = Ob.all [oRIdeD b ds D.quit, oRow 3 v D.log.length (numsV D.log)]) ∧ ∃ A', o'.P w' A' ∧ Moves A A' w w' := by
 obtain ⟨lv, H, rm, e⟩ := a
 refine (Ide.rwritten_in H).mono ?_
 rintro x w1 ⟨rfl, H1, K⟩
 have hlg := H.log
 have hr : w1.ownsRow 0 3 1 lv D.log.length (numsV D.log) := row_of_heap' hlg fun k hk => K.block k (World.ownsRow.lt hlg k hk).2 fun e => H.d2 (by rw [hk, e])
 exact ⟨_, ⟨lv, rfl, rfl⟩, A, row_two (q := oRIdeD b ds D.quit) ⟨_, H1, rm, fun k => Iff.rfl⟩ hr (held_apart H) fun k => (e k).trans held_nil, K.mono fun k _ h => (e k).2 (.inl h), fun k hk => .inl hk⟩
theorem rusent (a : (oRUart b U).P w A) : Calls Tryz.prog 59 #[.pointer (some ⟨b, 0, none⟩)] w fun e w' => ∃ o', (∃ v, e = .returned v ∧ o' = Ob.all [oRUart b U.quit, oRow 5 v U.sent.length (Uart.bytesV U.sent)]) ∧ ∃ A', o'.P w' A' ∧ Moves A A' w w' := by
 obtain ⟨cv, ov, H, e⟩ := a
 refine (Uart.rsent_any H).mono ?_
 rintro x w1 ⟨rfl, H1, hr, K⟩
 refine ⟨_, ⟨ov, rfl, rfl⟩, A, row_two (q := oRUart b U.quit) ⟨cv, _, H1, fun k => Iff.rfl⟩ hr ?_ fun k => ?_, K.mono fun k _ h => (e k).2 (.inl h), fun k hk => .inl hk⟩
 ·rintro k (rfl | h | h)
  ·exact H.bo
  ·exact H.d k h
  ·cases h
 ·rw [e k]
  constructor
  ·rintro (h | h | h)
   ·exact .inl (.inl h)
   ·exact .inl (.inr (.inl h))
   ·exact .inr h
  ·rintro ((h | h | h) | h)
   ·exact .inl h
   ·exact .inr (.inl h)
   ·cases h
   ·exact .inr (.inr h)
theorem Hp.hand (T : Hp w0 A0 w os) (i : Nat) {f : FuncId} {args : Array Value} {o x : Ob} {E : TypeId} {n : Nat} {xs : List Value} (h : os[i]? = some o)
    (hc : ∀ A, o.P w A → Calls Tryz.prog f args w fun e w' => ∃ o', (∃ v, e = .returned v ∧ o' = Ob.all [x, oRow E v n xs]) ∧ ∃ A', o'.P w' A' ∧ Moves A A' w w') :
    Calls Tryz.prog f args w fun e w' => ∃ v, e = .returned v ∧ Hp w0 A0 w' (os.set i x ++ [oRow E v n xs]) := by
 refine (T.call i (Q := fun e o' => ∃ v, e = .returned v ∧ o' = Ob.all [x, oRow E v n xs]) h hc).mono ?_
 rintro e w1 ⟨o', ⟨v, rfl, rfl⟩, T1⟩
 have hlt : i < os.length := (List.getElem?_eq_some_iff.1 h).1
 have h2 := T1.two i (x := x) (y := oRow E v n xs) (by rw [List.getElem?_set_self hlt])
 rw [List.set_set] at h2
 exact ⟨v, rfl, h2⟩
def Bs.kquit (B : Bs) : Bs := { B with k := B.k.quit }
theorem written_hp {pp pt pu pi mp pm : Nat} {B : Bs} (T : Hp w0 A0 w (busObs b pp pt pu pi pm mp B)) :
    Calls Tryz.prog 57 #[.pointer (some ⟨b, 0, none⟩)] w fun e w' => ∃ v, e = .returned v ∧ Hp w0 A0 w' [oBus b pm B.kquit, oRow 3 v B.k.log.length (numsV B.k.log)] := by
 obtain ⟨k0, k1, k2, k3, k4, k5, k6, k7, kf, kl⟩ := bus_facts T.bus
 go_enter Tryz.func57, Tryz.ntmps57
 go_wp2_with fail
 refine (T.hand 4 rfl (fun A a => wrote a)).mono ?_
 rintro e w1 ⟨v, rfl, T1⟩
 have T2 : Hp w0 A0 w1 (busObs b pp pt pu pi pm mp B.kquit ++ [oRow 3 v B.k.log.length (numsV B.k.log)]) := T1
 go_wp2_with fail
 go_returns
 exact ⟨v, rfl, T2.toBus⟩
theorem written_call {pm : Nat} {B : Bs} (T : Hp w0 A0 w os) (i : Nat) (hi : os[i]? = some (oBus b pm B)) :
    Calls Tryz.prog 57 #[.pointer (some ⟨b, 0, none⟩)] w fun e w' => ∃ v, e = .returned v ∧ Hp w0 A0 w' (os.set i (oBus b pm B.kquit) ++ [oRow 3 v B.k.log.length (numsV B.k.log)]) :=
 T.hand i hi fun A a => by
  obtain ⟨⟨pp, pt, pu, pi, mp⟩, a⟩ := a
  refine (written_hp (Hp.start a)).mono ?_
  rintro e w1 ⟨v, rfl, T1⟩
  exact ⟨_, ⟨v, rfl, rfl⟩, T1.end_⟩
theorem nums_of {v : Value} {L : List Nat} (h : w.ownsRow 0 3 1 v L.length (numsV L)) : Ide.Nums w v L := by
 rcases h.2 with ⟨rfl, h0⟩ | ⟨g', cap, cur, rfl, hb, hg, h1, h2, h3, h4⟩
 ·exact ⟨none, 0, by rw [h0], .inl (List.eq_nil_of_length_eq_zero h0)⟩
 ·refine ⟨_, _, rfl, .inr ⟨g', 0, rfl, heap_lt hg, fun i hi => ?_⟩⟩
  rw [cell_at hg, Nat.zero_add]
  rw [Nat.mul_one] at h4
  have := congrArg (fun l => l[i]?) h4
  simp only [List.getElem?_take, Array.getElem?_toList] at this
  rw [if_pos hi] at this
  rw [this]
  simp [hi, numsV]
theorem Hp.nums {v : Value} {L : List Nat} (T : Hp w0 A0 w os) (i : Nat) (hi : os[i]? = some (oRow 3 v L.length (numsV L))) : Ide.Nums w v L := by
 obtain ⟨A, hr, -⟩ := T.get i hi
 exact nums_of hr
theorem Hp.conv {v : Value} {L : List Nat} (T : Hp w0 A0 w os) (i : Nat) (hi : os[i]? = some (oRow 5 v L.length (Uart.bytesV L))) :
    (convert 22 9 v).run Tryz.prog w = .ok (.string (Uart.strL L)) w := by
 obtain ⟨A, hr, -⟩ := T.get i hi
 exact Uart.conv_row hr
theorem Hp.convd {v : Value} {n : Nat} {d : Nat → Nat} (T : Hp w0 A0 w os) (i : Nat) (hi : os[i]? = some (oRow 5 v n (Ide.bytesL n d))) :
    (convert 22 9 v).run Tryz.prog w = .ok (.string (Ide.strOf n d)) w := by
 obtain ⟨A, hr, -⟩ := T.get i hi
 exact Ide.conv_row hr
def Ends (c pp pu pi t : Nat) (ds : Value) (w : World) : Prop :=
 w.cell? ⟨c, 1, none⟩ = some (.pointer (some ⟨pp, 0, none⟩)) ∧ w.cell? ⟨c, 3, none⟩ = some (.pointer (some ⟨pu, 0, none⟩)) ∧ w.cell? ⟨c, 4, none⟩ = some (.pointer (some ⟨pi, 0, none⟩)) ∧ w.cell? ⟨c, 5, none⟩ = some (.int .u64 (t : Nat)) ∧ w.cell? ⟨pi, 0, none⟩ = some ds
theorem Hp.ends {c r pp pt pu pi t : Nat} {D : Ide.Dk} (T : Hp w0 A0 w os) (i j : Nat) (hi : os[i]? = some (Ob.box c (.cells (rbusCells r pp pt pu pi t) 51))) (hj : os[j]? = some (oRIdeD pi ds D)) : Ends c pp pu pi t ds w := by
 obtain ⟨k0, k1, k2, k3, k4, k5, kf, kl⟩ := rbus_facts (T.box i hi)
 obtain ⟨A, lv, H, -⟩ := T.get j hj
 exact ⟨k1, k3, k4, k5, H.facts.1⟩
theorem Hp.endc {pi : Nat} {D : Ide.Dk} (T : Hp w0 A0 w os) (j : Nat) (hj : os[j]? = some (oRIdeD pi ds D)) : (convert 22 9 ds).run Tryz.prog w = .ok (.string (Ide.strOf (D.n * 512) D.d)) w := by
 obtain ⟨A, lv, H, -⟩ := T.get j hj
 exact Ide.conv_row H.disk
theorem Ends.lt {c pp pu pi t : Nat} (h : Ends c pp pu pi t ds w) : c < w.heap.size ∧ pi < w.heap.size := ⟨cell_block_lt h.1, cell_block_lt h.2.2.2.2⟩
end
end Go.Proofs.YtojmpdddfnkffaaGreat

/- bus's law BusPlays: disks that are refused; what a script keeps. -/
namespace Go.Proofs.YtojmpdddfnkffaaGreat
open Go.RowKit Go.MapKept Go.WideShapes Go.ChangeShapes
set_option linter.unusedVariables false

theorem arg_disk {H : Type} {enc : TypeId × Value → H} {w : World} {r : Reach} {base base' : Nat} {spare : Nat → Bool} {held : Bool} {v : Value} {d : DataW H} {ps : List MemPlace}
    (h : Value.okWide Tryz.prog w r base 22 v) (hd : DataW.Trod enc Tryz.prog w base' spare held 22 v d ps) :
    ∃ a len cap f, v = .slice a len cap ∧ Ide.Reads w (.slice a len cap) len f ∧ ∀ i, f i < 256 := by
 obtain ⟨a0, len, cap, rfl⟩ := okWide_slice Tryz.underlying22 h
 obtain ⟨fuel, hf⟩ := hd
 rcases open_ints Tryz.underlying22 Tryz.underlying5 (by kernel_rfl) hf with ⟨hcs, hx⟩ | ⟨a, len', cap', zs, hcs, _, hl, hm, hz, hx, hcell, hwz⟩
 ·simp only [Value.cells] at hcs
  have hcs' : Value.slice a0 len cap = Value.slice none 0 0 := by simpa using hcs
  simp only [Value.slice.injEq] at hcs'
  obtain ⟨rfl, rfl, rfl⟩ := hcs'
  exact ⟨none, 0, 0, fun _ => 0, rfl, ⟨none, 0, rfl, .inl ⟨rfl, fun _ => rfl⟩⟩, fun i => by show 0 < 256; decide⟩
 ·have hcs' : Value.slice a0 len cap = Value.slice (some a) len' cap' := by simpa [Value.cells] using hcs
  simp only [Value.slice.injEq] at hcs'
  obtain ⟨rfl, rfl, rfl⟩ := hcs'
  refine ⟨some a, len, cap, fun i => (zs.getD i 0).toNat % 256, rfl, ⟨some a, cap, rfl, ?_⟩, fun i => Nat.mod_lt _ (by decide)⟩
  have hzl : len ≤ zs.length := by rw [hz]; split <;> omega
  by_cases h0 : len = 0
  ·exact .inl ⟨h0, fun h => by cases h⟩
  ·obtain ⟨b, off, spot⟩ := a
   have c0 := hcell 0 (by omega)
   have hspot : spot = none := by simpa [Addr.add] using World.cell?_spot c0
   subst hspot
   refine .inr ⟨b, off, rfl, ?_, fun i hi => ?_⟩
   ·have := cell_block_lt c0
    rw [Go.WideShapes.add_plain] at this
    exact this
   ·have hc := hcell i (by omega)
    rw [Go.WideShapes.add_plain] at hc
    have hi2 : i < zs.length := by omega
    have e : zs.getD i 0 = zs[i] := by simp [List.getD, hi2]
    have hw := wf_u8 (hwz zs[i] (List.getElem_mem hi2))
    rw [hc]
    simp only [e]
    congr 2
    omega
theorem new_no (pm : Nat) (a : Option Addr) (m c : Nat) (h : m % 512 ≠ 0 ∨ 32768 < m) (w : World) : Calls Tryz.prog 6 #[.pointer (some ⟨pm, 0, none⟩), .slice a m c] w fun e w' => e = .returned (.tuple #[.pointer none, .int .i64 140]) ∧ w = w' := by
 go_enter Tryz.func6, Tryz.ntmps6
 go_wp2_with fail
 refine (Ide.new_bad a m c h).mono ?_
 rintro e w1 ⟨rfl, rfl⟩
 go_wp2_with fail
 go_ret2
 exact ⟨rfl, rfl⟩
theorem rnew_no (pm : Nat) (a : Option Addr) (m c : Nat) (h : m % 512 ≠ 0 ∨ 32768 < m) (w : World) : Calls Tryz.prog 8 #[.pointer (some ⟨pm, 0, none⟩), .slice a m c] w fun e w' => e = .returned (.tuple #[.pointer none, .int .i64 140]) ∧ w = w' := by
 go_enter Tryz.func8, Tryz.ntmps8
 go_wp2_with fail
 refine (Ide.rnew_bad a m c h).mono ?_
 rintro e w1 ⟨rfl, rfl⟩
 go_wp2_with fail
 go_ret2
 exact ⟨rfl, rfl⟩
theorem both_no (a : Option Addr) (m c : Nat) (h : m % 512 ≠ 0 ∨ 32768 < m) (w : World) : Calls Tryz.prog 9 #[.int .i64 256, .slice a m c] w fun e w' => e = .returned (.tuple #[.pointer none, .pointer none, .pointer none]) ∧ Below w.heap.size w w' := by
 have HH := Lib.hid h
 clear h
 go_enter Tryz.func9, Tryz.ntmps9
 go_wp2_with fail
 refine (new_any w 256 (by decide) (by decide)).mono ?_
 rintro e w1 ⟨pm, S, rfl, M1, N1, hb1⟩
 have HB1 := Lib.hid hb1
 clear M1 N1 hb1
 go_wp2_with fail
 refine (rnew_any w1 256 (by decide) (by decide)).mono ?_
 rintro e w2 ⟨r, S2, rfl, M2, N2, hb2⟩
 have HB2 := Lib.hid (step_below HB1.out hb2 (Nat.le_refl _))
 clear M2 N2 hb2
 go_wp2_with fail
 refine (new_no pm a m c HH.out _).mono ?_
 rintro e w3 ⟨rfl, rfl⟩
 go_wp2_with fail
 refine (rnew_no r a m c HH.out _).mono ?_
 rintro e w4 ⟨rfl, rfl⟩
 go_wp2_with fail
 go_returns
 exact ⟨rfl, HB2.out⟩
def Mr (B : Bs) : Prop := ∃ x, B.R = (RS.new 256).gate x
theorem mr_out1 {B : Bs} (h : Mr B) (k n v : Nat) : Mr (B.out1 k n v) := by
 unfold Bs.out1
 split
 ·exact h
 ·exact h
 ·exact h
 ·exact h
 ·obtain ⟨x, hx⟩ := h
  exact ⟨_, by show B.R.gate _ = _; rw [hx]; rfl⟩
theorem mr_outP {B : Bs} (h : Mr B) (p v : Nat) : Mr (B.outP p v) := by
 unfold Bs.outP
 split
 ·exact h
 ·exact mr_out1 h _ _ _
theorem mr_outs {B : Bs} (h : Mr B) (a v : Nat) : ∀ k, Mr (B.outs a v k)
 | 0 => h
 | k + 1 => mr_outP (mr_outs h a v k) _ _
theorem mr_wide {B : Bs} (h : Mr B) (a s v : Nat) : Mr (B.wide a s v) := by
 unfold Bs.wide
 split
 ·exact h
 ·exact mr_outs h a v s
theorem mr_in1 {B : Bs} (h : Mr B) (k n : Nat) : Mr (B.in1S k n) := by
 unfold Bs.in1S
 split <;> exact h
theorem mr_insS {B : Bs} (h : Mr B) (a : Nat) : ∀ k, Mr (B.insS a k)
 | 0 => h
 | k + 1 => by
  show Mr (Bs.inPS _ _)
  unfold Bs.inPS
  split
  ·exact mr_insS h a k
  ·exact mr_in1 (mr_insS h a k) _ _
theorem mr_wideS {B : Bs} (h : Mr B) (a s : Nat) : Mr (B.wideS a s) := by
 unfold Bs.wideS
 split
 ·exact h
 ·exact mr_insS h a s
structure Kpt (B : Bs) (n : Nat) : Prop where
 ok : B.ok
 f : B.fits (16 * n)
 g : Gt B
 m : Mr B
 t : B.t ≤ 7000 * n
theorem wideS_fits2 {B : Bs} {m : Nat} (h : B.fits m) (a s : Nat) : (B.wideS a s).fits m := by
 unfold Bs.wideS
 split
 ·exact ⟨h.s, by show (B.k.inS 0 s).log.length ≤ m; rw [inS_log]; exact h.l⟩
 ·exact insS_fits h a s
theorem push_sent (U : Uart.Ut) (x : Nat) : (U.push x).sent = U.sent := by
 unfold Uart.Ut.push
 (repeat' split) <;> rfl
theorem ticks_keep {B : Bs} {m : Nat} (hf : B.fits m) (hg : Gt B) (hm : Mr B) : ∀ n, (B.ticks n).fits m ∧ Gt (B.ticks n) ∧ Mr (B.ticks n)
 | 0 => ⟨hf, hg, hm⟩
 | n + 1 => by
  obtain ⟨h1, h2, h3⟩ := ticks_keep hf hg hm n
  exact ⟨⟨h1.s, h1.l⟩, h2, h3⟩
theorem Kpt.ask {B : Bs} {n : Nat} (h : Kpt B n) (hn : n < 300) (k : Int) (p : Nat) (s : Int) (v : Nat) : Kpt (B.ask k p s v) (n + 1) := by
 have ht := h.t
 have hle : B.fits (16 * (n + 1)) := h.f.le (by omega)
 unfold Bs.ask
 split
 ·unfold Bs.outA
  split
  ·rename_i hs
   have hs2 : s.toNat ≤ 4 := by unfold okS at hs; omega
   exact ⟨Bs.out_ok h.ok _ _ _, (Bs.out_fits h.f _ _ _ hs2).le (by omega), gt_wide h.g _ _ _, mr_wide h.m _ _ _, by rw [Bs.out_t h.ok]; omega⟩
  ·exact ⟨h.ok, hle, h.g, h.m, by omega⟩
 split
 ·unfold Bs.inA
  split
  ·refine ⟨Bs.inS_ok h.ok _ _, ⟨(wideS_fits2 hle _ _).s, (wideS_fits2 hle _ _).l⟩, gt_wideS h.g _ _, mr_wideS h.m _ _, ?_⟩
   have := (Bs.wideS_ok h.ok p s.toNat).2
   show (B.wideS p s.toNat).t ≤ _
   omega
  ·exact ⟨h.ok, hle, h.g, h.m, by omega⟩
 split
 ·obtain ⟨h1, h2⟩ := Bs.ticks_ok h.ok (v % 7000) (by have := Nat.mod_lt v (show 0 < 7000 by decide); omega)
  obtain ⟨h3, h4, h5⟩ := ticks_keep hle h.g h.m (v % 7000)
  exact ⟨h1, h3, h4, h5, by rw [h2]; have := Nat.mod_lt v (show 0 < 7000 by decide); omega⟩
 split
 ·exact ⟨⟨h.ok.T, h.ok.t⟩, ⟨by show (B.u.push (v % 256)).sent.length ≤ _; rw [push_sent]; exact hle.s, hle.l⟩, h.g, h.m, by show B.t ≤ _; omega⟩
 split
 ·exact ⟨⟨h.ok.T, h.ok.t⟩, ⟨hle.s, hle.l⟩, h.g, h.m, by show B.t ≤ _; omega⟩
 ·exact ⟨h.ok, hle, h.g, h.m, by omega⟩
theorem Kpt.start (n : Nat) (d : Nat → Nat) : Kpt (Bs.new (RS.new 256) n d) 0 :=
 ⟨Bs.lines_ok ⟨⟨Pit.ctNew_ok 0 (Int.le_refl 0), Pit.ctNew_ok 0 (Int.le_refl 0), Pit.ctNew_ok 0 (Int.le_refl 0)⟩, by show 0 < _; decide⟩, Bs.lines_fits ⟨Nat.le_refl _, Nat.le_refl _⟩, rfl, ⟨true, rfl⟩, Nat.le_refl _⟩
theorem last_read {B : Bs} (h : Mr B) : (((B.R.write 0 7 1).read 1048576 1 == 7) = B.R.closed) := by
 obtain ⟨x, hx⟩ := h
 rw [hx]
 cases x <;> kernel_rfl
theorem last_two {B : Bs} (h : Mr B) : ((B.R.write 0 7 1).read 1048576 1 = 7 ∧ B.R.closed = true) ∨ ((B.R.write 0 7 1).read 1048576 1 ≠ 7 ∧ B.R.closed = false) := by
 have e := last_read h
 generalize (B.R.write 0 7 1).read 1048576 1 = v at *
 generalize B.R.closed = y at *
 cases y
 ·exact .inr ⟨by simpa using e, rfl⟩
 ·exact .inl ⟨by simpa using e, rfl⟩
section
variable {w0 w : World} {A0 : Nat → Prop} {os : List Ob}
theorem Hp.rbc {c r pp pt pu pi t : Nat} (T : Hp w0 A0 w os) (i : Nat) (hi : os[i]? = some (Ob.box c (.cells (rbusCells r pp pt pu pi t) 51))) :
    w.cell? ⟨c, 1, none⟩ = some (.pointer (some ⟨pp, 0, none⟩)) ∧ w.cell? ⟨c, 5, none⟩ = some (.int .u64 (t : Nat)) := by
 obtain ⟨k0, k1, k2, k3, k4, k5, kf, kl⟩ := rbus_facts (T.box i hi)
 exact ⟨k1, k5⟩
theorem Hp.rbm {c r pp pt pu pi t : Nat} {R : RS} (T : Hp w0 A0 w os) (i j : Nat) (hi : os[i]? = some (Ob.box c (.cells (rbusCells r pp pt pu pi t) 51))) (hj : os[j]? = some (oRef r R)) :
    w.cell? ⟨c, 0, none⟩ = some (.pointer (some ⟨r, 0, none⟩)) ∧ w.cell? ⟨r, 4, none⟩ = some (.bool R.closed) := by
 obtain ⟨k0, -⟩ := rbus_facts (T.box i hi)
 obtain ⟨A, g0, g1, g2, g3, H, -⟩ := T.get j hj
 exact ⟨k0, by rw [cell_at H.obj]; rfl⟩
end
end Go.Proofs.YtojmpdddfnkffaaGreat
