/- UartF UartG UartH UartR, together. -/
import Derived.Test.YtojmpdddfnkffaaMuarta
import Derived.Test.YtojmpdddfnkffaaIn
import Derived.Test.YtojmpdddfnkffaaReach
import Derived.Laws.BytesArg
import Derived.Test.YtojmpdddfnkffaaRow
/- uart: any write, any read; a port that a law has made. -/
namespace Go.Proofs.Ytojmpdddfnkffaa.Uart
open Go.RowKit Go.Conc
set_option linter.unusedVariables false

def Ut.tail (U : Ut) : Ut := U.flow U.came.tail
def Ut.ask (U : Ut) : Ut := if U.why = 2 then U.setEmpty false else U
def Ut.setLost (U : Ut) (x : Bool) : Ut := { U with lost := x }
def Ut.stat (U : Ut) : Nat := 96 + (if U.came.isEmpty then 0 else 1) + (if U.lost then 2 else 0)
def Ut.inV (U : Ut) (reg : Int) : Nat :=
  if reg < 0 ∨ 7 < reg then 0
  else if reg < 2 ∧ U.latch = true then (if reg = 0 then U.d0 else U.d1)
  else if reg = 0 then U.came.headD 0
  else if reg = 1 then U.wanted
  else if reg = 2 then U.why + (if U.on then 192 else 0)
  else if reg = 3 then U.lcr
  else if reg = 4 then U.mcr
  else if reg = 5 then U.stat
  else if reg = 6 then 176
  else U.scr
def Ut.inS (U : Ut) (reg : Int) : Ut :=
  if reg < 0 ∨ 7 < reg then U
  else if reg < 2 ∧ U.latch = true then U
  else if reg = 0 then U.tail
  else if reg = 2 then U.ask
  else if reg = 5 then U.setLost false
  else U
section
variable {w w' : World} {b q : Nat} {sv : Value} {U : Ut}
theorem out_any (H : UtIn w b q sv U) (reg : Int) (v : Nat) (hv : v < 256) (hL : U.sent.length + 1 ≤ 140737488355328) :
    Calls Try.prog 77 #[.pointer (some ⟨b, 0, none⟩), .int .i64 reg, .int .u8 (v : Nat)] w fun e w' => e = .returned (.int .i64 (callErr reg)) ∧ Went w b q sv (U.out reg v) w' := by
  unfold callErr Ut.out
  by_cases h : reg < 0 ∨ 7 < reg
  · rw [if_pos h, if_pos h]
    refine (out_bad reg v h).mono ?_
    rintro e w1 ⟨rfl, rfl⟩
    exact ⟨rfl, Went.of H (Keeps.refl _ _)⟩
  · rw [if_neg h, if_neg h]
    by_cases h2 : reg < 2 ∧ U.latch = true
    · rw [if_pos h2]
      have := out_d H reg.toNat v (by omega) hv h2.2
      rwa [show ((reg.toNat : Nat) : Int) = reg by omega] at this
    · rw [if_neg h2]
      by_cases h0 : reg = 0
      · subst h0
        rw [if_pos rfl]
        exact out_0 H v hv (by cases hl : U.latch; rfl; exact absurd ⟨by decide, hl⟩ h2) hL
      rw [if_neg h0]
      by_cases h1 : reg = 1
      · subst h1
        rw [if_pos rfl]
        exact out_1 H v hv (by cases hl : U.latch; rfl; exact absurd ⟨by decide, hl⟩ h2)
      rw [if_neg h1]
      by_cases e2 : reg = 2
      · subst e2; rw [if_pos rfl]; exact out_2 H v hv
      rw [if_neg e2]
      by_cases e3 : reg = 3
      · subst e3; rw [if_pos rfl]; exact out_3 H v hv
      rw [if_neg e3]
      by_cases e4 : reg = 4
      · subst e4; rw [if_pos rfl]; exact out_4 H v hv
      rw [if_neg e4]
      by_cases e7 : reg = 7
      · subst e7; rw [if_pos rfl]; exact out_7 H v hv
      rw [if_neg e7]
      exact out_else H reg (by omega) v
theorem UtIn.setLost (H : UtIn w b q sv U) (x : Bool) : UtIn (w.setCell ⟨b, 1, none⟩ (.bool x)) b q sv (U.setLost x) := by
  have o := H.ok
  exact H.turn 1 _ rfl rfl rfl ⟨o.c1, o.c2, o.d0, o.d1, o.lcr, o.mcr, o.scr, o.wanted, o.s2⟩
set_option maxRecDepth 20000 in
theorem in_nil (w : World) (reg : Int) : Calls Try.prog 78 #[.pointer none, .int .i64 reg] w fun e w' => e = .returned (.tuple #[.int .u8 0, .int .i64 1]) ∧ w = w' := by
  go_enter Try.func78, Try.ntmps78
  go_wp2_with fail
  go_ret2
  exact ⟨rfl, rfl⟩
theorem in_bad (reg : Int) (h : reg < 0 ∨ 7 < reg) : Calls Try.prog 78 #[.pointer (some ⟨b, 0, none⟩), .int .i64 reg] w fun e w' => e = .returned (.tuple #[.int .u8 0, .int .i64 1]) ∧ w = w' := by
  by_cases h0 : reg < 0
  · clear h
    go_enter Try.func78, Try.ntmps78
    go_wp2_with fail
    go_ret2
    exact ⟨rfl, rfl⟩
  · have h7 : 7 < reg := by omega
    have g0 : ¬ reg < 0 := h0
    clear h
    go_enter Try.func78, Try.ntmps78
    go_wp2_with fail
    go_ret2
    exact ⟨rfl, rfl⟩
set_option maxHeartbeats 2000000 in
theorem in_d (H : UtIn w b q sv U) (k : Nat) (hk : k < 2) (hl : U.latch = true) :
    Calls Try.prog 78 #[.pointer (some ⟨b, 0, none⟩), .int .i64 (k : Nat)] w fun e w' => e = .returned (.tuple #[.int .u8 ((if k = 0 then U.d0 else U.d1 : Nat) : Int), .int .i64 0]) ∧ w = w' := by
  obtain ⟨-, -, -, -, k4, k5, k6, -, -, -, -, kf, kl⟩ := H.facts
  have hb := t128 U.lcr H.ok.lcr
  rw [show (U.lcr / 128 % 2 == 1) = true from hl] at hb
  clear H hl
  rcases (show k = 0 ∨ k = 1 by omega) with rfl | rfl
  · rw [if_pos rfl]
    go_enter Try.func78, Try.ntmps78
    go_wp2_with fail
    go_ret2
    exact ⟨rfl, rfl⟩
  · rw [if_neg (by decide)]
    go_enter Try.func78, Try.ntmps78
    go_wp2_with fail
    go_ret2
    exact ⟨rfl, rfl⟩
set_option maxHeartbeats 2000000 in
theorem in_0 (H : UtIn w b q sv U) (hl : U.latch = false) :
    Calls Try.prog 78 #[.pointer (some ⟨b, 0, none⟩), .int .i64 0] w fun e w' => e = .returned (.tuple #[.int .u8 (U.came.headD 0 : Nat), .int .i64 0]) ∧ Went w b q sv U.tail w' := by
  obtain ⟨-, -, -, -, -, -, k6, -, -, -, -, kf, kl⟩ := H.facts
  have hb := t128 U.lcr H.ok.lcr
  rw [show (U.lcr / 128 % 2 == 1) = false from hl] at hb
  cases hc : U.came with
  | nil =>
    have HU := Lib.hid (show U.tail = U by unfold Ut.tail Ut.flow; rw [hc]; cases U; simp_all)
    have HC := Lib.hid hc
    clear hc hl
    go_enter Try.func78, Try.ntmps78
    go_wp2_with fail
    refine (next_none H HC.out).mono ?_
    rintro e w1 ⟨rfl, rfl⟩
    go_wp2_with fail
    go_ret2
    exact ⟨rfl, Went.of (by rw [HU.out]; exact H) (Keeps.refl _ _)⟩
  | cons x l =>
    have HU := Lib.hid (show U.tail = U.flow l by unfold Ut.tail; rw [hc]; rfl)
    have HC := Lib.hid hc
    clear hc hl
    go_enter Try.func78, Try.ntmps78
    go_wp2_with fail
    refine (next_some H x l HC.out).mono ?_
    rintro e w1 ⟨rfl, H1, K1⟩
    have HH := Lib.hid H1
    go_wp2_with fail
    go_ret2
    exact ⟨rfl, Went.of (by rw [HU.out]; exact HH.out) (K1.mono fun k _ e => .inr (.inl e))⟩
set_option maxHeartbeats 2000000 in
theorem in_1 (H : UtIn w b q sv U) (hl : U.latch = false) :
    Calls Try.prog 78 #[.pointer (some ⟨b, 0, none⟩), .int .i64 1] w fun e w' => e = .returned (.tuple #[.int .u8 (U.wanted : Nat), .int .i64 0]) ∧ w = w' := by
  obtain ⟨-, -, -, -, -, -, k6, -, -, k9, -, kf, kl⟩ := H.facts
  have hb := t128 U.lcr H.ok.lcr
  rw [show (U.lcr / 128 % 2 == 1) = false from hl] at hb
  clear H hl
  go_enter Try.func78, Try.ntmps78
  go_wp2_with fail
  go_ret2
  exact ⟨rfl, rfl⟩
theorem or192 : bits .or .u8 4 192 = 196 ∧ bits .or .u8 2 192 = 194 ∧ bits .or .u8 1 192 = 193 ∧ bits .or .u8 96 1 = 97 ∧ bits .or .u8 96 2 = 98 ∧ bits .or .u8 97 2 = 99 := by decide +kernel
set_option maxHeartbeats 4000000 in
theorem in_2 (H : UtIn w b q sv U) :
    Calls Try.prog 78 #[.pointer (some ⟨b, 0, none⟩), .int .i64 2] w fun e w' => e = .returned (.tuple #[.int .u8 ((U.why + (if U.on then 192 else 0) : Nat) : Int), .int .i64 0]) ∧ Went w b q sv U.ask w' := by
  obtain ⟨-, -, k2, k3, -, -, -, -, -, -, -, kf, kl⟩ := H.facts
  obtain ⟨o1, o2, o3, -⟩ := or192
  have hw : U.why = 4 ∨ U.why = 2 ∨ U.why = 1 := by unfold Ut.why; cases U.rx <;> cases U.tx <;> simp
  have HA := Lib.hid (show U.ask = if U.why = 2 then U.setEmpty false else U from rfl)
  have HW := why_any H
  have HH := Lib.hid H
  clear H
  generalize U.ask = U' at *
  generalize U.why = y at *
  generalize U.on = on at *
  rcases hw with rfl | rfl | rfl
  all_goals
    cases on
    all_goals
      go_enter Try.func78, Try.ntmps78
      go_wp2_with fail
      refine HW.mono ?_
      rintro e w1 ⟨rfl, rfl⟩
      go_wp2_with fail
      go_ret2
      first
        | exact ⟨rfl, Went.of (by rw [HA.out, if_neg (by decide)]; exact HH.out) (Keeps.refl _ _)⟩
        | exact ⟨rfl, Went.of (by rw [HA.out, if_pos trivial]; exact HH.out.setEmpty false) (keeps_obj w b q sv _ _)⟩
set_option maxHeartbeats 2000000 in
theorem in_3 (H : UtIn w b q sv U) :
    Calls Try.prog 78 #[.pointer (some ⟨b, 0, none⟩), .int .i64 3] w fun e w' => e = .returned (.tuple #[.int .u8 (U.lcr : Nat), .int .i64 0]) ∧ w = w' := by
  obtain ⟨-, -, -, -, -, -, k6, -, -, -, -, kf, kl⟩ := H.facts
  clear H
  go_enter Try.func78, Try.ntmps78
  go_wp2_with fail
  go_ret2
  exact ⟨rfl, rfl⟩
set_option maxHeartbeats 2000000 in
theorem in_4 (H : UtIn w b q sv U) :
    Calls Try.prog 78 #[.pointer (some ⟨b, 0, none⟩), .int .i64 4] w fun e w' => e = .returned (.tuple #[.int .u8 (U.mcr : Nat), .int .i64 0]) ∧ w = w' := by
  obtain ⟨-, -, -, -, -, -, -, k7, -, -, -, kf, kl⟩ := H.facts
  clear H
  go_enter Try.func78, Try.ntmps78
  go_wp2_with fail
  go_ret2
  exact ⟨rfl, rfl⟩
set_option maxHeartbeats 2000000 in
theorem in_7 (H : UtIn w b q sv U) :
    Calls Try.prog 78 #[.pointer (some ⟨b, 0, none⟩), .int .i64 7] w fun e w' => e = .returned (.tuple #[.int .u8 (U.scr : Nat), .int .i64 0]) ∧ w = w' := by
  obtain ⟨-, -, -, -, -, -, -, -, k8, -, -, kf, kl⟩ := H.facts
  clear H
  go_enter Try.func78, Try.ntmps78
  go_wp2_with fail
  go_ret2
  exact ⟨rfl, rfl⟩
set_option maxHeartbeats 2000000 in
theorem in_6 (H : UtIn w b q sv U) :
    Calls Try.prog 78 #[.pointer (some ⟨b, 0, none⟩), .int .i64 6] w fun e w' => e = .returned (.tuple #[.int .u8 176, .int .i64 0]) ∧ w = w' := by
  obtain ⟨-, -, -, -, -, -, -, -, -, -, -, kf, kl⟩ := H.facts
  clear H
  go_enter Try.func78, Try.ntmps78
  go_wp2_with fail
  go_ret2
  exact ⟨rfl, rfl⟩
set_option maxHeartbeats 4000000 in
theorem in_5 (H : UtIn w b q sv U) :
    Calls Try.prog 78 #[.pointer (some ⟨b, 0, none⟩), .int .i64 5] w fun e w' => e = .returned (.tuple #[.int .u8 (U.stat : Nat), .int .i64 0]) ∧ Went w b q sv (U.setLost false) w' := by
  obtain ⟨k0, k1, -, -, -, -, -, -, -, -, -, kf, kl⟩ := H.facts
  obtain ⟨-, -, -, o1, o2, o3⟩ := or192
  obtain ⟨s, r, hq⟩ := H.chan
  have hlen := fun ty => run_len_chan (P := Try.prog) (w := w) 120 ty Try.underlying120 hq
  have hn : ((bytesV U.came).toArray.size : Int) = U.came.length := by simp [bytesV]
  have hw : U.stat = 96 + (if U.came.isEmpty then 0 else 1) + (if U.lost then 2 else 0) := rfl
  have HH := Lib.hid (H.setLost false)
  generalize (bytesV U.came).toArray.size = n at *
  generalize U.stat = y at *
  clear hq H
  cases hl : U.lost <;> cases hc : U.came
  all_goals
    rw [hl, hc] at hw
    rw [hl] at k1
    rw [hc] at hn
    simp at hw
    have HW := Lib.hid hw
    have hn0 : (n : Int) ≤ 0 ∨ (0 : Int) < (n : Int) := by omega
    clear hw hl hc
    rcases hn0 with hn0 | hn0
    all_goals (try (exfalso; simp at hn; omega))
    all_goals
      clear hn
      go_enter Try.func78, Try.ntmps78
      go_wp2_with fail
      go_ret2
      exact ⟨by rw [HW.out]; rfl, Went.of HH.out (keeps_obj w b q sv _ _)⟩
theorem in_any (H : UtIn w b q sv U) (reg : Int) :
    Calls Try.prog 78 #[.pointer (some ⟨b, 0, none⟩), .int .i64 reg] w fun e w' => e = .returned (.tuple #[.int .u8 (U.inV reg : Nat), .int .i64 (callErr reg)]) ∧ Went w b q sv (U.inS reg) w' := by
  have same : ∀ {v c : Int}, (Calls Try.prog 78 #[.pointer (some ⟨b, 0, none⟩), .int .i64 reg] w fun e w' => e = .returned (.tuple #[.int .u8 v, .int .i64 c]) ∧ w = w') →
      Calls Try.prog 78 #[.pointer (some ⟨b, 0, none⟩), .int .i64 reg] w fun e w' => e = .returned (.tuple #[.int .u8 v, .int .i64 c]) ∧ Went w b q sv U w' := fun h => by
    refine h.mono ?_
    rintro e w1 ⟨rfl, rfl⟩
    exact ⟨rfl, Went.of H (Keeps.refl _ _)⟩
  unfold callErr Ut.inV Ut.inS
  by_cases h : reg < 0 ∨ 7 < reg
  · rw [if_pos h, if_pos h, if_pos h]
    exact same (in_bad reg h)
  · rw [if_neg h, if_neg h, if_neg h]
    by_cases h2 : reg < 2 ∧ U.latch = true
    · rw [if_pos h2, if_pos h2]
      have := in_d H reg.toNat (by omega) h2.2
      rw [show ((reg.toNat : Nat) : Int) = reg by omega] at this
      by_cases h0 : reg = 0
      · rw [if_pos h0]; rw [if_pos (by omega)] at this; exact same this
      · rw [if_neg h0]; rw [if_neg (by omega)] at this; exact same this
    · rw [if_neg h2, if_neg h2]
      by_cases h0 : reg = 0
      · subst h0
        rw [if_pos rfl, if_pos rfl]
        exact in_0 H (by cases hl : U.latch; rfl; exact absurd ⟨by decide, hl⟩ h2)
      rw [if_neg h0, if_neg h0]
      by_cases h1 : reg = 1
      · subst h1
        rw [if_pos rfl, if_neg (by decide), if_neg (by decide)]
        exact same (in_1 H (by cases hl : U.latch; rfl; exact absurd ⟨by decide, hl⟩ h2))
      rw [if_neg h1]
      by_cases e2 : reg = 2
      · subst e2; rw [if_pos rfl, if_pos rfl]; exact in_2 H
      rw [if_neg e2, if_neg e2]
      by_cases e3 : reg = 3
      · subst e3; rw [if_pos rfl, if_neg (by decide)]; exact same (in_3 H)
      rw [if_neg e3]
      by_cases e4 : reg = 4
      · subst e4; rw [if_pos rfl, if_neg (by decide)]; exact same (in_4 H)
      rw [if_neg e4]
      by_cases e5 : reg = 5
      · subst e5; rw [if_pos rfl, if_pos rfl]; exact in_5 H
      rw [if_neg e5, if_neg e5]
      by_cases e6 : reg = 6
      · subst e6; rw [if_pos rfl]; exact same (in_6 H)
      rw [if_neg e6]
      have e7 : reg = 7 := by omega
      subst e7
      exact same (in_7 H)
end
end Go.Proofs.Ytojmpdddfnkffaa.Uart

/- uart's laws: a port that a law has made, beside blocks that are the law's own; the calls at the head of all statements. -/
namespace Go.Proofs.Ytojmpdddfnkffaa.Uart
open Go.RowKit Go.Conc
set_option linter.unusedVariables false

/-- A port all of whose blocks were made behind the world w0; the blocks of G hold what they held in the world wG. -/
def UAt (w0 w : World) (b : Nat) (U : Ut) (G : Nat → Prop) (wG : World) : Prop :=
  ∃ q sv, UtIn w b q sv U ∧ (∀ k, Held b q sv k → w0.heap.size ≤ k ∧ ¬ G k) ∧ (∀ g, G g → g < wG.heap.size ∧ w.heap[g]? = wG.heap[g]?) ∧ Below w0.heap.size w0 w ∧ wG.heap.size ≤ w.heap.size
section
variable {w0 w w' wG : World} {b : Nat} {U : Ut} {G : Nat → Prop}
theorem UAt.below (h : UAt w0 w b U G wG) : Below w0.heap.size w0 w := by obtain ⟨q, sv, H, N, g, B, s⟩ := h; exact B
theorem UAt.isok (h : UAt w0 w b U G wG) : U.ok := by obtain ⟨q, sv, H, N, g, B, s⟩ := h; exact H.ok
theorem UAt.kept (h : UAt w0 w b U G wG) {k : Nat} (hk : G k) : w.heap[k]? = wG.heap[k]? := by obtain ⟨q, sv, H, N, g, B, s⟩ := h; exact (g k hk).2
theorem UAt.row (h : UAt w0 w b U G wG) {B n : Nat} {E : TypeId} {v : Value} {xs : List Value} (hr : wG.ownsRow B E 1 v n xs) (hg : ∀ k, v.ownBlock = some k → G k) : w.ownsRow B E 1 v n xs := row_of_heap hr fun k hk => h.kept (hg k hk)
theorem UAt.move (h : UAt w0 w b U G wG) (hb : Below w.heap.size w w') : UAt w0 w' b U G wG := by
  obtain ⟨q, sv, H, N, g, B, s⟩ := h
  exact ⟨q, sv, H.of_heap fun k hk => hb.block k (H.lt hk), N, fun k hk => ⟨(g k hk).1, (hb.block k (Nat.lt_of_lt_of_le (g k hk).1 s)).trans (g k hk).2⟩, B.trans (hb.mono B.size), Nat.le_trans s hb.size⟩
theorem UAt.alloc (h : UAt w0 w b U G wG) (o : Obj) : UAt w0 (w.alloc o) b U G wG := h.move ((Below.refl _ _).alloc (Nat.le_refl _) _)
theorem UAt.went {q : Nat} {sv : Value} {U' : Ut} (H : UtIn w b q sv U) (N : ∀ k, Held b q sv k → w0.heap.size ≤ k ∧ ¬ G k) (g : ∀ g, G g → g < wG.heap.size ∧ w.heap[g]? = wG.heap[g]?) (B : Below w0.heap.size w0 w) (s : wG.heap.size ≤ w.heap.size) (h : Went w b q sv U' w') : UAt w0 w' b U' G wG := by
  obtain ⟨sv', H', K, hsv⟩ := h
  refine ⟨q, sv', H', fun k hk => ?_, fun k hk => ⟨(g k hk).1, (K.block k (Nat.lt_of_lt_of_le (g k hk).1 s) fun hh => (N k hh).2 hk).trans (g k hk).2⟩, Keeps.toBelow B K B.size fun k hk => (N k hk).1, Nat.le_trans s K.size⟩
  rcases hk with hk | hk | hk
  · exact N k (.inl hk)
  · exact N k (.inr (.inl hk))
  · rcases hsv k hk with h1 | h1
    · exact N k (.inr (.inr h1))
    · exact ⟨Nat.le_trans B.size h1, fun hG => by have := (g k hG).1; omega⟩
theorem new_at (w : World) : Calls Try.prog 37 #[] w fun e w' => ∃ b, e = .returned (.pointer (some ⟨b, 0, none⟩)) ∧ UAt w w' b Ut.new (fun _ => False) w' := by
  refine (new_any w).mono ?_
  rintro e w1 ⟨b, q, rfl, H, h1, h2, B⟩
  refine ⟨b, rfl, q, _, H, fun k hk => ⟨?_, fun h => h⟩, fun g h => h.elim, B, Nat.le_refl _⟩
  rcases hk with rfl | rfl | hk
  · exact h1
  · exact h2
  · cases hk
theorem out_at (h : UAt w0 w b U G wG) (reg : Int) (v : Nat) (hv : v < 256) (hL : U.sent.length + 1 ≤ 140737488355328) :
    Calls Try.prog 77 #[.pointer (some ⟨b, 0, none⟩), .int .i64 reg, .int .u8 (v : Nat)] w fun e w' => e = .returned (.int .i64 (callErr reg)) ∧ UAt w0 w' b (U.out reg v) G wG := by
  obtain ⟨q, sv, H, N, g, B, s⟩ := h
  refine (out_any H reg v hv hL).mono ?_
  rintro e w1 ⟨rfl, W⟩
  exact ⟨rfl, UAt.went H N g B s W⟩
theorem in_at (h : UAt w0 w b U G wG) (reg : Int) :
    Calls Try.prog 78 #[.pointer (some ⟨b, 0, none⟩), .int .i64 reg] w fun e w' => e = .returned (.tuple #[.int .u8 (U.inV reg : Nat), .int .i64 (callErr reg)]) ∧ UAt w0 w' b (U.inS reg) G wG := by
  obtain ⟨q, sv, H, N, g, B, s⟩ := h
  refine (in_any H reg).mono ?_
  rintro e w1 ⟨rfl, W⟩
  exact ⟨rfl, UAt.went H N g B s W⟩
theorem push_at (h : UAt w0 w b U G wG) (x : Nat) (hx : x < 256) :
    Calls Try.prog 50 #[.pointer (some ⟨b, 0, none⟩), .int .u8 (x : Nat)] w fun e w' => e = .returned (.tuple #[]) ∧ UAt w0 w' b (U.push x) G wG := by
  obtain ⟨q, sv, H, N, g, B, s⟩ := h
  refine (push_any H x hx).mono ?_
  rintro e w1 ⟨rfl, H1, K⟩
  exact ⟨rfl, UAt.went H N g B s (Went.of H1 (K.mono fun k _ e => e.imp id fun e => .inl e))⟩
theorem line_at (h : UAt w0 w b U G wG) :
    Calls Try.prog 67 #[.pointer (some ⟨b, 0, none⟩)] w fun e w' => e = .returned (.bool U.line) ∧ w = w' := by
  obtain ⟨q, sv, H, N, g, B, s⟩ := h
  exact line_any H
theorem sent_at (h : UAt w0 w b U G wG) :
    Calls Try.prog 32 #[.pointer (some ⟨b, 0, none⟩)] w fun e w' => ∃ v, e = .returned v ∧ w'.ownsRow 0 5 1 v U.sent.length (bytesV U.sent) ∧ (∀ k, v.ownBlock = some k → w0.heap.size ≤ k) ∧
      UAt w0 w' b U.quit (fun k => G k ∨ v.ownBlock = some k) w' ∧ ∀ g, G g → w'.heap[g]? = wG.heap[g]? := by
  obtain ⟨q, sv, H, N, g, B, s⟩ := h
  refine (sent_any H).mono ?_
  rintro e w1 ⟨rfl, H1, R, K⟩
  have hb := H.bs
  have hq := H.qs
  have hnot : ∀ k, G k → w1.heap[k]? = wG.heap[k]? := fun k hk => (K.block k (Nat.lt_of_lt_of_le (g k hk).1 s) (fun h => by
    rcases h with rfl | rfl
    · exact (N _ (.inl rfl)).2 hk
    · exact (N _ (.inr (.inl rfl))).2 hk)).trans (g k hk).2
  refine ⟨sv, rfl, R, fun k hk => (N k (.inr (.inr hk))).1, ⟨q, _, H1, fun k hk => ?_, fun k hk => ⟨?_, rfl⟩, Keeps.toBelow B K B.size fun k hk => ?_, Nat.le_refl _⟩, hnot⟩
  · rcases hk with rfl | rfl | hk
    · exact ⟨(N _ (.inl rfl)).1, fun h => h.elim (N _ (.inl rfl)).2 fun h => hb h⟩
    · exact ⟨(N _ (.inr (.inl rfl))).1, fun h => h.elim (N _ (.inr (.inl rfl))).2 fun h => hq h⟩
    · cases hk
  · rcases hk with hk | hk
    · exact Nat.lt_of_lt_of_le (Nat.lt_of_lt_of_le (g k hk).1 s) K.size
    · exact (World.ownsRow.lt R k hk).2
  · rcases hk with rfl | rfl
    · exact (N _ (.inl rfl)).1
    · exact (N _ (.inr (.inl rfl))).1
end
/-- A byte of a row. -/
theorem byte_at {w : World} {B n : Nat} {v : Value} {L : List Nat} (h : w.ownsRow B 5 1 v n (bytesV L)) (i x : Nat) (hx : L[i]? = some x) : ∃ g c, v = .slice (some ⟨g, 0, none⟩) n c ∧ w.cell? ⟨g, i, none⟩ = some (.int .u8 (x : Nat)) ∧ g < w.heap.size := by
  have hL := h.1
  rw [bytesV_len, Nat.mul_one] at hL
  have hi : i < L.length := (List.getElem?_eq_some_iff.1 hx).1
  rcases h.2 with ⟨rfl, h0⟩ | ⟨g, cap, cur, rfl, _, hg, h1, h2, h3, h4⟩
  · omega
  · refine ⟨g, cap, rfl, ?_, heap_lt hg⟩
    rw [cell_at hg]
    rw [Nat.mul_one] at h4
    have := congrArg (fun l => l[i]?) h4
    simp only [List.getElem?_take, Array.getElem?_toList] at this
    rw [if_pos (by omega)] at this
    rw [this]
    unfold bytesV
    rw [List.getElem?_map, hx]; rfl
def aw1 : Ut := Ut.new.out 0 65
def aw2 : Ut := (aw1.quit.push 7).push 8
theorem aw_a : aw2.inV 5 = 99 := by kernel_rfl
theorem aw_b : (aw2.inS 5).inV 0 = 7 := by kernel_rfl
theorem aw_c : ((aw2.inS 5).inS 0).sent.length + 1 ≤ 140737488355328 := by decide
end Go.Proofs.Ytojmpdddfnkffaa.Uart

/- uart's laws: what comes and what is sent keeps its order; in plain words; bytes as a string. -/
namespace Go.Proofs.Ytojmpdddfnkffaa.Uart
open Go.RowKit Go.Conc
set_option linter.unusedVariables false

/-- A slice of bytes that came in. -/
def BytesIn (w : World) (a : Option Addr) (len : Nat) (f : Nat → Nat) : Prop :=
  len = 0 ∨ ∃ b off, a = some ⟨b, off, none⟩ ∧ b < w.heap.size ∧ ∀ i, i < len → w.cell? ⟨b, off + i, none⟩ = some (.int .u8 (f i : Nat))
def byteF (z : Nat → Int) (len : Nat) : Nat → Nat := fun i => if i < len then (z i).toNat else 0
theorem bytes_in {w : World} {a : Option Addr} {len : Nat} {z : Nat → Int} (h : IntsIn .u8 w a len z) : BytesIn w a len (byteF z len) := by
  refine h.imp id ?_
  rintro ⟨b, off, rfl, hb, hc⟩
  refine ⟨b, off, rfl, hb, fun i hi => ?_⟩
  obtain ⟨h1, h2, h3⟩ := hc i hi
  have e1 : IntKind.u8.min = 0 := rfl
  rw [h1]
  unfold byteF
  rw [if_pos hi]
  congr 2
  omega
theorem byteF_lt {w : World} {a : Option Addr} {len : Nat} {z : Nat → Int} (h : IntsIn .u8 w a len z) (i : Nat) : byteF z len i < 256 := by
  unfold byteF
  split
  · rename_i hi
    rcases h with h | ⟨b, off, _, _, hc⟩
    · omega
    · have := (hc i hi).2
      have e1 : IntKind.u8.min = 0 := rfl
      have e2 : IntKind.u8.max = 255 := rfl
      omega
  · decide
def fst (f : Nat → Nat) (k : Nat) : List Nat := (List.range k).map f
theorem fst_len (f : Nat → Nat) (k : Nat) : (fst f k).length = k := by unfold fst; simp
theorem fst_snoc (f : Nat → Nat) (k : Nat) : fst f (k + 1) = fst f k ++ [f k] := by unfold fst; rw [List.range_succ]; simp
theorem fst_at (f : Nat → Nat) (k i : Nat) (h : i < k) : (fst f k)[i]? = some (f i) := by unfold fst; simp [h]
theorem drop_cons (f : Nat → Nat) (k i : Nat) (h : i < k) : (fst f k).drop i = f i :: (fst f k).drop (i + 1) := by
  have hl : i < (fst f k).length := by rw [fst_len]; exact h
  rw [List.drop_eq_getElem_cons hl]
  congr 1
  have := fst_at f k i h
  rw [List.getElem?_eq_getElem hl] at this
  exact Option.some.inj this
/-- Numbers as a string of bytes. -/
def strL (L : List Nat) : ByteArray := strOfNums (L.map fun x => ((x : Nat) : Int))
theorem conv_row {w : World} {B n : Nat} {v : Value} {L : List Nat} (h : w.ownsRow B 5 1 v n (bytesV L)) :
    (convert 30 9 v).run Try.prog w = .ok (.string (strL L)) w := by
  have hL := h.1
  rw [bytesV_len, Nat.mul_one] at hL
  rcases h.2 with ⟨rfl, h0⟩ | ⟨g, cap, cur, rfl, _, hg, h1, h2, h3, h4⟩
  · rw [h0] at hL
    rw [List.eq_nil_of_length_eq_zero hL]
    exact run_convert_bytes_nil _ _ _ Try.underlying30 Try.underlying5 0 0 _ Try.underlying9
  · refine run_convert_bytes_arg w _ _ Try.underlying30 Try.underlying5 g 0 n cap (L.map fun x => ((x : Nat) : Int)) (by simp; exact hL) ?_ _ Try.underlying9
    intro i hi
    have hi2 : i < L.length := by omega
    obtain ⟨g', c', e, hx, _⟩ := byte_at h i _ (List.getElem?_eq_getElem hi2)
    injection e with e1 e2 e3
    injection e1 with e1
    injection e1 with e1
    subst e1
    rw [Nat.zero_add, hx]
    simp [List.getD, hi2]
theorem conv_in {w : World} {a : Option Addr} {len c : Nat} {f : Nat → Nat} (h : BytesIn w a len f) :
    (convert 30 9 (.slice a len c)).run Try.prog w = .ok (.string (strL (fst f len))) w := by
  rcases h with h0 | ⟨b, off, rfl, hb, hc⟩
  · subst h0
    cases a with
    | none => exact run_convert_bytes_nil _ _ _ Try.underlying30 Try.underlying5 0 c _ Try.underlying9
    | some ad =>
      have hl : (loadCells ad 0).run Try.prog w = .ok #[] w := run_loadCells_list (P := Try.prog) w ad [] (fun j v hj => by simp at hj)
      rw [run_convert_bytes_string w _ _ _ _ 0 c Try.underlying30 Try.underlying5 Try.underlying9, run_bytesToString w _ 0 c [] hl]
      rfl
  · refine run_convert_bytes_arg w _ _ Try.underlying30 Try.underlying5 b off len c ((fst f len).map fun x => ((x : Nat) : Int)) (by simp [fst_len]) ?_ _ Try.underlying9
    intro i hi
    rw [hc i hi]
    have hi2 : i < (fst f len).length := by rw [fst_len]; exact hi
    have := fst_at f len i hi
    simp [List.getD, this]
/-- k bytes came and were sent. -/
structure Pushed (f : Nat → Nat) (room : Nat) (on : Bool) (k : Nat) (U : Ut) : Prop where
  on : U.on = on
  came : U.came = fst f (min k room)
  lost : U.lost = decide (room < k)
  sent : U.sent = fst f k
  wanted : U.wanted = 1
  lcr : U.lcr = 0
theorem out0_send {U : Ut} (h : U.lcr = 0) (v : Nat) : U.out 0 v = U.send v := by
  unfold Ut.out
  rw [if_neg (by decide), if_neg (fun x => by have := x.2; unfold Ut.latch at this; rw [h] at this; cases this), if_pos rfl]
theorem pushed_next {f : Nat → Nat} {room : Nat} {on : Bool} {k : Nat} {U : Ut} (hr : room = if on then 16 else 1) (h : Pushed f room on k U) : Pushed f room on (k + 1) ((U.push (f k)).out 0 (f k)) := by
  have key : (U.push (f k)).on = on ∧ (U.push (f k)).came = fst f (min (k + 1) room) ∧ (U.push (f k)).lost = decide (room < k + 1) ∧ (U.push (f k)).sent = fst f k ∧ (U.push (f k)).wanted = 1 ∧ (U.push (f k)).lcr = 0 := by
    unfold Ut.push
    by_cases hk : k < room
    · have c1 : ¬ (U.on = false ∧ U.came ≠ []) := by
        rintro ⟨h1, h2⟩
        rw [h.on] at h1
        subst h1
        simp at hr
        subst hr
        have : k = 0 := by omega
        subst this
        exact h2 (by rw [h.came]; rfl)
      have c2 : U.came.length < 16 := by
        rw [h.came, fst_len]
        have : room ≤ 16 := by rw [hr]; split <;> omega
        omega
      rw [if_neg c1, if_pos c2]
      refine ⟨h.on, ?_, ?_, h.sent, h.wanted, h.lcr⟩
      · show U.came ++ [f k] = _
        rw [h.came, Nat.min_eq_left (by omega), Nat.min_eq_left (by omega), fst_snoc]
      · show U.lost = _
        rw [h.lost, decide_eq_false (by omega), decide_eq_false (by omega)]
    · have e : (if U.on = false ∧ U.came ≠ [] then U.lose else if U.came.length < 16 then U.take (f k) else U.lose) = U.lose := by
        cases ho : on
        · rw [ho] at hr
          simp at hr
          rw [if_pos ⟨by rw [h.on, ho], fun hn => by
            have := congrArg List.length hn
            rw [h.came, fst_len] at this
            simp at this; omega⟩]
        · rw [ho] at hr
          simp at hr
          rw [if_neg (fun x => by have := x.1; rw [h.on, ho] at this; cases this), if_neg (by rw [h.came, fst_len]; omega)]
      rw [e]
      refine ⟨h.on, ?_, ?_, h.sent, h.wanted, h.lcr⟩
      · show U.came = _
        rw [h.came, Nat.min_eq_right (by omega), Nat.min_eq_right (by omega)]
      · show true = _
        rw [decide_eq_true (by omega)]
  obtain ⟨k1, k2, k3, k4, k5, k6⟩ := key
  generalize U.push (f k) = V at *
  rw [out0_send k6]
  exact ⟨k1, k2, k3, by show V.sent ++ [f k] = _; rw [k4, fst_snoc], k5, k6⟩
/-- i bytes are read. -/
structure Taken (f : Nat → Nat) (room n i : Nat) (U : Ut) : Prop where
  came : U.came = (fst f (min n room)).drop i
  lost : U.lost = decide (room < n)
  sent : U.sent = fst f n
  wanted : U.wanted = 1
  lcr : U.lcr = 0
theorem Pushed.taken {f : Nat → Nat} {room : Nat} {on : Bool} {n : Nat} {U : Ut} (h : Pushed f room on n U) : Taken f room n 0 U := ⟨h.came, h.lost, h.sent, h.wanted, h.lcr⟩
theorem taken_next {f : Nat → Nat} {room n i : Nat} {U : Ut} (h : Taken f room n i U) (hi : i < n) (hr : i < room) :
    U.inV 0 = f i ∧ Taken f room n (i + 1) (U.inS 0) ∧ (U.inS 0).line = (decide (i + 1 < n) && decide (i + 1 < room)) := by
  have hc : U.came = f i :: (fst f (min n room)).drop (i + 1) := by rw [h.came]; exact drop_cons _ _ _ (by omega)
  have hl : ¬ ((0 : Int) < 2 ∧ U.latch = true) := fun x => by have := x.2; unfold Ut.latch at this; rw [h.lcr] at this; cases this
  have e1 : U.inV 0 = f i := by
    unfold Ut.inV
    rw [if_neg (by decide), if_neg hl, if_pos rfl, hc]; rfl
  have e2 : U.inS 0 = U.tail := by
    unfold Ut.inS
    rw [if_neg (by decide), if_neg hl, if_pos rfl]
  have e3 : U.tail.came = (fst f (min n room)).drop (i + 1) := by show U.came.tail = _; rw [hc]; rfl
  rw [e2]
  refine ⟨e1, ⟨e3, h.lost, h.sent, h.wanted, h.lcr⟩, ?_⟩
  unfold Ut.line Ut.rx Ut.tx
  rw [e3, show U.tail.wanted = 1 from h.wanted]
  have e4 : ((fst f (min n room)).drop (i + 1)).isEmpty = !(decide (i + 1 < n) && decide (i + 1 < room)) := by
    rw [Bool.eq_iff_iff]
    simp [fst_len]
    omega
  rw [e4]
  simp
theorem taken_end {f : Nat → Nat} {room n i : Nat} {U : Ut} (h : Taken f room n i U) (hi : n ≤ i ∨ room ≤ i) :
    U.inV 5 = (if room < n then 98 else 96) ∧ (U.inS 5).line = false ∧ (U.inS 5).sent = fst f n ∧ (U.inS 5).quit.sent = [] := by
  have hc : U.came = [] := by rw [h.came]; exact List.drop_eq_nil_of_le (by rw [fst_len]; omega)
  have hl : ¬ ((5 : Int) < 2 ∧ U.latch = true) := fun x => by have := x.1; omega
  have e2 : U.inS 5 = U.setLost false := by
    unfold Ut.inS
    rw [if_neg (by decide), if_neg hl, if_neg (by decide), if_neg (by decide), if_pos rfl]
  refine ⟨?_, ?_, ?_, rfl⟩
  · unfold Ut.inV
    rw [if_neg (by decide), if_neg hl, if_neg (by decide), if_neg (by decide), if_neg (by decide), if_neg (by decide), if_neg (by decide), if_pos rfl]
    unfold Ut.stat
    rw [hc, h.lost]
    by_cases e : room < n <;> simp [e]
  · rw [e2]
    unfold Ut.line Ut.rx Ut.tx
    rw [show (U.setLost false).came = [] from hc, show (U.setLost false).wanted = 1 from h.wanted]
    simp
  · rw [e2]; exact h.sent
theorem pushed_start (f : Nat → Nat) : Pushed f 1 false 0 (Ut.new.out 1 1) ∧ Pushed f 16 true 0 ((Ut.new.out 2 1).out 1 1) := by
  refine ⟨⟨?_, ?_, ?_, ?_, ?_, ?_⟩, ⟨?_, ?_, ?_, ?_, ?_, ?_⟩⟩ <;> kernel_rfl
end Go.Proofs.Ytojmpdddfnkffaa.Uart

/- uart: the document's port, over the same plain state. -/
namespace Go.Proofs.Ytojmpdddfnkffaa.Uart
open Go.RowKit Go.Conc
set_option linter.unusedVariables false

def Ut.rcells (U : Ut) (cv ov : Value) : List Value :=
  [cv, .bool U.lost, .int .u8 (U.d0 : Nat), .int .u8 (U.d1 : Nat), .int .u8 (U.lcr : Nat), .int .u8 (U.mcr : Nat), .int .u8 (U.scr : Nat), .int .u8 (U.wanted : Nat), .bool U.on, .bool U.empty, ov]
structure RfIn (w : World) (b : Nat) (cv ov : Value) (U : Ut) : Prop where
  obj : w.heap[b]? = some (.cells (U.rcells cv ov).toArray 157)
  came : RowC w 5 1 cv U.came.length (bytesV U.came)
  out : w.ownsRow 0 5 1 ov U.sent.length (bytesV U.sent)
  d : ∀ k, cv.ownBlock = some k → ov.ownBlock ≠ some k
  ok : U.ok
def RHeld (b : Nat) (cv ov : Value) (k : Nat) : Prop := k = b ∨ cv.ownBlock = some k ∨ ov.ownBlock = some k
section
variable {w w' : World} {b : Nat} {cv ov : Value} {U : Ut}
theorem RfIn.lt (H : RfIn w b cv ov U) {k : Nat} (h : RHeld b cv ov k) : k < w.heap.size := by
  rcases h with rfl | h | h
  · exact heap_lt H.obj
  · exact H.came.lt h
  · exact (World.ownsRow.lt H.out k h).2
theorem RfIn.bc (H : RfIn w b cv ov U) : cv.ownBlock ≠ some b := by
  intro h
  obtain ⟨cur, hc⟩ := H.came.block h
  rw [H.obj] at hc
  simp at hc
theorem RfIn.bo (H : RfIn w b cv ov U) : ov.ownBlock ≠ some b := by
  intro h
  obtain ⟨cur, hc⟩ := row_block H.out h
  rw [H.obj] at hc
  simp at hc
theorem RfIn.of_heap (H : RfIn w b cv ov U) (h : ∀ k, RHeld b cv ov k → w'.heap[k]? = w.heap[k]?) : RfIn w' b cv ov U :=
  ⟨by rw [h b (.inl rfl)]; exact H.obj, H.came.of_heap fun k hk => h k (.inr (.inl hk)), row_of_heap H.out fun k hk => h k (.inr (.inr hk)), H.d, H.ok⟩
theorem RfIn.facts (H : RfIn w b cv ov U) :
    w.cell? ⟨b, 0, none⟩ = some cv ∧ w.cell? ⟨b, 1, none⟩ = some (.bool U.lost) ∧ w.cell? ⟨b, 2, none⟩ = some (.int .u8 (U.d0 : Nat)) ∧ w.cell? ⟨b, 3, none⟩ = some (.int .u8 (U.d1 : Nat)) ∧ w.cell? ⟨b, 4, none⟩ = some (.int .u8 (U.lcr : Nat)) ∧
    w.cell? ⟨b, 5, none⟩ = some (.int .u8 (U.mcr : Nat)) ∧ w.cell? ⟨b, 6, none⟩ = some (.int .u8 (U.scr : Nat)) ∧ w.cell? ⟨b, 7, none⟩ = some (.int .u8 (U.wanted : Nat)) ∧
    w.cell? ⟨b, 8, none⟩ = some (.bool U.on) ∧ w.cell? ⟨b, 9, none⟩ = some (.bool U.empty) ∧ w.cell? ⟨b, 10, none⟩ = some ov ∧ (∀ k, w.frozen? ⟨b, k, none⟩ = false) ∧ b < w.heap.size := by
  have h := H.obj
  refine ⟨?_, ?_, ?_, ?_, ?_, ?_, ?_, ?_, ?_, ?_, ?_, fun k => free_at h, heap_lt h⟩ <;> (rw [cell_at h]; rfl)
/-- A store into the object, its two slices as they are. -/
theorem RfIn.turn (H : RfIn w b cv ov U) {U' : Ut} (k : Nat) (v : Value) (hc : (U.rcells cv ov).set k v = U'.rcells cv ov) (h1 : U'.came = U.came) (h2 : U'.sent = U.sent) (ok : U'.ok) : RfIn (w.setCell ⟨b, k, none⟩ v) b cv ov U' := by
  have hne : ∀ j, j ≠ b → (w.setCell ⟨b, k, none⟩ v).heap[j]? = w.heap[j]? := fun j h => heap_set_other _ h
  refine ⟨by rw [heap_set_map, H.obj]; simp only [Option.map_some, putObj_cells]; rw [hc], ?_, ?_, H.d, ok⟩
  · rw [h1]; exact H.came.of_heap fun j hj => hne j fun e => H.bc (by rw [← e]; exact hj)
  · rw [h2]; exact row_of_heap H.out fun j hj => hne j fun e => H.bo (by rw [← e]; exact hj)
/-- No byte that came is left. -/
theorem RfIn.drain (H : RfIn w b cv ov U) : RfIn (w.setCell ⟨b, 0, none⟩ (.slice none 0 0)) b (.slice none 0 0) ov (U.flow []) := by
  have hne : ∀ j, j ≠ b → (w.setCell ⟨b, 0, none⟩ (.slice none 0 0)).heap[j]? = w.heap[j]? := fun j h => heap_set_other _ h
  have o := H.ok
  exact ⟨by rw [heap_set_map, H.obj]; rfl, RowC.nil _ _ _, row_of_heap H.out fun j hj => hne j fun e => H.bo (by rw [← e]; exact hj), (fun k hk => by cases hk),
    ⟨(by show 0 ≤ 16; decide), (fun x hx => by cases hx), o.d0, o.d1, o.lcr, o.mcr, o.scr, o.wanted, o.s2⟩⟩
theorem RfIn.quit (H : RfIn w b cv ov U) : RfIn (w.setCell ⟨b, 10, none⟩ (.slice none 0 0)) b cv (.slice none 0 0) U.quit := by
  have hne : ∀ j, j ≠ b → (w.setCell ⟨b, 10, none⟩ (.slice none 0 0)).heap[j]? = w.heap[j]? := fun j h => heap_set_other _ h
  exact ⟨by rw [heap_set_map, H.obj]; rfl, H.came.of_heap fun j hj => hne j fun e => H.bc (by rw [← e]; exact hj), World.ownsRow_nil _ _ _ _, (fun k _ hk => by cases hk), Ut.quit_ok H.ok⟩
theorem RfIn.setD (H : RfIn w b cv ov U) (k v : Nat) (hk : k < 2) (hv : v < 256) : RfIn (w.setCell ⟨b, 2 + k, none⟩ (.int .u8 (v : Nat))) b cv ov (U.setD k v) := by
  have o := H.ok
  rcases (show k = 0 ∨ k = 1 by omega) with rfl | rfl
  · exact H.turn 2 _ rfl rfl rfl ⟨o.c1, o.c2, hv, o.d1, o.lcr, o.mcr, o.scr, o.wanted, o.s2⟩
  · exact H.turn 3 _ rfl rfl rfl ⟨o.c1, o.c2, o.d0, hv, o.lcr, o.mcr, o.scr, o.wanted, o.s2⟩
theorem RfIn.setLcr (H : RfIn w b cv ov U) (v : Nat) (hv : v < 256) : RfIn (w.setCell ⟨b, 4, none⟩ (.int .u8 (v : Nat))) b cv ov (U.setLcr v) := by
  have o := H.ok
  exact H.turn 4 _ rfl rfl rfl ⟨o.c1, o.c2, o.d0, o.d1, hv, o.mcr, o.scr, o.wanted, o.s2⟩
theorem RfIn.setMcr (H : RfIn w b cv ov U) (v : Nat) (hv : v < 256) : RfIn (w.setCell ⟨b, 5, none⟩ (.int .u8 (v : Nat))) b cv ov (U.setMcr v) := by
  have o := H.ok
  exact H.turn 5 _ rfl rfl rfl ⟨o.c1, o.c2, o.d0, o.d1, o.lcr, hv, o.scr, o.wanted, o.s2⟩
theorem RfIn.setScr (H : RfIn w b cv ov U) (v : Nat) (hv : v < 256) : RfIn (w.setCell ⟨b, 6, none⟩ (.int .u8 (v : Nat))) b cv ov (U.setScr v) := by
  have o := H.ok
  exact H.turn 6 _ rfl rfl rfl ⟨o.c1, o.c2, o.d0, o.d1, o.lcr, o.mcr, hv, o.wanted, o.s2⟩
theorem RfIn.setWanted (H : RfIn w b cv ov U) (v : Nat) (hv : v < 256) : RfIn (w.setCell ⟨b, 7, none⟩ (.int .u8 (v : Nat))) b cv ov (U.setWanted v) := by
  have o := H.ok
  exact H.turn 7 _ rfl rfl rfl ⟨o.c1, o.c2, o.d0, o.d1, o.lcr, o.mcr, o.scr, hv, o.s2⟩
theorem RfIn.setOn (H : RfIn w b cv ov U) (x : Bool) : RfIn (w.setCell ⟨b, 8, none⟩ (.bool x)) b cv ov (U.setOn x) := by
  have o := H.ok
  exact H.turn 8 _ rfl rfl rfl ⟨o.c1, o.c2, o.d0, o.d1, o.lcr, o.mcr, o.scr, o.wanted, o.s2⟩
theorem RfIn.setEmpty (H : RfIn w b cv ov U) (x : Bool) : RfIn (w.setCell ⟨b, 9, none⟩ (.bool x)) b cv ov (U.setEmpty x) := by
  have o := H.ok
  exact H.turn 9 _ rfl rfl rfl ⟨o.c1, o.c2, o.d0, o.d1, o.lcr, o.mcr, o.scr, o.wanted, o.s2⟩
theorem RfIn.setLost (H : RfIn w b cv ov U) (x : Bool) : RfIn (w.setCell ⟨b, 1, none⟩ (.bool x)) b cv ov (U.setLost x) := by
  have o := H.ok
  exact H.turn 1 _ rfl rfl rfl ⟨o.c1, o.c2, o.d0, o.d1, o.lcr, o.mcr, o.scr, o.wanted, o.s2⟩
theorem rkeeps (w : World) (b : Nat) (cv ov : Value) (k : Nat) (v : Value) : Keeps (RHeld b cv ov) w (w.setCell ⟨b, k, none⟩ v) := (Keeps.refl _ _).setCell (.inl (.inl rfl)) _
/-- What a call leaves of the document's port. -/
def RWent (w : World) (b : Nat) (cv ov : Value) (U' : Ut) (w' : World) : Prop :=
  ∃ cv' ov', RfIn w' b cv' ov' U' ∧ Keeps (RHeld b cv ov) w w' ∧ ∀ k, RHeld b cv' ov' k → RHeld b cv ov k ∨ w.heap.size ≤ k
theorem RWent.of {U' : Ut} (H : RfIn w' b cv ov U') (K : Keeps (RHeld b cv ov) w w') : RWent w b cv ov U' w' := ⟨cv, ov, H, K, fun k h => .inl h⟩
theorem rnew_any (w : World) : Calls Try.prog 58 #[] w fun e w' => e = .returned (.pointer (some ⟨w.heap.size, 0, none⟩)) ∧ RfIn w' w.heap.size (.slice none 0 0) (.slice none 0 0) Ut.new ∧ Below w.heap.size w w' := by
  go_enter Try.func58, Try.ntmps58
  go_wp2_with fail
  go_ret
  exact ⟨rfl, ⟨heap_new w _, RowC.nil _ _ _, World.ownsRow_nil _ _ _ _, (fun k hk => by cases hk), Ut.new_ok⟩, (Below.refl _ _).alloc (Nat.le_refl _) _⟩
set_option maxHeartbeats 2000000 in
theorem rwhy_any (H : RfIn w b cv ov U) : Calls Try.prog 100 #[.pointer (some ⟨b, 0, none⟩)] w fun e w' => e = .returned (.int .u8 (U.why : Nat)) ∧ w = w' := by
  obtain ⟨k0, -, -, -, -, -, -, k7, -, k9, -, kf, kl⟩ := H.facts
  obtain ⟨a, c, rfl⟩ := H.came.len
  have hw : U.why = if (!U.came.isEmpty && U.wanted % 2 == 1) then 4 else if (U.empty && U.wanted / 2 % 2 == 1) then 2 else 1 := rfl
  have hwt := H.ok.wanted
  clear H
  generalize U.why = y at *
  generalize U.empty = e at *
  generalize U.wanted = wt at *
  have hn : ∃ n, n = U.came.length := ⟨_, rfl⟩
  obtain ⟨n, hn⟩ := hn
  rw [← hn] at k0
  have he : U.came.isEmpty = decide (n = 0) := by rw [hn]; cases U.came <;> simp
  rw [he] at hw
  clear hn he
  have h1 : (wt : Int) % 2 = 0 ∨ (wt : Int) % 2 = 1 := by omega
  have h2 : (wt : Int) / 2 % 2 = 0 ∨ (wt : Int) / 2 % 2 = 1 := by omega
  have h3 : (n : Int) ≤ 0 ∨ (0 : Int) < n := by omega
  rcases h1 with h1 | h1 <;> rcases h2 with h2 | h2 <;> rcases h3 with h3 | h3 <;> cases e
  all_goals
    have d1 : (wt % 2 == 1) = decide ((wt : Int) % 2 = 1) := by rw [Bool.eq_iff_iff]; simp; omega
    have d2 : (wt / 2 % 2 == 1) = decide ((wt : Int) / 2 % 2 = 1) := by rw [Bool.eq_iff_iff]; simp; omega
    have d3 : decide (n = 0) = decide ((n : Int) ≤ 0) := by rw [Bool.eq_iff_iff]; simp
    rw [d1, d2, d3, h1, h2] at hw
    first | rw [decide_eq_true h3] at hw | rw [decide_eq_false (show ¬ (n : Int) ≤ 0 by omega)] at hw
    simp at hw
    have HW := Lib.hid hw
    clear hw d1 d2 d3
    go_enter Try.func100, Try.ntmps100
    go_wp2_with fail
    go_ret
    exact ⟨by rw [HW.out]; rfl, rfl⟩
theorem rline_any (H : RfIn w b cv ov U) : Calls Try.prog 82 #[.pointer (some ⟨b, 0, none⟩)] w fun e w' => e = .returned (.bool U.line) ∧ w = w' := by
  have HL := Lib.hid (Ut.line_eq U)
  go_enter Try.func82, Try.ntmps82
  go_wp2_with fail
  refine (rwhy_any H).mono ?_
  rintro e w1 ⟨rfl, rfl⟩
  go_wp2_with fail
  go_ret
  exact ⟨by rw [HL.out]; rfl, rfl⟩
end
end Go.Proofs.Ytojmpdddfnkffaa.Uart

