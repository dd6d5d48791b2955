/- Steps of a proof: PitFns, PitNow, PitLine, PitP, PitQ, PitR, PitS, PitT, UartA, together. -/
import Derived.Test.YtojmpdddfnkffaaGreatS2
import Derived.BigRegion
import Derived.Laws.EntriesVeiled
import Derived.Deep.RegionWith
import Derived.Deep.QuietTactic
import Derived.BigQuiet
import Derived.Deep.Cut
import Derived.Deep.CutRange
import Derived.Lib.Hide
import Derived.Laws.BitsAll
import Derived.Test.YtojmpdddfnkffaaGreatRows
import Derived.Test.YtojmpdddfnkffaaGreatS0
import Derived.Conc.LoneCalls
import Derived.Conc.LoneSelect
import Derived.Conc.LoneSelectN
import Derived.KernelRfl
import Derived.Laws.Rows
import Derived.Laws.AppendOwn
/- pit: the five functions of the modes, and looking a mode up. -/
set_option maxHeartbeats 4000000
set_option maxRecDepth 20000
namespace Go.Proofs.YtojmpdddfnkffaaGreat.Pit
open Go.RowKit
set_option linter.unusedVariables false

theorem look_hit (n : Nat) (W : World) (h : W.heap[n]? = some (.map modeEs 3)) (m : Int) (i : Nat) (v : Value)
    (hf : Instr.findNow (.int .u8) (.int .u8 m) modeEs.toList 0 = some (some (i, v))) :
    (Instr.lookup 174 (.map (some n)) (.int .u8 m) true).run Tryz.prog W = .ok (.tuple #[v, .bool true]) W := by
 have hk : Tryz.prog.underlying 5 = some (.int .u8) := Tryz.underlying5
 have hf' : (Instr.findKey 5 (.int .u8 m) modeEs.toList).run Tryz.prog W = .ok (some (i, v)) W := MapKept.run_findKey hk hf
 simp [Instr.lookup, go_sem, MapKept.run_getObj_map h, MapKept.run_checkKey hk (show MapKept.IsKey (.int .u8) (.int .u8 m) from rfl), hf']

theorem look_miss (n : Nat) (W : World) (h : W.heap[n]? = some (.map modeEs 3)) (m : Int) (h0 : m ≠ 0) (h2 : m ≠ 2) (h3 : m ≠ 3) :
    (Instr.lookup 174 (.map (some n)) (.int .u8 m) true).run Tryz.prog W = .ok (.tuple #[.agg #[.nilFunc, .nilFunc], .bool false]) W := by
 have hk : Tryz.prog.underlying 5 = some (.int .u8) := Tryz.underlying5
 have hf : Instr.findNow (.int .u8) (.int .u8 m) modeEs.toList 0 = some none := by
  have e0 : (m == 0) = false := by simp [h0]
  have e2 : (m == 2) = false := by simp [h2]
  have e3 : (m == 3) = false := by simp [h3]
  simp [Instr.findNow, Instr.sameNow, modeEs, e0, e2, e3]
 have hf' : (Instr.findKey 5 (.int .u8 m) modeEs.toList).run Tryz.prog W = .ok none W := MapKept.run_findKey hk hf
 have hz : (zeroValue 172).run Tryz.prog W = .ok (.agg #[.nilFunc, .nilFunc]) W := by kernel_rfl
 simp [Instr.lookup, go_sem, MapKept.run_getObj_map h, MapKept.run_checkKey hk (show MapKept.IsKey (.int .u8) (.int .u8 m) from rfl), hf', hz]

theorem look0 (n : Nat) (W : World) (h : W.heap[n]? = some (.map modeEs 3)) : (Instr.lookup 174 (.map (some n)) (.int .u8 0) true).run Tryz.prog W =
    .ok (.tuple #[.agg #[.func (.func 130) #[] #[], .func (.func 131) #[] #[]], .bool true]) W := look_hit n W h 0 0 _ rfl
theorem look2 (n : Nat) (W : World) (h : W.heap[n]? = some (.map modeEs 3)) : (Instr.lookup 174 (.map (some n)) (.int .u8 2) true).run Tryz.prog W =
    .ok (.tuple #[.agg #[.func (.func 129) #[] #[], .func (.func 132) #[] #[]], .bool true]) W := look_hit n W h 2 1 _ rfl
theorem look3 (n : Nat) (W : World) (h : W.heap[n]? = some (.map modeEs 3)) : (Instr.lookup 174 (.map (some n)) (.int .u8 3) true).run Tryz.prog W =
    .ok (.tuple #[.agg #[.func (.func 129) #[] #[], .func (.func 133) #[] #[]], .bool true]) W := look_hit n W h 3 2 _ rfl

section
variable (l n : Int) (w : World) (h0 : 1 ≤ l) (h1 : l ≤ 65536) (h2 : 0 ≤ n) (h3 : n < 18446744073709551616)
include h0 h1 h2 h3
theorem m1_any : Calls Tryz.prog 129 #[.int .u64 l, .int .u64 n] w fun e w' => e = .returned (.int .u64 (l - n % l)) ∧ w = w' := by
 have hm0 := Int.emod_nonneg n (show l ≠ 0 by omega)
 have hm1 := Int.emod_lt_of_pos n (show 0 < l by omega)
 have hl : (l == 0) = false := by simp; omega
 go_enter Tryz.func129, Tryz.ntmps129
 go_wp2
 go_ret
 exact ⟨rfl, rfl⟩
omit h0 h1 h2 h3 in
theorem m2_any : Calls Tryz.prog 130 #[.int .u64 l, .int .u64 n] w fun e w' => e = .returned (.int .u64 ((l - n) % 18446744073709551616)) ∧ w = w' := by
 go_enter Tryz.func130, Tryz.ntmps130
 go_wp2
 go_ret
 exact ⟨rfl, rfl⟩
omit h0 h1 h2 h3 in
theorem m3_any : Calls Tryz.prog 131 #[.int .u64 l, .int .u64 n] w fun e w' => e = .returned (.bool (decide (l ≤ n))) ∧ w = w' := by
 go_enter Tryz.func131, Tryz.ntmps131
 go_wp2
 go_ret
 exact ⟨rfl, rfl⟩
theorem m4_any : Calls Tryz.prog 132 #[.int .u64 l, .int .u64 n] w fun e w' => e = .returned (.bool (n % l != l - 1)) ∧ w = w' := by
 have hm0 := Int.emod_nonneg n (show l ≠ 0 by omega)
 have hm1 := Int.emod_lt_of_pos n (show 0 < l by omega)
 have hl : (l == 0) = false := by simp; omega
 go_enter Tryz.func132, Tryz.ntmps132
 go_wp2
 go_ret
 exact ⟨rfl, rfl⟩
theorem m5_any : Calls Tryz.prog 133 #[.int .u64 l, .int .u64 n] w fun e w' => e = .returned (.bool (decide (n % l < (l + 1) / 2))) ∧ w = w' := by
 have hm0 := Int.emod_nonneg n (show l ≠ 0 by omega)
 have hm1 := Int.emod_lt_of_pos n (show 0 < l by omega)
 have hl : (l == 0) = false := by simp; omega
 go_enter Tryz.func133, Tryz.ntmps133
 go_wp2
 go_ret
 exact ⟨rfl, rfl⟩
end
end Go.Proofs.YtojmpdddfnkffaaGreat.Pit

/- pit: a counter's value. -/
namespace Go.Proofs.YtojmpdddfnkffaaGreat.Pit
open Go.RowKit
set_option linter.unusedVariables false

def nowv (m : Int) (st : Bool) (l g t : Int) : Int :=
 if st then l % 65536 else if m = 0 then (l - (t - g)) % 65536 else if m = 2 ∨ m = 3 then (l - (t - g) % l) % 65536 else l % 65536

theorem lt_of_cell {w : World} {b o : Nat} {v : Value} (h : w.cell? ⟨b, o, none⟩ = some v) : b < w.heap.size := World.block_lt_of_cell? _ _ h

theorem in_a (w : World) : ((w.alloc (.map modeEs 3)).drew).heap[w.heap.size]? = some (.map modeEs 3) := heap_new w _
theorem in_b (w : World) : (((w.alloc (.map modeEs 3)).alloc (.cells #[.nilFunc, .nilFunc] 172)).drew).heap[w.heap.size]? = some (.map modeEs 3) := heap_alloc_lt (heap_new w _)
theorem in_c (w : World) : (((w.alloc (.cells #[.nilFunc, .nilFunc] 172)).alloc (.map modeEs 3)).drew).heap[w.heap.size + 1]? = some (.map modeEs 3) := by
 have := heap_new (w.alloc (.cells #[.nilFunc, .nilFunc] 172)) (.map modeEs 3)
 simp only [World.size_alloc] at this
 exact this

def selv (st : Bool) (a b : Int) : Int := if st then a else b
theorem selv_t {st : Bool} {a b : Int} (h : (!st) = false) : selv st a b = a := by cases st <;> simp_all [selv]
theorem selv_f {st : Bool} {a b : Int} (h : (!st) = true) : selv st a b = b := by cases st <;> simp_all [selv]
def Hit (m : Int) (f0 f1 : Value) (is : Bool) : Prop := ∀ (n : Nat) (W : World), W.heap[n]? = some (.map modeEs 3) →
 (Instr.lookup 174 (.map (some n)) (.int .u8 m) true).run Tryz.prog W = .ok (.tuple #[.agg #[f0, f1], .bool is]) W

theorem now_hit (m : Int) (st : Bool) (l g t : Int) (b o : Nat) (w : World) (c0 : w.cell? ⟨b, o, none⟩ = some (.int .u8 m)) (c2 : w.cell? ⟨b, o + 2, none⟩ = some (.bool st))
    (c3 : w.cell? ⟨b, o + 3, none⟩ = some (.int .u64 l)) (c4 : w.cell? ⟨b, o + 4, none⟩ = some (.int .u64 g)) (h0 : 1 ≤ l) (h1 : l ≤ 65536) (h2 : 0 ≤ g) (h3 : g ≤ t) (h4 : t < 18446744073709551616)
    (x y : Nat) (hit : Hit m (.func (.func x) #[] #[]) (.func (.func y) #[] #[]) true) (r : Int)
    (hcf : ∀ (args : Array Value) (w : World), (callFunc x args).run Tryz.prog w = .ok (Next.enter x args) w)
    (hx : ∀ w, Calls Tryz.prog x #[.int .u64 l, .int .u64 (t - g)] w fun e w' => e = .returned (.int .u64 r) ∧ w = w') :
    Calls Tryz.prog 106 #[.pointer (some ⟨b, o, none⟩), .int .u64 t] w fun e w' => e = .returned (.int .u16 (selv st (l % 65536) (IntKind.u16.wrap r))) ∧ Below w.heap.size w w' := by
 have hlt := lt_of_cell c0
 have hlt1 : b < w.heap.size + 1 := by omega
 have hlt2 : b < w.heap.size + 1 + 1 := by omega
 have la := hit _ _ (in_a w)
 have lb := hit _ _ (in_b w)
 have lc := hit _ _ (in_c w)
 have HX := Lib.hid hx
 clear hit hx
 go_enter Tryz.func106, Tryz.ntmps106
 go_upto_region 1 with (fail)
 go_cut [5, 6] from 7 (fun s5 s6 wc => ∃ k, s5 = .pointer (some ⟨k, 0, none⟩) ∧ s6 = .bool true ∧ Below w.heap.size w wc ∧ wc.cell? ⟨k, 0, none⟩ = some (.func (.func x) #[] #[]) ∧ b < wc.heap.size)
 case first =>
  go_region_with (first | (go_at_call 109; refine (modes_any _).mono ?_; rintro e w2 ⟨rfl, rfl⟩))
  all_goals
   go_wp2_with fail
   go_meet
   exact ⟨_, rfl, rfl, by go_grown, by simp [go_sem], by simp; omega⟩
 case rest =>
  obtain ⟨k, rfl, rfl, hb, hk, hbl⟩ := hcut
  obtain ⟨hc, hf⟩ := bcell hb
  clear la lb lc
  have hsub : IntKind.u64.wrap (t - g) = t - g := IntWalk.u64_in _ (by omega)
  have hs0 : 0 ≤ t - g := by omega
  go_wp2_with fail
  ·go_quiet ((exact Calls.quiet_of_same ((HX.out _).mono fun e w' h => ⟨h.1, h.2.symm⟩)))
   go_wp2_with fail
   go_ret
   have hst : (!st) = true := by assumption
   exact ⟨by rw [selv_f hst]; rfl, below_drewN hb _⟩
  ·go_ret
   have hst : (!st) = false := by assumption
   exact ⟨by rw [selv_t hst]; rfl, hb⟩

theorem hit0 : Hit 0 (.func (.func 130) #[] #[]) (.func (.func 131) #[] #[]) true := look0
theorem hit2 : Hit 2 (.func (.func 129) #[] #[]) (.func (.func 132) #[] #[]) true := look2
theorem hit3 : Hit 3 (.func (.func 129) #[] #[]) (.func (.func 133) #[] #[]) true := look3
theorem cf1 (args : Array Value) (w : World) : (callFunc 129 args).run Tryz.prog w = .ok (Next.enter 129 args) w := by kernel_rfl
theorem cf2 (args : Array Value) (w : World) : (callFunc 130 args).run Tryz.prog w = .ok (Next.enter 130 args) w := by kernel_rfl
end Go.Proofs.YtojmpdddfnkffaaGreat.Pit

/- pit: the line of counter 0. -/
namespace Go.Proofs.YtojmpdddfnkffaaGreat.Pit
open Go.RowKit
set_option linter.unusedVariables false

def selb (st : Bool) (a b : Bool) : Bool := if st then a else b
theorem line_hit (m : Int) (st : Bool) (l g t : Int) (b : Nat) (w : World) (c0 : w.cell? ⟨b, 0, none⟩ = some (.int .u8 m)) (c2 : w.cell? ⟨b, 2, none⟩ = some (.bool st))
    (c3 : w.cell? ⟨b, 3, none⟩ = some (.int .u64 l)) (c4 : w.cell? ⟨b, 4, none⟩ = some (.int .u64 g)) (h0 : 1 ≤ l) (h1 : l ≤ 65536) (h2 : 0 ≤ g) (h3 : g ≤ t) (h4 : t < 18446744073709551616)
    (x y : Nat) (hit : Hit m (.func (.func x) #[] #[]) (.func (.func y) #[] #[]) true) (r : Bool)
    (hcf : ∀ (args : Array Value) (w : World), (callFunc y args).run Tryz.prog w = .ok (Next.enter y args) w)
    (hx : ∀ w, Calls Tryz.prog y #[.int .u64 l, .int .u64 (t - g)] w fun e w' => e = .returned (.bool r) ∧ w = w') :
    Calls Tryz.prog 75 #[.pointer (some ⟨b, 0, none⟩), .int .u64 t] w fun e w' => e = .returned (.bool (selb st (m != 0) r)) ∧ Below w.heap.size w w' := by
 have hlt := lt_of_cell c0
 have hlt1 : b < w.heap.size + 1 := by omega
 have hlt2 : b < w.heap.size + 1 + 1 := by omega
 have la := hit _ _ (in_a w)
 have lb := hit _ _ (in_b w)
 have lc := hit _ _ (in_c w)
 have HX := Lib.hid hx
 clear hit hx
 cases hst : st
 ·subst hst
  go_enter Tryz.func75, Tryz.ntmps75
  go_upto_region 6 with (fail)
  go_cut [6, 7] from 8 (fun s6 s7 wc => ∃ k, s6 = .pointer (some ⟨k, 0, none⟩) ∧ s7 = .bool true ∧ Below w.heap.size w wc ∧ wc.cell? ⟨k, 1, none⟩ = some (.func (.func y) #[] #[]) ∧ b < wc.heap.size)
  case first =>
   go_region_with (first | (go_at_call 109; refine (modes_any _).mono ?_; rintro e w2 ⟨rfl, rfl⟩))
   all_goals
    go_wp2_with fail
    go_meet
    exact ⟨_, rfl, rfl, by go_grown, by simp [go_sem], by simp; omega⟩
  case rest =>
   obtain ⟨k, rfl, rfl, hb, hk, hbl⟩ := hcut
   obtain ⟨hc, hf⟩ := bcell hb
   clear la lb lc
   have hsub : IntKind.u64.wrap (t - g) = t - g := IntWalk.u64_in _ (by omega)
   have hs0 : 0 ≤ t - g := by omega
   go_wp2_with fail
   go_quiet ((exact Calls.quiet_of_same ((HX.out _).mono fun e w' h => ⟨h.1, h.2.symm⟩)))
   go_wp2_with fail
   go_ret
   exact ⟨rfl, below_drewN hb _⟩
 ·subst hst
  clear la lb lc
  go_enter Tryz.func75, Tryz.ntmps75
  go_wp2_with fail
  go_ret
  exact ⟨rfl, Below.refl _ _⟩

theorem cf3 (args : Array Value) (w : World) : (callFunc 131 args).run Tryz.prog w = .ok (Next.enter 131 args) w := by kernel_rfl
theorem cf4 (args : Array Value) (w : World) : (callFunc 132 args).run Tryz.prog w = .ok (Next.enter 132 args) w := by kernel_rfl
theorem cf5 (args : Array Value) (w : World) : (callFunc 133 args).run Tryz.prog w = .ok (Next.enter 133 args) w := by kernel_rfl

theorem now_any (m : Int) (st : Bool) (l g t : Int) (b o : Nat) (w : World) (c0 : w.cell? ⟨b, o, none⟩ = some (.int .u8 m)) (c2 : w.cell? ⟨b, o + 2, none⟩ = some (.bool st))
    (c3 : w.cell? ⟨b, o + 3, none⟩ = some (.int .u64 l)) (c4 : w.cell? ⟨b, o + 4, none⟩ = some (.int .u64 g)) (h0 : 1 ≤ l) (h1 : l ≤ 65536) (h2 : 0 ≤ g) (h3 : g ≤ t) (h4 : t < 18446744073709551616)
    (hm : m = 0 ∨ m = 2 ∨ m = 3) :
    Calls Tryz.prog 106 #[.pointer (some ⟨b, o, none⟩), .int .u64 t] w fun e w' => e = .returned (.int .u16 (nowv m st l g t)) ∧ Below w.heap.size w w' := by
 have hsub : 0 ≤ t - g := by omega
 rcases hm with rfl | rfl | rfl
 ·refine (now_hit 0 st l g t b o w c0 c2 c3 c4 h0 h1 h2 h3 h4 _ _ hit0 ((l - (t - g)) % 18446744073709551616) cf2 (fun w => m2_any l (t - g) w)).mono fun e w' h => ⟨h.1.trans ?_, h.2⟩
  cases st
  ·simp only [selv, nowv, Bool.false_eq_true, if_false, if_true, IntKind.wrap_u16]; congr 2; omega
  ·simp [selv, nowv]
 ·refine (now_hit 2 st l g t b o w c0 c2 c3 c4 h0 h1 h2 h3 h4 _ _ hit2 (l - (t - g) % l) cf1 (fun w => m1_any l (t - g) w h0 h1 hsub (by omega))).mono fun e w' h => ⟨h.1.trans ?_, h.2⟩
  cases st <;> simp [selv, nowv, IntKind.wrap_u16]
 ·refine (now_hit 3 st l g t b o w c0 c2 c3 c4 h0 h1 h2 h3 h4 _ _ hit3 (l - (t - g) % l) cf1 (fun w => m1_any l (t - g) w h0 h1 hsub (by omega))).mono fun e w' h => ⟨h.1.trans ?_, h.2⟩
  cases st <;> simp [selv, nowv, IntKind.wrap_u16]

def linev (m : Int) (st : Bool) (l g t : Int) : Bool :=
 if st then m != 0 else if m = 0 then decide (l ≤ t - g) else if m = 2 then (t - g) % l != l - 1 else if m = 3 then decide ((t - g) % l < (l + 1) / 2) else true
theorem line_any (m : Int) (st : Bool) (l g t : Int) (b : Nat) (w : World) (c0 : w.cell? ⟨b, 0, none⟩ = some (.int .u8 m)) (c2 : w.cell? ⟨b, 2, none⟩ = some (.bool st))
    (c3 : w.cell? ⟨b, 3, none⟩ = some (.int .u64 l)) (c4 : w.cell? ⟨b, 4, none⟩ = some (.int .u64 g)) (h0 : 1 ≤ l) (h1 : l ≤ 65536) (h2 : 0 ≤ g) (h3 : g ≤ t) (h4 : t < 18446744073709551616)
    (hm : m = 0 ∨ m = 2 ∨ m = 3) :
    Calls Tryz.prog 75 #[.pointer (some ⟨b, 0, none⟩), .int .u64 t] w fun e w' => e = .returned (.bool (linev m st l g t)) ∧ Below w.heap.size w w' := by
 have hsub : 0 ≤ t - g := by omega
 rcases hm with rfl | rfl | rfl
 ·refine (line_hit 0 st l g t b w c0 c2 c3 c4 h0 h1 h2 h3 h4 _ _ hit0 (decide (l ≤ t - g)) cf3 (fun w => m3_any l (t - g) w)).mono fun e w' h => ⟨h.1.trans ?_, h.2⟩
  cases st <;> simp [selb, linev]
 ·refine (line_hit 2 st l g t b w c0 c2 c3 c4 h0 h1 h2 h3 h4 _ _ hit2 ((t - g) % l != l - 1) cf4 (fun w => m4_any l (t - g) w h0 h1 hsub (by omega))).mono fun e w' h => ⟨h.1.trans ?_, h.2⟩
  cases st <;> simp [selb, linev]
 ·refine (line_hit 3 st l g t b w c0 c2 c3 c4 h0 h1 h2 h3 h4 _ _ hit3 (decide ((t - g) % l < (l + 1) / 2)) cf5 (fun w => m5_any l (t - g) w h0 h1 hsub (by omega))).mono fun e w' h => ⟨h.1.trans ?_, h.2⟩
  cases st <;> simp [selb, linev]
end Go.Proofs.YtojmpdddfnkffaaGreat.Pit

/- pit: a counter's value, and the line, in any mode. -/
namespace Go.Proofs.YtojmpdddfnkffaaGreat.Pit
open Go.RowKit
set_option linter.unusedVariables false

def Miss (m : Int) : Prop := ∀ (n : Nat) (W : World), W.heap[n]? = some (.map modeEs 3) →
 (Instr.lookup 174 (.map (some n)) (.int .u8 m) true).run Tryz.prog W = .ok (.tuple #[.agg #[.nilFunc, .nilFunc], .bool false]) W
theorem miss_of {m : Int} (h0 : m ≠ 0) (h2 : m ≠ 2) (h3 : m ≠ 3) : Miss m := fun n W h => look_miss n W h m h0 h2 h3
theorem now_miss (m : Int) (st : Bool) (l g t : Int) (b o : Nat) (w : World) (c0 : w.cell? ⟨b, o, none⟩ = some (.int .u8 m)) (c2 : w.cell? ⟨b, o + 2, none⟩ = some (.bool st))
    (c3 : w.cell? ⟨b, o + 3, none⟩ = some (.int .u64 l)) (h0 : 1 ≤ l) (h1 : l ≤ 65536) (hit : Miss m) :
    Calls Tryz.prog 106 #[.pointer (some ⟨b, o, none⟩), .int .u64 t] w fun e w' => e = .returned (.int .u16 (l % 65536)) ∧ Below w.heap.size w w' := by
 have hlt := lt_of_cell c0
 have hlt1 : b < w.heap.size + 1 := by omega
 have hlt2 : b < w.heap.size + 1 + 1 := by omega
 have la := hit _ _ (in_a w)
 have lb := hit _ _ (in_b w)
 have lc := hit _ _ (in_c w)
 clear hit
 go_enter Tryz.func106, Tryz.ntmps106
 go_upto_region 1 with (fail)
 go_cut [5, 6] from 7 (fun s5 s6 wc => s6 = .bool false ∧ Below w.heap.size w wc ∧ b < wc.heap.size)
 case first =>
  go_region_with (first | (go_at_call 109; refine (modes_any _).mono ?_; rintro e w2 ⟨rfl, rfl⟩))
  all_goals
   go_wp2_with fail
   go_meet
   exact ⟨rfl, by go_grown, by simp; omega⟩
 case rest =>
  obtain ⟨rfl, hb, hbl⟩ := hcut
  obtain ⟨hc, hf⟩ := bcell hb
  clear la lb lc
  go_wp2_with fail
  go_ret
  exact ⟨rfl, hb⟩
theorem line_miss (m : Int) (st : Bool) (l g t : Int) (b : Nat) (w : World) (c0 : w.cell? ⟨b, 0, none⟩ = some (.int .u8 m)) (c2 : w.cell? ⟨b, 2, none⟩ = some (.bool st)) (hm : m ≠ 0) (hit : Miss m) :
    Calls Tryz.prog 75 #[.pointer (some ⟨b, 0, none⟩), .int .u64 t] w fun e w' => e = .returned (.bool true) ∧ Below w.heap.size w w' := by
 have hlt := lt_of_cell c0
 have hlt1 : b < w.heap.size + 1 := by omega
 have hlt2 : b < w.heap.size + 1 + 1 := by omega
 have la := hit _ _ (in_a w)
 have lb := hit _ _ (in_b w)
 have lc := hit _ _ (in_c w)
 have hm0 : (m != 0) = true := by simpa using hm
 clear hit hm
 cases hst : st
 ·subst hst
  go_enter Tryz.func75, Tryz.ntmps75
  go_upto_region 6 with (fail)
  go_cut [6, 7] from 8 (fun s6 s7 wc => s7 = .bool false ∧ Below w.heap.size w wc ∧ b < wc.heap.size)
  case first =>
   go_region_with (first | (go_at_call 109; refine (modes_any _).mono ?_; rintro e w2 ⟨rfl, rfl⟩))
   all_goals
    go_wp2_with fail
    go_meet
    exact ⟨rfl, by go_grown, by simp; omega⟩
  case rest =>
   obtain ⟨rfl, hb, hbl⟩ := hcut
   clear la lb lc
   go_wp2_with fail
   go_quiet (fail)
   go_wp2_with fail
   go_ret
   exact ⟨rfl, below_drewN hb _⟩
 ·subst hst
  clear la lb lc
  go_enter Tryz.func75, Tryz.ntmps75
  go_wp2_with fail
  go_ret
  exact ⟨rfl, Below.refl _ _⟩
end Go.Proofs.YtojmpdddfnkffaaGreat.Pit

/- pit: three counters as one object; what a counter is worth. -/
namespace Go.Proofs.YtojmpdddfnkffaaGreat.Pit
open Go.RowKit
set_option linter.unusedVariables false
set_option linter.unusedSimpArgs false

structure Ct where
 m : Int
 h : Int
 st : Bool
 l : Int
 g : Int
 wn : Bool
 up : Bool
 f : Int
 hd : Bool
 v : Int
structure Ct.ok (c : Ct) (t : Int) : Prop where
 m : 0 ≤ c.m ∧ c.m ≤ 5
 h : 1 ≤ c.h ∧ c.h ≤ 3
 l : 1 ≤ c.l ∧ c.l ≤ 65536
 g : 0 ≤ c.g ∧ c.g ≤ t
 f : 0 ≤ c.f ∧ c.f < 256
 v : 0 ≤ c.v ∧ c.v < 65536
def Ct.cells (c : Ct) : List Value := [.int .u8 c.m, .int .u8 c.h, .bool c.st, .int .u64 c.l, .int .u64 c.g, .bool c.wn, .bool c.up, .int .u8 c.f, .bool c.hd, .int .u16 c.v]
def Ct.val (c : Ct) (t : Int) : Int := nowv c.m c.st c.l c.g t
def Ct.line (c : Ct) (t : Int) : Bool := linev c.m c.st c.l c.g t
theorem Ct.ok.val {c : Ct} {t : Int} (h : c.ok t) : 0 ≤ c.val t ∧ c.val t < 65536 := by
 have h0 := h.l
 unfold Ct.val nowv
 split
 ·omega
 ·split
  ·omega
  ·split <;> omega
def Tm (w : World) (b : Nat) (c0 c1 c2 : Ct) : Prop := w.heap[b]? = some (.cells (c0.cells ++ c1.cells ++ c2.cells).toArray 125)
theorem Tm.below {w w1 : World} {b : Nat} {c0 c1 c2 : Ct} (H : Tm w b c0 c1 c2) (hb : Below w.heap.size w w1) : Tm w1 b c0 c1 c2 := heap_below hb H
theorem Tm.lt {w : World} {b : Nat} {c0 c1 c2 : Ct} (H : Tm w b c0 c1 c2) : b < w.heap.size := heap_lt (show w.heap[b]? = some _ from H)
theorem and_3 (x : Int) (h0 : 0 ≤ x) (h1 : x < 256) : bits BinOp.and IntKind.u8 x 3 = x % 4 := by
 obtain ⟨a, rfl⟩ := Int.eq_ofNat_of_zero_le h0
 have h : ∀ a : Fin 256, bits BinOp.and IntKind.u8 ((a.val : Nat) : Int) 3 = ((a.val : Nat) : Int) % 4 := by decide +kernel
 exact h ⟨a, by omega⟩
theorem and_7 (x : Int) (h0 : 0 ≤ x) (h1 : x < 256) : bits BinOp.and IntKind.u8 x 7 = x % 8 := by
 obtain ⟨a, rfl⟩ := Int.eq_ofNat_of_zero_le h0
 have h : ∀ a : Fin 256, bits BinOp.and IntKind.u8 ((a.val : Nat) : Int) 7 = ((a.val : Nat) : Int) % 8 := by decide +kernel
 exact h ⟨a, by omega⟩
theorem Tm.f0 {w : World} {b : Nat} {c0 c1 c2 : Ct} (H : Tm w b c0 c1 c2) :
    w.cell? ⟨b, 0, none⟩ = some (.int .u8 c0.m) ∧ w.cell? ⟨b, 1, none⟩ = some (.int .u8 c0.h) ∧ w.cell? ⟨b, 2, none⟩ = some (.bool c0.st) ∧ w.cell? ⟨b, 3, none⟩ = some (.int .u64 c0.l) ∧ w.cell? ⟨b, 4, none⟩ = some (.int .u64 c0.g) ∧ w.cell? ⟨b, 5, none⟩ = some (.bool c0.wn) ∧ w.cell? ⟨b, 6, none⟩ = some (.bool c0.up) ∧ w.cell? ⟨b, 7, none⟩ = some (.int .u8 c0.f) ∧ w.cell? ⟨b, 8, none⟩ = some (.bool c0.hd) ∧ w.cell? ⟨b, 9, none⟩ = some (.int .u16 c0.v) ∧
    (∀ k, w.frozen? ⟨b, k, none⟩ = false) ∧ b < w.heap.size := by
 unfold Tm at H
 refine ⟨?_, ?_, ?_, ?_, ?_, ?_, ?_, ?_, ?_, ?_, fun k => free_at H, heap_lt H⟩ <;> (rw [cell_at H]; rfl)
theorem now_ct0 {w : World} {b : Nat} {c0 c1 c2 : Ct} {t : Int} (H : Tm w b c0 c1 c2) (ok : c0.ok t) (ht : t < 18446744073709551616) :
    Calls Tryz.prog 106 #[.pointer (some ⟨b, 0, none⟩), .int .u64 t] w fun e w' => e = .returned (.int .u16 (c0.val t)) ∧ Below w.heap.size w w' := by
 obtain ⟨k0, k1, k2, k3, k4, k5, k6, k7, k8, k9, kf, klt⟩ := H.f0
 by_cases hm : c0.m = 0 ∨ c0.m = 2 ∨ c0.m = 3
 ·exact now_any _ _ _ _ t b 0 w k0 k2 k3 k4 ok.l.1 ok.l.2 ok.g.1 ok.g.2 ht hm
 ·refine (now_miss _ _ _ c0.g t b 0 w k0 k2 k3 ok.l.1 ok.l.2 (miss_of (by omega) (by omega) (by omega))).mono fun e w' h => ⟨h.1.trans ?_, h.2⟩
  unfold Ct.val nowv
  rw [if_neg (show ¬ c0.m = 0 by omega), if_neg (show ¬ (c0.m = 2 ∨ c0.m = 3) by omega)]
  cases c0.st <;> simp
theorem Tm.f1 {w : World} {b : Nat} {c0 c1 c2 : Ct} (H : Tm w b c0 c1 c2) :
    w.cell? ⟨b, 10, none⟩ = some (.int .u8 c1.m) ∧ w.cell? ⟨b, 11, none⟩ = some (.int .u8 c1.h) ∧ w.cell? ⟨b, 12, none⟩ = some (.bool c1.st) ∧ w.cell? ⟨b, 13, none⟩ = some (.int .u64 c1.l) ∧ w.cell? ⟨b, 14, none⟩ = some (.int .u64 c1.g) ∧ w.cell? ⟨b, 15, none⟩ = some (.bool c1.wn) ∧ w.cell? ⟨b, 16, none⟩ = some (.bool c1.up) ∧ w.cell? ⟨b, 17, none⟩ = some (.int .u8 c1.f) ∧ w.cell? ⟨b, 18, none⟩ = some (.bool c1.hd) ∧ w.cell? ⟨b, 19, none⟩ = some (.int .u16 c1.v) ∧
    (∀ k, w.frozen? ⟨b, k, none⟩ = false) ∧ b < w.heap.size := by
 unfold Tm at H
 refine ⟨?_, ?_, ?_, ?_, ?_, ?_, ?_, ?_, ?_, ?_, fun k => free_at H, heap_lt H⟩ <;> (rw [cell_at H]; rfl)
theorem now_ct1 {w : World} {b : Nat} {c0 c1 c2 : Ct} {t : Int} (H : Tm w b c0 c1 c2) (ok : c1.ok t) (ht : t < 18446744073709551616) :
    Calls Tryz.prog 106 #[.pointer (some ⟨b, 10, none⟩), .int .u64 t] w fun e w' => e = .returned (.int .u16 (c1.val t)) ∧ Below w.heap.size w w' := by
 obtain ⟨k0, k1, k2, k3, k4, k5, k6, k7, k8, k9, kf, klt⟩ := H.f1
 by_cases hm : c1.m = 0 ∨ c1.m = 2 ∨ c1.m = 3
 ·exact now_any _ _ _ _ t b 10 w k0 k2 k3 k4 ok.l.1 ok.l.2 ok.g.1 ok.g.2 ht hm
 ·refine (now_miss _ _ _ c1.g t b 10 w k0 k2 k3 ok.l.1 ok.l.2 (miss_of (by omega) (by omega) (by omega))).mono fun e w' h => ⟨h.1.trans ?_, h.2⟩
  unfold Ct.val nowv
  rw [if_neg (show ¬ c1.m = 0 by omega), if_neg (show ¬ (c1.m = 2 ∨ c1.m = 3) by omega)]
  cases c1.st <;> simp
theorem Tm.f2 {w : World} {b : Nat} {c0 c1 c2 : Ct} (H : Tm w b c0 c1 c2) :
    w.cell? ⟨b, 20, none⟩ = some (.int .u8 c2.m) ∧ w.cell? ⟨b, 21, none⟩ = some (.int .u8 c2.h) ∧ w.cell? ⟨b, 22, none⟩ = some (.bool c2.st) ∧ w.cell? ⟨b, 23, none⟩ = some (.int .u64 c2.l) ∧ w.cell? ⟨b, 24, none⟩ = some (.int .u64 c2.g) ∧ w.cell? ⟨b, 25, none⟩ = some (.bool c2.wn) ∧ w.cell? ⟨b, 26, none⟩ = some (.bool c2.up) ∧ w.cell? ⟨b, 27, none⟩ = some (.int .u8 c2.f) ∧ w.cell? ⟨b, 28, none⟩ = some (.bool c2.hd) ∧ w.cell? ⟨b, 29, none⟩ = some (.int .u16 c2.v) ∧
    (∀ k, w.frozen? ⟨b, k, none⟩ = false) ∧ b < w.heap.size := by
 unfold Tm at H
 refine ⟨?_, ?_, ?_, ?_, ?_, ?_, ?_, ?_, ?_, ?_, fun k => free_at H, heap_lt H⟩ <;> (rw [cell_at H]; rfl)
theorem now_ct2 {w : World} {b : Nat} {c0 c1 c2 : Ct} {t : Int} (H : Tm w b c0 c1 c2) (ok : c2.ok t) (ht : t < 18446744073709551616) :
    Calls Tryz.prog 106 #[.pointer (some ⟨b, 20, none⟩), .int .u64 t] w fun e w' => e = .returned (.int .u16 (c2.val t)) ∧ Below w.heap.size w w' := by
 obtain ⟨k0, k1, k2, k3, k4, k5, k6, k7, k8, k9, kf, klt⟩ := H.f2
 by_cases hm : c2.m = 0 ∨ c2.m = 2 ∨ c2.m = 3
 ·exact now_any _ _ _ _ t b 20 w k0 k2 k3 k4 ok.l.1 ok.l.2 ok.g.1 ok.g.2 ht hm
 ·refine (now_miss _ _ _ c2.g t b 20 w k0 k2 k3 ok.l.1 ok.l.2 (miss_of (by omega) (by omega) (by omega))).mono fun e w' h => ⟨h.1.trans ?_, h.2⟩
  unfold Ct.val nowv
  rw [if_neg (show ¬ c2.m = 0 by omega), if_neg (show ¬ (c2.m = 2 ∨ c2.m = 3) by omega)]
  cases c2.st <;> simp
theorem line_tm {w : World} {b : Nat} {c0 c1 c2 : Ct} {t : Int} (H : Tm w b c0 c1 c2) (ok : c0.ok t) (ht : t < 18446744073709551616) :
    Calls Tryz.prog 75 #[.pointer (some ⟨b, 0, none⟩), .int .u64 t] w fun e w' => e = .returned (.bool (c0.line t)) ∧ Below w.heap.size w w' := by
 obtain ⟨k0, k1, k2, k3, k4, k5, k6, k7, k8, k9, kf, klt⟩ := H.f0
 by_cases hm : c0.m = 0 ∨ c0.m = 2 ∨ c0.m = 3
 ·exact line_any _ _ _ _ t b w k0 k2 k3 k4 ok.l.1 ok.l.2 ok.g.1 ok.g.2 ht hm
 ·refine (line_miss _ _ c0.l c0.g t b w k0 k2 (by omega) (miss_of (by omega) (by omega) (by omega))).mono fun e w' h => ⟨h.1.trans ?_, h.2⟩
  unfold Ct.line linev
  rw [if_neg (show ¬ c0.m = 0 by omega), if_neg (show ¬ c0.m = 2 by omega), if_neg (show ¬ c0.m = 3 by omega), show (c0.m != 0) = true by simp; omega]
  cases c0.st <;> rfl
def Ct.cmd (c : Ct) (x t : Int) : Ct :=
 if x / 16 % 4 = 0 then (if c.hd then c else { c with v := c.val t, hd := true })
 else { c with h := x / 16 % 4, hd := false, wn := false, up := (x / 16 % 4 == 2), st := true, m := if 5 < x / 2 % 8 then x / 2 % 8 - 4 else x / 2 % 8 }
def Ct.full (x : Int) : Int := if x = 0 then 65536 else x
def Ct.put (c : Ct) (x t : Int) : Ct :=
 if c.h = 3 ∧ c.wn = false then { c with wn := true, f := x }
 else { c with wn := false, l := Ct.full (if c.h = 3 then x * 256 + c.f else if c.h = 2 then x * 256 else x), g := t, st := false }
def Ct.getV (c : Ct) (t : Int) : Int := let V := if c.hd then c.v else c.val t; if c.up then V / 256 % 256 else V % 256
def Ct.getS (c : Ct) : Ct := { c with hd := c.hd && c.h == 3 && !c.up, up := c.up != (c.h == 3) }
theorem Ct.cmd_ok {c : Ct} {t x : Int} (h : c.ok t) (h0 : 0 ≤ x) (h1 : x < 256) : (c.cmd x t).ok t := by
 unfold Ct.cmd
 split
 ·split
  ·exact h
  ·exact ⟨h.m, h.h, h.l, h.g, h.f, h.val⟩
 ·refine ⟨?_, ?_, h.l, h.g, h.f, h.v⟩
  ·show 0 ≤ (if 5 < x / 2 % 8 then x / 2 % 8 - 4 else x / 2 % 8) ∧ (if 5 < x / 2 % 8 then x / 2 % 8 - 4 else x / 2 % 8) ≤ 5
   split <;> omega
  ·show 1 ≤ x / 16 % 4 ∧ x / 16 % 4 ≤ 3
   omega
theorem Ct.full_bd {x : Int} (h0 : 0 ≤ x) (h1 : x < 65536) : 1 ≤ Ct.full x ∧ Ct.full x ≤ 65536 := by unfold Ct.full; split <;> omega
theorem Ct.put_ok {c : Ct} {t x : Int} (h : c.ok t) (h0 : 0 ≤ x) (h1 : x < 256) : (c.put x t).ok t := by
 have hf := h.f
 unfold Ct.put
 split
 ·exact ⟨h.m, h.h, h.l, h.g, ⟨h0, h1⟩, h.v⟩
 ·refine ⟨h.m, h.h, Ct.full_bd ?_ ?_, ⟨?_, Int.le_refl _⟩, h.f, h.v⟩
  ·split
   ·omega
   ·split <;> omega
  ·split
   ·omega
   ·split <;> omega
  ·have := h.g; show 0 ≤ t; omega
theorem Ct.getS_ok {c : Ct} {t : Int} (h : c.ok t) : c.getS.ok t := ⟨h.m, h.h, h.l, h.g, h.f, h.v⟩
theorem Ct.later {c : Ct} {t t' : Int} (h : c.ok t) (ht : t ≤ t') : c.ok t' := ⟨h.m, h.h, h.l, ⟨h.g.1, Int.le_trans h.g.2 ht⟩, h.f, h.v⟩
end Go.Proofs.YtojmpdddfnkffaaGreat.Pit

/- pit: a command to any counter. -/
namespace Go.Proofs.YtojmpdddfnkffaaGreat.Pit
open Go.RowKit
set_option linter.unusedVariables false
set_option linter.unusedSimpArgs false
theorem cmd0_hi {w : World} {b : Nat} {c0 c1 c2 : Ct} {t : Int} (H : Tm w b c0 c1 c2) (x hh mm : Int) (x0 : 0 ≤ x) (x1 : x < 256) (e0 : x / 64 = 0) (e1 : bits BinOp.and IntKind.u8 (x / 16) 3 = hh) (e2 : bits BinOp.and IntKind.u8 (x / 2) 7 = mm) (e3 : (hh == 0) = false) (hm : 5 < mm) (hm2 : 0 ≤ mm ∧ mm ≤ 7) :
    Calls Tryz.prog 105 #[.pointer (some ⟨b, 0, none⟩), .int .u8 x, .int .u64 t] w fun e w' => e = .returned (.tuple #[]) ∧ Tm w' b { c0 with h := hh, hd := false, wn := false, up := (hh == 2), st := true, m := mm - 4 } c1 c2 ∧ Keeps (· = b) w w' := by
 obtain ⟨k0, k1, k2, k3, k4, k5, k6, k7, k8, k9, kf, klt⟩ := H.f0
 clear k3 k4 k7 k9
 go_enter Tryz.func105, Tryz.ntmps105
 go_wp2_with fail
 all_goals
  go_returns
  exact ⟨rfl, by (unfold Tm Ct.cells at H ⊢; simp only [heap_drew, heap_set_map, putObj_cells, H, Option.map_some, List.cons_append, List.nil_append, List.set_cons_succ, List.set_cons_zero, Bool.and_false, Bool.and_true, Bool.true_and, Bool.false_and, Bool.not_true, Bool.not_false, Bool.bne_true, Bool.bne_false]), by (repeat' (first | (with_reducible exact Keeps.refl _ _) | (with_reducible assumption) | (with_reducible refine Keeps.setOne ?_ _ _) | (with_reducible refine Keeps.alloc ?_ _) | (with_reducible refine Keeps.drew ?_)))⟩
theorem cmd0_lo {w : World} {b : Nat} {c0 c1 c2 : Ct} {t : Int} (H : Tm w b c0 c1 c2) (x hh mm : Int) (x0 : 0 ≤ x) (x1 : x < 256) (e0 : x / 64 = 0) (e1 : bits BinOp.and IntKind.u8 (x / 16) 3 = hh) (e2 : bits BinOp.and IntKind.u8 (x / 2) 7 = mm) (e3 : (hh == 0) = false) (hm : mm ≤ 5) (hm2 : 0 ≤ mm ∧ mm ≤ 7) :
    Calls Tryz.prog 105 #[.pointer (some ⟨b, 0, none⟩), .int .u8 x, .int .u64 t] w fun e w' => e = .returned (.tuple #[]) ∧ Tm w' b { c0 with h := hh, hd := false, wn := false, up := (hh == 2), st := true, m := mm } c1 c2 ∧ Keeps (· = b) w w' := by
 obtain ⟨k0, k1, k2, k3, k4, k5, k6, k7, k8, k9, kf, klt⟩ := H.f0
 clear k3 k4 k7 k9
 go_enter Tryz.func105, Tryz.ntmps105
 go_wp2_with fail
 all_goals
  go_returns
  exact ⟨rfl, by (unfold Tm Ct.cells at H ⊢; simp only [heap_drew, heap_set_map, putObj_cells, H, Option.map_some, List.cons_append, List.nil_append, List.set_cons_succ, List.set_cons_zero, Bool.and_false, Bool.and_true, Bool.true_and, Bool.false_and, Bool.not_true, Bool.not_false, Bool.bne_true, Bool.bne_false]), by (repeat' (first | (with_reducible exact Keeps.refl _ _) | (with_reducible assumption) | (with_reducible refine Keeps.setOne ?_ _ _) | (with_reducible refine Keeps.alloc ?_ _) | (with_reducible refine Keeps.drew ?_)))⟩
theorem cmd0_held {w : World} {b : Nat} {c0 c1 c2 : Ct} {t : Int} (H : Tm w b c0 c1 c2) (x : Int) (x0 : 0 ≤ x) (x1 : x < 256) (e0 : x / 64 = 0) (e1 : bits BinOp.and IntKind.u8 (x / 16) 3 = 0) (e4 : c0.hd = true) :
    Calls Tryz.prog 105 #[.pointer (some ⟨b, 0, none⟩), .int .u8 x, .int .u64 t] w fun e w' => e = .returned (.tuple #[]) ∧ Tm w' b c0 c1 c2 ∧ Keeps (· = b) w w' := by
 obtain ⟨k0, k1, k2, k3, k4, k5, k6, k7, k8, k9, kf, klt⟩ := H.f0
 rw [e4] at k8
 go_enter Tryz.func105, Tryz.ntmps105
 go_wp2_with fail
 all_goals
  go_returns
  exact ⟨rfl, H, Keeps.refl _ _⟩
theorem cmd0_free {w : World} {b : Nat} {c0 c1 c2 : Ct} {t : Int} (H : Tm w b c0 c1 c2) (ok : c0.ok t) (ht : t < 18446744073709551616) (x : Int) (x0 : 0 ≤ x) (x1 : x < 256) (e0 : x / 64 = 0) (e1 : bits BinOp.and IntKind.u8 (x / 16) 3 = 0) (e4 : c0.hd = false) :
    Calls Tryz.prog 105 #[.pointer (some ⟨b, 0, none⟩), .int .u8 x, .int .u64 t] w fun e w' => e = .returned (.tuple #[]) ∧ Tm w' b { c0 with v := c0.val t, hd := true } c1 c2 ∧ Keeps (· = b) w w' := by
 obtain ⟨k0, k1, k2, k3, k4, k5, k6, k7, k8, k9, kf, klt⟩ := H.f0
 rw [e4] at k8
 go_enter Tryz.func105, Tryz.ntmps105
 go_wp2_with fail
 refine (now_ct0 H ok ht).mono ?_
 rintro e w1 ⟨rfl, hb⟩
 have H1 := H.below hb
 clear k0 k1 k2 k3 k4 k5 k6 k7 k8 k9 kf
 obtain ⟨k0, k1, k2, k3, k4, k5, k6, k7, k8, k9, kf, klt1⟩ := H1.f0
 have hK : Keeps (· = b) w w1 := Keeps.ofBelow hb
 go_wp2_with fail
 go_returns
 exact ⟨rfl, by (unfold Tm Ct.cells at H1 ⊢; simp only [heap_drew, heap_set_map, putObj_cells, H1, Option.map_some, List.cons_append, List.nil_append, List.set_cons_succ, List.set_cons_zero, Bool.and_false, Bool.and_true, Bool.true_and, Bool.false_and, Bool.not_true, Bool.not_false, Bool.bne_true, Bool.bne_false]), by (repeat' (first | (with_reducible exact Keeps.refl _ _) | (with_reducible assumption) | (with_reducible refine Keeps.setOne ?_ _ _) | (with_reducible refine Keeps.alloc ?_ _) | (with_reducible refine Keeps.drew ?_)))⟩
theorem cmd1_hi {w : World} {b : Nat} {c0 c1 c2 : Ct} {t : Int} (H : Tm w b c0 c1 c2) (x hh mm : Int) (x0 : 0 ≤ x) (x1 : x < 256) (e0 : x / 64 = 1) (e1 : bits BinOp.and IntKind.u8 (x / 16) 3 = hh) (e2 : bits BinOp.and IntKind.u8 (x / 2) 7 = mm) (e3 : (hh == 0) = false) (hm : 5 < mm) (hm2 : 0 ≤ mm ∧ mm ≤ 7) :
    Calls Tryz.prog 105 #[.pointer (some ⟨b, 0, none⟩), .int .u8 x, .int .u64 t] w fun e w' => e = .returned (.tuple #[]) ∧ Tm w' b c0 { c1 with h := hh, hd := false, wn := false, up := (hh == 2), st := true, m := mm - 4 } c2 ∧ Keeps (· = b) w w' := by
 obtain ⟨k0, k1, k2, k3, k4, k5, k6, k7, k8, k9, kf, klt⟩ := H.f1
 clear k3 k4 k7 k9
 go_enter Tryz.func105, Tryz.ntmps105
 go_wp2_with fail
 all_goals
  go_returns
  exact ⟨rfl, by (unfold Tm Ct.cells at H ⊢; simp only [heap_drew, heap_set_map, putObj_cells, H, Option.map_some, List.cons_append, List.nil_append, List.set_cons_succ, List.set_cons_zero, Bool.and_false, Bool.and_true, Bool.true_and, Bool.false_and, Bool.not_true, Bool.not_false, Bool.bne_true, Bool.bne_false]), by (repeat' (first | (with_reducible exact Keeps.refl _ _) | (with_reducible assumption) | (with_reducible refine Keeps.setOne ?_ _ _) | (with_reducible refine Keeps.alloc ?_ _) | (with_reducible refine Keeps.drew ?_)))⟩
theorem cmd1_lo {w : World} {b : Nat} {c0 c1 c2 : Ct} {t : Int} (H : Tm w b c0 c1 c2) (x hh mm : Int) (x0 : 0 ≤ x) (x1 : x < 256) (e0 : x / 64 = 1) (e1 : bits BinOp.and IntKind.u8 (x / 16) 3 = hh) (e2 : bits BinOp.and IntKind.u8 (x / 2) 7 = mm) (e3 : (hh == 0) = false) (hm : mm ≤ 5) (hm2 : 0 ≤ mm ∧ mm ≤ 7) :
    Calls Tryz.prog 105 #[.pointer (some ⟨b, 0, none⟩), .int .u8 x, .int .u64 t] w fun e w' => e = .returned (.tuple #[]) ∧ Tm w' b c0 { c1 with h := hh, hd := false, wn := false, up := (hh == 2), st := true, m := mm } c2 ∧ Keeps (· = b) w w' := by
 obtain ⟨k0, k1, k2, k3, k4, k5, k6, k7, k8, k9, kf, klt⟩ := H.f1
 clear k3 k4 k7 k9
 go_enter Tryz.func105, Tryz.ntmps105
 go_wp2_with fail
 all_goals
  go_returns
  exact ⟨rfl, by (unfold Tm Ct.cells at H ⊢; simp only [heap_drew, heap_set_map, putObj_cells, H, Option.map_some, List.cons_append, List.nil_append, List.set_cons_succ, List.set_cons_zero, Bool.and_false, Bool.and_true, Bool.true_and, Bool.false_and, Bool.not_true, Bool.not_false, Bool.bne_true, Bool.bne_false]), by (repeat' (first | (with_reducible exact Keeps.refl _ _) | (with_reducible assumption) | (with_reducible refine Keeps.setOne ?_ _ _) | (with_reducible refine Keeps.alloc ?_ _) | (with_reducible refine Keeps.drew ?_)))⟩
theorem cmd1_held {w : World} {b : Nat} {c0 c1 c2 : Ct} {t : Int} (H : Tm w b c0 c1 c2) (x : Int) (x0 : 0 ≤ x) (x1 : x < 256) (e0 : x / 64 = 1) (e1 : bits BinOp.and IntKind.u8 (x / 16) 3 = 0) (e4 : c1.hd = true) :
    Calls Tryz.prog 105 #[.pointer (some ⟨b, 0, none⟩), .int .u8 x, .int .u64 t] w fun e w' => e = .returned (.tuple #[]) ∧ Tm w' b c0 c1 c2 ∧ Keeps (· = b) w w' := by
 obtain ⟨k0, k1, k2, k3, k4, k5, k6, k7, k8, k9, kf, klt⟩ := H.f1
 rw [e4] at k8
 go_enter Tryz.func105, Tryz.ntmps105
 go_wp2_with fail
 all_goals
  go_returns
  exact ⟨rfl, H, Keeps.refl _ _⟩
theorem cmd1_free {w : World} {b : Nat} {c0 c1 c2 : Ct} {t : Int} (H : Tm w b c0 c1 c2) (ok : c1.ok t) (ht : t < 18446744073709551616) (x : Int) (x0 : 0 ≤ x) (x1 : x < 256) (e0 : x / 64 = 1) (e1 : bits BinOp.and IntKind.u8 (x / 16) 3 = 0) (e4 : c1.hd = false) :
    Calls Tryz.prog 105 #[.pointer (some ⟨b, 0, none⟩), .int .u8 x, .int .u64 t] w fun e w' => e = .returned (.tuple #[]) ∧ Tm w' b c0 { c1 with v := c1.val t, hd := true } c2 ∧ Keeps (· = b) w w' := by
 obtain ⟨k0, k1, k2, k3, k4, k5, k6, k7, k8, k9, kf, klt⟩ := H.f1
 rw [e4] at k8
 go_enter Tryz.func105, Tryz.ntmps105
 go_wp2_with fail
 refine (now_ct1 H ok ht).mono ?_
 rintro e w1 ⟨rfl, hb⟩
 have H1 := H.below hb
 clear k0 k1 k2 k3 k4 k5 k6 k7 k8 k9 kf
 obtain ⟨k0, k1, k2, k3, k4, k5, k6, k7, k8, k9, kf, klt1⟩ := H1.f1
 have hK : Keeps (· = b) w w1 := Keeps.ofBelow hb
 go_wp2_with fail
 go_returns
 exact ⟨rfl, by (unfold Tm Ct.cells at H1 ⊢; simp only [heap_drew, heap_set_map, putObj_cells, H1, Option.map_some, List.cons_append, List.nil_append, List.set_cons_succ, List.set_cons_zero, Bool.and_false, Bool.and_true, Bool.true_and, Bool.false_and, Bool.not_true, Bool.not_false, Bool.bne_true, Bool.bne_false]), by (repeat' (first | (with_reducible exact Keeps.refl _ _) | (with_reducible assumption) | (with_reducible refine Keeps.setOne ?_ _ _) | (with_reducible refine Keeps.alloc ?_ _) | (with_reducible refine Keeps.drew ?_)))⟩
theorem cmd2_hi {w : World} {b : Nat} {c0 c1 c2 : Ct} {t : Int} (H : Tm w b c0 c1 c2) (x hh mm : Int) (x0 : 0 ≤ x) (x1 : x < 256) (e0 : x / 64 = 2) (e1 : bits BinOp.and IntKind.u8 (x / 16) 3 = hh) (e2 : bits BinOp.and IntKind.u8 (x / 2) 7 = mm) (e3 : (hh == 0) = false) (hm : 5 < mm) (hm2 : 0 ≤ mm ∧ mm ≤ 7) :
    Calls Tryz.prog 105 #[.pointer (some ⟨b, 0, none⟩), .int .u8 x, .int .u64 t] w fun e w' => e = .returned (.tuple #[]) ∧ Tm w' b c0 c1 { c2 with h := hh, hd := false, wn := false, up := (hh == 2), st := true, m := mm - 4 } ∧ Keeps (· = b) w w' := by
 obtain ⟨k0, k1, k2, k3, k4, k5, k6, k7, k8, k9, kf, klt⟩ := H.f2
 clear k3 k4 k7 k9
 go_enter Tryz.func105, Tryz.ntmps105
 go_wp2_with fail
 all_goals
  go_returns
  exact ⟨rfl, by (unfold Tm Ct.cells at H ⊢; simp only [heap_drew, heap_set_map, putObj_cells, H, Option.map_some, List.cons_append, List.nil_append, List.set_cons_succ, List.set_cons_zero, Bool.and_false, Bool.and_true, Bool.true_and, Bool.false_and, Bool.not_true, Bool.not_false, Bool.bne_true, Bool.bne_false]), by (repeat' (first | (with_reducible exact Keeps.refl _ _) | (with_reducible assumption) | (with_reducible refine Keeps.setOne ?_ _ _) | (with_reducible refine Keeps.alloc ?_ _) | (with_reducible refine Keeps.drew ?_)))⟩
theorem cmd2_lo {w : World} {b : Nat} {c0 c1 c2 : Ct} {t : Int} (H : Tm w b c0 c1 c2) (x hh mm : Int) (x0 : 0 ≤ x) (x1 : x < 256) (e0 : x / 64 = 2) (e1 : bits BinOp.and IntKind.u8 (x / 16) 3 = hh) (e2 : bits BinOp.and IntKind.u8 (x / 2) 7 = mm) (e3 : (hh == 0) = false) (hm : mm ≤ 5) (hm2 : 0 ≤ mm ∧ mm ≤ 7) :
    Calls Tryz.prog 105 #[.pointer (some ⟨b, 0, none⟩), .int .u8 x, .int .u64 t] w fun e w' => e = .returned (.tuple #[]) ∧ Tm w' b c0 c1 { c2 with h := hh, hd := false, wn := false, up := (hh == 2), st := true, m := mm } ∧ Keeps (· = b) w w' := by
 obtain ⟨k0, k1, k2, k3, k4, k5, k6, k7, k8, k9, kf, klt⟩ := H.f2
 clear k3 k4 k7 k9
 go_enter Tryz.func105, Tryz.ntmps105
 go_wp2_with fail
 all_goals
  go_returns
  exact ⟨rfl, by (unfold Tm Ct.cells at H ⊢; simp only [heap_drew, heap_set_map, putObj_cells, H, Option.map_some, List.cons_append, List.nil_append, List.set_cons_succ, List.set_cons_zero, Bool.and_false, Bool.and_true, Bool.true_and, Bool.false_and, Bool.not_true, Bool.not_false, Bool.bne_true, Bool.bne_false]), by (repeat' (first | (with_reducible exact Keeps.refl _ _) | (with_reducible assumption) | (with_reducible refine Keeps.setOne ?_ _ _) | (with_reducible refine Keeps.alloc ?_ _) | (with_reducible refine Keeps.drew ?_)))⟩
theorem cmd2_held {w : World} {b : Nat} {c0 c1 c2 : Ct} {t : Int} (H : Tm w b c0 c1 c2) (x : Int) (x0 : 0 ≤ x) (x1 : x < 256) (e0 : x / 64 = 2) (e1 : bits BinOp.and IntKind.u8 (x / 16) 3 = 0) (e4 : c2.hd = true) :
    Calls Tryz.prog 105 #[.pointer (some ⟨b, 0, none⟩), .int .u8 x, .int .u64 t] w fun e w' => e = .returned (.tuple #[]) ∧ Tm w' b c0 c1 c2 ∧ Keeps (· = b) w w' := by
 obtain ⟨k0, k1, k2, k3, k4, k5, k6, k7, k8, k9, kf, klt⟩ := H.f2
 rw [e4] at k8
 go_enter Tryz.func105, Tryz.ntmps105
 go_wp2_with fail
 all_goals
  go_returns
  exact ⟨rfl, H, Keeps.refl _ _⟩
theorem cmd2_free {w : World} {b : Nat} {c0 c1 c2 : Ct} {t : Int} (H : Tm w b c0 c1 c2) (ok : c2.ok t) (ht : t < 18446744073709551616) (x : Int) (x0 : 0 ≤ x) (x1 : x < 256) (e0 : x / 64 = 2) (e1 : bits BinOp.and IntKind.u8 (x / 16) 3 = 0) (e4 : c2.hd = false) :
    Calls Tryz.prog 105 #[.pointer (some ⟨b, 0, none⟩), .int .u8 x, .int .u64 t] w fun e w' => e = .returned (.tuple #[]) ∧ Tm w' b c0 c1 { c2 with v := c2.val t, hd := true } ∧ Keeps (· = b) w w' := by
 obtain ⟨k0, k1, k2, k3, k4, k5, k6, k7, k8, k9, kf, klt⟩ := H.f2
 rw [e4] at k8
 go_enter Tryz.func105, Tryz.ntmps105
 go_wp2_with fail
 refine (now_ct2 H ok ht).mono ?_
 rintro e w1 ⟨rfl, hb⟩
 have H1 := H.below hb
 clear k0 k1 k2 k3 k4 k5 k6 k7 k8 k9 kf
 obtain ⟨k0, k1, k2, k3, k4, k5, k6, k7, k8, k9, kf, klt1⟩ := H1.f2
 have hK : Keeps (· = b) w w1 := Keeps.ofBelow hb
 go_wp2_with fail
 go_returns
 exact ⟨rfl, by (unfold Tm Ct.cells at H1 ⊢; simp only [heap_drew, heap_set_map, putObj_cells, H1, Option.map_some, List.cons_append, List.nil_append, List.set_cons_succ, List.set_cons_zero, Bool.and_false, Bool.and_true, Bool.true_and, Bool.false_and, Bool.not_true, Bool.not_false, Bool.bne_true, Bool.bne_false]), by (repeat' (first | (with_reducible exact Keeps.refl _ _) | (with_reducible assumption) | (with_reducible refine Keeps.setOne ?_ _ _) | (with_reducible refine Keeps.alloc ?_ _) | (with_reducible refine Keeps.drew ?_)))⟩
theorem cmd3 {w : World} {b : Nat} {c0 c1 c2 : Ct} {t : Int} (H : Tm w b c0 c1 c2) (x : Int) (x0 : 0 ≤ x) (x1 : x < 256) (e0 : x / 64 = 3) :
    Calls Tryz.prog 105 #[.pointer (some ⟨b, 0, none⟩), .int .u8 x, .int .u64 t] w fun e w' => e = .returned (.tuple #[]) ∧ Tm w' b c0 c1 c2 ∧ Keeps (· = b) w w' := by
 go_enter Tryz.func105, Tryz.ntmps105
 go_wp2_with fail
 all_goals
  go_returns
  exact ⟨rfl, H, Keeps.refl _ _⟩
theorem cmd_ct0 {w : World} {b : Nat} {c0 c1 c2 : Ct} {t : Int} (H : Tm w b c0 c1 c2) (ok : c0.ok t) (ht : t < 18446744073709551616) (x : Int) (x0 : 0 ≤ x) (x1 : x < 256) (e0 : x / 64 = 0) :
    Calls Tryz.prog 105 #[.pointer (some ⟨b, 0, none⟩), .int .u8 x, .int .u64 t] w fun e w' => e = .returned (.tuple #[]) ∧ Tm w' b (c0.cmd x t) c1 c2 ∧ Keeps (· = b) w w' := by
 have b1 := and_3 (x / 16) (by omega) (by omega)
 have b2 := and_7 (x / 2) (by omega) (by omega)
 unfold Ct.cmd
 by_cases hz : x / 16 % 4 = 0
 ·rw [if_pos hz]
  cases h8 : c0.hd
  ·exact cmd0_free H ok ht x x0 x1 e0 (b1.trans hz) h8
  ·exact cmd0_held H x x0 x1 e0 (b1.trans hz) h8
 ·rw [if_neg hz]
  by_cases h5 : 5 < x / 2 % 8
  ·rw [if_pos h5]
   exact cmd0_hi H x _ _ x0 x1 e0 b1 b2 (by simpa using hz) h5 (by omega)
  ·rw [if_neg h5]
   exact cmd0_lo H x _ _ x0 x1 e0 b1 b2 (by simpa using hz) (by omega) (by omega)
theorem cmd_ct1 {w : World} {b : Nat} {c0 c1 c2 : Ct} {t : Int} (H : Tm w b c0 c1 c2) (ok : c1.ok t) (ht : t < 18446744073709551616) (x : Int) (x0 : 0 ≤ x) (x1 : x < 256) (e0 : x / 64 = 1) :
    Calls Tryz.prog 105 #[.pointer (some ⟨b, 0, none⟩), .int .u8 x, .int .u64 t] w fun e w' => e = .returned (.tuple #[]) ∧ Tm w' b c0 (c1.cmd x t) c2 ∧ Keeps (· = b) w w' := by
 have b1 := and_3 (x / 16) (by omega) (by omega)
 have b2 := and_7 (x / 2) (by omega) (by omega)
 unfold Ct.cmd
 by_cases hz : x / 16 % 4 = 0
 ·rw [if_pos hz]
  cases h8 : c1.hd
  ·exact cmd1_free H ok ht x x0 x1 e0 (b1.trans hz) h8
  ·exact cmd1_held H x x0 x1 e0 (b1.trans hz) h8
 ·rw [if_neg hz]
  by_cases h5 : 5 < x / 2 % 8
  ·rw [if_pos h5]
   exact cmd1_hi H x _ _ x0 x1 e0 b1 b2 (by simpa using hz) h5 (by omega)
  ·rw [if_neg h5]
   exact cmd1_lo H x _ _ x0 x1 e0 b1 b2 (by simpa using hz) (by omega) (by omega)
theorem cmd_ct2 {w : World} {b : Nat} {c0 c1 c2 : Ct} {t : Int} (H : Tm w b c0 c1 c2) (ok : c2.ok t) (ht : t < 18446744073709551616) (x : Int) (x0 : 0 ≤ x) (x1 : x < 256) (e0 : x / 64 = 2) :
    Calls Tryz.prog 105 #[.pointer (some ⟨b, 0, none⟩), .int .u8 x, .int .u64 t] w fun e w' => e = .returned (.tuple #[]) ∧ Tm w' b c0 c1 (c2.cmd x t) ∧ Keeps (· = b) w w' := by
 have b1 := and_3 (x / 16) (by omega) (by omega)
 have b2 := and_7 (x / 2) (by omega) (by omega)
 unfold Ct.cmd
 by_cases hz : x / 16 % 4 = 0
 ·rw [if_pos hz]
  cases h8 : c2.hd
  ·exact cmd2_free H ok ht x x0 x1 e0 (b1.trans hz) h8
  ·exact cmd2_held H x x0 x1 e0 (b1.trans hz) h8
 ·rw [if_neg hz]
  by_cases h5 : 5 < x / 2 % 8
  ·rw [if_pos h5]
   exact cmd2_hi H x _ _ x0 x1 e0 b1 b2 (by simpa using hz) h5 (by omega)
  ·rw [if_neg h5]
   exact cmd2_lo H x _ _ x0 x1 e0 b1 b2 (by simpa using hz) (by omega) (by omega)
end Go.Proofs.YtojmpdddfnkffaaGreat.Pit

/- pit: a byte put to any counter. -/
namespace Go.Proofs.YtojmpdddfnkffaaGreat.Pit
open Go.RowKit
set_option linter.unusedVariables false
set_option linter.unusedSimpArgs false
theorem or_join_u64 (x f : Int) (x0 : 0 ≤ x) (x1 : x < 256) (f0 : 0 ≤ f) (f1 : f < 256) : bits BinOp.or IntKind.u64 (x * 256) f = x * 256 + f := by
 obtain ⟨a, rfl⟩ := Int.eq_ofNat_of_zero_le x0
 obtain ⟨b, rfl⟩ := Int.eq_ofNat_of_zero_le f0
 rw [u64_or _ _ (by omega) (by omega) (by omega) (by omega)]
 have e : ((a : Int) * 256).toNat = a * 256 := by omega
 rw [e, Int.toNat_natCast, nat_join 8 (a * 256) b (by omega) (by omega)]
 simp

theorem put0_first {w : World} {b : Nat} {c0 c1 c2 : Ct} {t : Int} (H : Tm w b c0 c1 c2) (x : Int) (x0 : 0 ≤ x) (x1 : x < 256) (e1 : c0.h = 3) (e2 : c0.wn = false) :
    Calls Tryz.prog 70 #[.pointer (some ⟨b, 0, none⟩), .int .i64 0, .int .u8 x, .int .u64 t] w fun e w' => e = .returned (.int .i64 0) ∧ Tm w' b { c0 with wn := true, f := x } c1 c2 ∧ Keeps (· = b) w w' := by
 obtain ⟨k0, k1, k2, k3, k4, k5, k6, k7, k8, k9, kf, klt⟩ := H.f0
 rw [e1] at k1
 rw [e2] at k5
 go_enter Tryz.func70, Tryz.ntmps70
 go_wp2_with fail
 all_goals
  go_ret
  exact ⟨rfl, by (unfold Tm Ct.cells at H ⊢; simp only [heap_drew, heap_set_map, putObj_cells, H, Option.map_some, List.cons_append, List.nil_append, List.set_cons_succ, List.set_cons_zero, Bool.and_false, Bool.and_true, Bool.true_and, Bool.false_and, Bool.not_true, Bool.not_false, Bool.bne_true, Bool.bne_false]), by (repeat' (first | (with_reducible exact Keeps.refl _ _) | (with_reducible assumption) | (with_reducible refine Keeps.setOne ?_ _ _) | (with_reducible refine Keeps.alloc ?_ _) | (with_reducible refine Keeps.drew ?_)))⟩
theorem put0_second {w : World} {b : Nat} {c0 c1 c2 : Ct} {t : Int} (H : Tm w b c0 c1 c2) (x : Int) (x0 : 0 ≤ x) (x1 : x < 256) (f0 : 0 ≤ c0.f) (f1 : c0.f < 256) (e1 : c0.h = 3) (e2 : c0.wn = true) (hz : ((x * 256 + c0.f) == 0) = false) :
    Calls Tryz.prog 70 #[.pointer (some ⟨b, 0, none⟩), .int .i64 0, .int .u8 x, .int .u64 t] w fun e w' => e = .returned (.int .i64 0) ∧ Tm w' b { c0 with wn := false, l := (x * 256 + c0.f), g := t, st := false } c1 c2 ∧ Keeps (· = b) w w' := by
 obtain ⟨k0, k1, k2, k3, k4, k5, k6, k7, k8, k9, kf, klt⟩ := H.f0
 rw [e1] at k1
 rw [e2] at k5
 have ej := or_join_u64 x c0.f x0 x1 f0 f1
 go_enter Tryz.func70, Tryz.ntmps70
 go_wp2_with fail
 all_goals
  go_ret
  exact ⟨rfl, by (unfold Tm Ct.cells at H ⊢; simp only [heap_drew, heap_set_map, putObj_cells, H, Option.map_some, List.cons_append, List.nil_append, List.set_cons_succ, List.set_cons_zero, Bool.and_false, Bool.and_true, Bool.true_and, Bool.false_and, Bool.not_true, Bool.not_false, Bool.bne_true, Bool.bne_false]), by (repeat' (first | (with_reducible exact Keeps.refl _ _) | (with_reducible assumption) | (with_reducible refine Keeps.setOne ?_ _ _) | (with_reducible refine Keeps.alloc ?_ _) | (with_reducible refine Keeps.drew ?_)))⟩
theorem put0_second0 {w : World} {b : Nat} {c0 c1 c2 : Ct} {t : Int} (H : Tm w b c0 c1 c2) (x : Int) (x0 : 0 ≤ x) (x1 : x < 256) (f0 : 0 ≤ c0.f) (f1 : c0.f < 256) (e1 : c0.h = 3) (e2 : c0.wn = true) (hz : ((x * 256 + c0.f) == 0) = true) :
    Calls Tryz.prog 70 #[.pointer (some ⟨b, 0, none⟩), .int .i64 0, .int .u8 x, .int .u64 t] w fun e w' => e = .returned (.int .i64 0) ∧ Tm w' b { c0 with wn := false, l := 65536, g := t, st := false } c1 c2 ∧ Keeps (· = b) w w' := by
 obtain ⟨k0, k1, k2, k3, k4, k5, k6, k7, k8, k9, kf, klt⟩ := H.f0
 rw [e1] at k1
 rw [e2] at k5
 have ej := or_join_u64 x c0.f x0 x1 f0 f1
 go_enter Tryz.func70, Tryz.ntmps70
 go_wp2_with fail
 all_goals
  go_ret
  exact ⟨rfl, by (unfold Tm Ct.cells at H ⊢; simp only [heap_drew, heap_set_map, putObj_cells, H, Option.map_some, List.cons_append, List.nil_append, List.set_cons_succ, List.set_cons_zero, Bool.and_false, Bool.and_true, Bool.true_and, Bool.false_and, Bool.not_true, Bool.not_false, Bool.bne_true, Bool.bne_false]), by (repeat' (first | (with_reducible exact Keeps.refl _ _) | (with_reducible assumption) | (with_reducible refine Keeps.setOne ?_ _ _) | (with_reducible refine Keeps.alloc ?_ _) | (with_reducible refine Keeps.drew ?_)))⟩
theorem put0_two {w : World} {b : Nat} {c0 c1 c2 : Ct} {t : Int} (H : Tm w b c0 c1 c2) (x : Int) (x0 : 0 ≤ x) (x1 : x < 256) (f0 : 0 ≤ c0.f) (f1 : c0.f < 256) (e1 : c0.h = 2) (hz : ((x * 256) == 0) = false) :
    Calls Tryz.prog 70 #[.pointer (some ⟨b, 0, none⟩), .int .i64 0, .int .u8 x, .int .u64 t] w fun e w' => e = .returned (.int .i64 0) ∧ Tm w' b { c0 with wn := false, l := (x * 256), g := t, st := false } c1 c2 ∧ Keeps (· = b) w w' := by
 obtain ⟨k0, k1, k2, k3, k4, k5, k6, k7, k8, k9, kf, klt⟩ := H.f0
 rw [e1] at k1
 go_enter Tryz.func70, Tryz.ntmps70
 go_wp2_with fail
 all_goals
  go_ret
  exact ⟨rfl, by (unfold Tm Ct.cells at H ⊢; simp only [heap_drew, heap_set_map, putObj_cells, H, Option.map_some, List.cons_append, List.nil_append, List.set_cons_succ, List.set_cons_zero, Bool.and_false, Bool.and_true, Bool.true_and, Bool.false_and, Bool.not_true, Bool.not_false, Bool.bne_true, Bool.bne_false]), by (repeat' (first | (with_reducible exact Keeps.refl _ _) | (with_reducible assumption) | (with_reducible refine Keeps.setOne ?_ _ _) | (with_reducible refine Keeps.alloc ?_ _) | (with_reducible refine Keeps.drew ?_)))⟩
theorem put0_two0 {w : World} {b : Nat} {c0 c1 c2 : Ct} {t : Int} (H : Tm w b c0 c1 c2) (x : Int) (x0 : 0 ≤ x) (x1 : x < 256) (f0 : 0 ≤ c0.f) (f1 : c0.f < 256) (e1 : c0.h = 2) (hz : ((x * 256) == 0) = true) :
    Calls Tryz.prog 70 #[.pointer (some ⟨b, 0, none⟩), .int .i64 0, .int .u8 x, .int .u64 t] w fun e w' => e = .returned (.int .i64 0) ∧ Tm w' b { c0 with wn := false, l := 65536, g := t, st := false } c1 c2 ∧ Keeps (· = b) w w' := by
 obtain ⟨k0, k1, k2, k3, k4, k5, k6, k7, k8, k9, kf, klt⟩ := H.f0
 rw [e1] at k1
 go_enter Tryz.func70, Tryz.ntmps70
 go_wp2_with fail
 all_goals
  go_ret
  exact ⟨rfl, by (unfold Tm Ct.cells at H ⊢; simp only [heap_drew, heap_set_map, putObj_cells, H, Option.map_some, List.cons_append, List.nil_append, List.set_cons_succ, List.set_cons_zero, Bool.and_false, Bool.and_true, Bool.true_and, Bool.false_and, Bool.not_true, Bool.not_false, Bool.bne_true, Bool.bne_false]), by (repeat' (first | (with_reducible exact Keeps.refl _ _) | (with_reducible assumption) | (with_reducible refine Keeps.setOne ?_ _ _) | (with_reducible refine Keeps.alloc ?_ _) | (with_reducible refine Keeps.drew ?_)))⟩
theorem put0_one {w : World} {b : Nat} {c0 c1 c2 : Ct} {t : Int} (H : Tm w b c0 c1 c2) (x : Int) (x0 : 0 ≤ x) (x1 : x < 256) (f0 : 0 ≤ c0.f) (f1 : c0.f < 256) (e1 : c0.h = 1) (hz : (x == 0) = false) :
    Calls Tryz.prog 70 #[.pointer (some ⟨b, 0, none⟩), .int .i64 0, .int .u8 x, .int .u64 t] w fun e w' => e = .returned (.int .i64 0) ∧ Tm w' b { c0 with wn := false, l := x, g := t, st := false } c1 c2 ∧ Keeps (· = b) w w' := by
 obtain ⟨k0, k1, k2, k3, k4, k5, k6, k7, k8, k9, kf, klt⟩ := H.f0
 rw [e1] at k1
 go_enter Tryz.func70, Tryz.ntmps70
 go_wp2_with fail
 all_goals
  go_ret
  exact ⟨rfl, by (unfold Tm Ct.cells at H ⊢; simp only [heap_drew, heap_set_map, putObj_cells, H, Option.map_some, List.cons_append, List.nil_append, List.set_cons_succ, List.set_cons_zero, Bool.and_false, Bool.and_true, Bool.true_and, Bool.false_and, Bool.not_true, Bool.not_false, Bool.bne_true, Bool.bne_false]), by (repeat' (first | (with_reducible exact Keeps.refl _ _) | (with_reducible assumption) | (with_reducible refine Keeps.setOne ?_ _ _) | (with_reducible refine Keeps.alloc ?_ _) | (with_reducible refine Keeps.drew ?_)))⟩
theorem put0_one0 {w : World} {b : Nat} {c0 c1 c2 : Ct} {t : Int} (H : Tm w b c0 c1 c2) (x : Int) (x0 : 0 ≤ x) (x1 : x < 256) (f0 : 0 ≤ c0.f) (f1 : c0.f < 256) (e1 : c0.h = 1) (hz : (x == 0) = true) :
    Calls Tryz.prog 70 #[.pointer (some ⟨b, 0, none⟩), .int .i64 0, .int .u8 x, .int .u64 t] w fun e w' => e = .returned (.int .i64 0) ∧ Tm w' b { c0 with wn := false, l := 65536, g := t, st := false } c1 c2 ∧ Keeps (· = b) w w' := by
 obtain ⟨k0, k1, k2, k3, k4, k5, k6, k7, k8, k9, kf, klt⟩ := H.f0
 rw [e1] at k1
 go_enter Tryz.func70, Tryz.ntmps70
 go_wp2_with fail
 all_goals
  go_ret
  exact ⟨rfl, by (unfold Tm Ct.cells at H ⊢; simp only [heap_drew, heap_set_map, putObj_cells, H, Option.map_some, List.cons_append, List.nil_append, List.set_cons_succ, List.set_cons_zero, Bool.and_false, Bool.and_true, Bool.true_and, Bool.false_and, Bool.not_true, Bool.not_false, Bool.bne_true, Bool.bne_false]), by (repeat' (first | (with_reducible exact Keeps.refl _ _) | (with_reducible assumption) | (with_reducible refine Keeps.setOne ?_ _ _) | (with_reducible refine Keeps.alloc ?_ _) | (with_reducible refine Keeps.drew ?_)))⟩
theorem put_ct0 {w : World} {b : Nat} {c0 c1 c2 : Ct} {t : Int} (H : Tm w b c0 c1 c2) (ok : c0.ok t) (x : Int) (x0 : 0 ≤ x) (x1 : x < 256) :
    Calls Tryz.prog 70 #[.pointer (some ⟨b, 0, none⟩), .int .i64 0, .int .u8 x, .int .u64 t] w fun e w' => e = .returned (.int .i64 0) ∧ Tm w' b (c0.put x t) c1 c2 ∧ Keeps (· = b) w w' := by
 have hh := ok.h
 have hf := ok.f
 unfold Ct.put
 by_cases h1 : c0.h = 3 ∧ c0.wn = false
 ·rw [if_pos h1]
  exact put0_first H x x0 x1 h1.1 h1.2
 ·rw [if_neg h1]
  by_cases h3 : c0.h = 3
  ·rw [if_pos h3]
   have hw : c0.wn = true := by
    cases h : c0.wn
    ·exact absurd ⟨h3, h⟩ h1
    ·rfl
   unfold Ct.full
   by_cases hz : x * 256 + c0.f = 0
   ·rw [if_pos hz]; exact put0_second0 H x x0 x1 hf.1 hf.2 h3 hw (by simpa using hz)
   ·rw [if_neg hz]; exact put0_second H x x0 x1 hf.1 hf.2 h3 hw (by simpa using hz)
  ·rw [if_neg h3]
   by_cases h2 : c0.h = 2
   ·rw [if_pos h2]
    unfold Ct.full
    by_cases hz : x * 256 = 0
    ·rw [if_pos hz]; exact put0_two0 H x x0 x1 hf.1 hf.2 h2 (by rw [hz]; rfl)
    ·rw [if_neg hz]; exact put0_two H x x0 x1 hf.1 hf.2 h2 (by rw [beq_eq_false_iff_ne]; exact hz)
   ·rw [if_neg h2]
    unfold Ct.full
    by_cases hz : x = 0
    ·rw [if_pos hz]; exact put0_one0 H x x0 x1 hf.1 hf.2 (by omega) (by simpa using hz)
    ·rw [if_neg hz]; exact put0_one H x x0 x1 hf.1 hf.2 (by omega) (by simpa using hz)
theorem put1_first {w : World} {b : Nat} {c0 c1 c2 : Ct} {t : Int} (H : Tm w b c0 c1 c2) (x : Int) (x0 : 0 ≤ x) (x1 : x < 256) (e1 : c1.h = 3) (e2 : c1.wn = false) :
    Calls Tryz.prog 70 #[.pointer (some ⟨b, 0, none⟩), .int .i64 1, .int .u8 x, .int .u64 t] w fun e w' => e = .returned (.int .i64 0) ∧ Tm w' b c0 { c1 with wn := true, f := x } c2 ∧ Keeps (· = b) w w' := by
 obtain ⟨k0, k1, k2, k3, k4, k5, k6, k7, k8, k9, kf, klt⟩ := H.f1
 rw [e1] at k1
 rw [e2] at k5
 go_enter Tryz.func70, Tryz.ntmps70
 go_wp2_with fail
 all_goals
  go_ret
  exact ⟨rfl, by (unfold Tm Ct.cells at H ⊢; simp only [heap_drew, heap_set_map, putObj_cells, H, Option.map_some, List.cons_append, List.nil_append, List.set_cons_succ, List.set_cons_zero, Bool.and_false, Bool.and_true, Bool.true_and, Bool.false_and, Bool.not_true, Bool.not_false, Bool.bne_true, Bool.bne_false]), by (repeat' (first | (with_reducible exact Keeps.refl _ _) | (with_reducible assumption) | (with_reducible refine Keeps.setOne ?_ _ _) | (with_reducible refine Keeps.alloc ?_ _) | (with_reducible refine Keeps.drew ?_)))⟩
theorem put1_second {w : World} {b : Nat} {c0 c1 c2 : Ct} {t : Int} (H : Tm w b c0 c1 c2) (x : Int) (x0 : 0 ≤ x) (x1 : x < 256) (f0 : 0 ≤ c1.f) (f1 : c1.f < 256) (e1 : c1.h = 3) (e2 : c1.wn = true) (hz : ((x * 256 + c1.f) == 0) = false) :
    Calls Tryz.prog 70 #[.pointer (some ⟨b, 0, none⟩), .int .i64 1, .int .u8 x, .int .u64 t] w fun e w' => e = .returned (.int .i64 0) ∧ Tm w' b c0 { c1 with wn := false, l := (x * 256 + c1.f), g := t, st := false } c2 ∧ Keeps (· = b) w w' := by
 obtain ⟨k0, k1, k2, k3, k4, k5, k6, k7, k8, k9, kf, klt⟩ := H.f1
 rw [e1] at k1
 rw [e2] at k5
 have ej := or_join_u64 x c1.f x0 x1 f0 f1
 go_enter Tryz.func70, Tryz.ntmps70
 go_wp2_with fail
 all_goals
  go_ret
  exact ⟨rfl, by (unfold Tm Ct.cells at H ⊢; simp only [heap_drew, heap_set_map, putObj_cells, H, Option.map_some, List.cons_append, List.nil_append, List.set_cons_succ, List.set_cons_zero, Bool.and_false, Bool.and_true, Bool.true_and, Bool.false_and, Bool.not_true, Bool.not_false, Bool.bne_true, Bool.bne_false]), by (repeat' (first | (with_reducible exact Keeps.refl _ _) | (with_reducible assumption) | (with_reducible refine Keeps.setOne ?_ _ _) | (with_reducible refine Keeps.alloc ?_ _) | (with_reducible refine Keeps.drew ?_)))⟩
theorem put1_second0 {w : World} {b : Nat} {c0 c1 c2 : Ct} {t : Int} (H : Tm w b c0 c1 c2) (x : Int) (x0 : 0 ≤ x) (x1 : x < 256) (f0 : 0 ≤ c1.f) (f1 : c1.f < 256) (e1 : c1.h = 3) (e2 : c1.wn = true) (hz : ((x * 256 + c1.f) == 0) = true) :
    Calls Tryz.prog 70 #[.pointer (some ⟨b, 0, none⟩), .int .i64 1, .int .u8 x, .int .u64 t] w fun e w' => e = .returned (.int .i64 0) ∧ Tm w' b c0 { c1 with wn := false, l := 65536, g := t, st := false } c2 ∧ Keeps (· = b) w w' := by
 obtain ⟨k0, k1, k2, k3, k4, k5, k6, k7, k8, k9, kf, klt⟩ := H.f1
 rw [e1] at k1
 rw [e2] at k5
 have ej := or_join_u64 x c1.f x0 x1 f0 f1
 go_enter Tryz.func70, Tryz.ntmps70
 go_wp2_with fail
 all_goals
  go_ret
  exact ⟨rfl, by (unfold Tm Ct.cells at H ⊢; simp only [heap_drew, heap_set_map, putObj_cells, H, Option.map_some, List.cons_append, List.nil_append, List.set_cons_succ, List.set_cons_zero, Bool.and_false, Bool.and_true, Bool.true_and, Bool.false_and, Bool.not_true, Bool.not_false, Bool.bne_true, Bool.bne_false]), by (repeat' (first | (with_reducible exact Keeps.refl _ _) | (with_reducible assumption) | (with_reducible refine Keeps.setOne ?_ _ _) | (with_reducible refine Keeps.alloc ?_ _) | (with_reducible refine Keeps.drew ?_)))⟩
theorem put1_two {w : World} {b : Nat} {c0 c1 c2 : Ct} {t : Int} (H : Tm w b c0 c1 c2) (x : Int) (x0 : 0 ≤ x) (x1 : x < 256) (f0 : 0 ≤ c1.f) (f1 : c1.f < 256) (e1 : c1.h = 2) (hz : ((x * 256) == 0) = false) :
    Calls Tryz.prog 70 #[.pointer (some ⟨b, 0, none⟩), .int .i64 1, .int .u8 x, .int .u64 t] w fun e w' => e = .returned (.int .i64 0) ∧ Tm w' b c0 { c1 with wn := false, l := (x * 256), g := t, st := false } c2 ∧ Keeps (· = b) w w' := by
 obtain ⟨k0, k1, k2, k3, k4, k5, k6, k7, k8, k9, kf, klt⟩ := H.f1
 rw [e1] at k1
 go_enter Tryz.func70, Tryz.ntmps70
 go_wp2_with fail
 all_goals
  go_ret
  exact ⟨rfl, by (unfold Tm Ct.cells at H ⊢; simp only [heap_drew, heap_set_map, putObj_cells, H, Option.map_some, List.cons_append, List.nil_append, List.set_cons_succ, List.set_cons_zero, Bool.and_false, Bool.and_true, Bool.true_and, Bool.false_and, Bool.not_true, Bool.not_false, Bool.bne_true, Bool.bne_false]), by (repeat' (first | (with_reducible exact Keeps.refl _ _) | (with_reducible assumption) | (with_reducible refine Keeps.setOne ?_ _ _) | (with_reducible refine Keeps.alloc ?_ _) | (with_reducible refine Keeps.drew ?_)))⟩
theorem put1_two0 {w : World} {b : Nat} {c0 c1 c2 : Ct} {t : Int} (H : Tm w b c0 c1 c2) (x : Int) (x0 : 0 ≤ x) (x1 : x < 256) (f0 : 0 ≤ c1.f) (f1 : c1.f < 256) (e1 : c1.h = 2) (hz : ((x * 256) == 0) = true) :
    Calls Tryz.prog 70 #[.pointer (some ⟨b, 0, none⟩), .int .i64 1, .int .u8 x, .int .u64 t] w fun e w' => e = .returned (.int .i64 0) ∧ Tm w' b c0 { c1 with wn := false, l := 65536, g := t, st := false } c2 ∧ Keeps (· = b) w w' := by
 obtain ⟨k0, k1, k2, k3, k4, k5, k6, k7, k8, k9, kf, klt⟩ := H.f1
 rw [e1] at k1
 go_enter Tryz.func70, Tryz.ntmps70
 go_wp2_with fail
 all_goals
  go_ret
  exact ⟨rfl, by (unfold Tm Ct.cells at H ⊢; simp only [heap_drew, heap_set_map, putObj_cells, H, Option.map_some, List.cons_append, List.nil_append, List.set_cons_succ, List.set_cons_zero, Bool.and_false, Bool.and_true, Bool.true_and, Bool.false_and, Bool.not_true, Bool.not_false, Bool.bne_true, Bool.bne_false]), by (repeat' (first | (with_reducible exact Keeps.refl _ _) | (with_reducible assumption) | (with_reducible refine Keeps.setOne ?_ _ _) | (with_reducible refine Keeps.alloc ?_ _) | (with_reducible refine Keeps.drew ?_)))⟩
theorem put1_one {w : World} {b : Nat} {c0 c1 c2 : Ct} {t : Int} (H : Tm w b c0 c1 c2) (x : Int) (x0 : 0 ≤ x) (x1 : x < 256) (f0 : 0 ≤ c1.f) (f1 : c1.f < 256) (e1 : c1.h = 1) (hz : (x == 0) = false) :
    Calls Tryz.prog 70 #[.pointer (some ⟨b, 0, none⟩), .int .i64 1, .int .u8 x, .int .u64 t] w fun e w' => e = .returned (.int .i64 0) ∧ Tm w' b c0 { c1 with wn := false, l := x, g := t, st := false } c2 ∧ Keeps (· = b) w w' := by
 obtain ⟨k0, k1, k2, k3, k4, k5, k6, k7, k8, k9, kf, klt⟩ := H.f1
 rw [e1] at k1
 go_enter Tryz.func70, Tryz.ntmps70
 go_wp2_with fail
 all_goals
  go_ret
  exact ⟨rfl, by (unfold Tm Ct.cells at H ⊢; simp only [heap_drew, heap_set_map, putObj_cells, H, Option.map_some, List.cons_append, List.nil_append, List.set_cons_succ, List.set_cons_zero, Bool.and_false, Bool.and_true, Bool.true_and, Bool.false_and, Bool.not_true, Bool.not_false, Bool.bne_true, Bool.bne_false]), by (repeat' (first | (with_reducible exact Keeps.refl _ _) | (with_reducible assumption) | (with_reducible refine Keeps.setOne ?_ _ _) | (with_reducible refine Keeps.alloc ?_ _) | (with_reducible refine Keeps.drew ?_)))⟩
theorem put1_one0 {w : World} {b : Nat} {c0 c1 c2 : Ct} {t : Int} (H : Tm w b c0 c1 c2) (x : Int) (x0 : 0 ≤ x) (x1 : x < 256) (f0 : 0 ≤ c1.f) (f1 : c1.f < 256) (e1 : c1.h = 1) (hz : (x == 0) = true) :
    Calls Tryz.prog 70 #[.pointer (some ⟨b, 0, none⟩), .int .i64 1, .int .u8 x, .int .u64 t] w fun e w' => e = .returned (.int .i64 0) ∧ Tm w' b c0 { c1 with wn := false, l := 65536, g := t, st := false } c2 ∧ Keeps (· = b) w w' := by
 obtain ⟨k0, k1, k2, k3, k4, k5, k6, k7, k8, k9, kf, klt⟩ := H.f1
 rw [e1] at k1
 go_enter Tryz.func70, Tryz.ntmps70
 go_wp2_with fail
 all_goals
  go_ret
  exact ⟨rfl, by (unfold Tm Ct.cells at H ⊢; simp only [heap_drew, heap_set_map, putObj_cells, H, Option.map_some, List.cons_append, List.nil_append, List.set_cons_succ, List.set_cons_zero, Bool.and_false, Bool.and_true, Bool.true_and, Bool.false_and, Bool.not_true, Bool.not_false, Bool.bne_true, Bool.bne_false]), by (repeat' (first | (with_reducible exact Keeps.refl _ _) | (with_reducible assumption) | (with_reducible refine Keeps.setOne ?_ _ _) | (with_reducible refine Keeps.alloc ?_ _) | (with_reducible refine Keeps.drew ?_)))⟩
theorem put_ct1 {w : World} {b : Nat} {c0 c1 c2 : Ct} {t : Int} (H : Tm w b c0 c1 c2) (ok : c1.ok t) (x : Int) (x0 : 0 ≤ x) (x1 : x < 256) :
    Calls Tryz.prog 70 #[.pointer (some ⟨b, 0, none⟩), .int .i64 1, .int .u8 x, .int .u64 t] w fun e w' => e = .returned (.int .i64 0) ∧ Tm w' b c0 (c1.put x t) c2 ∧ Keeps (· = b) w w' := by
 have hh := ok.h
 have hf := ok.f
 unfold Ct.put
 by_cases h1 : c1.h = 3 ∧ c1.wn = false
 ·rw [if_pos h1]
  exact put1_first H x x0 x1 h1.1 h1.2
 ·rw [if_neg h1]
  by_cases h3 : c1.h = 3
  ·rw [if_pos h3]
   have hw : c1.wn = true := by
    cases h : c1.wn
    ·exact absurd ⟨h3, h⟩ h1
    ·rfl
   unfold Ct.full
   by_cases hz : x * 256 + c1.f = 0
   ·rw [if_pos hz]; exact put1_second0 H x x0 x1 hf.1 hf.2 h3 hw (by simpa using hz)
   ·rw [if_neg hz]; exact put1_second H x x0 x1 hf.1 hf.2 h3 hw (by simpa using hz)
  ·rw [if_neg h3]
   by_cases h2 : c1.h = 2
   ·rw [if_pos h2]
    unfold Ct.full
    by_cases hz : x * 256 = 0
    ·rw [if_pos hz]; exact put1_two0 H x x0 x1 hf.1 hf.2 h2 (by rw [hz]; rfl)
    ·rw [if_neg hz]; exact put1_two H x x0 x1 hf.1 hf.2 h2 (by rw [beq_eq_false_iff_ne]; exact hz)
   ·rw [if_neg h2]
    unfold Ct.full
    by_cases hz : x = 0
    ·rw [if_pos hz]; exact put1_one0 H x x0 x1 hf.1 hf.2 (by omega) (by simpa using hz)
    ·rw [if_neg hz]; exact put1_one H x x0 x1 hf.1 hf.2 (by omega) (by simpa using hz)
theorem put2_first {w : World} {b : Nat} {c0 c1 c2 : Ct} {t : Int} (H : Tm w b c0 c1 c2) (x : Int) (x0 : 0 ≤ x) (x1 : x < 256) (e1 : c2.h = 3) (e2 : c2.wn = false) :
    Calls Tryz.prog 70 #[.pointer (some ⟨b, 0, none⟩), .int .i64 2, .int .u8 x, .int .u64 t] w fun e w' => e = .returned (.int .i64 0) ∧ Tm w' b c0 c1 { c2 with wn := true, f := x } ∧ Keeps (· = b) w w' := by
 obtain ⟨k0, k1, k2, k3, k4, k5, k6, k7, k8, k9, kf, klt⟩ := H.f2
 rw [e1] at k1
 rw [e2] at k5
 go_enter Tryz.func70, Tryz.ntmps70
 go_wp2_with fail
 all_goals
  go_ret
  exact ⟨rfl, by (unfold Tm Ct.cells at H ⊢; simp only [heap_drew, heap_set_map, putObj_cells, H, Option.map_some, List.cons_append, List.nil_append, List.set_cons_succ, List.set_cons_zero, Bool.and_false, Bool.and_true, Bool.true_and, Bool.false_and, Bool.not_true, Bool.not_false, Bool.bne_true, Bool.bne_false]), by (repeat' (first | (with_reducible exact Keeps.refl _ _) | (with_reducible assumption) | (with_reducible refine Keeps.setOne ?_ _ _) | (with_reducible refine Keeps.alloc ?_ _) | (with_reducible refine Keeps.drew ?_)))⟩
theorem put2_second {w : World} {b : Nat} {c0 c1 c2 : Ct} {t : Int} (H : Tm w b c0 c1 c2) (x : Int) (x0 : 0 ≤ x) (x1 : x < 256) (f0 : 0 ≤ c2.f) (f1 : c2.f < 256) (e1 : c2.h = 3) (e2 : c2.wn = true) (hz : ((x * 256 + c2.f) == 0) = false) :
    Calls Tryz.prog 70 #[.pointer (some ⟨b, 0, none⟩), .int .i64 2, .int .u8 x, .int .u64 t] w fun e w' => e = .returned (.int .i64 0) ∧ Tm w' b c0 c1 { c2 with wn := false, l := (x * 256 + c2.f), g := t, st := false } ∧ Keeps (· = b) w w' := by
 obtain ⟨k0, k1, k2, k3, k4, k5, k6, k7, k8, k9, kf, klt⟩ := H.f2
 rw [e1] at k1
 rw [e2] at k5
 have ej := or_join_u64 x c2.f x0 x1 f0 f1
 go_enter Tryz.func70, Tryz.ntmps70
 go_wp2_with fail
 all_goals
  go_ret
  exact ⟨rfl, by (unfold Tm Ct.cells at H ⊢; simp only [heap_drew, heap_set_map, putObj_cells, H, Option.map_some, List.cons_append, List.nil_append, List.set_cons_succ, List.set_cons_zero, Bool.and_false, Bool.and_true, Bool.true_and, Bool.false_and, Bool.not_true, Bool.not_false, Bool.bne_true, Bool.bne_false]), by (repeat' (first | (with_reducible exact Keeps.refl _ _) | (with_reducible assumption) | (with_reducible refine Keeps.setOne ?_ _ _) | (with_reducible refine Keeps.alloc ?_ _) | (with_reducible refine Keeps.drew ?_)))⟩
theorem put2_second0 {w : World} {b : Nat} {c0 c1 c2 : Ct} {t : Int} (H : Tm w b c0 c1 c2) (x : Int) (x0 : 0 ≤ x) (x1 : x < 256) (f0 : 0 ≤ c2.f) (f1 : c2.f < 256) (e1 : c2.h = 3) (e2 : c2.wn = true) (hz : ((x * 256 + c2.f) == 0) = true) :
    Calls Tryz.prog 70 #[.pointer (some ⟨b, 0, none⟩), .int .i64 2, .int .u8 x, .int .u64 t] w fun e w' => e = .returned (.int .i64 0) ∧ Tm w' b c0 c1 { c2 with wn := false, l := 65536, g := t, st := false } ∧ Keeps (· = b) w w' := by
 obtain ⟨k0, k1, k2, k3, k4, k5, k6, k7, k8, k9, kf, klt⟩ := H.f2
 rw [e1] at k1
 rw [e2] at k5
 have ej := or_join_u64 x c2.f x0 x1 f0 f1
 go_enter Tryz.func70, Tryz.ntmps70
 go_wp2_with fail
 all_goals
  go_ret
  exact ⟨rfl, by (unfold Tm Ct.cells at H ⊢; simp only [heap_drew, heap_set_map, putObj_cells, H, Option.map_some, List.cons_append, List.nil_append, List.set_cons_succ, List.set_cons_zero, Bool.and_false, Bool.and_true, Bool.true_and, Bool.false_and, Bool.not_true, Bool.not_false, Bool.bne_true, Bool.bne_false]), by (repeat' (first | (with_reducible exact Keeps.refl _ _) | (with_reducible assumption) | (with_reducible refine Keeps.setOne ?_ _ _) | (with_reducible refine Keeps.alloc ?_ _) | (with_reducible refine Keeps.drew ?_)))⟩
theorem put2_two {w : World} {b : Nat} {c0 c1 c2 : Ct} {t : Int} (H : Tm w b c0 c1 c2) (x : Int) (x0 : 0 ≤ x) (x1 : x < 256) (f0 : 0 ≤ c2.f) (f1 : c2.f < 256) (e1 : c2.h = 2) (hz : ((x * 256) == 0) = false) :
    Calls Tryz.prog 70 #[.pointer (some ⟨b, 0, none⟩), .int .i64 2, .int .u8 x, .int .u64 t] w fun e w' => e = .returned (.int .i64 0) ∧ Tm w' b c0 c1 { c2 with wn := false, l := (x * 256), g := t, st := false } ∧ Keeps (· = b) w w' := by
 obtain ⟨k0, k1, k2, k3, k4, k5, k6, k7, k8, k9, kf, klt⟩ := H.f2
 rw [e1] at k1
 go_enter Tryz.func70, Tryz.ntmps70
 go_wp2_with fail
 all_goals
  go_ret
  exact ⟨rfl, by (unfold Tm Ct.cells at H ⊢; simp only [heap_drew, heap_set_map, putObj_cells, H, Option.map_some, List.cons_append, List.nil_append, List.set_cons_succ, List.set_cons_zero, Bool.and_false, Bool.and_true, Bool.true_and, Bool.false_and, Bool.not_true, Bool.not_false, Bool.bne_true, Bool.bne_false]), by (repeat' (first | (with_reducible exact Keeps.refl _ _) | (with_reducible assumption) | (with_reducible refine Keeps.setOne ?_ _ _) | (with_reducible refine Keeps.alloc ?_ _) | (with_reducible refine Keeps.drew ?_)))⟩
theorem put2_two0 {w : World} {b : Nat} {c0 c1 c2 : Ct} {t : Int} (H : Tm w b c0 c1 c2) (x : Int) (x0 : 0 ≤ x) (x1 : x < 256) (f0 : 0 ≤ c2.f) (f1 : c2.f < 256) (e1 : c2.h = 2) (hz : ((x * 256) == 0) = true) :
    Calls Tryz.prog 70 #[.pointer (some ⟨b, 0, none⟩), .int .i64 2, .int .u8 x, .int .u64 t] w fun e w' => e = .returned (.int .i64 0) ∧ Tm w' b c0 c1 { c2 with wn := false, l := 65536, g := t, st := false } ∧ Keeps (· = b) w w' := by
 obtain ⟨k0, k1, k2, k3, k4, k5, k6, k7, k8, k9, kf, klt⟩ := H.f2
 rw [e1] at k1
 go_enter Tryz.func70, Tryz.ntmps70
 go_wp2_with fail
 all_goals
  go_ret
  exact ⟨rfl, by (unfold Tm Ct.cells at H ⊢; simp only [heap_drew, heap_set_map, putObj_cells, H, Option.map_some, List.cons_append, List.nil_append, List.set_cons_succ, List.set_cons_zero, Bool.and_false, Bool.and_true, Bool.true_and, Bool.false_and, Bool.not_true, Bool.not_false, Bool.bne_true, Bool.bne_false]), by (repeat' (first | (with_reducible exact Keeps.refl _ _) | (with_reducible assumption) | (with_reducible refine Keeps.setOne ?_ _ _) | (with_reducible refine Keeps.alloc ?_ _) | (with_reducible refine Keeps.drew ?_)))⟩
theorem put2_one {w : World} {b : Nat} {c0 c1 c2 : Ct} {t : Int} (H : Tm w b c0 c1 c2) (x : Int) (x0 : 0 ≤ x) (x1 : x < 256) (f0 : 0 ≤ c2.f) (f1 : c2.f < 256) (e1 : c2.h = 1) (hz : (x == 0) = false) :
    Calls Tryz.prog 70 #[.pointer (some ⟨b, 0, none⟩), .int .i64 2, .int .u8 x, .int .u64 t] w fun e w' => e = .returned (.int .i64 0) ∧ Tm w' b c0 c1 { c2 with wn := false, l := x, g := t, st := false } ∧ Keeps (· = b) w w' := by
 obtain ⟨k0, k1, k2, k3, k4, k5, k6, k7, k8, k9, kf, klt⟩ := H.f2
 rw [e1] at k1
 go_enter Tryz.func70, Tryz.ntmps70
 go_wp2_with fail
 all_goals
  go_ret
  exact ⟨rfl, by (unfold Tm Ct.cells at H ⊢; simp only [heap_drew, heap_set_map, putObj_cells, H, Option.map_some, List.cons_append, List.nil_append, List.set_cons_succ, List.set_cons_zero, Bool.and_false, Bool.and_true, Bool.true_and, Bool.false_and, Bool.not_true, Bool.not_false, Bool.bne_true, Bool.bne_false]), by (repeat' (first | (with_reducible exact Keeps.refl _ _) | (with_reducible assumption) | (with_reducible refine Keeps.setOne ?_ _ _) | (with_reducible refine Keeps.alloc ?_ _) | (with_reducible refine Keeps.drew ?_)))⟩
theorem put2_one0 {w : World} {b : Nat} {c0 c1 c2 : Ct} {t : Int} (H : Tm w b c0 c1 c2) (x : Int) (x0 : 0 ≤ x) (x1 : x < 256) (f0 : 0 ≤ c2.f) (f1 : c2.f < 256) (e1 : c2.h = 1) (hz : (x == 0) = true) :
    Calls Tryz.prog 70 #[.pointer (some ⟨b, 0, none⟩), .int .i64 2, .int .u8 x, .int .u64 t] w fun e w' => e = .returned (.int .i64 0) ∧ Tm w' b c0 c1 { c2 with wn := false, l := 65536, g := t, st := false } ∧ Keeps (· = b) w w' := by
 obtain ⟨k0, k1, k2, k3, k4, k5, k6, k7, k8, k9, kf, klt⟩ := H.f2
 rw [e1] at k1
 go_enter Tryz.func70, Tryz.ntmps70
 go_wp2_with fail
 all_goals
  go_ret
  exact ⟨rfl, by (unfold Tm Ct.cells at H ⊢; simp only [heap_drew, heap_set_map, putObj_cells, H, Option.map_some, List.cons_append, List.nil_append, List.set_cons_succ, List.set_cons_zero, Bool.and_false, Bool.and_true, Bool.true_and, Bool.false_and, Bool.not_true, Bool.not_false, Bool.bne_true, Bool.bne_false]), by (repeat' (first | (with_reducible exact Keeps.refl _ _) | (with_reducible assumption) | (with_reducible refine Keeps.setOne ?_ _ _) | (with_reducible refine Keeps.alloc ?_ _) | (with_reducible refine Keeps.drew ?_)))⟩
theorem put_ct2 {w : World} {b : Nat} {c0 c1 c2 : Ct} {t : Int} (H : Tm w b c0 c1 c2) (ok : c2.ok t) (x : Int) (x0 : 0 ≤ x) (x1 : x < 256) :
    Calls Tryz.prog 70 #[.pointer (some ⟨b, 0, none⟩), .int .i64 2, .int .u8 x, .int .u64 t] w fun e w' => e = .returned (.int .i64 0) ∧ Tm w' b c0 c1 (c2.put x t) ∧ Keeps (· = b) w w' := by
 have hh := ok.h
 have hf := ok.f
 unfold Ct.put
 by_cases h1 : c2.h = 3 ∧ c2.wn = false
 ·rw [if_pos h1]
  exact put2_first H x x0 x1 h1.1 h1.2
 ·rw [if_neg h1]
  by_cases h3 : c2.h = 3
  ·rw [if_pos h3]
   have hw : c2.wn = true := by
    cases h : c2.wn
    ·exact absurd ⟨h3, h⟩ h1
    ·rfl
   unfold Ct.full
   by_cases hz : x * 256 + c2.f = 0
   ·rw [if_pos hz]; exact put2_second0 H x x0 x1 hf.1 hf.2 h3 hw (by simpa using hz)
   ·rw [if_neg hz]; exact put2_second H x x0 x1 hf.1 hf.2 h3 hw (by simpa using hz)
  ·rw [if_neg h3]
   by_cases h2 : c2.h = 2
   ·rw [if_pos h2]
    unfold Ct.full
    by_cases hz : x * 256 = 0
    ·rw [if_pos hz]; exact put2_two0 H x x0 x1 hf.1 hf.2 h2 (by rw [hz]; rfl)
    ·rw [if_neg hz]; exact put2_two H x x0 x1 hf.1 hf.2 h2 (by rw [beq_eq_false_iff_ne]; exact hz)
   ·rw [if_neg h2]
    unfold Ct.full
    by_cases hz : x = 0
    ·rw [if_pos hz]; exact put2_one0 H x x0 x1 hf.1 hf.2 (by omega) (by simpa using hz)
    ·rw [if_neg hz]; exact put2_one H x x0 x1 hf.1 hf.2 (by omega) (by simpa using hz)
theorem putc_ct0 {w : World} {b : Nat} {c0 c1 c2 : Ct} {t : Int} (H : Tm w b c0 c1 c2) (ok : c0.ok t) (ht : t < 18446744073709551616) (x : Int) (x0 : 0 ≤ x) (x1 : x < 256) (e0 : x / 64 = 0) :
    Calls Tryz.prog 70 #[.pointer (some ⟨b, 0, none⟩), .int .i64 3, .int .u8 x, .int .u64 t] w fun e w' => e = .returned (.int .i64 0) ∧ Tm w' b (c0.cmd x t) c1 c2 ∧ Keeps (· = b) w w' := by
 have E0 := Lib.hid e0
 clear e0
 go_enter Tryz.func70, Tryz.ntmps70
 go_wp2_with fail
 refine (cmd_ct0 H ok ht x x0 x1 E0.out).mono ?_
 rintro e w1 ⟨rfl, H1, hK⟩
 go_wp2_with fail
 go_ret
 exact ⟨rfl, H1, hK⟩
theorem putc_ct1 {w : World} {b : Nat} {c0 c1 c2 : Ct} {t : Int} (H : Tm w b c0 c1 c2) (ok : c1.ok t) (ht : t < 18446744073709551616) (x : Int) (x0 : 0 ≤ x) (x1 : x < 256) (e0 : x / 64 = 1) :
    Calls Tryz.prog 70 #[.pointer (some ⟨b, 0, none⟩), .int .i64 3, .int .u8 x, .int .u64 t] w fun e w' => e = .returned (.int .i64 0) ∧ Tm w' b c0 (c1.cmd x t) c2 ∧ Keeps (· = b) w w' := by
 have E0 := Lib.hid e0
 clear e0
 go_enter Tryz.func70, Tryz.ntmps70
 go_wp2_with fail
 refine (cmd_ct1 H ok ht x x0 x1 E0.out).mono ?_
 rintro e w1 ⟨rfl, H1, hK⟩
 go_wp2_with fail
 go_ret
 exact ⟨rfl, H1, hK⟩
theorem putc_ct2 {w : World} {b : Nat} {c0 c1 c2 : Ct} {t : Int} (H : Tm w b c0 c1 c2) (ok : c2.ok t) (ht : t < 18446744073709551616) (x : Int) (x0 : 0 ≤ x) (x1 : x < 256) (e0 : x / 64 = 2) :
    Calls Tryz.prog 70 #[.pointer (some ⟨b, 0, none⟩), .int .i64 3, .int .u8 x, .int .u64 t] w fun e w' => e = .returned (.int .i64 0) ∧ Tm w' b c0 c1 (c2.cmd x t) ∧ Keeps (· = b) w w' := by
 have E0 := Lib.hid e0
 clear e0
 go_enter Tryz.func70, Tryz.ntmps70
 go_wp2_with fail
 refine (cmd_ct2 H ok ht x x0 x1 E0.out).mono ?_
 rintro e w1 ⟨rfl, H1, hK⟩
 go_wp2_with fail
 go_ret
 exact ⟨rfl, H1, hK⟩
theorem putc_3 {w : World} {b : Nat} {c0 c1 c2 : Ct} {t : Int} (H : Tm w b c0 c1 c2) (x : Int) (x0 : 0 ≤ x) (x1 : x < 256) (e0 : x / 64 = 3) :
    Calls Tryz.prog 70 #[.pointer (some ⟨b, 0, none⟩), .int .i64 3, .int .u8 x, .int .u64 t] w fun e w' => e = .returned (.int .i64 0) ∧ Tm w' b c0 c1 c2 ∧ Keeps (· = b) w w' := by
 have E0 := Lib.hid e0
 clear e0
 go_enter Tryz.func70, Tryz.ntmps70
 go_wp2_with fail
 refine (cmd3 H x x0 x1 E0.out).mono ?_
 rintro e w1 ⟨rfl, H1, hK⟩
 go_wp2_with fail
 go_ret
 exact ⟨rfl, H1, hK⟩
end Go.Proofs.YtojmpdddfnkffaaGreat.Pit

/- pit: a byte got of any counter. -/
namespace Go.Proofs.YtojmpdddfnkffaaGreat.Pit
open Go.RowKit
set_option linter.unusedVariables false
set_option linter.unusedSimpArgs false
theorem get0_all {w : World} {b : Nat} {c0 c1 c2 : Ct} {t : Int} (H : Tm w b c0 c1 c2) (ok : c0.ok t) (ht : t < 18446744073709551616) (hd up h3 : Bool) (V : Int) (hV : V = bif hd then c0.v else c0.val t) (e1 : c0.hd = hd) (e2 : c0.up = up) (e3 : (c0.h == 3) = h3) :
    Calls Tryz.prog 71 #[.pointer (some ⟨b, 0, none⟩), .int .i64 0, .int .u64 t] w fun e w' => e = .returned (.tuple #[.int .u8 (bif up then V / 256 % 256 else V % 256), .int .i64 0]) ∧ Tm w' b { c0 with hd := hd && h3 && !up, up := up != h3 } c1 c2 ∧ Keeps (· = b) w w' := by
 obtain ⟨k0, k1, k2, k3, k4, k5, k6, k7, k8, k9, kf, klt⟩ := H.f0
 rw [e1] at k8
 rw [e2] at k6
 have hv := Lib.hid (show 0 ≤ V ∧ V < 65536 from by rw [hV]; cases hd; exact ok.val; exact ok.v)
 cases hd
 ·obtain rfl : V = c0.val t := hV
  cases up <;> cases h3
  all_goals
   go_enter Tryz.func71, Tryz.ntmps71
   go_wp2_with fail
   refine (now_ct0 H ok ht).mono ?_
   rintro e w1 ⟨rfl, hb⟩
   have H1 := H.below hb
   clear k0 k1 k2 k3 k4 k5 k6 k7 k8 k9 kf
   obtain ⟨k0, k1, k2, k3, k4, k5, k6, k7, k8, k9, kf, klt1⟩ := H1.f0
   rw [e1] at k8
   rw [e2] at k6
   have hK : Keeps (· = b) w w1 := Keeps.ofBelow hb
   obtain ⟨hv0, hv1⟩ := hv.out
   go_wp2_with fail
   go_region
   all_goals
    go_wp2_with fail
    go_ret2
    exact ⟨by first | rfl | (simp; done) | (simp; omega), by (unfold Tm Ct.cells at H1 ⊢; simp only [heap_drew, heap_set_map, putObj_cells, H1, Option.map_some, List.cons_append, List.nil_append, List.set_cons_succ, List.set_cons_zero, Bool.and_false, Bool.and_true, Bool.true_and, Bool.false_and, Bool.not_true, Bool.not_false, Bool.bne_true, Bool.bne_false]), by (repeat' (first | (with_reducible exact Keeps.refl _ _) | (with_reducible assumption) | (with_reducible refine Keeps.setOne ?_ _ _) | (with_reducible refine Keeps.alloc ?_ _) | (with_reducible refine Keeps.drew ?_)))⟩
 ·obtain rfl : V = c0.v := hV
  obtain ⟨hv0, hv1⟩ := hv.out
  cases up <;> cases h3
  all_goals
   go_enter Tryz.func71, Tryz.ntmps71
   go_wp2_with fail
   go_region
   all_goals
    go_wp2_with fail
    go_ret2
    exact ⟨by first | rfl | (simp; done) | (simp; omega), by (unfold Tm Ct.cells at H ⊢; simp only [heap_drew, heap_set_map, putObj_cells, H, Option.map_some, List.cons_append, List.nil_append, List.set_cons_succ, List.set_cons_zero, Bool.and_false, Bool.and_true, Bool.true_and, Bool.false_and, Bool.not_true, Bool.not_false, Bool.bne_true, Bool.bne_false]), by (repeat' (first | (with_reducible exact Keeps.refl _ _) | (with_reducible assumption) | (with_reducible refine Keeps.setOne ?_ _ _) | (with_reducible refine Keeps.alloc ?_ _) | (with_reducible refine Keeps.drew ?_)))⟩
theorem get_ct0 {w : World} {b : Nat} {c0 c1 c2 : Ct} {t : Int} (H : Tm w b c0 c1 c2) (ok : c0.ok t) (ht : t < 18446744073709551616) :
    Calls Tryz.prog 71 #[.pointer (some ⟨b, 0, none⟩), .int .i64 0, .int .u64 t] w fun e w' => e = .returned (.tuple #[.int .u8 (c0.getV t), .int .i64 0]) ∧ Tm w' b c0.getS c1 c2 ∧ Keeps (· = b) w w' := by
 have h := get0_all H ok ht _ _ _ _ rfl rfl rfl rfl
 unfold Ct.getV Ct.getS
 cases h1 : c0.hd <;> cases h2 : c0.up <;> cases h3 : (c0.h == 3) <;> (rw [h1, h2, h3] at h; exact h)
theorem get1_all {w : World} {b : Nat} {c0 c1 c2 : Ct} {t : Int} (H : Tm w b c0 c1 c2) (ok : c1.ok t) (ht : t < 18446744073709551616) (hd up h3 : Bool) (V : Int) (hV : V = bif hd then c1.v else c1.val t) (e1 : c1.hd = hd) (e2 : c1.up = up) (e3 : (c1.h == 3) = h3) :
    Calls Tryz.prog 71 #[.pointer (some ⟨b, 0, none⟩), .int .i64 1, .int .u64 t] w fun e w' => e = .returned (.tuple #[.int .u8 (bif up then V / 256 % 256 else V % 256), .int .i64 0]) ∧ Tm w' b c0 { c1 with hd := hd && h3 && !up, up := up != h3 } c2 ∧ Keeps (· = b) w w' := by
 obtain ⟨k0, k1, k2, k3, k4, k5, k6, k7, k8, k9, kf, klt⟩ := H.f1
 rw [e1] at k8
 rw [e2] at k6
 have hv := Lib.hid (show 0 ≤ V ∧ V < 65536 from by rw [hV]; cases hd; exact ok.val; exact ok.v)
 cases hd
 ·obtain rfl : V = c1.val t := hV
  cases up <;> cases h3
  all_goals
   go_enter Tryz.func71, Tryz.ntmps71
   go_wp2_with fail
   refine (now_ct1 H ok ht).mono ?_
   rintro e w1 ⟨rfl, hb⟩
   have H1 := H.below hb
   clear k0 k1 k2 k3 k4 k5 k6 k7 k8 k9 kf
   obtain ⟨k0, k1, k2, k3, k4, k5, k6, k7, k8, k9, kf, klt1⟩ := H1.f1
   rw [e1] at k8
   rw [e2] at k6
   have hK : Keeps (· = b) w w1 := Keeps.ofBelow hb
   obtain ⟨hv0, hv1⟩ := hv.out
   go_wp2_with fail
   go_region
   all_goals
    go_wp2_with fail
    go_ret2
    exact ⟨by first | rfl | (simp; done) | (simp; omega), by (unfold Tm Ct.cells at H1 ⊢; simp only [heap_drew, heap_set_map, putObj_cells, H1, Option.map_some, List.cons_append, List.nil_append, List.set_cons_succ, List.set_cons_zero, Bool.and_false, Bool.and_true, Bool.true_and, Bool.false_and, Bool.not_true, Bool.not_false, Bool.bne_true, Bool.bne_false]), by (repeat' (first | (with_reducible exact Keeps.refl _ _) | (with_reducible assumption) | (with_reducible refine Keeps.setOne ?_ _ _) | (with_reducible refine Keeps.alloc ?_ _) | (with_reducible refine Keeps.drew ?_)))⟩
 ·obtain rfl : V = c1.v := hV
  obtain ⟨hv0, hv1⟩ := hv.out
  cases up <;> cases h3
  all_goals
   go_enter Tryz.func71, Tryz.ntmps71
   go_wp2_with fail
   go_region
   all_goals
    go_wp2_with fail
    go_ret2
    exact ⟨by first | rfl | (simp; done) | (simp; omega), by (unfold Tm Ct.cells at H ⊢; simp only [heap_drew, heap_set_map, putObj_cells, H, Option.map_some, List.cons_append, List.nil_append, List.set_cons_succ, List.set_cons_zero, Bool.and_false, Bool.and_true, Bool.true_and, Bool.false_and, Bool.not_true, Bool.not_false, Bool.bne_true, Bool.bne_false]), by (repeat' (first | (with_reducible exact Keeps.refl _ _) | (with_reducible assumption) | (with_reducible refine Keeps.setOne ?_ _ _) | (with_reducible refine Keeps.alloc ?_ _) | (with_reducible refine Keeps.drew ?_)))⟩
theorem get_ct1 {w : World} {b : Nat} {c0 c1 c2 : Ct} {t : Int} (H : Tm w b c0 c1 c2) (ok : c1.ok t) (ht : t < 18446744073709551616) :
    Calls Tryz.prog 71 #[.pointer (some ⟨b, 0, none⟩), .int .i64 1, .int .u64 t] w fun e w' => e = .returned (.tuple #[.int .u8 (c1.getV t), .int .i64 0]) ∧ Tm w' b c0 c1.getS c2 ∧ Keeps (· = b) w w' := by
 have h := get1_all H ok ht _ _ _ _ rfl rfl rfl rfl
 unfold Ct.getV Ct.getS
 cases h1 : c1.hd <;> cases h2 : c1.up <;> cases h3 : (c1.h == 3) <;> (rw [h1, h2, h3] at h; exact h)
theorem get2_all {w : World} {b : Nat} {c0 c1 c2 : Ct} {t : Int} (H : Tm w b c0 c1 c2) (ok : c2.ok t) (ht : t < 18446744073709551616) (hd up h3 : Bool) (V : Int) (hV : V = bif hd then c2.v else c2.val t) (e1 : c2.hd = hd) (e2 : c2.up = up) (e3 : (c2.h == 3) = h3) :
    Calls Tryz.prog 71 #[.pointer (some ⟨b, 0, none⟩), .int .i64 2, .int .u64 t] w fun e w' => e = .returned (.tuple #[.int .u8 (bif up then V / 256 % 256 else V % 256), .int .i64 0]) ∧ Tm w' b c0 c1 { c2 with hd := hd && h3 && !up, up := up != h3 } ∧ Keeps (· = b) w w' := by
 obtain ⟨k0, k1, k2, k3, k4, k5, k6, k7, k8, k9, kf, klt⟩ := H.f2
 rw [e1] at k8
 rw [e2] at k6
 have hv := Lib.hid (show 0 ≤ V ∧ V < 65536 from by rw [hV]; cases hd; exact ok.val; exact ok.v)
 cases hd
 ·obtain rfl : V = c2.val t := hV
  cases up <;> cases h3
  all_goals
   go_enter Tryz.func71, Tryz.ntmps71
   go_wp2_with fail
   refine (now_ct2 H ok ht).mono ?_
   rintro e w1 ⟨rfl, hb⟩
   have H1 := H.below hb
   clear k0 k1 k2 k3 k4 k5 k6 k7 k8 k9 kf
   obtain ⟨k0, k1, k2, k3, k4, k5, k6, k7, k8, k9, kf, klt1⟩ := H1.f2
   rw [e1] at k8
   rw [e2] at k6
   have hK : Keeps (· = b) w w1 := Keeps.ofBelow hb
   obtain ⟨hv0, hv1⟩ := hv.out
   go_wp2_with fail
   go_region
   all_goals
    go_wp2_with fail
    go_ret2
    exact ⟨by first | rfl | (simp; done) | (simp; omega), by (unfold Tm Ct.cells at H1 ⊢; simp only [heap_drew, heap_set_map, putObj_cells, H1, Option.map_some, List.cons_append, List.nil_append, List.set_cons_succ, List.set_cons_zero, Bool.and_false, Bool.and_true, Bool.true_and, Bool.false_and, Bool.not_true, Bool.not_false, Bool.bne_true, Bool.bne_false]), by (repeat' (first | (with_reducible exact Keeps.refl _ _) | (with_reducible assumption) | (with_reducible refine Keeps.setOne ?_ _ _) | (with_reducible refine Keeps.alloc ?_ _) | (with_reducible refine Keeps.drew ?_)))⟩
 ·obtain rfl : V = c2.v := hV
  obtain ⟨hv0, hv1⟩ := hv.out
  cases up <;> cases h3
  all_goals
   go_enter Tryz.func71, Tryz.ntmps71
   go_wp2_with fail
   go_region
   all_goals
    go_wp2_with fail
    go_ret2
    exact ⟨by first | rfl | (simp; done) | (simp; omega), by (unfold Tm Ct.cells at H ⊢; simp only [heap_drew, heap_set_map, putObj_cells, H, Option.map_some, List.cons_append, List.nil_append, List.set_cons_succ, List.set_cons_zero, Bool.and_false, Bool.and_true, Bool.true_and, Bool.false_and, Bool.not_true, Bool.not_false, Bool.bne_true, Bool.bne_false]), by (repeat' (first | (with_reducible exact Keeps.refl _ _) | (with_reducible assumption) | (with_reducible refine Keeps.setOne ?_ _ _) | (with_reducible refine Keeps.alloc ?_ _) | (with_reducible refine Keeps.drew ?_)))⟩
theorem get_ct2 {w : World} {b : Nat} {c0 c1 c2 : Ct} {t : Int} (H : Tm w b c0 c1 c2) (ok : c2.ok t) (ht : t < 18446744073709551616) :
    Calls Tryz.prog 71 #[.pointer (some ⟨b, 0, none⟩), .int .i64 2, .int .u64 t] w fun e w' => e = .returned (.tuple #[.int .u8 (c2.getV t), .int .i64 0]) ∧ Tm w' b c0 c1 c2.getS ∧ Keeps (· = b) w w' := by
 have h := get2_all H ok ht _ _ _ _ rfl rfl rfl rfl
 unfold Ct.getV Ct.getS
 cases h1 : c2.hd <;> cases h2 : c2.up <;> cases h3 : (c2.h == 3) <;> (rw [h1, h2, h3] at h; exact h)
theorem get_3 {w : World} {b : Nat} {c0 c1 c2 : Ct} {t : Int} (H : Tm w b c0 c1 c2)  :
    Calls Tryz.prog 71 #[.pointer (some ⟨b, 0, none⟩), .int .i64 3, .int .u64 t] w fun e w' => e = .returned (.tuple #[.int .u8 255, .int .i64 0]) ∧ Tm w' b c0 c1 c2 ∧ Keeps (· = b) w w' := by
 go_enter Tryz.func71, Tryz.ntmps71
 go_wp2_with fail
 go_ret2
 exact ⟨rfl, H, Keeps.refl _ _⟩
def ctNew : Ct := ⟨3, 3, false, 65536, 0, false, false, 0, false, 0⟩
theorem ctNew_ok (t : Int) (h : 0 ≤ t) : ctNew.ok t := ⟨by decide, by decide, by decide, ⟨by decide, h⟩, by decide, by decide⟩
theorem tm_new (w : World) : Calls Tryz.prog 25 #[] w fun e w' => e = .returned (.pointer (some ⟨w.heap.size, 0, none⟩)) ∧ Tm w' w.heap.size ctNew ctNew ctNew ∧ Below w.heap.size w w' := by
 go_enter Tryz.func25, Tryz.ntmps25
 go_wp2
 go_rounds 4
 go_ret
 exact ⟨rfl, heap_new w _, by go_grown⟩
end Go.Proofs.YtojmpdddfnkffaaGreat.Pit

/- uart: a serial port, as what it holds; what its calls do to it, in plain words; a byte that came, and one that comes. -/
namespace Go.Proofs.YtojmpdddfnkffaaGreat.Uart
open Go.RowKit Go.Conc
set_option linter.unusedVariables false

def bytesV (L : List Nat) : List Value := L.map fun x => .int .u8 (x : Nat)
theorem bytesV_len (L : List Nat) : (bytesV L).length = L.length := by unfold bytesV; simp
theorem bytesV_snoc (L : List Nat) (n : Nat) : bytesV (L ++ [n]) = bytesV L ++ [.int .u8 (n : Nat)] := by unfold bytesV; simp
structure Ut where
 came : List Nat
 lost : Bool
 on : Bool
 empty : Bool
 d0 : Nat
 d1 : Nat
 lcr : Nat
 mcr : Nat
 scr : Nat
 wanted : Nat
 sent : List Nat
structure Ut.ok (U : Ut) : Prop where
 c1 : U.came.length ≤ 16
 c2 : ∀ x ∈ U.came, x < 256
 d0 : U.d0 < 256
 d1 : U.d1 < 256
 lcr : U.lcr < 256
 mcr : U.mcr < 256
 scr : U.scr < 256
 wanted : U.wanted < 256
 s2 : ∀ x ∈ U.sent, x < 256
def Ut.cells (U : Ut) (q : Nat) (sv : Value) : List Value :=
 [.chan (some q), .bool U.lost, .bool U.on, .bool U.empty, .int .u8 (U.d0 : Nat), .int .u8 (U.d1 : Nat), .int .u8 (U.lcr : Nat), .int .u8 (U.mcr : Nat), .int .u8 (U.scr : Nat), .int .u8 (U.wanted : Nat), sv]
structure UtIn (w : World) (b q : Nat) (sv : Value) (U : Ut) : Prop where
 obj : w.heap[b]? = some (.cells (U.cells q sv).toArray 129)
 chan : ∃ s r, w.heap[q]? = some (.chan 16 (bytesV U.came).toArray false s r false)
 sent : w.ownsRow 0 5 1 sv U.sent.length (bytesV U.sent)
 ok : U.ok
def Held (b q : Nat) (sv : Value) (k : Nat) : Prop := k = b ∨ k = q ∨ sv.ownBlock = some k
section
variable {w w' : World} {b q : Nat} {sv : Value} {U : Ut}
theorem row_of_heap {w w' : World} {B : Nat} {E : TypeId} {s n : Nat} {v : Value} {xs : List Value} (h : w.ownsRow B E s v n xs) (hh : ∀ k, v.ownBlock = some k → w'.heap[k]? = w.heap[k]?) : w'.ownsRow B E s v n xs := by
 refine ⟨h.1, ?_⟩
 rcases h.2 with h2 | ⟨g, cap, cur, rfl, hb, hg, r⟩
 ·exact .inl h2
 ·exact .inr ⟨g, cap, cur, rfl, hb, by rw [hh g rfl]; exact hg, r⟩
theorem row_len {w : World} {B : Nat} {E : TypeId} {s n : Nat} {v : Value} {xs : List Value} (h : w.ownsRow B E s v n xs) : ∃ a c, v = .slice a n c := by
 rcases h.2 with ⟨rfl, h0⟩ | ⟨g, cap, cur, rfl, _, hg, h1, h2, h3, h4⟩
 ·subst h0; exact ⟨_, _, rfl⟩
 ·exact ⟨_, _, rfl⟩
theorem row_block {w : World} {B : Nat} {E : TypeId} {s n : Nat} {v : Value} {xs : List Value} (h : w.ownsRow B E s v n xs) {k : Nat} (hk : v.ownBlock = some k) : ∃ cur, w.heap[k]? = some (.cells cur E (0, 0)) := by
 rcases h.2 with ⟨rfl, h0⟩ | ⟨g, cap, cur, rfl, _, hg, h1, h2, h3, h4⟩
 ·cases hk
 ·injection hk with hk
  subst hk
  exact ⟨_, hg⟩
theorem UtIn.lt (H : UtIn w b q sv U) {k : Nat} (h : Held b q sv k) : k < w.heap.size := by
 rcases h with rfl | rfl | h
 ·exact heap_lt H.obj
 ·obtain ⟨s, r, hq⟩ := H.chan
  exact heap_lt hq
 ·exact (World.ownsRow.lt H.sent k h).2
theorem UtIn.bq (H : UtIn w b q sv U) : b ≠ q := by
 rintro rfl
 obtain ⟨s, r, hq⟩ := H.chan
 rw [H.obj] at hq; cases hq
theorem UtIn.bs (H : UtIn w b q sv U) : sv.ownBlock ≠ some b := by
 intro h
 obtain ⟨cur, hc⟩ := row_block H.sent h
 rw [H.obj] at hc
 simp at hc
theorem UtIn.qs (H : UtIn w b q sv U) : sv.ownBlock ≠ some q := by
 intro h
 obtain ⟨cur, hc⟩ := row_block H.sent h
 obtain ⟨s, r, hq⟩ := H.chan
 rw [hq] at hc; cases hc
theorem UtIn.of_heap (H : UtIn w b q sv U) (h : ∀ k, Held b q sv k → w'.heap[k]? = w.heap[k]?) : UtIn w' b q sv U := by
 obtain ⟨s, r, hq⟩ := H.chan
 exact ⟨by rw [h b (.inl rfl)]; exact H.obj, ⟨s, r, by rw [h q (.inr (.inl rfl))]; exact hq⟩, row_of_heap H.sent fun k hk => h k (.inr (.inr hk)), H.ok⟩
theorem UtIn.keeps {S : Nat → Prop} (H : UtIn w b q sv U) (hk : Keeps S w w') (hn : ∀ k, Held b q sv k → ¬ S k) : UtIn w' b q sv U :=
 H.of_heap fun k h => hk.block k (H.lt h) (hn k h)
theorem UtIn.facts (H : UtIn w b q sv U) :
    w.cell? ⟨b, 0, none⟩ = some (.chan (some q)) ∧ w.cell? ⟨b, 1, none⟩ = some (.bool U.lost) ∧ w.cell? ⟨b, 2, none⟩ = some (.bool U.on) ∧ w.cell? ⟨b, 3, none⟩ = some (.bool U.empty) ∧
    w.cell? ⟨b, 4, none⟩ = some (.int .u8 (U.d0 : Nat)) ∧ w.cell? ⟨b, 5, none⟩ = some (.int .u8 (U.d1 : Nat)) ∧ w.cell? ⟨b, 6, none⟩ = some (.int .u8 (U.lcr : Nat)) ∧ w.cell? ⟨b, 7, none⟩ = some (.int .u8 (U.mcr : Nat)) ∧
    w.cell? ⟨b, 8, none⟩ = some (.int .u8 (U.scr : Nat)) ∧ w.cell? ⟨b, 9, none⟩ = some (.int .u8 (U.wanted : Nat)) ∧ w.cell? ⟨b, 10, none⟩ = some sv ∧ (∀ k, w.frozen? ⟨b, k, none⟩ = false) ∧ b < w.heap.size := by
 have h := H.obj
 refine ⟨?_, ?_, ?_, ?_, ?_, ?_, ?_, ?_, ?_, ?_, ?_, fun k => free_at h, heap_lt h⟩ <;> (rw [cell_at h]; rfl)
theorem UtIn.turn (H : UtIn w b q sv U) {U' : Ut} (k : Nat) (v : Value) (hc : (U.cells q sv).set k v = U'.cells q sv) (h1 : U'.came = U.came) (h2 : U'.sent = U.sent) (ok : U'.ok) : UtIn (w.setCell ⟨b, k, none⟩ v) b q sv U' := by
 have hne : ∀ j, j ≠ b → (w.setCell ⟨b, k, none⟩ v).heap[j]? = w.heap[j]? := fun j h => heap_set_other _ h
 obtain ⟨s, r, hq⟩ := H.chan
 refine ⟨by rw [heap_set_map, H.obj]; simp only [Option.map_some, putObj_cells]; rw [hc], ⟨s, r, by rw [hne q H.bq.symm, h1]; exact hq⟩, ?_, ok⟩
 rw [h2]
 exact row_of_heap H.sent fun j hj => hne j fun e => H.bs (by rw [← e]; exact hj)
theorem keeps_setChan (w : World) (c cap : Nat) (buf : Array Value) (cl : Bool) (s r : Nat) (tm : Bool) : Keeps (· = c) w (w.setChan c cap buf cl s r tm) :=
 ⟨rfl, rfl, rfl, by simp [World.setChan], fun i hi hn => by simp only [World.setChan]; rw [Array.getElem?_setIfInBounds_ne (fun e => hn e.symm)]⟩
theorem UtIn.flow (H : UtIn w b q sv U) {L : List Nat} (s r : Nat) (h1 : L.length ≤ 16) (h2 : ∀ x ∈ L, x < 256) : UtIn (w.setChan q 16 (bytesV L).toArray false s r false) b q sv { U with came := L } := by
 have K := keeps_setChan w q 16 (bytesV L).toArray false s r false
 refine ⟨by rw [K.block b (H.lt (.inl rfl)) H.bq]; exact H.obj, ⟨s, r, heap_setChan w q _ _ _ _ _ _ (H.lt (.inr (.inl rfl)))⟩, row_of_heap H.sent fun k hk => K.block k (H.lt (.inr (.inr hk))) (fun e => H.qs (by rw [← e]; exact hk)), ?_⟩
 exact ⟨h1, h2, H.ok.d0, H.ok.d1, H.ok.lcr, H.ok.mcr, H.ok.scr, H.ok.wanted, H.ok.s2⟩
end

set_option maxRecDepth 100000 in
theorem next_some {w : World} {b q : Nat} {sv : Value} {U : Ut} (H : UtIn w b q sv U) (x : Nat) (l : List Nat) (hx : U.came = x :: l) :
    Calls Tryz.prog 107 #[.pointer (some ⟨b, 0, none⟩)] w fun e w' => e = .returned (.tuple #[.int .u8 (x : Nat), .bool true]) ∧ UtIn w' b q sv { U with came := l } ∧ Keeps (· = q) w w' := by
 obtain ⟨k0, -⟩ := H.facts
 obtain ⟨s, r, hq⟩ := H.chan
 have e1 : ((bytesV U.came).toArray).extract 1 ((bytesV U.came).toArray).size = (bytesV l).toArray := by rw [hx]; simp [bytesV]; rw [List.take_of_length_le (by simp)]
 have e2 : ((bytesV U.came).toArray).getD 0 undef = .int .u8 (x : Nat) := by rw [hx]; simp [bytesV]
 have e3 : 0 < ((bytesV U.came).toArray).size := by rw [hx]; simp [bytesV]
 have h16 : l.length ≤ 16 := by have := H.ok.c1; rw [hx] at this; simp at this; omega
 have h256 : ∀ y ∈ l, y < 256 := fun y hy => H.ok.c2 y (by rw [hx]; exact List.mem_cons_of_mem _ hy)
 have hfr : w.frozen? ⟨b, 0, none⟩ = false := free_at H.obj
 have hl : b < w.heap.size := heap_lt H.obj
 refine calls_of_loneTo fun cs => ?_
 have e : Frame.enter Tryz.prog 107 #[.pointer (some ⟨b, 0, none⟩)] .normal = (base 107).at ⟨#[.pointer (some ⟨b, 0, none⟩), undef, undef, undef, undef, undef, undef, undef, undef, undef, undef, undef, undef, undef], []⟩ [.code (Tryz.f107.body.getD .skip)] := by
  simp [Frame.enter, Frame.at, Tryz.func107, base, Tryz.f107]
 rw [e]
 refine LoneTo.goes (n := 40) ?_
 simp only [Tryz.f107, Option.getD_some]
 s_c stepG_seq
 s_reg
 s_op
 s_op
 s_c stepG_region_end
 s_c stepG_seq
 s_reg
 s_op
 s_op
 s_op
 s_op
 s_c stepG_region_end
 s_c stepG_seq
 s_reg
 s_stop
 refine LoneTo.step (step_lone_select_recv_buf (c := q) (z := .int .u8 0) (stepG_comm (cases := #[rcase q (.int .u8 0)]) (blocking := false) (shape := .select) (w' := w) rfl rfl (by decide) (by simp [go_sem, execOp, rcase, Act.eval])) hq e3) ?_
 rw [e1, e2, Frame.finish_at]
 walk_nrm
 refine LoneTo.goes (n := 40) ?_
 s_op
 s_op
 s_c stepG_region_end
 s_c stepG_block
 s_cond true
 s_c stepG_seq
 s_reg
 s_op
 s_op
 s_c stepG_region_end
 s_c stepG_seq
 s_reg
 s_op
 s_op
 s_op
 s_c stepG_region_end
 s_c stepG_ret'
 s_stop
 exact LoneTo.done ⟨.returned (.tuple #[.int .u8 (x : Nat), .bool true]), _, rfl, ⟨rfl, H.flow s (r + 1) h16 h256, keeps_setChan _ _ _ _ _ _ _ _⟩, rfl, rfl, rfl, rfl, _, Tryz.func107, by simp [results, Tryz.f107, Frame.at]⟩
set_option maxRecDepth 100000 in
theorem next_none {w : World} {b q : Nat} {sv : Value} {U : Ut} (H : UtIn w b q sv U) (hx : U.came = []) :
    Calls Tryz.prog 107 #[.pointer (some ⟨b, 0, none⟩)] w fun e w' => e = .returned (.tuple #[.int .u8 0, .bool false]) ∧ w = w' := by
 obtain ⟨k0, -⟩ := H.facts
 obtain ⟨s, r, hq⟩ := H.chan
 rw [hx] at hq
 have hq : w.heap[q]? = some (.chan 16 #[] false s r false) := hq
 have hfr : w.frozen? ⟨b, 0, none⟩ = false := free_at H.obj
 have hl : b < w.heap.size := heap_lt H.obj
 refine calls_of_loneTo fun cs => ?_
 have e : Frame.enter Tryz.prog 107 #[.pointer (some ⟨b, 0, none⟩)] .normal = (base 107).at ⟨#[.pointer (some ⟨b, 0, none⟩), undef, undef, undef, undef, undef, undef, undef, undef, undef, undef, undef, undef, undef], []⟩ [.code (Tryz.f107.body.getD .skip)] := by
  simp [Frame.enter, Frame.at, Tryz.func107, base, Tryz.f107]
 rw [e]
 refine LoneTo.goes (n := 40) ?_
 simp only [Tryz.f107, Option.getD_some]
 s_c stepG_seq
 s_reg
 s_op
 s_op
 s_c stepG_region_end
 s_c stepG_seq
 s_reg
 s_op
 s_op
 s_op
 s_op
 s_c stepG_region_end
 s_c stepG_seq
 s_reg
 s_stop
 refine LoneTo.step (step_lone_select_default (c := q) (z := .int .u8 0) (stepG_comm (cases := #[rcase q (.int .u8 0)]) (blocking := false) (shape := .select) (w' := w) rfl rfl (by decide) (by simp [go_sem, execOp, rcase, Act.eval])) hq) ?_
 rw [Frame.finish_at]
 walk_nrm
 refine LoneTo.goes (n := 40) ?_
 s_op
 s_op
 s_c stepG_region_end
 s_c stepG_block
 s_cond false
 s_c stepG_seq
 s_reg
 s_op
 s_op
 s_c stepG_region_end
 s_c stepG_ret'
 s_stop
 exact LoneTo.done ⟨.returned (.tuple #[.int .u8 0, .bool false]), _, rfl, ⟨rfl, rfl⟩, rfl, rfl, rfl, rfl, _, Tryz.func107, by simp [results, Tryz.f107, Frame.at]⟩
end Go.Proofs.YtojmpdddfnkffaaGreat.Uart

