/- Steps of a proof: PitModes, PitFns, PitNow, PitLine, PitP, PitQ, PitR, PitS, PitT, together. -/
import Derived.Test.YtmpcafdgkbpneaaGreatRows
import Derived.Test.YtmpcafdgkbpneaaGreatS0
import Derived.BigRegion
import Derived.Laws.EntriesVeiled
import Derived.Deep.RegionWith
import Derived.Deep.QuietTactic
import Derived.BigQuiet
import Derived.Deep.Cut
import Derived.Deep.CutRange
import Derived.Lib.Hide
import Derived.Laws.BitsAll
import Derived.Test.YtmpcafdgkbpneaaGreatS12
/- pit.modes: the table of what each mode does; the five functions in it; a look-up in it. -/
set_option maxHeartbeats 4000000
namespace Go.Proofs.YtmpcafdgkbpneaaGreat.Pit
open Go.RowKit
set_option linter.unusedVariables false

def modeEs : Array MapEntry := #[⟨.int .u8 0, .agg #[.func (.func 197) #[] #[], .func (.func 198) #[] #[]], 0⟩,
 ⟨.int .u8 2, .agg #[.func (.func 196) #[] #[], .func (.func 199) #[] #[]], 1⟩,
 ⟨.int .u8 3, .agg #[.func (.func 196) #[] #[], .func (.func 200) #[] #[]], 2⟩]

theorem mode_ins (X : World) (n : Nat) (hn : n = X.heap.size) (es : Array MapEntry) (ck : Nat) (a : Int) (v : Value) (hnew : Instr.findNow (.int .u8) (.int .u8 a) es.toList 0 = some none) :
    (Instr.mapUpdate 283 (.map (some n)) (.int .u8 a) v).run Tryz.prog (X.alloc (.map es ck)) = .ok () (X.alloc (.map (es.push ⟨.int .u8 a, v, ck⟩) (ck + 1))) := by
 subst hn
 have hb : (X.alloc (.map es ck)).heap[X.heap.size]? = some (.map es ck) := heap_new X _
 have hset : ({ (X.alloc (.map es ck)) with heap := (X.alloc (.map es ck)).heap.setIfInBounds X.heap.size (.map (es.push ⟨.int .u8 a, v, ck⟩) (ck + 1)) } : World) = X.alloc (.map (es.push ⟨.int .u8 a, v, ck⟩) (ck + 1)) := by
  simp only [World.alloc]
  congr 1
  apply Array.ext_getElem?
  intro k
  rw [Array.getElem?_setIfInBounds]
  simp only [Array.getElem?_push, Array.size_push]
  by_cases h : X.heap.size = k
  ·subst h; simp
  ·simp [h, Ne.symm h]
 have hk : Tryz.prog.underlying 5 = some (.int .u8) := Tryz.underlying5
 simp [Instr.mapUpdate, go_sem, MapKept.run_getObj_map hb, MapKept.run_checkKey hk (show MapKept.IsKey (.int .u8) (.int .u8 a) from rfl), MapKept.run_findKey hk hnew, MapKept.run_setObj_map _ hb]
 exact hset

theorem modes_any (w : World) : Calls Tryz.prog 174 #[] w fun e w' => e = .returned (.map (some w.heap.size)) ∧ w.alloc (.map modeEs 3) = w' := by
 have hmm := @run_makeMap Tryz.prog
 have u0 := fun (X : World) (n : Nat) (hn : n = X.heap.size) v => mode_ins X n hn #[] 0 0 v rfl
 have u1 := fun (X : World) (n : Nat) (hn : n = X.heap.size) v0 v => mode_ins X n hn #[⟨.int .u8 0, v0, 0⟩] 1 2 v rfl
 have u2 := fun (X : World) (n : Nat) (hn : n = X.heap.size) v0 v1 v => mode_ins X n hn #[⟨.int .u8 0, v0, 0⟩, ⟨.int .u8 2, v1, 1⟩] 2 3 v rfl
 simp only [List.push_toArray, List.nil_append, List.cons_append, Nat.reduceAdd] at u0 u1 u2
 go_enter Tryz.func174, Tryz.ntmps174
 go_wp2
 go_ret
 exact ⟨rfl, rfl⟩
end Go.Proofs.YtmpcafdgkbpneaaGreat.Pit

/- pit: the five functions of the modes, and looking a mode up. -/
namespace Go.Proofs.YtmpcafdgkbpneaaGreat.Pit
open Go.RowKit
set_option linter.unusedVariables false

theorem look_hit (n : Nat) (W : World) (h : W.heap[n]? = some (.map modeEs 3)) (m : Int) (i : Nat) (v : Value)
    (hf : Instr.findNow (.int .u8) (.int .u8 m) modeEs.toList 0 = some (some (i, v))) :
    (Instr.lookup 283 (.map (some n)) (.int .u8 m) true).run Tryz.prog W = .ok (.tuple #[v, .bool true]) W := by
 have hk : Tryz.prog.underlying 5 = some (.int .u8) := Tryz.underlying5
 have hf' : (Instr.findKey 5 (.int .u8 m) modeEs.toList).run Tryz.prog W = .ok (some (i, v)) W := MapKept.run_findKey hk hf
 simp [Instr.lookup, go_sem, MapKept.run_getObj_map h, MapKept.run_checkKey hk (show MapKept.IsKey (.int .u8) (.int .u8 m) from rfl), hf']

theorem look_miss (n : Nat) (W : World) (h : W.heap[n]? = some (.map modeEs 3)) (m : Int) (h0 : m ≠ 0) (h2 : m ≠ 2) (h3 : m ≠ 3) :
    (Instr.lookup 283 (.map (some n)) (.int .u8 m) true).run Tryz.prog W = .ok (.tuple #[.agg #[.nilFunc, .nilFunc], .bool false]) W := by
 have hk : Tryz.prog.underlying 5 = some (.int .u8) := Tryz.underlying5
 have hf : Instr.findNow (.int .u8) (.int .u8 m) modeEs.toList 0 = some none := by
  have e0 : (m == 0) = false := by simp [h0]
  have e2 : (m == 2) = false := by simp [h2]
  have e3 : (m == 3) = false := by simp [h3]
  simp [Instr.findNow, Instr.sameNow, modeEs, e0, e2, e3]
 have hf' : (Instr.findKey 5 (.int .u8 m) modeEs.toList).run Tryz.prog W = .ok none W := MapKept.run_findKey hk hf
 have hz : (zeroValue 281).run Tryz.prog W = .ok (.agg #[.nilFunc, .nilFunc]) W := by kernel_rfl
 simp [Instr.lookup, go_sem, MapKept.run_getObj_map h, MapKept.run_checkKey hk (show MapKept.IsKey (.int .u8) (.int .u8 m) from rfl), hf', hz]

theorem look0 (n : Nat) (W : World) (h : W.heap[n]? = some (.map modeEs 3)) : (Instr.lookup 283 (.map (some n)) (.int .u8 0) true).run Tryz.prog W =
    .ok (.tuple #[.agg #[.func (.func 197) #[] #[], .func (.func 198) #[] #[]], .bool true]) W := look_hit n W h 0 0 _ rfl
theorem look2 (n : Nat) (W : World) (h : W.heap[n]? = some (.map modeEs 3)) : (Instr.lookup 283 (.map (some n)) (.int .u8 2) true).run Tryz.prog W =
    .ok (.tuple #[.agg #[.func (.func 196) #[] #[], .func (.func 199) #[] #[]], .bool true]) W := look_hit n W h 2 1 _ rfl
theorem look3 (n : Nat) (W : World) (h : W.heap[n]? = some (.map modeEs 3)) : (Instr.lookup 283 (.map (some n)) (.int .u8 3) true).run Tryz.prog W =
    .ok (.tuple #[.agg #[.func (.func 196) #[] #[], .func (.func 200) #[] #[]], .bool true]) W := look_hit n W h 3 2 _ rfl

section
variable (l n : Int) (w : World) (h0 : 1 ≤ l) (h1 : l ≤ 65536) (h2 : 0 ≤ n) (h3 : n < 18446744073709551616)
include h0 h1 h2 h3
theorem m1_any : Calls Tryz.prog 196 #[.int .u64 l, .int .u64 n] w fun e w' => e = .returned (.int .u64 (l - n % l)) ∧ w = w' := by
 have hm0 := Int.emod_nonneg n (show l ≠ 0 by omega)
 have hm1 := Int.emod_lt_of_pos n (show 0 < l by omega)
 have hl : (l == 0) = false := by simp; omega
 go_enter Tryz.func196, Tryz.ntmps196
 go_wp2
 go_ret
 exact ⟨rfl, rfl⟩
omit h0 h1 h2 h3 in
theorem m2_any : Calls Tryz.prog 197 #[.int .u64 l, .int .u64 n] w fun e w' => e = .returned (.int .u64 ((l - n) % 18446744073709551616)) ∧ w = w' := by
 go_enter Tryz.func197, Tryz.ntmps197
 go_wp2
 go_ret
 exact ⟨rfl, rfl⟩
omit h0 h1 h2 h3 in
theorem m3_any : Calls Tryz.prog 198 #[.int .u64 l, .int .u64 n] w fun e w' => e = .returned (.bool (decide (l ≤ n))) ∧ w = w' := by
 go_enter Tryz.func198, Tryz.ntmps198
 go_wp2
 go_ret
 exact ⟨rfl, rfl⟩
theorem m4_any : Calls Tryz.prog 199 #[.int .u64 l, .int .u64 n] w fun e w' => e = .returned (.bool (n % l != l - 1)) ∧ w = w' := by
 have hm0 := Int.emod_nonneg n (show l ≠ 0 by omega)
 have hm1 := Int.emod_lt_of_pos n (show 0 < l by omega)
 have hl : (l == 0) = false := by simp; omega
 go_enter Tryz.func199, Tryz.ntmps199
 go_wp2
 go_ret
 exact ⟨rfl, rfl⟩
theorem m5_any : Calls Tryz.prog 200 #[.int .u64 l, .int .u64 n] w fun e w' => e = .returned (.bool (decide (n % l < (l + 1) / 2))) ∧ w = w' := by
 have hm0 := Int.emod_nonneg n (show l ≠ 0 by omega)
 have hm1 := Int.emod_lt_of_pos n (show 0 < l by omega)
 have hl : (l == 0) = false := by simp; omega
 go_enter Tryz.func200, Tryz.ntmps200
 go_wp2
 go_ret
 exact ⟨rfl, rfl⟩
end
end Go.Proofs.YtmpcafdgkbpneaaGreat.Pit

/- pit: a counter's value. -/
namespace Go.Proofs.YtmpcafdgkbpneaaGreat.Pit
open Go.RowKit
set_option linter.unusedVariables false

def nowv (m : Int) (st : Bool) (l g t : Int) : Int :=
 if st then l % 65536 else if m = 0 then (l - (t - g)) % 65536 else if m = 2 ∨ m = 3 then (l - (t - g) % l) % 65536 else l % 65536

theorem lt_of_cell {w : World} {b o : Nat} {v : Value} (h : w.cell? ⟨b, o, none⟩ = some v) : b < w.heap.size := World.block_lt_of_cell? _ _ h

theorem in_a (w : World) : ((w.alloc (.map modeEs 3)).drew).heap[w.heap.size]? = some (.map modeEs 3) := heap_new w _
theorem in_b (w : World) : (((w.alloc (.map modeEs 3)).alloc (.cells #[.nilFunc, .nilFunc] 281)).drew).heap[w.heap.size]? = some (.map modeEs 3) := heap_alloc_lt (heap_new w _)
theorem in_c (w : World) : (((w.alloc (.cells #[.nilFunc, .nilFunc] 281)).alloc (.map modeEs 3)).drew).heap[w.heap.size + 1]? = some (.map modeEs 3) := by
 have := heap_new (w.alloc (.cells #[.nilFunc, .nilFunc] 281)) (.map modeEs 3)
 simp only [World.size_alloc] at this
 exact this

def selv (st : Bool) (a b : Int) : Int := if st then a else b
theorem selv_t {st : Bool} {a b : Int} (h : (!st) = false) : selv st a b = a := by cases st <;> simp_all [selv]
theorem selv_f {st : Bool} {a b : Int} (h : (!st) = true) : selv st a b = b := by cases st <;> simp_all [selv]
def Hit (m : Int) (f0 f1 : Value) (is : Bool) : Prop := ∀ (n : Nat) (W : World), W.heap[n]? = some (.map modeEs 3) →
 (Instr.lookup 283 (.map (some n)) (.int .u8 m) true).run Tryz.prog W = .ok (.tuple #[.agg #[f0, f1], .bool is]) W

theorem now_hit (m : Int) (st : Bool) (l g t : Int) (b o : Nat) (w : World) (c0 : w.cell? ⟨b, o, none⟩ = some (.int .u8 m)) (c2 : w.cell? ⟨b, o + 2, none⟩ = some (.bool st))
    (c3 : w.cell? ⟨b, o + 3, none⟩ = some (.int .u64 l)) (c4 : w.cell? ⟨b, o + 4, none⟩ = some (.int .u64 g)) (h0 : 1 ≤ l) (h1 : l ≤ 65536) (h2 : 0 ≤ g) (h3 : g ≤ t) (h4 : t < 18446744073709551616)
    (x y : Nat) (hit : Hit m (.func (.func x) #[] #[]) (.func (.func y) #[] #[]) true) (r : Int)
    (hcf : ∀ (args : Array Value) (w : World), (callFunc x args).run Tryz.prog w = .ok (Next.enter x args) w)
    (hx : ∀ w, Calls Tryz.prog x #[.int .u64 l, .int .u64 (t - g)] w fun e w' => e = .returned (.int .u64 r) ∧ w = w') :
    Calls Tryz.prog 184 #[.pointer (some ⟨b, o, none⟩), .int .u64 t] w fun e w' => e = .returned (.int .u16 (selv st (l % 65536) (IntKind.u16.wrap r))) ∧ Below w.heap.size w w' := by
 have hlt := lt_of_cell c0
 have hlt1 : b < w.heap.size + 1 := by omega
 have hlt2 : b < w.heap.size + 1 + 1 := by omega
 have la := hit _ _ (in_a w)
 have lb := hit _ _ (in_b w)
 have lc := hit _ _ (in_c w)
 have HX := Lib.hid hx
 clear hit hx
 go_enter Tryz.func184, Tryz.ntmps184
 go_upto_region 1 with (fail)
 go_cut [5, 6] from 7 (fun s5 s6 wc => ∃ k, s5 = .pointer (some ⟨k, 0, none⟩) ∧ s6 = .bool true ∧ Below w.heap.size w wc ∧ wc.cell? ⟨k, 0, none⟩ = some (.func (.func x) #[] #[]) ∧ b < wc.heap.size)
 case first =>
  go_region_with (first | (go_at_call 174; refine (modes_any _).mono ?_; rintro e w2 ⟨rfl, rfl⟩))
  all_goals
   go_wp2_with fail
   go_meet
   exact ⟨_, rfl, rfl, by go_grown, by simp [go_sem], by simp; omega⟩
 case rest =>
  obtain ⟨k, rfl, rfl, hb, hk, hbl⟩ := hcut
  obtain ⟨hc, hf⟩ := bcell hb
  clear la lb lc
  have hsub : IntKind.u64.wrap (t - g) = t - g := IntWalk.u64_in _ (by omega)
  have hs0 : 0 ≤ t - g := by omega
  go_wp2_with fail
  ·go_quiet ((exact Calls.quiet_of_same ((HX.out _).mono fun e w' h => ⟨h.1, h.2.symm⟩)))
   go_wp2_with fail
   go_ret
   have hst : (!st) = true := by assumption
   exact ⟨by rw [selv_f hst]; rfl, below_drewN hb _⟩
  ·go_ret
   have hst : (!st) = false := by assumption
   exact ⟨by rw [selv_t hst]; rfl, hb⟩

theorem hit0 : Hit 0 (.func (.func 197) #[] #[]) (.func (.func 198) #[] #[]) true := look0
theorem hit2 : Hit 2 (.func (.func 196) #[] #[]) (.func (.func 199) #[] #[]) true := look2
theorem hit3 : Hit 3 (.func (.func 196) #[] #[]) (.func (.func 200) #[] #[]) true := look3
theorem cf1 (args : Array Value) (w : World) : (callFunc 196 args).run Tryz.prog w = .ok (Next.enter 196 args) w := by kernel_rfl
theorem cf2 (args : Array Value) (w : World) : (callFunc 197 args).run Tryz.prog w = .ok (Next.enter 197 args) w := by kernel_rfl
end Go.Proofs.YtmpcafdgkbpneaaGreat.Pit

/- pit: the line of counter 0. -/
namespace Go.Proofs.YtmpcafdgkbpneaaGreat.Pit
open Go.RowKit
set_option linter.unusedVariables false

def selb (st : Bool) (a b : Bool) : Bool := if st then a else b
theorem line_hit (m : Int) (st : Bool) (l g t : Int) (b : Nat) (w : World) (c0 : w.cell? ⟨b, 0, none⟩ = some (.int .u8 m)) (c2 : w.cell? ⟨b, 2, none⟩ = some (.bool st))
    (c3 : w.cell? ⟨b, 3, none⟩ = some (.int .u64 l)) (c4 : w.cell? ⟨b, 4, none⟩ = some (.int .u64 g)) (h0 : 1 ≤ l) (h1 : l ≤ 65536) (h2 : 0 ≤ g) (h3 : g ≤ t) (h4 : t < 18446744073709551616)
    (x y : Nat) (hit : Hit m (.func (.func x) #[] #[]) (.func (.func y) #[] #[]) true) (r : Bool)
    (hcf : ∀ (args : Array Value) (w : World), (callFunc y args).run Tryz.prog w = .ok (Next.enter y args) w)
    (hx : ∀ w, Calls Tryz.prog y #[.int .u64 l, .int .u64 (t - g)] w fun e w' => e = .returned (.bool r) ∧ w = w') :
    Calls Tryz.prog 133 #[.pointer (some ⟨b, 0, none⟩), .int .u64 t] w fun e w' => e = .returned (.bool (selb st (m != 0) r)) ∧ Below w.heap.size w w' := by
 have hlt := lt_of_cell c0
 have hlt1 : b < w.heap.size + 1 := by omega
 have hlt2 : b < w.heap.size + 1 + 1 := by omega
 have la := hit _ _ (in_a w)
 have lb := hit _ _ (in_b w)
 have lc := hit _ _ (in_c w)
 have HX := Lib.hid hx
 clear hit hx
 cases hst : st
 ·subst hst
  go_enter Tryz.func133, Tryz.ntmps133
  go_upto_region 6 with (fail)
  go_cut [6, 7] from 8 (fun s6 s7 wc => ∃ k, s6 = .pointer (some ⟨k, 0, none⟩) ∧ s7 = .bool true ∧ Below w.heap.size w wc ∧ wc.cell? ⟨k, 1, none⟩ = some (.func (.func y) #[] #[]) ∧ b < wc.heap.size)
  case first =>
   go_region_with (first | (go_at_call 174; refine (modes_any _).mono ?_; rintro e w2 ⟨rfl, rfl⟩))
   all_goals
    go_wp2_with fail
    go_meet
    exact ⟨_, rfl, rfl, by go_grown, by simp [go_sem], by simp; omega⟩
  case rest =>
   obtain ⟨k, rfl, rfl, hb, hk, hbl⟩ := hcut
   obtain ⟨hc, hf⟩ := bcell hb
   clear la lb lc
   have hsub : IntKind.u64.wrap (t - g) = t - g := IntWalk.u64_in _ (by omega)
   have hs0 : 0 ≤ t - g := by omega
   go_wp2_with fail
   go_quiet ((exact Calls.quiet_of_same ((HX.out _).mono fun e w' h => ⟨h.1, h.2.symm⟩)))
   go_wp2_with fail
   go_ret
   exact ⟨rfl, below_drewN hb _⟩
 ·subst hst
  clear la lb lc
  go_enter Tryz.func133, Tryz.ntmps133
  go_wp2_with fail
  go_ret
  exact ⟨rfl, Below.refl _ _⟩

theorem cf3 (args : Array Value) (w : World) : (callFunc 198 args).run Tryz.prog w = .ok (Next.enter 198 args) w := by kernel_rfl
theorem cf4 (args : Array Value) (w : World) : (callFunc 199 args).run Tryz.prog w = .ok (Next.enter 199 args) w := by kernel_rfl
theorem cf5 (args : Array Value) (w : World) : (callFunc 200 args).run Tryz.prog w = .ok (Next.enter 200 args) w := by kernel_rfl

theorem now_any (m : Int) (st : Bool) (l g t : Int) (b o : Nat) (w : World) (c0 : w.cell? ⟨b, o, none⟩ = some (.int .u8 m)) (c2 : w.cell? ⟨b, o + 2, none⟩ = some (.bool st))
    (c3 : w.cell? ⟨b, o + 3, none⟩ = some (.int .u64 l)) (c4 : w.cell? ⟨b, o + 4, none⟩ = some (.int .u64 g)) (h0 : 1 ≤ l) (h1 : l ≤ 65536) (h2 : 0 ≤ g) (h3 : g ≤ t) (h4 : t < 18446744073709551616)
    (hm : m = 0 ∨ m = 2 ∨ m = 3) :
    Calls Tryz.prog 184 #[.pointer (some ⟨b, o, none⟩), .int .u64 t] w fun e w' => e = .returned (.int .u16 (nowv m st l g t)) ∧ Below w.heap.size w w' := by
 have hsub : 0 ≤ t - g := by omega
 rcases hm with rfl | rfl | rfl
 ·refine (now_hit 0 st l g t b o w c0 c2 c3 c4 h0 h1 h2 h3 h4 _ _ hit0 ((l - (t - g)) % 18446744073709551616) cf2 (fun w => m2_any l (t - g) w)).mono fun e w' h => ⟨h.1.trans ?_, h.2⟩
  cases st
  ·simp only [selv, nowv, Bool.false_eq_true, if_false, if_true, IntKind.wrap_u16]; congr 2; omega
  ·simp [selv, nowv]
 ·refine (now_hit 2 st l g t b o w c0 c2 c3 c4 h0 h1 h2 h3 h4 _ _ hit2 (l - (t - g) % l) cf1 (fun w => m1_any l (t - g) w h0 h1 hsub (by omega))).mono fun e w' h => ⟨h.1.trans ?_, h.2⟩
  cases st <;> simp [selv, nowv, IntKind.wrap_u16]
 ·refine (now_hit 3 st l g t b o w c0 c2 c3 c4 h0 h1 h2 h3 h4 _ _ hit3 (l - (t - g) % l) cf1 (fun w => m1_any l (t - g) w h0 h1 hsub (by omega))).mono fun e w' h => ⟨h.1.trans ?_, h.2⟩
  cases st <;> simp [selv, nowv, IntKind.wrap_u16]

def linev (m : Int) (st : Bool) (l g t : Int) : Bool :=
 if st then m != 0 else if m = 0 then decide (l ≤ t - g) else if m = 2 then (t - g) % l != l - 1 else if m = 3 then decide ((t - g) % l < (l + 1) / 2) else true
theorem line_any (m : Int) (st : Bool) (l g t : Int) (b : Nat) (w : World) (c0 : w.cell? ⟨b, 0, none⟩ = some (.int .u8 m)) (c2 : w.cell? ⟨b, 2, none⟩ = some (.bool st))
    (c3 : w.cell? ⟨b, 3, none⟩ = some (.int .u64 l)) (c4 : w.cell? ⟨b, 4, none⟩ = some (.int .u64 g)) (h0 : 1 ≤ l) (h1 : l ≤ 65536) (h2 : 0 ≤ g) (h3 : g ≤ t) (h4 : t < 18446744073709551616)
    (hm : m = 0 ∨ m = 2 ∨ m = 3) :
    Calls Tryz.prog 133 #[.pointer (some ⟨b, 0, none⟩), .int .u64 t] w fun e w' => e = .returned (.bool (linev m st l g t)) ∧ Below w.heap.size w w' := by
 have hsub : 0 ≤ t - g := by omega
 rcases hm with rfl | rfl | rfl
 ·refine (line_hit 0 st l g t b w c0 c2 c3 c4 h0 h1 h2 h3 h4 _ _ hit0 (decide (l ≤ t - g)) cf3 (fun w => m3_any l (t - g) w)).mono fun e w' h => ⟨h.1.trans ?_, h.2⟩
  cases st <;> simp [selb, linev]
 ·refine (line_hit 2 st l g t b w c0 c2 c3 c4 h0 h1 h2 h3 h4 _ _ hit2 ((t - g) % l != l - 1) cf4 (fun w => m4_any l (t - g) w h0 h1 hsub (by omega))).mono fun e w' h => ⟨h.1.trans ?_, h.2⟩
  cases st <;> simp [selb, linev]
 ·refine (line_hit 3 st l g t b w c0 c2 c3 c4 h0 h1 h2 h3 h4 _ _ hit3 (decide ((t - g) % l < (l + 1) / 2)) cf5 (fun w => m5_any l (t - g) w h0 h1 hsub (by omega))).mono fun e w' h => ⟨h.1.trans ?_, h.2⟩
  cases st <;> simp [selb, linev]
end Go.Proofs.YtmpcafdgkbpneaaGreat.Pit

/- pit: a counter's value, and the line, in any mode. -/
namespace Go.Proofs.YtmpcafdgkbpneaaGreat.Pit
open Go.RowKit
set_option linter.unusedVariables false

def Miss (m : Int) : Prop := ∀ (n : Nat) (W : World), W.heap[n]? = some (.map modeEs 3) →
 (Instr.lookup 283 (.map (some n)) (.int .u8 m) true).run Tryz.prog W = .ok (.tuple #[.agg #[.nilFunc, .nilFunc], .bool false]) W
theorem miss_of {m : Int} (h0 : m ≠ 0) (h2 : m ≠ 2) (h3 : m ≠ 3) : Miss m := fun n W h => look_miss n W h m h0 h2 h3
theorem now_miss (m : Int) (st : Bool) (l g t : Int) (b o : Nat) (w : World) (c0 : w.cell? ⟨b, o, none⟩ = some (.int .u8 m)) (c2 : w.cell? ⟨b, o + 2, none⟩ = some (.bool st))
    (c3 : w.cell? ⟨b, o + 3, none⟩ = some (.int .u64 l)) (h0 : 1 ≤ l) (h1 : l ≤ 65536) (hit : Miss m) :
    Calls Tryz.prog 184 #[.pointer (some ⟨b, o, none⟩), .int .u64 t] w fun e w' => e = .returned (.int .u16 (l % 65536)) ∧ Below w.heap.size w w' := by
 have hlt := lt_of_cell c0
 have hlt1 : b < w.heap.size + 1 := by omega
 have hlt2 : b < w.heap.size + 1 + 1 := by omega
 have la := hit _ _ (in_a w)
 have lb := hit _ _ (in_b w)
 have lc := hit _ _ (in_c w)
 clear hit
 go_enter Tryz.func184, Tryz.ntmps184
 go_upto_region 1 with (fail)
 go_cut [5, 6] from 7 (fun s5 s6 wc => s6 = .bool false ∧ Below w.heap.size w wc ∧ b < wc.heap.size)
 case first =>
  go_region_with (first | (go_at_call 174; refine (modes_any _).mono ?_; rintro e w2 ⟨rfl, rfl⟩))
  all_goals
   go_wp2_with fail
   go_meet
   exact ⟨rfl, by go_grown, by simp; omega⟩
 case rest =>
  obtain ⟨rfl, hb, hbl⟩ := hcut
  obtain ⟨hc, hf⟩ := bcell hb
  clear la lb lc
  go_wp2_with fail
  go_ret
  exact ⟨rfl, hb⟩
theorem line_miss (m : Int) (st : Bool) (l g t : Int) (b : Nat) (w : World) (c0 : w.cell? ⟨b, 0, none⟩ = some (.int .u8 m)) (c2 : w.cell? ⟨b, 2, none⟩ = some (.bool st)) (hm : m ≠ 0) (hit : Miss m) :
    Calls Tryz.prog 133 #[.pointer (some ⟨b, 0, none⟩), .int .u64 t] w fun e w' => e = .returned (.bool true) ∧ Below w.heap.size w w' := by
 have hlt := lt_of_cell c0
 have hlt1 : b < w.heap.size + 1 := by omega
 have hlt2 : b < w.heap.size + 1 + 1 := by omega
 have la := hit _ _ (in_a w)
 have lb := hit _ _ (in_b w)
 have lc := hit _ _ (in_c w)
 have hm0 : (m != 0) = true := by simpa using hm
 clear hit hm
 cases hst : st
 ·subst hst
  go_enter Tryz.func133, Tryz.ntmps133
  go_upto_region 6 with (fail)
  go_cut [6, 7] from 8 (fun s6 s7 wc => s7 = .bool false ∧ Below w.heap.size w wc ∧ b < wc.heap.size)
  case first =>
   go_region_with (first | (go_at_call 174; refine (modes_any _).mono ?_; rintro e w2 ⟨rfl, rfl⟩))
   all_goals
    go_wp2_with fail
    go_meet
    exact ⟨rfl, by go_grown, by simp; omega⟩
  case rest =>
   obtain ⟨rfl, hb, hbl⟩ := hcut
   clear la lb lc
   go_wp2_with fail
   go_quiet (fail)
   go_wp2_with fail
   go_ret
   exact ⟨rfl, below_drewN hb _⟩
 ·subst hst
  clear la lb lc
  go_enter Tryz.func133, Tryz.ntmps133
  go_wp2_with fail
  go_ret
  exact ⟨rfl, Below.refl _ _⟩
end Go.Proofs.YtmpcafdgkbpneaaGreat.Pit

/- pit: three counters as one object; what a counter is worth. -/
namespace Go.Proofs.YtmpcafdgkbpneaaGreat.Pit
open Go.RowKit
set_option linter.unusedVariables false
set_option linter.unusedSimpArgs false

structure Ct where
 m : Int
 h : Int
 st : Bool
 l : Int
 g : Int
 wn : Bool
 up : Bool
 f : Int
 hd : Bool
 v : Int
structure Ct.ok (c : Ct) (t : Int) : Prop where
 m : 0 ≤ c.m ∧ c.m ≤ 5
 h : 1 ≤ c.h ∧ c.h ≤ 3
 l : 1 ≤ c.l ∧ c.l ≤ 65536
 g : 0 ≤ c.g ∧ c.g ≤ t
 f : 0 ≤ c.f ∧ c.f < 256
 v : 0 ≤ c.v ∧ c.v < 65536
def Ct.cells (c : Ct) : List Value := [.int .u8 c.m, .int .u8 c.h, .bool c.st, .int .u64 c.l, .int .u64 c.g, .bool c.wn, .bool c.up, .int .u8 c.f, .bool c.hd, .int .u16 c.v]
def Ct.val (c : Ct) (t : Int) : Int := nowv c.m c.st c.l c.g t
def Ct.line (c : Ct) (t : Int) : Bool := linev c.m c.st c.l c.g t
def Tm (w : World) (b : Nat) (c0 c1 c2 : Ct) : Prop := w.heap[b]? = some (.cells (c0.cells ++ c1.cells ++ c2.cells).toArray 242)
theorem Tm.below {w w1 : World} {b : Nat} {c0 c1 c2 : Ct} (H : Tm w b c0 c1 c2) (hb : Below w.heap.size w w1) : Tm w1 b c0 c1 c2 := heap_below hb H
theorem Tm.lt {w : World} {b : Nat} {c0 c1 c2 : Ct} (H : Tm w b c0 c1 c2) : b < w.heap.size := heap_lt (show w.heap[b]? = some _ from H)
theorem Tm.f0 {w : World} {b : Nat} {c0 c1 c2 : Ct} (H : Tm w b c0 c1 c2) :
    w.cell? ⟨b, 0, none⟩ = some (.int .u8 c0.m) ∧ w.cell? ⟨b, 1, none⟩ = some (.int .u8 c0.h) ∧ w.cell? ⟨b, 2, none⟩ = some (.bool c0.st) ∧ w.cell? ⟨b, 3, none⟩ = some (.int .u64 c0.l) ∧ w.cell? ⟨b, 4, none⟩ = some (.int .u64 c0.g) ∧ w.cell? ⟨b, 5, none⟩ = some (.bool c0.wn) ∧ w.cell? ⟨b, 6, none⟩ = some (.bool c0.up) ∧ w.cell? ⟨b, 7, none⟩ = some (.int .u8 c0.f) ∧ w.cell? ⟨b, 8, none⟩ = some (.bool c0.hd) ∧ w.cell? ⟨b, 9, none⟩ = some (.int .u16 c0.v) ∧
    (∀ k, w.frozen? ⟨b, k, none⟩ = false) ∧ b < w.heap.size := by
 unfold Tm at H
 refine ⟨?_, ?_, ?_, ?_, ?_, ?_, ?_, ?_, ?_, ?_, fun k => free_at H, heap_lt H⟩ <;> (rw [cell_at H]; rfl)
theorem now_ct0 {w : World} {b : Nat} {c0 c1 c2 : Ct} {t : Int} (H : Tm w b c0 c1 c2) (ok : c0.ok t) (ht : t < 18446744073709551616) :
    Calls Tryz.prog 184 #[.pointer (some ⟨b, 0, none⟩), .int .u64 t] w fun e w' => e = .returned (.int .u16 (c0.val t)) ∧ Below w.heap.size w w' := by
 obtain ⟨k0, k1, k2, k3, k4, k5, k6, k7, k8, k9, kf, klt⟩ := H.f0
 by_cases hm : c0.m = 0 ∨ c0.m = 2 ∨ c0.m = 3
 ·exact now_any _ _ _ _ t b 0 w k0 k2 k3 k4 ok.l.1 ok.l.2 ok.g.1 ok.g.2 ht hm
 ·refine (now_miss _ _ _ c0.g t b 0 w k0 k2 k3 ok.l.1 ok.l.2 (miss_of (by omega) (by omega) (by omega))).mono fun e w' h => ⟨h.1.trans ?_, h.2⟩
  unfold Ct.val nowv
  rw [if_neg (show ¬ c0.m = 0 by omega), if_neg (show ¬ (c0.m = 2 ∨ c0.m = 3) by omega)]
  cases c0.st <;> simp
theorem line_tm {w : World} {b : Nat} {c0 c1 c2 : Ct} {t : Int} (H : Tm w b c0 c1 c2) (ok : c0.ok t) (ht : t < 18446744073709551616) :
    Calls Tryz.prog 133 #[.pointer (some ⟨b, 0, none⟩), .int .u64 t] w fun e w' => e = .returned (.bool (c0.line t)) ∧ Below w.heap.size w w' := by
 obtain ⟨k0, k1, k2, k3, k4, k5, k6, k7, k8, k9, kf, klt⟩ := H.f0
 by_cases hm : c0.m = 0 ∨ c0.m = 2 ∨ c0.m = 3
 ·exact line_any _ _ _ _ t b w k0 k2 k3 k4 ok.l.1 ok.l.2 ok.g.1 ok.g.2 ht hm
 ·refine (line_miss _ _ c0.l c0.g t b w k0 k2 (by omega) (miss_of (by omega) (by omega) (by omega))).mono fun e w' h => ⟨h.1.trans ?_, h.2⟩
  unfold Ct.line linev
  rw [if_neg (show ¬ c0.m = 0 by omega), if_neg (show ¬ c0.m = 2 by omega), if_neg (show ¬ c0.m = 3 by omega), show (c0.m != 0) = true by simp; omega]
  cases c0.st <;> rfl
end Go.Proofs.YtmpcafdgkbpneaaGreat.Pit

/- pit: a command to any counter. -/
namespace Go.Proofs.YtmpcafdgkbpneaaGreat.Pit
open Go.RowKit
set_option linter.unusedVariables false
set_option linter.unusedSimpArgs false
end Go.Proofs.YtmpcafdgkbpneaaGreat.Pit

/- pit: a byte put to any counter. -/
namespace Go.Proofs.YtmpcafdgkbpneaaGreat.Pit
open Go.RowKit
set_option linter.unusedVariables false
set_option linter.unusedSimpArgs false
end Go.Proofs.YtmpcafdgkbpneaaGreat.Pit

/- pit: a byte got of any counter. -/
namespace Go.Proofs.YtmpcafdgkbpneaaGreat.Pit
open Go.RowKit
set_option linter.unusedVariables false
set_option linter.unusedSimpArgs false
def ctNew : Ct := ⟨3, 3, false, 65536, 0, false, false, 0, false, 0⟩
theorem ctNew_ok (t : Int) (h : 0 ≤ t) : ctNew.ok t := ⟨by decide, by decide, by decide, ⟨by decide, h⟩, by decide, by decide⟩
theorem tm_new (w : World) : Calls Tryz.prog 76 #[] w fun e w' => e = .returned (.pointer (some ⟨w.heap.size, 0, none⟩)) ∧ Tm w' w.heap.size ctNew ctNew ctNew ∧ Below w.heap.size w w' := by
 go_enter Tryz.func76, Tryz.ntmps76
 go_wp2
 go_rounds 4
 go_ret
 exact ⟨rfl, heap_new w _, by go_grown⟩
end Go.Proofs.YtmpcafdgkbpneaaGreat.Pit

