/- pit: the line of counter 0. -/
import Derived.Test.YtehobiccbfkbjaaPitNow
namespace Go.Proofs.Ytehobiccbfkbjaa
open Go.RowKit
set_option linter.unusedVariables false

def selb (st : Bool) (a b : Bool) : Bool := if st then a else b
theorem selb_t {st : Bool} {a b : Bool} (h : st = true) : selb st a b = a := by subst h; rfl
theorem selb_f {st : Bool} {a b : Bool} (h : st = false) : selb st a b = b := by subst h; rfl

set_option maxHeartbeats 1000000 in
theorem line_hit (m : Int) (st : Bool) (l g t : Int) (b : Nat) (w : World) (c0 : w.cell? ⟨b, 0, none⟩ = some (.int .u8 m)) (c2 : w.cell? ⟨b, 2, none⟩ = some (.bool st))
    (c3 : w.cell? ⟨b, 3, none⟩ = some (.int .u64 l)) (c4 : w.cell? ⟨b, 4, none⟩ = some (.int .u64 g)) (h0 : 1 ≤ l) (h1 : l ≤ 65536) (h2 : 0 ≤ g) (h3 : g ≤ t) (h4 : t < 18446744073709551616)
    (x y : Nat) (hit : Hit m (.func (.func x) #[] #[]) (.func (.func y) #[] #[]) true) (r : Bool)
    (hcf : ∀ (args : Array Value) (w : World), (callFunc y args).run Try.prog w = .ok (Next.enter y args) w)
    (hx : ∀ w, Calls Try.prog y #[.int .u64 l, .int .u64 (t - g)] w fun e w' => e = .returned (.bool r) ∧ w = w') :
    Calls Try.prog 9 #[.pointer (some ⟨b, 0, none⟩), .int .u64 t] w fun e w' => e = .returned (.bool (selb st (m != 0) r)) ∧ Below w.heap.size w w' := by
  have hlt := lt_of_cell c0
  have hlt1 : b < w.heap.size + 1 := by omega
  have hlt2 : b < w.heap.size + 1 + 1 := by omega
  have la := hit _ _ (in_a w)
  have lb := hit _ _ (in_b w)
  have lc := hit _ _ (in_c w)
  have HX := Lib.hid hx
  clear hit hx
  cases hst : st
  · subst hst
    go_enter Try.func9, Try.ntmps9
    go_upto_region 6 with (fail)
    go_cut [6, 7] from 8 (fun s6 s7 wc => ∃ k, s6 = .pointer (some ⟨k, 0, none⟩) ∧ s7 = .bool true ∧ Below w.heap.size w wc ∧ wc.cell? ⟨k, 1, none⟩ = some (.func (.func y) #[] #[]) ∧ b < wc.heap.size)
    case first =>
      go_region_with (first | (go_at_call 13; refine (modes_any _).mono ?_; rintro e w2 ⟨rfl, rfl⟩))
      all_goals
        go_wp2_with fail
        go_meet
        exact ⟨_, rfl, rfl, by go_grown, by simp [go_sem], by simp; omega⟩
    case rest =>
      obtain ⟨k, rfl, rfl, hb, hk, hbl⟩ := hcut
      obtain ⟨hc, hf⟩ := bcell hb
      clear la lb lc
      have hsub : IntKind.u64.wrap (t - g) = t - g := IntWalk.u64_in _ (by omega)
      have hs0 : 0 ≤ t - g := by omega
      go_wp2_with fail
      go_quiet ((exact Calls.quiet_of_same ((HX.out _).mono fun e w' h => ⟨h.1, h.2.symm⟩)))
      go_wp2_with fail
      go_ret
      exact ⟨rfl, below_drewN hb _⟩
  · subst hst
    clear la lb lc
    go_enter Try.func9, Try.ntmps9
    go_wp2_with fail
    go_ret
    exact ⟨rfl, Below.refl _ _⟩

theorem line_nil (t : Int) (w : World) : Calls Try.prog 9 #[.pointer none, .int .u64 t] w fun e w' => e = .returned (.bool false) ∧ w = w' := by
  go_enter Try.func9, Try.ntmps9
  go_wp2_with fail
  go_ret
  exact ⟨rfl, rfl⟩
theorem cf3 (args : Array Value) (w : World) : (callFunc 18 args).run Try.prog w = .ok (Next.enter 18 args) w := by kernel_rfl
theorem cf4 (args : Array Value) (w : World) : (callFunc 19 args).run Try.prog w = .ok (Next.enter 19 args) w := by kernel_rfl
theorem cf5 (args : Array Value) (w : World) : (callFunc 20 args).run Try.prog w = .ok (Next.enter 20 args) w := by kernel_rfl

/-- The value of a counter of mode 0, 2 or 3. -/
theorem now_any (m : Int) (st : Bool) (l g t : Int) (b o : Nat) (w : World) (c0 : w.cell? ⟨b, o, none⟩ = some (.int .u8 m)) (c2 : w.cell? ⟨b, o + 2, none⟩ = some (.bool st))
    (c3 : w.cell? ⟨b, o + 3, none⟩ = some (.int .u64 l)) (c4 : w.cell? ⟨b, o + 4, none⟩ = some (.int .u64 g)) (h0 : 1 ≤ l) (h1 : l ≤ 65536) (h2 : 0 ≤ g) (h3 : g ≤ t) (h4 : t < 18446744073709551616)
    (hm : m = 0 ∨ m = 2 ∨ m = 3) :
    Calls Try.prog 15 #[.pointer (some ⟨b, o, none⟩), .int .u64 t] w fun e w' => e = .returned (.int .u16 (nowv m st l g t)) ∧ Below w.heap.size w w' := by
  have hsub : 0 ≤ t - g := by omega
  rcases hm with rfl | rfl | rfl
  · refine (now_hit 0 st l g t b o w c0 c2 c3 c4 h0 h1 h2 h3 h4 _ _ hit0 ((l - (t - g)) % 18446744073709551616) cf2 (fun w => m2_any l (t - g) w)).mono fun e w' h => ⟨h.1.trans ?_, h.2⟩
    cases st
    · simp only [selv, nowv, Bool.false_eq_true, if_false, if_true, IntKind.wrap_u16]; congr 2; omega
    · simp [selv, nowv]
  · refine (now_hit 2 st l g t b o w c0 c2 c3 c4 h0 h1 h2 h3 h4 _ _ hit2 (l - (t - g) % l) cf1 (fun w => m1_any l (t - g) w h0 h1 hsub (by omega))).mono fun e w' h => ⟨h.1.trans ?_, h.2⟩
    cases st <;> simp [selv, nowv, IntKind.wrap_u16]
  · refine (now_hit 3 st l g t b o w c0 c2 c3 c4 h0 h1 h2 h3 h4 _ _ hit3 (l - (t - g) % l) cf1 (fun w => m1_any l (t - g) w h0 h1 hsub (by omega))).mono fun e w' h => ⟨h.1.trans ?_, h.2⟩
    cases st <;> simp [selv, nowv, IntKind.wrap_u16]

def linev (m : Int) (st : Bool) (l g t : Int) : Bool :=
  if st then m != 0 else if m = 0 then decide (l ≤ t - g) else if m = 2 then (t - g) % l != l - 1 else if m = 3 then decide ((t - g) % l < (l + 1) / 2) else true
theorem line_any (m : Int) (st : Bool) (l g t : Int) (b : Nat) (w : World) (c0 : w.cell? ⟨b, 0, none⟩ = some (.int .u8 m)) (c2 : w.cell? ⟨b, 2, none⟩ = some (.bool st))
    (c3 : w.cell? ⟨b, 3, none⟩ = some (.int .u64 l)) (c4 : w.cell? ⟨b, 4, none⟩ = some (.int .u64 g)) (h0 : 1 ≤ l) (h1 : l ≤ 65536) (h2 : 0 ≤ g) (h3 : g ≤ t) (h4 : t < 18446744073709551616)
    (hm : m = 0 ∨ m = 2 ∨ m = 3) :
    Calls Try.prog 9 #[.pointer (some ⟨b, 0, none⟩), .int .u64 t] w fun e w' => e = .returned (.bool (linev m st l g t)) ∧ Below w.heap.size w w' := by
  have hsub : 0 ≤ t - g := by omega
  rcases hm with rfl | rfl | rfl
  · refine (line_hit 0 st l g t b w c0 c2 c3 c4 h0 h1 h2 h3 h4 _ _ hit0 (decide (l ≤ t - g)) cf3 (fun w => m3_any l (t - g) w)).mono fun e w' h => ⟨h.1.trans ?_, h.2⟩
    cases st <;> simp [selb, linev]
  · refine (line_hit 2 st l g t b w c0 c2 c3 c4 h0 h1 h2 h3 h4 _ _ hit2 ((t - g) % l != l - 1) cf4 (fun w => m4_any l (t - g) w h0 h1 hsub (by omega))).mono fun e w' h => ⟨h.1.trans ?_, h.2⟩
    cases st <;> simp [selb, linev]
  · refine (line_hit 3 st l g t b w c0 c2 c3 c4 h0 h1 h2 h3 h4 _ _ hit3 (decide ((t - g) % l < (l + 1) / 2)) cf5 (fun w => m5_any l (t - g) w h0 h1 hsub (by omega))).mono fun e w' h => ⟨h.1.trans ?_, h.2⟩
    cases st <;> simp [selb, linev]
end Go.Proofs.Ytehobiccbfkbjaa
