/- ram: the gate, watching, and calls on none. -/
import Derived.Test.YtfdeojefcfnogaaRamF
import Derived.Maps.RangeRun
namespace Go.Proofs.Ytfdeojefcfnogaa
open Go.RowKit Go.MapKept
set_option linter.unusedVariables false

def RS.gate (R : RS) (x : Bool) : RS := { R with closed := !x }
theorem RS.gate_ok {R : RS} (h : R.ok) (x : Bool) : (R.gate x).ok := ⟨h.p1, h.p2, h.b⟩
def RS.watch (R : RS) (a : Nat) : RS := if R.place a < R.size then { R with watched := fun g => if g = R.place a / 64 then true else R.watched g } else R
theorem RS.watch_ok {R : RS} (h : R.ok) (a : Nat) : (R.watch a).ok := by
  unfold RS.watch
  split
  · exact ⟨h.p1, h.p2, h.b⟩
  · exact h
def RS.watches (R : RS) (a : Nat) : Bool := decide (R.place a < R.size) && R.watched (R.place a / 64)
def RS.told (R : RS) : RS := { R with noted := fun _ => false }
theorem RS.told_ok {R : RS} (h : R.ok) : R.told.ok := ⟨h.p1, h.p2, h.b⟩
section
variable {w w' : World} {b bp bo bw bn : Nat} {pg : Nat → Option Nat} {R : RS}
theorem RamIn.turnClosed (H : RamIn w b bp bo bw bn pg R) (x : Bool) : RamIn (w.setCell ⟨b, 5, .none⟩ (.bool !x)) b bp bo bw bn pg (R.gate x) := by
  obtain ⟨f, mo, hf⟩ := H.mo
  have hne : ∀ k, k ≠ b → (w.setCell ⟨b, 5, .none⟩ (.bool !x)).heap[k]? = w.heap[k]? := fun k h => heap_set_other _ h
  exact { H with
    obj := by rw [heap_set_map, H.obj]; rfl
    mp := H.mp.of_heap (hne _ H.b_p.symm)
    mo := ⟨f, mo.of_heap (hne _ H.b_o.symm), hf⟩
    mw := MapAt.of_heap H.mw (hne _ H.b_w.symm)
    mn := MapAt.of_heap H.mn (hne _ H.b_n.symm)
    page := fun k q hq => by rw [hne q (H.q_b hq)]; exact H.page k q hq
    ok := RS.gate_ok H.ok x }
end
set_option maxHeartbeats 1000000 in
theorem gate_any {w : World} {b : Nat} {S : Nat → Prop} {R : RS} (H : Ram w b S R) (x : Bool) :
    Calls Try.prog 11 #[.pointer (some ⟨b, 0, .none⟩), .bool x] w fun e w' => e = .returned (.tuple #[]) ∧ Ram w' b S (R.gate x) ∧ Keeps S w w' := by
  obtain ⟨bp, bo, bw, bn, pg, I, hS⟩ := H
  obtain ⟨-, -, -, -, -, k5, kf, klt⟩ := I.facts
  have HI := Lib.hid I
  clear I
  go_enter Try.func11, Try.ntmps11
  go_wp2_with fail
  go_end0
  exact ⟨rfl, ⟨bp, bo, bw, bn, pg, HI.out.turnClosed x, hS⟩, (Keeps.refl S w).setCell (.inl ((hS b).2 (.inl rfl))) _⟩
theorem gate_nil (w : World) (x : Bool) : Calls Try.prog 11 #[.pointer none, .bool x] w fun e w' => e = .returned (.tuple #[]) ∧ w = w' := by
  go_enter Try.func11, Try.ntmps11
  go_wp2_with fail
  go_end0
  exact ⟨rfl, rfl⟩
set_option maxHeartbeats 1000000 in
theorem watch_any {w : World} {b : Nat} {S : Nat → Prop} {R : RS} (H : Ram w b S R) (a : Nat) (ha : a < 4294967296) :
    Calls Try.prog 14 #[.pointer (some ⟨b, 0, .none⟩), .int .u32 a] w fun e w' => e = .returned (.tuple #[]) ∧ Ram w' b S (R.watch a) ∧ Keeps S w w' := by
  obtain ⟨bp, bo, bw, bn, pg, I, hS⟩ := H
  have hpl := R.place_le a
  by_cases hs : R.place a < R.size
  · have hg : R.watch a = { R with watched := fun g => if g = R.place a / 64 then true else R.watched g } := by unfold RS.watch; rw [if_pos hs]
    have HG := Lib.hid hg
    clear hg
    have hpa := place_any I a ha
    generalize R.place a = p at *
    have HP := Lib.hid hpa
    have HI := Lib.hid I
    have hd : decide (p < R.size) = true := decide_eq_true hs
    have HD := Lib.hid hd
    clear hd hs hpa I
    go_enter Try.func14, Try.ntmps14
    go_wp2_with fail
    refine HP.out.mono ?_
    rintro e w1 ⟨rfl, n, rfl⟩
    rw [HD.out]
    have I1 := HI.out.drewN n
    obtain ⟨-, -, -, k3, -, -, kf, klt⟩ := I1.facts
    have hx : ((p : Int) / 64) = ((p / 64 : Nat) : Int) := by omega
    obtain ⟨W3, hput, M3, K3⟩ := MapAt.update I1.mw Try.underlying59 Try.underlying23 (p / 64) _ hx (.bool true)
    have M3 : SetAt W3 bw (fun m => if m = p / 64 then true else R.watched m) := M3.ext (fun m => set_put R.watched (p / 64) m)
    have H3 := Lib.hid (I1.turnWatched M3 K3)
    have HK := Lib.hid (((Keeps.refl S w).drewN n).one K3 ((hS bw).2 (.inr (.inr (.inr (.inl rfl))))))
    clear hx M3 I1 K3
    go_wp2_with fail
    go_end0
    exact ⟨rfl, by rw [HG.out]; exact ⟨bp, bo, bw, bn, pg, H3.out, hS⟩, HK.out⟩
  · have hg : R.watch a = R := by unfold RS.watch; rw [if_neg hs]
    have HG := Lib.hid hg
    clear hg
    have hpa := place_any I a ha
    generalize R.place a = p at *
    have HP := Lib.hid hpa
    have HI := Lib.hid I
    have hd : decide (p < R.size) = false := decide_eq_false hs
    have HD := Lib.hid hd
    clear hd hs hpa I
    go_enter Try.func14, Try.ntmps14
    go_wp2_with fail
    refine HP.out.mono ?_
    rintro e w1 ⟨rfl, n, rfl⟩
    rw [HD.out]
    go_wp2_with fail
    go_end0
    exact ⟨rfl, by rw [HG.out]; exact ⟨bp, bo, bw, bn, pg, HI.out.drewN n, hS⟩, (Keeps.refl S w).drewN n⟩
theorem watch_nil (w : World) (a : Int) : Calls Try.prog 14 #[.pointer none, .int .u32 a] w fun e w' => e = .returned (.tuple #[]) ∧ w = w' := by
  go_enter Try.func14, Try.ntmps14
  go_wp2_with fail
  go_returns
  exact ⟨rfl, rfl⟩
set_option maxHeartbeats 1000000 in
theorem watched_any {w : World} {b : Nat} {S : Nat → Prop} {R : RS} (H : Ram w b S R) (a : Nat) (ha : a < 4294967296) :
    Calls Try.prog 15 #[.pointer (some ⟨b, 0, .none⟩), .int .u32 a] w fun e w' => e = .returned (.bool (R.watches a)) ∧ ∃ n, w' = w.drewN n := by
  obtain ⟨bp, bo, bw, bn, pg, I, hS⟩ := H
  have hpa := Lib.hid (place_any I a ha)
  have hpl := R.place_le a
  unfold RS.watches
  obtain ⟨p, hp⟩ : ∃ p, p = R.place a := ⟨_, rfl⟩
  rw [← hp] at hpa hpl ⊢
  clear hp
  have HI := Lib.hid I
  clear I
  by_cases hs : p < R.size
  · have hd : decide (p < R.size) = true := decide_eq_true hs
    have HD := Lib.hid hd
    clear hd hs
    obtain ⟨y, hy⟩ : ∃ y, y = R.watched (p / 64) := ⟨_, rfl⟩
    rw [← hy, HD.out]
    go_enter Try.func15, Try.ntmps15
    go_wp2_with fail
    refine hpa.out.mono ?_
    rintro e w1 ⟨rfl, n, rfl⟩
    rw [HD.out]
    have I1 := HI.out.drewN n
    obtain ⟨-, -, -, k3, -, -, kf, klt⟩ := I1.facts
    have hx : ((p : Int) / 64) = ((p / 64 : Nat) : Int) := by omega
    have hl := SetAt.look I1.mw hy.symm _ hx
    have HX := Lib.hid hx
    clear hx hy I1
    go_wp2_with fail
    go_ret
    exact ⟨rfl, n, rfl⟩
  · have hd : decide (p < R.size) = false := decide_eq_false hs
    rw [hd]
    have HD := Lib.hid hd
    clear hd hs
    go_enter Try.func15, Try.ntmps15
    go_wp2_with fail
    refine hpa.out.mono ?_
    rintro e w1 ⟨rfl, n, rfl⟩
    rw [HD.out]
    go_wp2_with fail
    go_ret
    exact ⟨rfl, n, rfl⟩
theorem watched_nil (w : World) (a : Int) : Calls Try.prog 15 #[.pointer none, .int .u32 a] w fun e w' => e = .returned (.bool false) ∧ w = w' := by
  go_enter Try.func15, Try.ntmps15
  go_wp2_with fail
  go_ret
  exact ⟨rfl, rfl⟩
theorem written_nil (w : World) : Calls Try.prog 16 #[.pointer none] w fun e w' => e = .returned (.slice none 0 0) ∧ w = w' := by
  go_enter Try.func16, Try.ntmps16
  go_wp2_with fail
  go_ret
  exact ⟨rfl, rfl⟩
end Go.Proofs.Ytfdeojefcfnogaa
