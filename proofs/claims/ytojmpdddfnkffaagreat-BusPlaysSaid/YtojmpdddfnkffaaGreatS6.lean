/- Steps of a proof: RamC, RamD, RamE, RamF, RamG, BusA, BusB, BusC, BusD, together. -/
import Derived.Test.YtojmpdddfnkffaaGreatS0
import Derived.Deep.RegionHeld3
import Derived.Laws.CopyOwn
import Derived.Laws.MakeOwn
import Derived.Maps.RangeRun
import Derived.Test.YtojmpdddfnkffaaGreatS2
import Derived.Test.YtojmpdddfnkffaaGreatS3
import Derived.Test.YtojmpdddfnkffaaGreatS4
import Derived.Test.YtojmpdddfnkffaaGreatS5
import Derived.BigQuiet
import Derived.Deep.RegionWith
import Derived.Deep.QuietTactic
import Derived.Laws.BitsAll
import Derived.StillTailTactics
import Derived.Lib.BitFns
/- ram: a byte is laid. -/
set_option maxHeartbeats 4000000
set_option maxRecDepth 20000
namespace Go.Proofs.YtojmpdddfnkffaaGreat
open Go.RowKit Go.MapKept
set_option linter.unusedVariables false

theorem RS.lay_quiet (R : RS) (n v : Nat) (h : R.watched (n / 64) = false) : R.lay n v = { R with byte := fun i => if i = n then v else R.byte i } := by
 unfold RS.lay
 congr 1
 ·funext g
  by_cases e : g = n / 64
  ·rw [if_pos e, e, h]
  ·rw [if_neg e]
 ·funext k
  rw [if_neg]
  rintro ⟨_, h2⟩
  rw [h] at h2
  cases h2
theorem RS.lay_loud (R : RS) (n v : Nat) (h : R.watched (n / 64) = true) :
    R.lay n v = { R with byte := fun i => if i = n then v else R.byte i, watched := fun g => if g = n / 64 then false else R.watched g, noted := fun k => if k = n / 64 * 64 then true else R.noted k } := by
 unfold RS.lay
 congr 1
 funext k
 by_cases e : k = n / 64 * 64
 ·rw [if_pos ⟨e, h⟩, if_pos e]
 ·rw [if_neg (fun x => e x.1), if_neg e]
theorem set_del (g : Nat → Bool) (x : Nat) (m : Nat) : (if (if m = x then false else g m) then some (Value.bool true) else none) = (if m = x then none else (if g m then some (Value.bool true) else none)) := by
 by_cases e : m = x <;> simp [e]
theorem set_put (g : Nat → Bool) (x : Nat) (m : Nat) : (if (if m = x then true else g m) then some (Value.bool true) else none) = (if m = x then some (Value.bool true) else (if g m then some (Value.bool true) else none)) := by
 by_cases e : m = x <;> simp [e]

theorem Keeps.one {S : Nat → Prop} {a b c : World} {r : Nat} (h : Keeps S a b) (k : Keeps (· = r) b c) (hr : S r) : Keeps S a c := h.andThen k fun i _ e => by rw [e]; exact hr
theorem SetAt.look {w : World} {g : Nat → Bool} {r n : Nat} {v : Bool} (h : SetAt w r g) (hv : g n = v) (x : Int) (hx : x = (n : Int)) : (Instr.lookup 68 (.map (some r)) (.int .u32 x) false).run Tryz.prog w = .ok (.bool v) w := by
 rw [← hv]; exact SetAt.lookup h x hx
theorem MarkAt.look {w : World} {g : Nat → Bool} {r n : Nat} {v : Bool} (h : MarkAt w r g) (hv : g n = v) (x : Int) (hx : x = (n : Int)) : (Instr.lookup 68 (.map (some r)) (.int .u32 x) false).run Tryz.prog w = .ok (.bool v) w := by
 rw [← hv]; exact MarkAt.lookup h x hx

theorem put_old {w : World} {b bp bo bw bn : Nat} {pg : Nat → Option Nat} {R : RS} (H : RamIn w b bp bo bw bn pg R) (a v : Nat) (ha : a < 4294967296) (hv : v < 256) (hs : R.place a < R.size) (q : Nat) (hq : pg (R.place a / 4096) = some q) :
    Calls Tryz.prog 54 #[.pointer (some ⟨b, 0, .none⟩), .int .u32 a, .int .u8 v] w fun e w' => e = .returned (.tuple #[]) ∧ RamIn w' b bp bo bw bn pg (R.put a v) ∧ Keeps (Owned b bp bo bw bn pg) w w' := by
 obtain ⟨-, k1, -, -, -, -, kf, klt⟩ := H.facts
 have hpl := R.place_le a
 have hsz := RS.size_le H.ok
 have hpa := place_any H a ha
 have hg : R.put a v = R.lay (R.place a) v := by unfold RS.put; rw [if_pos hs]
 have HG := Lib.hid hg
 clear hg
 generalize R.place a = p at *
 have HP := Lib.hid hpa
 clear hpa
 have hd : decide (p < R.size) = true := decide_eq_true hs
 have hx : ((p : Int) / 4096) = ((p / 4096 : Nat) : Int) := by omega
 have hc := page_cell (H.page _ _ hq) (Nat.mod_lt p (show 0 < 4096 by decide))
 have hf : ∀ k, w.frozen? ⟨q, k, .none⟩ = false := fun k => free_at (H.page _ _ hq)
 go_enter Tryz.func54, Tryz.ntmps54
 go_wp2_with fail
 refine HP.out.mono ?_
 rintro e w1 ⟨rfl, n, rfl⟩
 rw [hd]
 have hl := pages_lookup (H.mp.drewN n) _ hx
 rw [hq, Option.map_some] at hl
 have HQ := Lib.hid hq
 have HX := Lib.hid hx
 clear hx hd hq
 go_upto_region 7 with (fail)
 have H1 := (H.drewN n).store p v q hv HQ.out
 have K1 : Keeps (Owned b bp bo bw bn pg) w ((w.drewN n).setCell ⟨q, p % 4096, .none⟩ (.int .u8 v)) := ((Keeps.refl _ w).drewN n).setCell (.inl (.inr (.inr (.inr (.inr (.inr ⟨_, HQ.out⟩)))))) _
 generalize (w.drewN n).setCell ⟨q, p % 4096, .none⟩ (.int .u8 v) = W1 at *
 clear hl hc hf k1 kf klt
 obtain ⟨-, -, -, k3, k4, -, kf, klt⟩ := H1.facts
 have hx : ((p : Int) / 64) = ((p / 64 : Nat) : Int) := by omega
 cases hw : R.watched (p / 64)
 ·have hl := SetAt.look H1.mw hw _ hx
  have HW := Lib.hid hw
  clear hx hw
  go_wp2_with fail
  go_end0
  exact ⟨rfl, by rw [HG.out, RS.lay_quiet _ _ _ HW.out]; exact H1, K1⟩
 ·have hl := SetAt.look H1.mw hw _ hx
  have HW := Lib.hid hw
  have hx2 : ((p : Int) / 64 * 64) = ((p / 64 * 64 : Nat) : Int) := by omega
  obtain ⟨W2, hdel, M2, K2⟩ := MapAt.delete H1.mw Tryz.underlying68 Tryz.underlying42 (p / 64) _ hx 42 0
  have M2 : SetAt W2 bw (fun m => if m = p / 64 then false else R.watched m) := M2.ext (fun m => set_del R.watched (p / 64) m)
  have H2 := H1.turnWatched M2 K2
  obtain ⟨W3, hput, M3, K3⟩ := MapAt.update H2.mn Tryz.underlying68 Tryz.underlying42 (p / 64 * 64) _ hx2 (.bool true)
  have M3 : SetAt W3 bn (fun m => if m = p / 64 * 64 then true else R.noted m) := M3.ext (fun m => set_put R.noted (p / 64 * 64) m)
  have H3 := H2.turnNoted M3 K3
  obtain ⟨-, -, -, -, q4, -, -, -⟩ := H2.facts
  clear hx hx2 hw M2 M3 H2
  go_wp2_with fail
  go_end0
  refine ⟨rfl, by rw [HG.out, RS.lay_loud _ _ _ HW.out]; exact H3, ?_⟩
  exact (K1.one K2 (.inr (.inr (.inr (.inl rfl))))).one K3 (.inr (.inr (.inr (.inr (.inl rfl)))))
theorem put_new {w : World} {b bp bo bw bn : Nat} {pg : Nat → Option Nat} {R : RS} (H : RamIn w b bp bo bw bn pg R) (a v : Nat) (ha : a < 4294967296) (hv : v < 256) (hs : R.place a < R.size) (hq : pg (R.place a / 4096) = .none) :
    Calls Tryz.prog 54 #[.pointer (some ⟨b, 0, .none⟩), .int .u32 a, .int .u8 v] w fun e w' => e = .returned (.tuple #[]) ∧ RamIn w' b bp bo bw bn (fun m => if m = R.place a / 4096 then some w.heap.size else pg m) (R.put a v) ∧ Keeps (Owned b bp bo bw bn pg) w w' := by
 obtain ⟨-, k1, -, -, -, -, kf, klt⟩ := H.facts
 have hpl := R.place_le a
 have hsz := RS.size_le H.ok
 have hpa := place_any H a ha
 have hg : R.put a v = R.lay (R.place a) v := by unfold RS.put; rw [if_pos hs]
 have HG := Lib.hid hg
 clear hg
 generalize R.place a = p at *
 have HP := Lib.hid hpa
 clear hpa
 have hd : decide (p < R.size) = true := decide_eq_true hs
 have hx : ((p : Int) / 4096) = ((p / 4096 : Nat) : Int) := by omega
 have hin : p / 4096 < R.pages := by unfold RS.size at hs; omega
 go_enter Tryz.func54, Tryz.ntmps54
 go_wp2_with fail
 refine HP.out.mono ?_
 rintro e w1 ⟨rfl, n, rfl⟩
 rw [hd]
 have hl := pages_lookup (H.mp.drewN n) _ hx
 rw [hq, Option.map_none] at hl
 have HQ := Lib.hid hq
 have HX := Lib.hid hx
 clear hx hd hq
 have hzp := zero_page
 go_upto_region 5 with (fail)
 have hx := HX.out
 obtain ⟨W0, hput, M0, K0⟩ := MapAt.update ((H.mp.drewN n).alloc (.cells zeroCells 158)) Tryz.underlying67 Tryz.underlying42 (p / 4096) _ hx (.pointer (some ⟨w.heap.size, 0, .none⟩))
 have H0 : RamIn W0 b bp bo bw bn (fun m => if m = p / 4096 then some w.heap.size else pg m) R := (H.drewN n).newPage (p / 4096) HQ.out hin M0 K0
 have j1 := (((H.drewN n).alloc (.cells zeroCells 158)).facts).2.1
 have hsame : (fun m => if m = p / 4096 then some w.heap.size else pg m) (p / 4096) = some w.heap.size := by simp
 have hpage := H0.page _ _ hsame
 have hc := page_cell hpage (Nat.mod_lt p (show 0 < 4096 by decide))
 have hf : ∀ k, W0.frozen? ⟨w.heap.size, k, .none⟩ = false := fun k => free_at hpage
 have j2 := H0.facts.2.2.2.2.2.2.2
 have HS := Lib.hid hsame
 clear hl hx M0 hpage hsame k1 kf klt
 go_upto_region 7 with (fail)
 have hsame := HS.out
 have H1 := H0.store p v w.heap.size hv hsame
 have K1 : Keeps (Owned b bp bo bw bn pg) w (W0.setCell ⟨w.heap.size, p % 4096, .none⟩ (.int .u8 v)) :=
  ((((Keeps.refl _ w).drewN n).alloc _).one K0 (.inr (.inl rfl))).setCell (.inr (Nat.le_refl _)) _
 generalize W0.setCell ⟨w.heap.size, p % 4096, .none⟩ (.int .u8 v) = W1 at *
 clear hc hf j1 j2 hzp hsame
 obtain ⟨-, -, -, k3, k4, -, kf, klt⟩ := H1.facts
 have hx : ((p : Int) / 64) = ((p / 64 : Nat) : Int) := by omega
 cases hw : R.watched (p / 64)
 ·have hl := SetAt.look H1.mw hw _ hx
  have HW := Lib.hid hw
  clear hx hw
  go_wp2_with fail
  go_end0
  exact ⟨rfl, by rw [HG.out, RS.lay_quiet _ _ _ HW.out]; exact H1, K1⟩
 ·have hl := SetAt.look H1.mw hw _ hx
  have HW := Lib.hid hw
  have hx2 : ((p : Int) / 64 * 64) = ((p / 64 * 64 : Nat) : Int) := by omega
  obtain ⟨W2, hdel, M2, K2⟩ := MapAt.delete H1.mw Tryz.underlying68 Tryz.underlying42 (p / 64) _ hx 42 0
  have M2 : SetAt W2 bw (fun m => if m = p / 64 then false else R.watched m) := M2.ext (fun m => set_del R.watched (p / 64) m)
  have H2 := H1.turnWatched M2 K2
  obtain ⟨W3, hput, M3, K3⟩ := MapAt.update H2.mn Tryz.underlying68 Tryz.underlying42 (p / 64 * 64) _ hx2 (.bool true)
  have M3 : SetAt W3 bn (fun m => if m = p / 64 * 64 then true else R.noted m) := M3.ext (fun m => set_put R.noted (p / 64 * 64) m)
  have H3 := H2.turnNoted M3 K3
  obtain ⟨-, -, -, -, q4, -, -, -⟩ := H2.facts
  clear hx hx2 hw M2 M3 H2
  go_wp2_with fail
  go_end0
  refine ⟨rfl, by rw [HG.out, RS.lay_loud _ _ _ HW.out]; exact H3, ?_⟩
  exact (K1.one K2 (.inr (.inr (.inr (.inl rfl))))).one K3 (.inr (.inr (.inr (.inr (.inl rfl)))))
end Go.Proofs.YtojmpdddfnkffaaGreat

/- ram: Read, Write. -/
namespace Go.Proofs.YtojmpdddfnkffaaGreat
open Go.RowKit Go.MapKept
set_option linter.unusedVariables false

theorem Ram.lt {w : World} {b : Nat} {S : Nat → Prop} {R : RS} (H : Ram w b S R) {k : Nat} (h : S k) : k < w.heap.size := by
 obtain ⟨bp, bo, bw, bn, pg, I, hS⟩ := H
 exact Owned.lt I ((hS k).1 h)
theorem Ram.own {w : World} {b : Nat} {S : Nat → Prop} {R : RS} (H : Ram w b S R) : S b := by
 obtain ⟨bp, bo, bw, bn, pg, I, hS⟩ := H
 exact (hS b).2 (.inl rfl)
theorem Ram.isok {w : World} {b : Nat} {S : Nat → Prop} {R : RS} (H : Ram w b S R) : R.ok := by
 obtain ⟨bp, bo, bw, bn, pg, I, hS⟩ := H
 exact I.ok
theorem Ram.keeps {w w' : World} {b : Nat} {S T : Nat → Prop} {R : RS} (H : Ram w b S R) (hk : Keeps T w w') (hn : ∀ k, S k → ¬ T k) : Ram w' b S R := by
 obtain ⟨bp, bo, bw, bn, pg, I, hS⟩ := H
 exact ⟨bp, bo, bw, bn, pg, I.keeps hk fun k hk' => hn k ((hS k).2 hk'), hS⟩
theorem Ram.below {w w' : World} {b : Nat} {S : Nat → Prop} {R : RS} (H : Ram w b S R) (hb : Below w.heap.size w w') : Ram w' b S R :=
 H.keeps (Keeps.ofBelow (S := fun _ => False) hb) fun _ _ h => h
theorem Ram.drewN {w : World} {b : Nat} {S : Nat → Prop} {R : RS} (H : Ram w b S R) (n : Nat) : Ram (w.drewN n) b S R := H.keeps ((Keeps.refl (fun _ => False) _).drewN n) fun _ _ h => h
theorem Ram.alloc {w : World} {b : Nat} {S : Nat → Prop} {R : RS} (H : Ram w b S R) (o : Obj) : Ram (w.alloc o) b S R := H.keeps ((Keeps.refl (fun _ => False) _).alloc o) fun _ _ h => h

theorem put_out {w : World} {b bp bo bw bn : Nat} {pg : Nat → Option Nat} {R : RS} (H : RamIn w b bp bo bw bn pg R) (a v : Nat) (ha : a < 4294967296) (hs : ¬ R.place a < R.size) :
    Calls Tryz.prog 54 #[.pointer (some ⟨b, 0, .none⟩), .int .u32 a, .int .u8 v] w fun e w' => e = .returned (.tuple #[]) ∧ ∃ n, w' = w.drewN n := by
 have hpa := place_any H a ha
 have HP := Lib.hid hpa
 clear hpa
 have hd : decide (R.place a < R.size) = false := decide_eq_false hs
 have HD := Lib.hid hd
 clear hd
 go_enter Tryz.func54, Tryz.ntmps54
 go_wp2_with fail
 refine HP.out.mono ?_
 rintro e w1 ⟨rfl, n, rfl⟩
 rw [HD.out]
 go_wp2_with fail
 go_returns
 exact ⟨rfl, n, rfl⟩
theorem put_any {w : World} {b : Nat} {S : Nat → Prop} {R : RS} (H : Ram w b S R) (a v : Nat) (ha : a < 4294967296) (hv : v < 256) :
    Calls Tryz.prog 54 #[.pointer (some ⟨b, 0, .none⟩), .int .u32 a, .int .u8 v] w fun e w' => e = .returned (.tuple #[]) ∧ ∃ S', Ram w' b S' (R.put a v) ∧ Moves S S' w w' := by
 obtain ⟨bp, bo, bw, bn, pg, I, hS⟩ := H
 have mono : ∀ {T : Nat → Prop} {w' : World}, Keeps (Owned b bp bo bw bn pg) w w' → Keeps S w w' := fun h => h.mono fun k _ hk => (hS k).2 hk
 by_cases hs : R.place a < R.size
 ·rcases hq : pg (R.place a / 4096) with _ | q
  ·refine (put_new I a v ha hv hs hq).mono ?_
   rintro e w' ⟨rfl, I', K⟩
   refine ⟨rfl, _, ⟨bp, bo, bw, bn, _, I', fun k => Iff.rfl⟩, mono (T := S) K, fun k hk => ?_⟩
   rcases Owned.newPage _ hk with h | h
   ·exact .inl ((hS k).2 h)
   ·exact .inr (Nat.le_of_eq h.symm)
  ·refine (put_old I a v ha hv hs q hq).mono ?_
   rintro e w' ⟨rfl, I', K⟩
   exact ⟨rfl, S, ⟨bp, bo, bw, bn, pg, I', hS⟩, mono (T := S) K, fun k hk => .inl hk⟩
 ·refine (put_out I a v ha hs).mono ?_
  rintro e w' ⟨rfl, n, rfl⟩
  refine ⟨rfl, S, ⟨bp, bo, bw, bn, pg, ?_, hS⟩, Moves.drewN S w n⟩
  have : R.put a v = R := by unfold RS.put; rw [if_neg hs]
  rw [this]; exact I.drewN n
theorem put_anyv {w : World} {b : Nat} {S : Nat → Prop} {R : RS} (H : Ram w b S R) (a v : Nat) (x y : Int) (hx : x = (a : Int)) (hy : y = (v : Int)) (ha : a < 4294967296) (hv : v < 256) :
    Calls Tryz.prog 54 #[.pointer (some ⟨b, 0, .none⟩), .int .u32 x, .int .u8 y] w fun e w' => e = .returned (.tuple #[]) ∧ ∃ S', Ram w' b S' (R.put a v) ∧ Moves S S' w w' := by
 rw [hx, hy]; exact put_any H a v ha hv
theorem get_anyv {w : World} {b : Nat} {S : Nat → Prop} {R : RS} (H : Ram w b S R) (a : Nat) (x : Int) (hx : x = (a : Int)) (ha : a < 4294967296) :
    Calls Tryz.prog 55 #[.pointer (some ⟨b, 0, .none⟩), .int .u32 x] w fun e w' => e = .returned (.int .u8 (R.get a : Nat)) ∧ ∃ n, w' = w.drewN n := by
 obtain ⟨bp, bo, bw, bn, pg, I, hS⟩ := H
 rw [hx]; exact get_any I a ha
theorem place_anyv {w : World} {b : Nat} {S : Nat → Prop} {R : RS} (H : Ram w b S R) (a : Nat) (x : Int) (hx : x = (a : Int)) (ha : a < 4294967296) :
    Calls Tryz.prog 53 #[.pointer (some ⟨b, 0, .none⟩), .int .u32 x] w fun e w' => e = .returned (.tuple #[.int .u32 (R.place a : Nat), .bool (decide (R.place a < R.size))]) ∧ ∃ n, w' = w.drewN n := by
 obtain ⟨bp, bo, bw, bn, pg, I, hS⟩ := H
 rw [hx]; exact place_any I a ha

def at32 (a i : Nat) : Nat := (a + i) % 4294967296
theorem at32_lt (a i : Nat) : at32 a i < 4294967296 := Nat.mod_lt _ (by decide)
def RS.read (R : RS) (a : Nat) : Nat → Nat
 | 0 => 0
 | k + 1 => R.read a k + R.get (at32 a k) * 256 ^ k
theorem RS.read_lt {R : RS} (h : R.ok) (a k : Nat) : R.read a k < 256 ^ k := by
 induction k with
 | zero => simp [RS.read]
 | succ k ih =>
  have h1 := RS.get_lt h (at32 a k)
  rw [RS.read, Nat.pow_succ]
  have h2 : R.get (at32 a k) * 256 ^ k ≤ 255 * 256 ^ k := Nat.mul_le_mul_right _ (by omega)
  omega
def RS.write (R : RS) (a v : Nat) : Nat → RS
 | 0 => R
 | k + 1 => (R.write a v k).wr (at32 a k) (v / 256 ^ k % 256)
theorem or_shift (v b k : Nat) (hv : v < 256 ^ k) (hb : b < 256) (hk : k < 4) : bits .or .u32 (v : Int) ((b : Int) * 2 ^ (8 * k) % 4294967296) = ((v + b * 256 ^ k : Nat) : Int) := by
 have hp : (256 : Nat) ^ k = 2 ^ (8 * k) := by rw [Nat.pow_mul]
 have hle : b * 256 ^ k ≤ 255 * 256 ^ k := Nat.mul_le_mul_right _ (by omega)
 have h3 : 256 ^ k ≤ 256 ^ 3 := Nat.pow_le_pow_right (by decide) (by omega)
 have e : ((b : Int) * 2 ^ (8 * k) % 4294967296) = ((b * 256 ^ k : Nat) : Int) := by
  rw [hp]
  rw [hp] at hle h3
  rw [Int.emod_eq_of_lt]
  ·simp
  ·exact Int.mul_nonneg (by omega) (Int.pow_nonneg (by decide))
  ·have : ((b : Int) * 2 ^ (8 * k)) = ((b * 2 ^ (8 * k) : Nat) : Int) := by simp
   rw [this]; omega
 rw [e, u32_or_nat _ _ (by omega) (by omega), Nat.or_comm]
 congr 1
 rw [Nat.add_comm, hp]
 rw [hp] at hv
 exact nat_join (8 * k) _ _ (by simp) hv

theorem read_1 {w : World} {b : Nat} {S : Nat → Prop} {R : RS} (H : Ram w b S R) (a : Nat) (ha : a < 4294967296) :
    Calls Tryz.prog 15 #[.pointer (some ⟨b, 0, .none⟩), .int .u32 a, .int .i64 1] w fun e w' => e = .returned (.tuple #[.int .u32 (R.read a 1 : Nat), .int .i64 0]) ∧ ∃ n, w' = w.drewN n := by
 go_enter Tryz.func15, Tryz.ntmps15
 go_wp2_with fail
 go_loopw [8, 26] (fun v i wr => ∃ k : Nat, k ≤ 1 ∧ i = .int .u32 k ∧ v = .int .u32 (R.read a k : Nat) ∧ ∃ n, wr = w.drewN n) (fun _ i _ => 1 - (intOf i).toNat)
 case atStart => exact ⟨0, by omega, rfl, rfl, 0, rfl⟩
 case round =>
  obtain ⟨k, hk, rfl, rfl, n, rfl⟩ := hrel
  by_cases hlt : k < 1
  ·go_wp2_with fail
   refine (get_anyv (H.drewN n) (at32 a k) _ (by unfold at32; omega) (at32_lt _ _)).mono ?_
   rintro e w1 ⟨rfl, n2, rfl⟩
   have hb := RS.get_lt H.isok (at32 a k)
   have hr := RS.read_lt H.isok a k
   have hr2 : 256 ^ k ≤ 256 ^ 3 := Nat.pow_le_pow_right (by decide) (by omega)
   have HR := Lib.hid (show R.read a (k + 1) = R.read a k + R.get (at32 a k) * 256 ^ k from rfl)
   have HO := Lib.hid (or_shift (R.read a k) (R.get (at32 a k)) k hr hb (by omega))
   generalize R.read a k = x at *
   generalize R.get (at32 a k) = y at *
   go_wp2_with fail
   go_roundw
   case rel => exact ⟨k + 1, by omega, by go_num, by rw [HR.out, HO.out], _, rfl⟩
   case measure => (simp [intOf]) <;> omega
  ·have hk2 : k = 1 := by omega
   have HK := Lib.hid hk2
   clear hk2
   go_wp2_with fail
   go_ret2
   exact ⟨by rw [HK.out]; rfl, n, rfl⟩
theorem read_2 {w : World} {b : Nat} {S : Nat → Prop} {R : RS} (H : Ram w b S R) (a : Nat) (ha : a < 4294967296) :
    Calls Tryz.prog 15 #[.pointer (some ⟨b, 0, .none⟩), .int .u32 a, .int .i64 2] w fun e w' => e = .returned (.tuple #[.int .u32 (R.read a 2 : Nat), .int .i64 0]) ∧ ∃ n, w' = w.drewN n := by
 go_enter Tryz.func15, Tryz.ntmps15
 go_wp2_with fail
 go_loopw [8, 26] (fun v i wr => ∃ k : Nat, k ≤ 2 ∧ i = .int .u32 k ∧ v = .int .u32 (R.read a k : Nat) ∧ ∃ n, wr = w.drewN n) (fun _ i _ => 2 - (intOf i).toNat)
 case atStart => exact ⟨0, by omega, rfl, rfl, 0, rfl⟩
 case round =>
  obtain ⟨k, hk, rfl, rfl, n, rfl⟩ := hrel
  by_cases hlt : k < 2
  ·go_wp2_with fail
   refine (get_anyv (H.drewN n) (at32 a k) _ (by unfold at32; omega) (at32_lt _ _)).mono ?_
   rintro e w1 ⟨rfl, n2, rfl⟩
   have hb := RS.get_lt H.isok (at32 a k)
   have hr := RS.read_lt H.isok a k
   have hr2 : 256 ^ k ≤ 256 ^ 3 := Nat.pow_le_pow_right (by decide) (by omega)
   have HR := Lib.hid (show R.read a (k + 1) = R.read a k + R.get (at32 a k) * 256 ^ k from rfl)
   have HO := Lib.hid (or_shift (R.read a k) (R.get (at32 a k)) k hr hb (by omega))
   generalize R.read a k = x at *
   generalize R.get (at32 a k) = y at *
   go_wp2_with fail
   go_roundw
   case rel => exact ⟨k + 1, by omega, by go_num, by rw [HR.out, HO.out], _, rfl⟩
   case measure => (simp [intOf]) <;> omega
  ·have hk2 : k = 2 := by omega
   have HK := Lib.hid hk2
   clear hk2
   go_wp2_with fail
   go_ret2
   exact ⟨by rw [HK.out]; rfl, n, rfl⟩
theorem read_4 {w : World} {b : Nat} {S : Nat → Prop} {R : RS} (H : Ram w b S R) (a : Nat) (ha : a < 4294967296) :
    Calls Tryz.prog 15 #[.pointer (some ⟨b, 0, .none⟩), .int .u32 a, .int .i64 4] w fun e w' => e = .returned (.tuple #[.int .u32 (R.read a 4 : Nat), .int .i64 0]) ∧ ∃ n, w' = w.drewN n := by
 go_enter Tryz.func15, Tryz.ntmps15
 go_wp2_with fail
 go_loopw [8, 26] (fun v i wr => ∃ k : Nat, k ≤ 4 ∧ i = .int .u32 k ∧ v = .int .u32 (R.read a k : Nat) ∧ ∃ n, wr = w.drewN n) (fun _ i _ => 4 - (intOf i).toNat)
 case atStart => exact ⟨0, by omega, rfl, rfl, 0, rfl⟩
 case round =>
  obtain ⟨k, hk, rfl, rfl, n, rfl⟩ := hrel
  by_cases hlt : k < 4
  ·go_wp2_with fail
   refine (get_anyv (H.drewN n) (at32 a k) _ (by unfold at32; omega) (at32_lt _ _)).mono ?_
   rintro e w1 ⟨rfl, n2, rfl⟩
   have hb := RS.get_lt H.isok (at32 a k)
   have hr := RS.read_lt H.isok a k
   have hr2 : 256 ^ k ≤ 256 ^ 3 := Nat.pow_le_pow_right (by decide) (by omega)
   have HR := Lib.hid (show R.read a (k + 1) = R.read a k + R.get (at32 a k) * 256 ^ k from rfl)
   have HO := Lib.hid (or_shift (R.read a k) (R.get (at32 a k)) k hr hb (by omega))
   generalize R.read a k = x at *
   generalize R.get (at32 a k) = y at *
   go_wp2_with fail
   go_roundw
   case rel => exact ⟨k + 1, by omega, by go_num, by rw [HR.out, HO.out], _, rfl⟩
   case measure => (simp [intOf]) <;> omega
  ·have hk2 : k = 4 := by omega
   have HK := Lib.hid hk2
   clear hk2
   go_wp2_with fail
   go_ret2
   exact ⟨by rw [HK.out]; rfl, n, rfl⟩
theorem read_any {w : World} {b : Nat} {S : Nat → Prop} {R : RS} (H : Ram w b S R) (a : Nat) (ha : a < 4294967296) (s : Nat) (hs : s = 1 ∨ s = 2 ∨ s = 4) :
    Calls Tryz.prog 15 #[.pointer (some ⟨b, 0, .none⟩), .int .u32 a, .int .i64 (s : Nat)] w fun e w' => e = .returned (.tuple #[.int .u32 (R.read a s : Nat), .int .i64 0]) ∧ ∃ n, w' = w.drewN n := by
 rcases hs with rfl | rfl | rfl
 ·exact read_1 H a ha
 ·exact read_2 H a ha
 ·exact read_4 H a ha
theorem shr_byte (v k : Nat) : ((v : Int) / 2 ^ (8 * k) % 256) = ((v / 256 ^ k % 256 : Nat) : Int) := by
 have hp : (256 : Nat) ^ k = 2 ^ (8 * k) := by rw [Nat.pow_mul]
 rw [hp]; simp
theorem wr_no (R : RS) (a v : Nat) (h : ¬ (R.place a < R.size ∧ R.only (R.place a / 4096) = false)) : R.wr a v = R := by unfold RS.wr; rw [if_neg h]
theorem wr_yes (R : RS) (a v : Nat) (h1 : R.place a < R.size) (h2 : R.only (R.place a / 4096) = false) : R.wr a v = R.put a v := by unfold RS.wr RS.put; rw [if_pos ⟨h1, h2⟩, if_pos h1]

theorem write_1 {w : World} {b : Nat} {S : Nat → Prop} {R : RS} (H : Ram w b S R) (a v : Nat) (ha : a < 4294967296) (hv : v < 4294967296) :
    Calls Tryz.prog 14 #[.pointer (some ⟨b, 0, .none⟩), .int .u32 a, .int .i64 1, .int .u32 v] w fun e w' => e = .returned (.int .i64 0) ∧ ∃ S', Ram w' b S' (R.write a v 1) ∧ Moves S S' w w' := by
 go_enter Tryz.func14, Tryz.ntmps14
 go_wp2_with fail
 go_loopw [28] (fun i wr => ∃ k : Nat, k ≤ 1 ∧ i = .int .u32 k ∧ ∃ S', Ram wr b S' (R.write a v k) ∧ Moves S S' w wr) (fun i _ => 1 - (intOf i).toNat)
 case atStart => exact ⟨0, by omega, rfl, S, H, Moves.refl S w⟩
 case round =>
  obtain ⟨k, hk, rfl, S', H', M'⟩ := hrel
  by_cases hlt : k < 1
  ·have HW := Lib.hid (show R.write a v (k + 1) = (R.write a v k).wr (at32 a k) (v / 256 ^ k % 256) from rfl)
   have HN := Lib.hid (wr_no (R.write a v k) (at32 a k) (v / 256 ^ k % 256))
   have HY := Lib.hid (wr_yes (R.write a v k) (at32 a k) (v / 256 ^ k % 256))
   have hpl := RS.place_le (R.write a v k) (at32 a k)
   have hal := at32_lt a k
   have HB := Lib.hid (shr_byte v k)
   go_wp2_with fail
   refine (place_anyv H' (at32 a k) _ (by unfold at32; omega) (at32_lt _ _)).mono ?_
   rintro e w1 ⟨rfl, n2, rfl⟩
   have H2 := H'.drewN n2
   have M2 := M'.trans (Moves.drewN S' _ n2)
   obtain ⟨bp, bo, bw, bn, pg, I, hS⟩ := H2
   obtain ⟨-, -, c2, -, -, -, -, klt⟩ := I.facts
   have mo := I.mo
   have H2 : Ram _ b S' (R.write a v k) := ⟨bp, bo, bw, bn, pg, I, hS⟩
   clear I hS H' M'
   generalize (R.write a v k).place (at32 a k) = p at *
   by_cases hs : p < (R.write a v k).size
   ·have hd : decide (p < (R.write a v k).size) = true := decide_eq_true hs
    rw [hd]
    clear hd
    have hx : ((p : Int) / 4096) = ((p / 4096 : Nat) : Int) := by omega
    cases ho : (R.write a v k).only (p / 4096)
    ·have hl := MarkAt.look mo ho _ hx
     have HO := Lib.hid ho
     clear hx ho mo
     go_wp2_with fail
     refine (put_anyv H2 (at32 a k) (v / 256 ^ k % 256) _ _ (by unfold at32; omega) HB.out (at32_lt _ _) (Nat.mod_lt _ (by decide))).mono ?_
     rintro e w1 ⟨rfl, S3, H3, M3⟩
     rw [← HY.out hs HO.out, ← HW.out] at H3
     have M4 := M2.trans M3
     go_wp2_with fail
     go_roundw
     case rel => exact ⟨k + 1, by omega, by go_num, S3, H3, M4⟩
     case measure => (simp [intOf]) <;> omega
    ·have hl := MarkAt.look mo ho _ hx
     have HO := Lib.hid ho
     clear hx ho mo
     have H3 : Ram (wr.drewN n2) b S' (R.write a v (k + 1)) := by rw [HW.out, HN.out fun h => by have := HO.out; rw [this] at h; cases h.2]; exact H2
     go_wp2_with fail
     go_roundw
     case rel => exact ⟨k + 1, by omega, by go_num, S', H3, M2⟩
     case measure => (simp [intOf]) <;> omega
   ·have hd : decide (p < (R.write a v k).size) = false := decide_eq_false hs
    rw [hd]
    clear hd
    have H3 : Ram (wr.drewN n2) b S' (R.write a v (k + 1)) := by rw [HW.out, HN.out fun h => hs h.1]; exact H2
    go_wp2_with fail
    go_roundw
    case rel => exact ⟨k + 1, by omega, by go_num, S', H3, M2⟩
    case measure => (simp [intOf]) <;> omega
  ·have hk2 : k = 1 := by omega
   have HK := Lib.hid hk2
   clear hk2
   go_wp2_with fail
   go_returns
   exact ⟨rfl, S', by rw [← HK.out]; exact H', M'⟩
theorem write_2 {w : World} {b : Nat} {S : Nat → Prop} {R : RS} (H : Ram w b S R) (a v : Nat) (ha : a < 4294967296) (hv : v < 4294967296) :
    Calls Tryz.prog 14 #[.pointer (some ⟨b, 0, .none⟩), .int .u32 a, .int .i64 2, .int .u32 v] w fun e w' => e = .returned (.int .i64 0) ∧ ∃ S', Ram w' b S' (R.write a v 2) ∧ Moves S S' w w' := by
 go_enter Tryz.func14, Tryz.ntmps14
 go_wp2_with fail
 go_loopw [28] (fun i wr => ∃ k : Nat, k ≤ 2 ∧ i = .int .u32 k ∧ ∃ S', Ram wr b S' (R.write a v k) ∧ Moves S S' w wr) (fun i _ => 2 - (intOf i).toNat)
 case atStart => exact ⟨0, by omega, rfl, S, H, Moves.refl S w⟩
 case round =>
  obtain ⟨k, hk, rfl, S', H', M'⟩ := hrel
  by_cases hlt : k < 2
  ·have HW := Lib.hid (show R.write a v (k + 1) = (R.write a v k).wr (at32 a k) (v / 256 ^ k % 256) from rfl)
   have HN := Lib.hid (wr_no (R.write a v k) (at32 a k) (v / 256 ^ k % 256))
   have HY := Lib.hid (wr_yes (R.write a v k) (at32 a k) (v / 256 ^ k % 256))
   have hpl := RS.place_le (R.write a v k) (at32 a k)
   have hal := at32_lt a k
   have HB := Lib.hid (shr_byte v k)
   go_wp2_with fail
   refine (place_anyv H' (at32 a k) _ (by unfold at32; omega) (at32_lt _ _)).mono ?_
   rintro e w1 ⟨rfl, n2, rfl⟩
   have H2 := H'.drewN n2
   have M2 := M'.trans (Moves.drewN S' _ n2)
   obtain ⟨bp, bo, bw, bn, pg, I, hS⟩ := H2
   obtain ⟨-, -, c2, -, -, -, -, klt⟩ := I.facts
   have mo := I.mo
   have H2 : Ram _ b S' (R.write a v k) := ⟨bp, bo, bw, bn, pg, I, hS⟩
   clear I hS H' M'
   generalize (R.write a v k).place (at32 a k) = p at *
   by_cases hs : p < (R.write a v k).size
   ·have hd : decide (p < (R.write a v k).size) = true := decide_eq_true hs
    rw [hd]
    clear hd
    have hx : ((p : Int) / 4096) = ((p / 4096 : Nat) : Int) := by omega
    cases ho : (R.write a v k).only (p / 4096)
    ·have hl := MarkAt.look mo ho _ hx
     have HO := Lib.hid ho
     clear hx ho mo
     go_wp2_with fail
     refine (put_anyv H2 (at32 a k) (v / 256 ^ k % 256) _ _ (by unfold at32; omega) HB.out (at32_lt _ _) (Nat.mod_lt _ (by decide))).mono ?_
     rintro e w1 ⟨rfl, S3, H3, M3⟩
     rw [← HY.out hs HO.out, ← HW.out] at H3
     have M4 := M2.trans M3
     go_wp2_with fail
     go_roundw
     case rel => exact ⟨k + 1, by omega, by go_num, S3, H3, M4⟩
     case measure => (simp [intOf]) <;> omega
    ·have hl := MarkAt.look mo ho _ hx
     have HO := Lib.hid ho
     clear hx ho mo
     have H3 : Ram (wr.drewN n2) b S' (R.write a v (k + 1)) := by rw [HW.out, HN.out fun h => by have := HO.out; rw [this] at h; cases h.2]; exact H2
     go_wp2_with fail
     go_roundw
     case rel => exact ⟨k + 1, by omega, by go_num, S', H3, M2⟩
     case measure => (simp [intOf]) <;> omega
   ·have hd : decide (p < (R.write a v k).size) = false := decide_eq_false hs
    rw [hd]
    clear hd
    have H3 : Ram (wr.drewN n2) b S' (R.write a v (k + 1)) := by rw [HW.out, HN.out fun h => hs h.1]; exact H2
    go_wp2_with fail
    go_roundw
    case rel => exact ⟨k + 1, by omega, by go_num, S', H3, M2⟩
    case measure => (simp [intOf]) <;> omega
  ·have hk2 : k = 2 := by omega
   have HK := Lib.hid hk2
   clear hk2
   go_wp2_with fail
   go_returns
   exact ⟨rfl, S', by rw [← HK.out]; exact H', M'⟩
theorem write_4 {w : World} {b : Nat} {S : Nat → Prop} {R : RS} (H : Ram w b S R) (a v : Nat) (ha : a < 4294967296) (hv : v < 4294967296) :
    Calls Tryz.prog 14 #[.pointer (some ⟨b, 0, .none⟩), .int .u32 a, .int .i64 4, .int .u32 v] w fun e w' => e = .returned (.int .i64 0) ∧ ∃ S', Ram w' b S' (R.write a v 4) ∧ Moves S S' w w' := by
 go_enter Tryz.func14, Tryz.ntmps14
 go_wp2_with fail
 go_loopw [28] (fun i wr => ∃ k : Nat, k ≤ 4 ∧ i = .int .u32 k ∧ ∃ S', Ram wr b S' (R.write a v k) ∧ Moves S S' w wr) (fun i _ => 4 - (intOf i).toNat)
 case atStart => exact ⟨0, by omega, rfl, S, H, Moves.refl S w⟩
 case round =>
  obtain ⟨k, hk, rfl, S', H', M'⟩ := hrel
  by_cases hlt : k < 4
  ·have HW := Lib.hid (show R.write a v (k + 1) = (R.write a v k).wr (at32 a k) (v / 256 ^ k % 256) from rfl)
   have HN := Lib.hid (wr_no (R.write a v k) (at32 a k) (v / 256 ^ k % 256))
   have HY := Lib.hid (wr_yes (R.write a v k) (at32 a k) (v / 256 ^ k % 256))
   have hpl := RS.place_le (R.write a v k) (at32 a k)
   have hal := at32_lt a k
   have HB := Lib.hid (shr_byte v k)
   go_wp2_with fail
   refine (place_anyv H' (at32 a k) _ (by unfold at32; omega) (at32_lt _ _)).mono ?_
   rintro e w1 ⟨rfl, n2, rfl⟩
   have H2 := H'.drewN n2
   have M2 := M'.trans (Moves.drewN S' _ n2)
   obtain ⟨bp, bo, bw, bn, pg, I, hS⟩ := H2
   obtain ⟨-, -, c2, -, -, -, -, klt⟩ := I.facts
   have mo := I.mo
   have H2 : Ram _ b S' (R.write a v k) := ⟨bp, bo, bw, bn, pg, I, hS⟩
   clear I hS H' M'
   generalize (R.write a v k).place (at32 a k) = p at *
   by_cases hs : p < (R.write a v k).size
   ·have hd : decide (p < (R.write a v k).size) = true := decide_eq_true hs
    rw [hd]
    clear hd
    have hx : ((p : Int) / 4096) = ((p / 4096 : Nat) : Int) := by omega
    cases ho : (R.write a v k).only (p / 4096)
    ·have hl := MarkAt.look mo ho _ hx
     have HO := Lib.hid ho
     clear hx ho mo
     go_wp2_with fail
     refine (put_anyv H2 (at32 a k) (v / 256 ^ k % 256) _ _ (by unfold at32; omega) HB.out (at32_lt _ _) (Nat.mod_lt _ (by decide))).mono ?_
     rintro e w1 ⟨rfl, S3, H3, M3⟩
     rw [← HY.out hs HO.out, ← HW.out] at H3
     have M4 := M2.trans M3
     go_wp2_with fail
     go_roundw
     case rel => exact ⟨k + 1, by omega, by go_num, S3, H3, M4⟩
     case measure => (simp [intOf]) <;> omega
    ·have hl := MarkAt.look mo ho _ hx
     have HO := Lib.hid ho
     clear hx ho mo
     have H3 : Ram (wr.drewN n2) b S' (R.write a v (k + 1)) := by rw [HW.out, HN.out fun h => by have := HO.out; rw [this] at h; cases h.2]; exact H2
     go_wp2_with fail
     go_roundw
     case rel => exact ⟨k + 1, by omega, by go_num, S', H3, M2⟩
     case measure => (simp [intOf]) <;> omega
   ·have hd : decide (p < (R.write a v k).size) = false := decide_eq_false hs
    rw [hd]
    clear hd
    have H3 : Ram (wr.drewN n2) b S' (R.write a v (k + 1)) := by rw [HW.out, HN.out fun h => hs h.1]; exact H2
    go_wp2_with fail
    go_roundw
    case rel => exact ⟨k + 1, by omega, by go_num, S', H3, M2⟩
    case measure => (simp [intOf]) <;> omega
  ·have hk2 : k = 4 := by omega
   have HK := Lib.hid hk2
   clear hk2
   go_wp2_with fail
   go_returns
   exact ⟨rfl, S', by rw [← HK.out]; exact H', M'⟩
theorem write_any {w : World} {b : Nat} {S : Nat → Prop} {R : RS} (H : Ram w b S R) (a v : Nat) (ha : a < 4294967296) (hv : v < 4294967296) (s : Nat) (hs : s = 1 ∨ s = 2 ∨ s = 4) :
    Calls Tryz.prog 14 #[.pointer (some ⟨b, 0, .none⟩), .int .u32 a, .int .i64 (s : Nat), .int .u32 v] w fun e w' => e = .returned (.int .i64 0) ∧ ∃ S', Ram w' b S' (R.write a v s) ∧ Moves S S' w w' := by
 rcases hs with rfl | rfl | rfl
 ·exact write_1 H a v ha hv
 ·exact write_2 H a v ha hv
 ·exact write_4 H a v ha hv
end Go.Proofs.YtojmpdddfnkffaaGreat

/- ram: New, Len, Rom. -/
namespace Go.Proofs.YtojmpdddfnkffaaGreat
open Go.RowKit Go.MapKept
set_option linter.unusedVariables false

def RS.new (n : Nat) : RS := ⟨n, false, fun _ => 0, fun _ => false, fun _ => false, fun _ => false⟩
theorem RS.new_ok {n : Nat} (h1 : 1 ≤ n) (h2 : n ≤ 256) : (RS.new n).ok := ⟨h1, h2, fun _ => by show (0 : Nat) < 256; decide⟩
theorem heap_at (w : World) (o : Obj) (k : Nat) (h : k = w.heap.size) : (w.alloc o).heap[k]? = some o := by rw [h]; exact heap_new w o

theorem new_any (w : World) (n : Nat) (h1 : 1 ≤ n) (h2 : n ≤ 256) :
    Calls Tryz.prog 5 #[.int .i64 n] w fun e w' => ∃ b S, e = .returned (.tuple #[.pointer (some ⟨b, 0, .none⟩), .int .i64 0]) ∧ Ram w' b S (RS.new n) ∧ (∀ k, S k → w.heap.size ≤ k) ∧ Below w.heap.size w w' := by
 have hm : (n : Int) % 4294967296 = n := by omega
 have hmm : ∀ (t : TypeId) (w : World), (Instr.makeMap t none).run Tryz.prog w = .ok (.map (some w.heap.size)) (w.alloc (.map #[] 0)) := fun t w => by simp [Instr.makeMap, Result.andThen]
 go_enter Tryz.func5, Tryz.ntmps5
 go_wp2_with fail
 go_ret2
 have es : (RS.new n).size = n * 4096 := rfl
 let M : Obj := .map #[] 0
 let C : Obj := .cells #[.int .u32 (RS.new n).size, .map (some w.heap.size), .map (some (w.heap.size + 1)), .map (some (w.heap.size + 2)), .map (some (w.heap.size + 3)), .bool false] 70
 refine ⟨w.heap.size + 4, Owned (w.heap.size + 4) w.heap.size (w.heap.size + 1) (w.heap.size + 2) (w.heap.size + 3) (fun _ => .none), rfl, ⟨w.heap.size, w.heap.size + 1, w.heap.size + 2, w.heap.size + 3, fun _ => .none, ?_, fun k => Iff.rfl⟩, ?_, by go_grown⟩
 ·have z : ∀ (o : Obj) (w : World), (w.alloc o).heap.size = w.heap.size + 1 := fun o w => by simp
  have m : ∀ (W : World) (k : Nat), W.heap[k]? = some M → MapAt W k .u32 (fun _ => .none) := fun W k h => ⟨#[], 0, h, stamped_empty 0, by simp, by simp⟩
  have g0 := heap_alloc_lt (o' := C) (heap_alloc_lt (o' := M) (heap_alloc_lt (o' := M) (heap_alloc_lt (o' := M) (heap_at w M w.heap.size rfl))))
  have g1 := heap_alloc_lt (o' := C) (heap_alloc_lt (o' := M) (heap_alloc_lt (o' := M) (heap_at (w.alloc M) M (w.heap.size + 1) (by simp only [z]))))
  have g2 := heap_alloc_lt (o' := C) (heap_alloc_lt (o' := M) (heap_at ((w.alloc M).alloc M) M (w.heap.size + 2) (by simp only [z])))
  have g3 := heap_alloc_lt (o' := C) (heap_at (((w.alloc M).alloc M).alloc M) M (w.heap.size + 3) (by simp only [z]))
  have g4 := heap_at ((((w.alloc M).alloc M).alloc M).alloc M) C (w.heap.size + 4) (by simp only [z])
  refine { obj := ?_, mp := m _ _ g0, mo := ⟨_, m _ _ g1, fun k => .inl ⟨rfl, rfl⟩⟩, mw := m _ _ g2, mn := m _ _ g3, page := fun k q h => (by cases h), zero := fun k h i hi => rfl, inj := fun k k' q h => (by cases h), inside := fun k q h => (by cases h), d1 := by omega, d2 := by omega, d3 := by omega, d4 := by omega, d5 := by omega, d6 := by omega, ok := RS.new_ok h1 h2 }
  exact g4
 ·rintro k (rfl | rfl | rfl | rfl | rfl | ⟨j, hj⟩)
  ·omega
  ·omega
  ·omega
  ·omega
  ·omega
  ·cases hj
theorem new_bad (w : World) (n : Int) (h : n < 1 ∨ 256 < n) :
    Calls Tryz.prog 5 #[.int .i64 n] w fun e w' => e = .returned (.tuple #[.pointer .none, .int .i64 50]) ∧ w = w' := by
 rcases h with h | h
 all_goals
  go_enter Tryz.func5, Tryz.ntmps5
  go_wp2_with fail
  go_ret2
  exact ⟨rfl, rfl⟩
end Go.Proofs.YtojmpdddfnkffaaGreat

/- ram: Dump. -/
namespace Go.Proofs.YtojmpdddfnkffaaGreat
open Go.RowKit Go.MapKept
set_option linter.unusedVariables false

theorem Ram.set {w : World} {b : Nat} {S : Nat → Prop} {R : RS} (H : Ram w b S R) {g : Nat} (hg : ¬ S g) (k : Nat) (v : Value) : Ram (w.setCell ⟨g, k, .none⟩ v) b S R :=
 H.keeps ((Keeps.refl (· = g) w).setOne k v) fun j hj e => hg (by rw [← e]; exact hj)
theorem below_dn {B : Nat} {w a : World} (h : Below B w a) (n : Nat) : Below B w (a.drewN n) := ⟨h.os, h.tape, h.output, h.size, h.block⟩
def fresh (n : Nat) (z : Value) : Array Value := Array.replicate n z
theorem made_fresh (z : Value) (n : Nat) (hz : z.cells = #[z]) : madeCells z.cells (n * 1) = fresh n z := by
 rw [hz]
 apply Array.ext_getElem?
 intro j
 unfold madeCells fresh
 simp [Array.getElem?_replicate, Array.getElem?_map, Array.getElem?_range]
 by_cases h : j < n <;> simp [h, Nat.mod_one]
theorem make_run (w : World) (T E : TypeId) (z : Value) (bytes n : Nat) (hT : Tryz.prog.underlying T = some (.slice E)) (hi : (Tryz.prog.info? E).map (fun i => (i.zero, i.size, i.bytes)) = some (some z, 1, bytes)) (hz : z.cells = #[z])
    (hb : bytes * n ≤ 281474976710656) (hn : n ≤ 9223372036854775807) (x y : Int) (hx : x = (n : Int)) (hy : y = (n : Int)) :
    (Instr.makeSlice T (.int .i64 x) (.int .i64 y)).run Tryz.prog w = .ok (.slice (some ⟨w.heap.size, 0, .none⟩) n n) (w.alloc (.cells (fresh n z) E)) := by
 subst hx hy
 cases h : Tryz.prog.info? E with
 | none => rw [h] at hi; cases hi
 | some i =>
  rw [h] at hi
  simp only [Option.map_some, Option.some.injEq, Prod.mk.injEq] at hi
  obtain ⟨h1, h2, h3⟩ := hi
  have hb' : (i.bytes : Int) * (n : Int) ≤ 281474976710656 := by
   have : ((bytes * n : Nat) : Int) ≤ 281474976710656 := by omega
   rw [h3]; rwa [Int.natCast_mul] at this
  have := run_make (P := Tryz.prog) w T E i z hT h h1 .i64 .i64 (n : Int) (n : Int) (by omega) (Int.le_refl _) hb' (by omega)
  rw [this, h2, Int.toNat_natCast, made_fresh z n hz]
theorem make_bytes (w : World) (n : Nat) (h : n ≤ 281474976710656) (x y : Int) (hx : x = (n : Int)) (hy : y = (n : Int)) :
    (Instr.makeSlice 22 (.int .i64 x) (.int .i64 y)).run Tryz.prog w = .ok (.slice (some ⟨w.heap.size, 0, .none⟩) n n) (w.alloc (.cells (fresh n (.int .u8 0)) 5)) :=
 make_run w _ _ _ 1 n Tryz.underlying22 (by kernel_rfl) rfl (by omega) (by omega) x y hx hy

end Go.Proofs.YtojmpdddfnkffaaGreat

/- ram: the gate, watching, and calls on none. -/
namespace Go.Proofs.YtojmpdddfnkffaaGreat
open Go.RowKit Go.MapKept
set_option linter.unusedVariables false

def RS.gate (R : RS) (x : Bool) : RS := { R with closed := !x }
theorem RS.gate_ok {R : RS} (h : R.ok) (x : Bool) : (R.gate x).ok := ⟨h.p1, h.p2, h.b⟩
def RS.told (R : RS) : RS := { R with noted := fun _ => false }
section
variable {w w' : World} {b bp bo bw bn : Nat} {pg : Nat → Option Nat} {R : RS}
theorem RamIn.turnClosed (H : RamIn w b bp bo bw bn pg R) (x : Bool) : RamIn (w.setCell ⟨b, 5, .none⟩ (.bool !x)) b bp bo bw bn pg (R.gate x) := by
 obtain ⟨f, mo, hf⟩ := H.mo
 have hne : ∀ k, k ≠ b → (w.setCell ⟨b, 5, .none⟩ (.bool !x)).heap[k]? = w.heap[k]? := fun k h => heap_set_other _ h
 exact { H with
  obj := by rw [heap_set_map, H.obj]; rfl
  mp := H.mp.of_heap (hne _ H.b_p.symm)
  mo := ⟨f, mo.of_heap (hne _ H.b_o.symm), hf⟩
  mw := MapAt.of_heap H.mw (hne _ H.b_w.symm)
  mn := MapAt.of_heap H.mn (hne _ H.b_n.symm)
  page := fun k q hq => by rw [hne q (H.q_b hq)]; exact H.page k q hq
  ok := RS.gate_ok H.ok x }
end
theorem gate_any {w : World} {b : Nat} {S : Nat → Prop} {R : RS} (H : Ram w b S R) (x : Bool) :
    Calls Tryz.prog 27 #[.pointer (some ⟨b, 0, .none⟩), .bool x] w fun e w' => e = .returned (.tuple #[]) ∧ Ram w' b S (R.gate x) ∧ Keeps S w w' := by
 obtain ⟨bp, bo, bw, bn, pg, I, hS⟩ := H
 obtain ⟨-, -, -, -, -, k5, kf, klt⟩ := I.facts
 have HI := Lib.hid I
 clear I
 go_enter Tryz.func27, Tryz.ntmps27
 go_wp2_with fail
 go_end0
 exact ⟨rfl, ⟨bp, bo, bw, bn, pg, HI.out.turnClosed x, hS⟩, (Keeps.refl S w).setCell (.inl ((hS b).2 (.inl rfl))) _⟩
end Go.Proofs.YtojmpdddfnkffaaGreat

/- bus: the devices as objects; their calls. -/
namespace Go.Proofs.YtojmpdddfnkffaaGreat
open Go.RowKit
set_option linter.unusedVariables false

def oPic (b : Nat) (c d : Pic.Chip) : Ob := ⟨fun w H => Pic.Pair w b c d ∧ (c.ok ∧ d.ok) ∧ ∀ k, H k ↔ k = b,
 fun h g => ⟨(g b ((h.2.2 b).2 rfl)).trans h.1, h.2⟩, fun {w H} h k hk => by rw [(h.2.2 k).1 hk]; exact heap_lt (show w.heap[b]? = some _ from h.1)⟩
def oPit (b : Nat) (c0 c1 c2 : Pit.Ct) : Ob := ⟨fun w H => Pit.Tm w b c0 c1 c2 ∧ ∀ k, H k ↔ k = b,
 fun h g => ⟨(g b ((h.2 b).2 rfl)).trans h.1, h.2⟩, fun h k hk => by rw [(h.2 k).1 hk]; exact h.1.lt⟩
def oUart (b : Nat) (U : Uart.Ut) : Ob := ⟨fun w H => ∃ q sv, Uart.UtIn w b q sv U ∧ ∀ k, H k ↔ Uart.Held b q sv k,
 fun ⟨q, sv, h, e⟩ g => ⟨q, sv, h.of_heap fun k hk => g k ((e k).2 hk), e⟩, fun ⟨q, sv, h, e⟩ k hk => h.lt ((e k).1 hk)⟩
def oIde (b : Nat) (D : Ide.Dk) : Ob := ⟨fun w H => ∃ ds lv, Ide.IdeIn 115 w b ds lv D ∧ D.room ∧ ∀ k, H k ↔ Ide.Held b ds lv k,
 fun ⟨q, sv, h, r, e⟩ g => ⟨q, sv, h.of_heap fun k hk => g k ((e k).2 hk), r, e⟩, fun ⟨q, sv, h, r, e⟩ k hk => Ide.Held.lt h ((e k).1 hk)⟩
def oRam (b : Nat) (R : RS) : Ob := ⟨fun w H => Ram w b H R,
 fun {w w' H} h g => by
  obtain ⟨bp, bo, bw, bn, pg, h, e⟩ := h
  exact ⟨bp, bo, bw, bn, pg, h.of_heap fun k hk => g k ((e k).2 hk), e⟩, fun h k hk => h.lt hk⟩
theorem moves_one {A : Nat → Prop} {b : Nat} {w w' : World} (h : ∀ k, A k ↔ k = b) (K : Keeps (· = b) w w') : Moves A A w w' := ⟨K.mono fun k _ e => (h k).2 e, fun k hk => .inl hk⟩
section
variable {b : Nat} {c d : Pic.Chip} {p q r : Pit.Ct} {t : Int} {U : Uart.Ut} {D : Ide.Dk} {R : RS}
theorem pic_out (n : Int) (v : Nat) (hv : v < 256) : Acts 68 #[.pointer (some ⟨b, 0, none⟩), .int .i64 n, .int .u8 v] (oPic b c d) (.int .i64 (Pic.perr n)) (oPic b (Pic.otc c n v) (Pic.otd d n v)) := by
 rintro w A ⟨H, ok, e⟩
 refine (Pic.out_any b c d ok.1 ok.2 n v hv w H).mono ?_
 rintro x w1 ⟨rfl, H1, K⟩
 exact ⟨rfl, A, ⟨H1, ⟨Pic.otc_ok ok.1 n v hv, Pic.otd_ok ok.2 n v hv⟩, e⟩, moves_one e K⟩
theorem pic_line (n : Int) (up : Bool) : Acts 74 #[.pointer (some ⟨b, 0, none⟩), .int .i64 n, .bool up] (oPic b c d) (.int .i64 (Pic.lerr n)) (oPic b (Pic.lnc c n up) (Pic.lnd d n up)) := by
 rintro w A ⟨H, ok, e⟩
 refine (Pic.line_e b c d ok.1 ok.2 n up w H).mono ?_
 rintro x w1 ⟨rfl, H1, K⟩
 exact ⟨rfl, A, ⟨H1, ⟨Pic.lnc_ok ok.1 n up, Pic.lnd_ok ok.2 n up⟩, e⟩, moves_one e K⟩
theorem pic_in (n : Int) : Acts 69 #[.pointer (some ⟨b, 0, none⟩), .int .i64 n] (oPic b c d) (.tuple #[.int .u8 (Pic.inv c d n : Nat), .int .i64 (Pic.perr n)]) (oPic b c d) := by
 rintro w A ⟨H, ok, e⟩
 refine (Pic.in_any b c d ok.1 ok.2 n w H).mono ?_
 rintro x w1 ⟨rfl, hb⟩
 exact ⟨rfl, A, ⟨H.below hb, ok, e⟩, moves_one e (Keeps.ofBelow hb)⟩
theorem pic_pending : Acts 51 #[.pointer (some ⟨b, 0, none⟩)] (oPic b c d) (.bool (Pic.told0 c d)) (oPic b c d) := by
 rintro w A ⟨H, ok, e⟩
 refine (Pic.pending_any b c d ok.1 ok.2 w H).mono ?_
 rintro x w1 ⟨rfl, n, rfl⟩
 exact ⟨rfl, A, ⟨H, ok, e⟩, Moves.drewN _ _ _⟩
theorem pic_ack : Acts 65 #[.pointer (some ⟨b, 0, none⟩)] (oPic b c d) (.int .i64 (Pic.vec0 c d : Nat)) (oPic b (Pic.tkc c d) (Pic.tkd c d)) := by
 rintro w A ⟨H, ok, e⟩
 refine (Pic.ack_any b c d ok.1 ok.2 w H).mono ?_
 rintro x w1 ⟨rfl, H1, K⟩
 exact ⟨rfl, A, ⟨H1, ⟨Pic.tkc_ok ok.1, Pic.tkd_ok ok.2⟩, e⟩, moves_one e K⟩
theorem pit_line (h : p.ok t) (ht : t < 18446744073709551616) : Acts 75 #[.pointer (some ⟨b, 0, none⟩), .int .u64 t] (oPit b p q r) (.bool (p.line t)) (oPit b p q r) := by
 rintro w A ⟨H, e⟩
 refine (Pit.line_tm H h ht).mono ?_
 rintro x w1 ⟨rfl, hb⟩
 exact ⟨rfl, A, ⟨H.below hb, e⟩, moves_one e (Keeps.ofBelow hb)⟩
structure Tm3 where
 a : Pit.Ct
 b : Pit.Ct
 c : Pit.Ct
structure Tm3.ok (T : Tm3) (t : Int) : Prop where
 a : T.a.ok t
 b : T.b.ok t
 c : T.c.ok t
def Tm3.out (T : Tm3) (n : Int) (x t : Int) : Tm3 :=
 if n = 0 then { T with a := T.a.put x t } else if n = 1 then { T with b := T.b.put x t } else if n = 2 then { T with c := T.c.put x t }
 else if x / 64 = 0 then { T with a := T.a.cmd x t } else if x / 64 = 1 then { T with b := T.b.cmd x t } else if x / 64 = 2 then { T with c := T.c.cmd x t } else T
def Tm3.inV (T : Tm3) (n t : Int) : Int := if n = 0 then T.a.getV t else if n = 1 then T.b.getV t else if n = 2 then T.c.getV t else 255
def Tm3.inS (T : Tm3) (n : Int) : Tm3 := if n = 0 then { T with a := T.a.getS } else if n = 1 then { T with b := T.b.getS } else if n = 2 then { T with c := T.c.getS } else T
theorem Tm3.out_ok {T : Tm3} (h : T.ok t) (n x : Int) (h0 : 0 ≤ x) (h1 : x < 256) : (T.out n x t).ok t := by
 unfold Tm3.out
 (repeat' split)
 ·exact ⟨Pit.Ct.put_ok h.a h0 h1, h.b, h.c⟩
 ·exact ⟨h.a, Pit.Ct.put_ok h.b h0 h1, h.c⟩
 ·exact ⟨h.a, h.b, Pit.Ct.put_ok h.c h0 h1⟩
 ·exact ⟨Pit.Ct.cmd_ok h.a h0 h1, h.b, h.c⟩
 ·exact ⟨h.a, Pit.Ct.cmd_ok h.b h0 h1, h.c⟩
 ·exact ⟨h.a, h.b, Pit.Ct.cmd_ok h.c h0 h1⟩
 ·exact h
theorem Tm3.inS_ok {T : Tm3} (h : T.ok t) (n : Int) : (T.inS n).ok t := by
 unfold Tm3.inS
 (repeat' split)
 ·exact ⟨Pit.Ct.getS_ok h.a, h.b, h.c⟩
 ·exact ⟨h.a, Pit.Ct.getS_ok h.b, h.c⟩
 ·exact ⟨h.a, h.b, Pit.Ct.getS_ok h.c⟩
 ·exact h
def oTm (b : Nat) (T : Tm3) : Ob := oPit b T.a T.b T.c
theorem tm_acts {f : FuncId} {args : Array Value} {v : Value} {T T' : Tm3} (h : ∀ w, Pit.Tm w b T.a T.b T.c → Calls Tryz.prog f args w fun e w' => e = .returned v ∧ Pit.Tm w' b T'.a T'.b T'.c ∧ Keeps (· = b) w w') : Acts f args (oTm b T) v (oTm b T') := by
 rintro w A ⟨H, e⟩
 refine (h w H).mono ?_
 rintro x w1 ⟨rfl, H1, K⟩
 exact ⟨rfl, A, ⟨H1, e⟩, moves_one e K⟩
theorem pit_out (T : Tm3) (h : T.ok t) (ht : t < 18446744073709551616) (n : Nat) (hn : n < 4) (x : Nat) (hx : x < 256) :
    Acts 70 #[.pointer (some ⟨b, 0, none⟩), .int .i64 (n : Nat), .int .u8 (x : Nat), .int .u64 t] (oTm b T) (.int .i64 0) (oTm b (T.out n x t)) := by
 refine tm_acts fun w H => ?_
 unfold Tm3.out
 rcases (show n = 0 ∨ n = 1 ∨ n = 2 ∨ n = 3 by omega) with rfl | rfl | rfl | rfl
 ·exact Pit.put_ct0 H h.a x (by omega) (by omega)
 ·exact Pit.put_ct1 H h.b x (by omega) (by omega)
 ·exact Pit.put_ct2 H h.c x (by omega) (by omega)
 ·rw [if_neg (by omega), if_neg (by omega), if_neg (by omega)]
  by_cases h0 : (x : Int) / 64 = 0
  ·rw [if_pos h0]; exact Pit.putc_ct0 H h.a ht x (by omega) (by omega) h0
  ·rw [if_neg h0]
   by_cases h1 : (x : Int) / 64 = 1
   ·rw [if_pos h1]; exact Pit.putc_ct1 H h.b ht x (by omega) (by omega) h1
   ·rw [if_neg h1]
    by_cases h2 : (x : Int) / 64 = 2
    ·rw [if_pos h2]; exact Pit.putc_ct2 H h.c ht x (by omega) (by omega) h2
    ·rw [if_neg h2]; exact Pit.putc_3 H x (by omega) (by omega) (by omega)
theorem pit_in (T : Tm3) (h : T.ok t) (ht : t < 18446744073709551616) (n : Nat) (hn : n < 4) :
    Acts 71 #[.pointer (some ⟨b, 0, none⟩), .int .i64 (n : Nat), .int .u64 t] (oTm b T) (.tuple #[.int .u8 (T.inV n t), .int .i64 0]) (oTm b (T.inS n)) := by
 refine tm_acts fun w H => ?_
 unfold Tm3.inV Tm3.inS
 rcases (show n = 0 ∨ n = 1 ∨ n = 2 ∨ n = 3 by omega) with rfl | rfl | rfl | rfl
 ·exact Pit.get_ct0 H h.a ht
 ·exact Pit.get_ct1 H h.b ht
 ·exact Pit.get_ct2 H h.c ht
 ·exact Pit.get_3 H
theorem uart_went {f : FuncId} {args : Array Value} {v : Value} {U' : Uart.Ut} (h : ∀ w q sv, Uart.UtIn w b q sv U → Calls Tryz.prog f args w fun e w' => e = .returned v ∧ Uart.Went w b q sv U' w') : Acts f args (oUart b U) v (oUart b U') := by
 rintro w A ⟨q, sv, H, e⟩
 refine (h w q sv H).mono ?_
 rintro x w1 ⟨rfl, sv', H1, K, N⟩
 refine ⟨rfl, Uart.Held b q sv', ⟨q, sv', H1, fun k => Iff.rfl⟩, K.mono fun k _ h => (e k).2 h, fun k hk => ?_⟩
 rcases hk with hk | hk | hk
 ·exact .inl ((e k).2 (.inl hk))
 ·exact .inl ((e k).2 (.inr (.inl hk)))
 ·exact (N k hk).imp (fun h => (e k).2 (.inr (.inr h))) id
theorem uart_out (n : Int) (v : Nat) (hv : v < 256) (hL : U.sent.length + 1 ≤ 140737488355328) : Acts 72 #[.pointer (some ⟨b, 0, none⟩), .int .i64 n, .int .u8 (v : Nat)] (oUart b U) (.int .i64 (Uart.callErr n)) (oUart b (U.out n v)) :=
 uart_went fun w q sv H => Uart.out_any H n v hv hL
theorem uart_in (n : Int) : Acts 73 #[.pointer (some ⟨b, 0, none⟩), .int .i64 n] (oUart b U) (.tuple #[.int .u8 (U.inV n : Nat), .int .i64 (Uart.callErr n)]) (oUart b (U.inS n)) :=
 uart_went fun w q sv H => Uart.in_any H n
theorem uart_push (x : Nat) (hx : x < 256) : Acts 87 #[.pointer (some ⟨b, 0, none⟩), .int .u8 (x : Nat)] (oUart b U) (.tuple #[]) (oUart b (U.push x)) :=
 uart_went fun w q sv H => by
  refine (Uart.push_any H x hx).mono ?_
  rintro e w1 ⟨rfl, H1, K⟩
  exact ⟨rfl, Uart.Went.of H1 (K.mono fun k _ h => h.imp id fun h => .inl h)⟩
theorem uart_line : Acts 76 #[.pointer (some ⟨b, 0, none⟩)] (oUart b U) (.bool U.line) (oUart b U) :=
 uart_went fun w q sv H => by
  refine (Uart.line_any H).mono ?_
  rintro e w1 ⟨rfl, rfl⟩
  exact ⟨rfl, Uart.Went.of H (Keeps.refl _ _)⟩
theorem ide_went {f : FuncId} {args : Array Value} {v : Value} {D' : Ide.Dk} (hr : D.room → D'.room) (h : ∀ w ds lv, D.room → Ide.IdeIn 115 w b ds lv D → Calls Tryz.prog f args w fun e w' => e = .returned v ∧ Ide.Went w b ds lv D' w') : Acts f args (oIde b D) v (oIde b D') := by
 rintro w A ⟨ds, lv, H, ro, e⟩
 refine (h w ds lv ro H).mono ?_
 rintro x w1 ⟨rfl, lv', H1, K, N⟩
 refine ⟨rfl, Ide.Held b ds lv', ⟨ds, lv', H1, hr ro, fun k => Iff.rfl⟩, K.mono fun k _ h => (e k).2 h, fun k hk => ?_⟩
 rcases hk with hk | hk | hk
 ·exact .inl ((e k).2 (.inl hk))
 ·exact .inl ((e k).2 (.inr (.inl hk)))
 ·exact (N k hk).imp (fun h => (e k).2 (.inr (.inr h))) id
theorem ide_out (reg size : Int) (v : Nat) (hv : v < 4294967296) (hL : D.log.length + 4 < 17592186044416) : Acts 62 #[.pointer (some ⟨b, 0, none⟩), .int .i64 reg, .int .i64 size, .int .u32 v] (oIde b D) (.int .i64 (Ide.callErr reg size)) (oIde b (D.out reg size v)) :=
 ide_went (fun h => Ide.Dk.room_out h reg size v) fun w ds lv ro H => Ide.out_any H ro reg size v hv hL
theorem ide_in (reg size : Int) : Acts 64 #[.pointer (some ⟨b, 0, none⟩), .int .i64 reg, .int .i64 size] (oIde b D) (.tuple #[.int .u32 (D.inV reg size : Nat), .int .i64 (Ide.callErr reg size)]) (oIde b (D.inS reg size)) :=
 ide_went (fun h => Ide.Dk.room_inS h reg size) fun w ds lv ro H => Ide.in_any H ro reg size
theorem ide_line : Acts 77 #[.pointer (some ⟨b, 0, none⟩)] (oIde b D) (.bool D.line) (oIde b D) :=
 ide_went id fun w ds lv ro H => by
  refine (Ide.line_in H).mono ?_
  rintro e w1 ⟨rfl, rfl⟩
  exact ⟨rfl, Ide.Went.of H (Keeps.refl _ _)⟩
theorem ram_gate (x : Bool) : Acts 27 #[.pointer (some ⟨b, 0, none⟩), .bool x] (oRam b R) (.tuple #[]) (oRam b (R.gate x)) := by
 rintro w A H
 refine (gate_any H x).mono ?_
 rintro e w1 ⟨rfl, H1, K⟩
 exact ⟨rfl, A, H1, K, fun k hk => .inl hk⟩
theorem ram_write (a v : Nat) (ha : a < 4294967296) (hv : v < 4294967296) (s : Nat) (hs : s = 1 ∨ s = 2 ∨ s = 4) : Acts 14 #[.pointer (some ⟨b, 0, .none⟩), .int .u32 a, .int .i64 (s : Nat), .int .u32 v] (oRam b R) (.int .i64 0) (oRam b (R.write a v s)) := by
 rintro w A H
 refine (write_any H a v ha hv s hs).mono ?_
 rintro e w1 ⟨rfl, A', H1, M⟩
 exact ⟨rfl, A', H1, M⟩
theorem ram_read (a : Nat) (ha : a < 4294967296) (s : Nat) (hs : s = 1 ∨ s = 2 ∨ s = 4) : Acts 15 #[.pointer (some ⟨b, 0, .none⟩), .int .u32 a, .int .i64 (s : Nat)] (oRam b R) (.tuple #[.int .u32 (R.read a s : Nat), .int .i64 0]) (oRam b R) := by
 rintro w A H
 refine (read_any H a ha s hs).mono ?_
 rintro e w1 ⟨rfl, n, rfl⟩
 exact ⟨rfl, A, H.drewN n, Moves.drewN _ _ _⟩
end
end Go.Proofs.YtojmpdddfnkffaaGreat

/- bus: a bus as one object; its lines; a byte to a device, a byte of one. -/
namespace Go.Proofs.YtojmpdddfnkffaaGreat
open Go.RowKit Go.MapKept
set_option linter.unusedVariables false

structure Bs where
 c : Pic.Chip
 d : Pic.Chip
 T : Tm3
 u : Uart.Ut
 k : Ide.Dk
 g : Bool
 R : RS
 t : Nat
def Bs.line (B : Bs) (n : Int) (up : Bool) : Bs := { B with c := Pic.lnc B.c n up, d := Pic.lnd B.d n up }
def Bs.lines (B : Bs) : Bs := ((B.line 0 (B.T.a.line B.t)).line 4 B.u.line).line 14 B.k.line
def dev (p : Nat) : Option (Nat × Nat) :=
 if 0x20 ≤ p ∧ p < 0x22 then some (0, p - 0x20) else if 0xA0 ≤ p ∧ p < 0xA2 then some (0, p - 0xA0 + 2) else if 0x40 ≤ p ∧ p < 0x44 then some (1, p - 0x40)
 else if 0x3F8 ≤ p ∧ p < 0x400 then some (2, p - 0x3F8) else if 0x1F0 ≤ p ∧ p < 0x1F8 then some (3, p - 0x1F0) else if p = 0x3F6 then some (3, 8) else if p = 0x92 then some (4, 0) else none
def pv (fo fi b n : Nat) : Value := .agg #[.func (.func fo) #[.pointer (some ⟨b, 0, none⟩)] #[], .func (.func fi) #[.pointer (some ⟨b, 0, none⟩)] #[], .int .i64 (n : Nat)]
def outF : Nat → Nat
 | 0 => 29
 | 1 => 31
 | 2 => 33
 | 3 => 35
 | _ => 37
def inF : Nat → Nat
 | 0 => 30
 | 1 => 32
 | 2 => 34
 | 3 => 36
 | _ => 38
def prt (b p : Nat) : Option Value := (dev p).map fun x => pv (outF x.1) (inF x.1) b x.2
def oMap (m : Nat) (f : Nat → Option Value) : Ob := ⟨fun w H => MapAt w m .u16 f ∧ ∀ k, H k ↔ k = m, fun h g => ⟨h.1.of_heap (g m ((h.2 m).2 rfl)), h.2⟩, fun h k hk => by rw [(h.2 k).1 hk]; exact h.1.lt⟩
def busCells (pp pt pu pi pm mp : Nat) (g : Bool) (t : Nat) : Array Value :=
 #[.pointer (some ⟨pp, 0, none⟩), .pointer (some ⟨pt, 0, none⟩), .pointer (some ⟨pu, 0, none⟩), .pointer (some ⟨pi, 0, none⟩), .pointer (some ⟨pm, 0, none⟩), .bool g, .int .u64 (t : Nat), .map (some mp)]
def busObs (b pp pt pu pi pm mp : Nat) (B : Bs) : List Ob := [Ob.box b (.cells (busCells pp pt pu pi pm mp B.g B.t) 84), oPic pp B.c B.d, oTm pt B.T, oUart pu B.u, oIde pi B.k, oRam pm B.R, oMap mp (prt b)]
structure Bs.ok (B : Bs) : Prop where
 T : B.T.ok B.t
 t : B.t < 18446744073709551615
theorem bus_facts {w : World} {b pp pt pu pi pm mp : Nat} {g : Bool} {t : Nat} (h : w.heap[b]? = some (.cells (busCells pp pt pu pi pm mp g t) 84)) :
    w.cell? ⟨b, 0, none⟩ = some (.pointer (some ⟨pp, 0, none⟩)) ∧ w.cell? ⟨b, 1, none⟩ = some (.pointer (some ⟨pt, 0, none⟩)) ∧ w.cell? ⟨b, 2, none⟩ = some (.pointer (some ⟨pu, 0, none⟩)) ∧ w.cell? ⟨b, 3, none⟩ = some (.pointer (some ⟨pi, 0, none⟩)) ∧
    w.cell? ⟨b, 4, none⟩ = some (.pointer (some ⟨pm, 0, none⟩)) ∧ w.cell? ⟨b, 5, none⟩ = some (.bool g) ∧ w.cell? ⟨b, 6, none⟩ = some (.int .u64 (t : Nat)) ∧ w.cell? ⟨b, 7, none⟩ = some (.map (some mp)) ∧ (∀ k, w.frozen? ⟨b, k, none⟩ = false) ∧ b < w.heap.size := by
 refine ⟨?_, ?_, ?_, ?_, ?_, ?_, ?_, ?_, fun k => free_at h, heap_lt h⟩ <;> (rw [cell_at h]; rfl)
section
variable {b pp pt pu pi pm mp : Nat} {B : Bs} {w0 w : World} {A0 : Nat → Prop}
theorem Hp.bus (T : Hp w0 A0 w (busObs b pp pt pu pi pm mp B)) : w.heap[b]? = some (.cells (busCells pp pt pu pi pm mp B.g B.t) 84) := T.box 0 rfl
theorem Hp.b016 (T : Hp w0 A0 w (busObs b pp pt pu pi pm mp B)) : w.cell? ⟨b, 0, none⟩ = some (.pointer (some ⟨pp, 0, none⟩)) ∧ w.cell? ⟨b, 1, none⟩ = some (.pointer (some ⟨pt, 0, none⟩)) ∧ w.cell? ⟨b, 6, none⟩ = some (.int .u64 (B.t : Nat)) :=
 have h := bus_facts T.bus
 ⟨h.1, h.2.1, h.2.2.2.2.2.2.1⟩
theorem Hp.b02 (T : Hp w0 A0 w (busObs b pp pt pu pi pm mp B)) : w.cell? ⟨b, 0, none⟩ = some (.pointer (some ⟨pp, 0, none⟩)) ∧ w.cell? ⟨b, 2, none⟩ = some (.pointer (some ⟨pu, 0, none⟩)) :=
 have h := bus_facts T.bus
 ⟨h.1, h.2.2.1⟩
theorem Hp.b03 (T : Hp w0 A0 w (busObs b pp pt pu pi pm mp B)) : w.cell? ⟨b, 0, none⟩ = some (.pointer (some ⟨pp, 0, none⟩)) ∧ w.cell? ⟨b, 3, none⟩ = some (.pointer (some ⟨pi, 0, none⟩)) :=
 have h := bus_facts T.bus
 ⟨h.1, h.2.2.2.1⟩
theorem lines_hp (h : B.ok) (T : Hp w0 A0 w (busObs b pp pt pu pi pm mp B)) :
    Calls Tryz.prog 39 #[.pointer (some ⟨b, 0, none⟩)] w fun e w' => e = .returned (.tuple #[]) ∧ Hp w0 A0 w' (busObs b pp pt pu pi pm mp B.lines) := by
 have ht : (B.t : Int) < 18446744073709551616 := by have := h.t; omega
 have HT := Lib.hid (And.intro h.T.a ht)
 clear h ht
 go_enter Tryz.func39, Tryz.ntmps39
 go_wp2_with fail
 obtain ⟨k0, k1, k2, k3, -, -, k6, -, kf, kl⟩ := bus_facts T.bus
 have T0 := Lib.hid T.drew
 clear T
 go_region_held3 (fun w' => w'.cell? ⟨b, 0, none⟩ = some (.pointer (some ⟨pp, 0, none⟩)) ∧ w'.cell? ⟨b, 1, none⟩ = some (.pointer (some ⟨pt, 0, none⟩)) ∧ w'.cell? ⟨b, 6, none⟩ = some (.int .u64 (B.t : Nat))) (first | exact Hp.b016 (B := B) T0.out | exact Hp.b016 (B := (B.line 0 (B.T.a.line B.t))) T2 | exact Hp.b016 (B := B) T1 | go_keep) (first | (go_at_call 75; refine (T0.out.act 2 rfl (pit_line HT.out.1 HT.out.2)).mono ?_; rintro e w1 ⟨rfl, T1⟩; replace T1 : Hp w0 A0 w1 (busObs b pp pt pu pi pm mp B) := T1) | (go_at_call 74; refine (T1.act 1 rfl (pic_line _ _)).mono ?_; rintro e w2 ⟨rfl, T2⟩; replace T2 : Hp w0 A0 w2 (busObs b pp pt pu pi pm mp (B.line 0 (B.T.a.line B.t))) := T2))
 clear k0 k1 k2 k3 k6 kf kl T1 T0
 have S0 := T2
 clear T2
 go_wp2_with fail
 obtain ⟨k0, k1, k2, k3, -, -, k6, -, kf, kl⟩ := bus_facts S0.bus
 have T0 := Lib.hid S0.drew
 clear S0
 go_region_held3 (fun w' => w'.cell? ⟨b, 0, none⟩ = some (.pointer (some ⟨pp, 0, none⟩)) ∧ w'.cell? ⟨b, 2, none⟩ = some (.pointer (some ⟨pu, 0, none⟩))) (first | exact Hp.b02 (B := (B.line 0 (B.T.a.line B.t))) T0.out | exact Hp.b02 (B := ((B.line 0 (B.T.a.line B.t)).line 4 B.u.line)) T2 | exact Hp.b02 (B := (B.line 0 (B.T.a.line B.t))) T1 | go_keep) (first | (go_at_call 76; refine (T0.out.act 3 rfl (uart_line)).mono ?_; rintro e w1 ⟨rfl, T1⟩; replace T1 : Hp w0 A0 w1 (busObs b pp pt pu pi pm mp (B.line 0 (B.T.a.line B.t))) := T1) | (go_at_call 74; refine (T1.act 1 rfl (pic_line _ _)).mono ?_; rintro e w2 ⟨rfl, T2⟩; replace T2 : Hp w0 A0 w2 (busObs b pp pt pu pi pm mp ((B.line 0 (B.T.a.line B.t)).line 4 B.u.line)) := T2))
 clear k0 k1 k2 k3 k6 kf kl T1 T0
 have S1 := T2
 clear T2
 go_wp2_with fail
 obtain ⟨k0, k1, k2, k3, -, -, k6, -, kf, kl⟩ := bus_facts S1.bus
 have T0 := Lib.hid S1.drew
 clear S1
 go_region_held3 (fun w' => w'.cell? ⟨b, 0, none⟩ = some (.pointer (some ⟨pp, 0, none⟩)) ∧ w'.cell? ⟨b, 3, none⟩ = some (.pointer (some ⟨pi, 0, none⟩))) (first | exact Hp.b03 (B := ((B.line 0 (B.T.a.line B.t)).line 4 B.u.line)) T0.out | exact Hp.b03 (B := (((B.line 0 (B.T.a.line B.t)).line 4 B.u.line).line 14 B.k.line)) T2 | exact Hp.b03 (B := ((B.line 0 (B.T.a.line B.t)).line 4 B.u.line)) T1 | go_keep) (first | (go_at_call 77; refine (T0.out.act 4 rfl (ide_line)).mono ?_; rintro e w1 ⟨rfl, T1⟩; replace T1 : Hp w0 A0 w1 (busObs b pp pt pu pi pm mp ((B.line 0 (B.T.a.line B.t)).line 4 B.u.line)) := T1) | (go_at_call 74; refine (T1.act 1 rfl (pic_line _ _)).mono ?_; rintro e w2 ⟨rfl, T2⟩; replace T2 : Hp w0 A0 w2 (busObs b pp pt pu pi pm mp (((B.line 0 (B.T.a.line B.t)).line 4 B.u.line).line 14 B.k.line)) := T2))
 clear k0 k1 k2 k3 k6 kf kl T1 T0
 have S2 := T2
 clear T2
 go_wp2_with fail
 go_returns
 exact ⟨rfl, S2⟩
end
end Go.Proofs.YtojmpdddfnkffaaGreat

/- bus: a byte to a device, and of one. -/
namespace Go.Proofs.YtojmpdddfnkffaaGreat
open Go.RowKit Go.MapKept
set_option linter.unusedVariables false

def gateBit (v : Nat) : Bool := v / 2 % 2 == 1
theorem and_2 (v : Nat) (h : v < 256) : (bits BinOp.and IntKind.u8 (v : Int) 2 != 0) = gateBit v := by
 have q : ∀ v : Fin 256, (bits BinOp.and IntKind.u8 ((v.val : Nat) : Int) 2 != 0) = gateBit v.val := by decide +kernel
 exact q ⟨v, h⟩
def Bs.out1 (B : Bs) (k n v : Nat) : Bs :=
 match k with
 | 0 => { B with c := Pic.otc B.c n v, d := Pic.otd B.d n v }
 | 1 => { B with T := B.T.out n v B.t }
 | 2 => { B with u := B.u.out n v }
 | 3 => { B with k := B.k.out n 1 v }
 | _ => { B with g := gateBit v, R := B.R.gate (gateBit v) }
def Bs.in1V (B : Bs) (k n : Nat) : Int :=
 match k with
 | 0 => (Pic.inv B.c B.d n : Nat)
 | 1 => B.T.inV n B.t
 | 2 => (B.u.inV n : Nat)
 | 3 => (B.k.inV n 1 : Nat) % 256
 | _ => if B.g then 2 else 0
def Bs.in1S (B : Bs) (k n : Nat) : Bs :=
 match k with
 | 0 => B
 | 1 => { B with T := B.T.inS n }
 | 2 => { B with u := B.u.inS n }
 | 3 => { B with k := B.k.inS n 1 }
 | _ => B
structure Bs.fits (B : Bs) (n : Nat) : Prop where
 s : B.u.sent.length ≤ n
 l : B.k.log.length ≤ n
section
variable {b pp pt pu pi pm mp : Nat} {B : Bs} {w0 w : World} {A0 : Nat → Prop}
set_option maxHeartbeats 2000000
theorem Hp.b45 (T : Hp w0 A0 w (busObs b pp pt pu pi pm mp B)) : w.cell? ⟨b, 4, none⟩ = some (.pointer (some ⟨pm, 0, none⟩)) ∧ w.cell? ⟨b, 5, none⟩ = some (.bool B.g) :=
 have h := bus_facts T.bus
 ⟨h.2.2.2.2.1, h.2.2.2.2.2.1⟩
theorem outPic_hp (T : Hp w0 A0 w (busObs b pp pt pu pi pm mp B)) (n v : Nat) (hv : v < 256) :
    Calls Tryz.prog 29 #[.pointer (some ⟨b, 0, none⟩), .int .i64 (n : Nat), .int .u8 (v : Nat)] w fun e w' => e = .returned (.tuple #[]) ∧ Hp w0 A0 w' (busObs b pp pt pu pi pm mp (B.out1 0 n v)) := by
 obtain ⟨k0, k1, k2, k3, k4, k5, k6, k7, kf, kl⟩ := bus_facts T.bus
 go_enter Tryz.func29, Tryz.ntmps29
 go_wp2_with fail
 refine (T.act 1 rfl (pic_out n v hv)).mono ?_
 rintro e w1 ⟨rfl, T1⟩
 go_wp2_with fail
 go_returns
 exact ⟨rfl, T1⟩
theorem outPort_hp (T : Hp w0 A0 w (busObs b pp pt pu pi pm mp B)) (n v : Nat) (hv : v < 256) (hL : B.u.sent.length + 1 ≤ 140737488355328) :
    Calls Tryz.prog 33 #[.pointer (some ⟨b, 0, none⟩), .int .i64 (n : Nat), .int .u8 (v : Nat)] w fun e w' => e = .returned (.tuple #[]) ∧ Hp w0 A0 w' (busObs b pp pt pu pi pm mp (B.out1 2 n v)) := by
 obtain ⟨k0, k1, k2, k3, k4, k5, k6, k7, kf, kl⟩ := bus_facts T.bus
 have HL := Lib.hid hL
 clear hL
 go_enter Tryz.func33, Tryz.ntmps33
 go_wp2_with fail
 refine (T.act 3 rfl (uart_out n v hv HL.out)).mono ?_
 rintro e w1 ⟨rfl, T1⟩
 go_wp2_with fail
 go_returns
 exact ⟨rfl, T1⟩
theorem outDrive_hp (T : Hp w0 A0 w (busObs b pp pt pu pi pm mp B)) (n v : Nat) (hv : v < 256) (hL : B.k.log.length + 4 < 17592186044416) :
    Calls Tryz.prog 35 #[.pointer (some ⟨b, 0, none⟩), .int .i64 (n : Nat), .int .u8 (v : Nat)] w fun e w' => e = .returned (.tuple #[]) ∧ Hp w0 A0 w' (busObs b pp pt pu pi pm mp (B.out1 3 n v)) := by
 obtain ⟨k0, k1, k2, k3, k4, k5, k6, k7, kf, kl⟩ := bus_facts T.bus
 have HL := Lib.hid hL
 clear hL
 go_enter Tryz.func35, Tryz.ntmps35
 go_wp2_with fail
 refine (T.act 4 rfl (ide_out n 1 v (by omega) HL.out)).mono ?_
 rintro e w1 ⟨rfl, T1⟩
 go_wp2_with fail
 go_returns
 exact ⟨rfl, T1⟩
theorem outTimer_hp (h : B.ok) (T : Hp w0 A0 w (busObs b pp pt pu pi pm mp B)) (n v : Nat) (hn : n < 4) (hv : v < 256) :
    Calls Tryz.prog 31 #[.pointer (some ⟨b, 0, none⟩), .int .i64 (n : Nat), .int .u8 (v : Nat)] w fun e w' => e = .returned (.tuple #[]) ∧ Hp w0 A0 w' (busObs b pp pt pu pi pm mp (B.out1 1 n v)) := by
 obtain ⟨k0, k1, k2, k3, k4, k5, k6, k7, kf, kl⟩ := bus_facts T.bus
 have ht : (B.t : Int) < 18446744073709551616 := by have := h.t; omega
 have HT := Lib.hid (And.intro h.T ht)
 have T0 := Lib.hid T.drew
 clear h ht T
 go_enter Tryz.func31, Tryz.ntmps31
 go_wp2_with fail
 go_region_held3 (fun w' => w'.cell? ⟨b, 0, none⟩ = some (.pointer (some ⟨pp, 0, none⟩)) ∧ w'.cell? ⟨b, 1, none⟩ = some (.pointer (some ⟨pt, 0, none⟩)) ∧ w'.cell? ⟨b, 6, none⟩ = some (.int .u64 (B.t : Nat))) (first | exact Hp.b016 (B := B) T0.out | exact Hp.b016 (B := B.out1 1 n v) T1 | go_keep) (first | (go_at_call 70; refine (T0.out.act 2 rfl (pit_out B.T HT.out.1 HT.out.2 n hn v hv)).mono ?_; rintro e w1 ⟨rfl, T1⟩))
 go_wp2_with fail
 go_returns
 exact ⟨rfl, T1⟩
theorem outGate_hp (T : Hp w0 A0 w (busObs b pp pt pu pi pm mp B)) (n v : Nat) (hv : v < 256) :
    Calls Tryz.prog 37 #[.pointer (some ⟨b, 0, none⟩), .int .i64 (n : Nat), .int .u8 (v : Nat)] w fun e w' => e = .returned (.tuple #[]) ∧ Hp w0 A0 w' (busObs b pp pt pu pi pm mp (B.out1 4 n v)) := by
 obtain ⟨k0, k1, k2, k3, k4, k5, k6, k7, kf, kl⟩ := bus_facts T.bus
 have e2 := and_2 v hv
 have T1 : Hp w0 A0 (w.setCell ⟨b, 5, none⟩ (.bool (gateBit v))) (busObs b pp pt pu pi pm mp { B with g := gateBit v }) := T.set 0 rfl 5 (.bool (gateBit v))
 have T2 := Lib.hid T1
 have T3 := Lib.hid T1.drew
 clear T T1
 go_enter Tryz.func37, Tryz.ntmps37
 go_upto_region 1 with (fail)
 clear k0 k1 k2 k3 k4 k5 k6 k7 kf kl
 obtain ⟨k0, k1, k2, k3, k4, k5, k6, k7, kf, kl⟩ := bus_facts T2.out.bus
 go_region_held3 (fun w' => w'.cell? ⟨b, 4, none⟩ = some (.pointer (some ⟨pm, 0, none⟩)) ∧ w'.cell? ⟨b, 5, none⟩ = some (.bool (gateBit v))) (first | exact Hp.b45 (B := { B with g := gateBit v }) T3.out | exact Hp.b45 (B := B.out1 4 n v) T4 | go_keep) (first | (go_at_call 27; refine (T3.out.act 5 rfl (ram_gate _)).mono ?_; rintro e w1 ⟨rfl, T4⟩))
 go_wp2_with fail
 go_returns
 exact ⟨rfl, T4⟩
theorem inPic_hp (T : Hp w0 A0 w (busObs b pp pt pu pi pm mp B)) (n : Nat) :
    Calls Tryz.prog 30 #[.pointer (some ⟨b, 0, none⟩), .int .i64 (n : Nat)] w fun e w' => e = .returned (.int .u8 (B.in1V 0 n)) ∧ Hp w0 A0 w' (busObs b pp pt pu pi pm mp (B.in1S 0 n)) := by
 obtain ⟨k0, k1, k2, k3, k4, k5, k6, k7, kf, kl⟩ := bus_facts T.bus
 go_enter Tryz.func30, Tryz.ntmps30
 go_wp2_with fail
 refine (T.act 1 rfl (pic_in n)).mono ?_
 rintro e w1 ⟨rfl, T1⟩
 go_wp2_with fail
 go_ret
 exact ⟨rfl, T1⟩
theorem inPort_hp (T : Hp w0 A0 w (busObs b pp pt pu pi pm mp B)) (n : Nat) :
    Calls Tryz.prog 34 #[.pointer (some ⟨b, 0, none⟩), .int .i64 (n : Nat)] w fun e w' => e = .returned (.int .u8 (B.in1V 2 n)) ∧ Hp w0 A0 w' (busObs b pp pt pu pi pm mp (B.in1S 2 n)) := by
 obtain ⟨k0, k1, k2, k3, k4, k5, k6, k7, kf, kl⟩ := bus_facts T.bus
 go_enter Tryz.func34, Tryz.ntmps34
 go_wp2_with fail
 refine (T.act 3 rfl (uart_in n)).mono ?_
 rintro e w1 ⟨rfl, T1⟩
 go_wp2_with fail
 go_ret
 exact ⟨rfl, T1⟩
theorem inDrive_hp (T : Hp w0 A0 w (busObs b pp pt pu pi pm mp B)) (n : Nat) :
    Calls Tryz.prog 36 #[.pointer (some ⟨b, 0, none⟩), .int .i64 (n : Nat)] w fun e w' => e = .returned (.int .u8 (B.in1V 3 n)) ∧ Hp w0 A0 w' (busObs b pp pt pu pi pm mp (B.in1S 3 n)) := by
 obtain ⟨k0, k1, k2, k3, k4, k5, k6, k7, kf, kl⟩ := bus_facts T.bus
 go_enter Tryz.func36, Tryz.ntmps36
 go_wp2_with fail
 refine (T.act 4 rfl (ide_in n 1)).mono ?_
 rintro e w1 ⟨rfl, T1⟩
 go_wp2_with fail
 go_ret
 exact ⟨rfl, T1⟩
theorem inTimer_hp (h : B.ok) (T : Hp w0 A0 w (busObs b pp pt pu pi pm mp B)) (n : Nat) (hn : n < 4) :
    Calls Tryz.prog 32 #[.pointer (some ⟨b, 0, none⟩), .int .i64 (n : Nat)] w fun e w' => e = .returned (.int .u8 (B.in1V 1 n)) ∧ Hp w0 A0 w' (busObs b pp pt pu pi pm mp (B.in1S 1 n)) := by
 obtain ⟨k0, k1, k2, k3, k4, k5, k6, k7, kf, kl⟩ := bus_facts T.bus
 have ht : (B.t : Int) < 18446744073709551616 := by have := h.t; omega
 have HT := Lib.hid (And.intro h.T ht)
 have T0 := Lib.hid T.drew
 clear h ht T
 go_enter Tryz.func32, Tryz.ntmps32
 go_upto_region 1 with (fail)
 go_region_held3 (fun w' => w'.cell? ⟨b, 0, none⟩ = some (.pointer (some ⟨pp, 0, none⟩)) ∧ w'.cell? ⟨b, 1, none⟩ = some (.pointer (some ⟨pt, 0, none⟩)) ∧ w'.cell? ⟨b, 6, none⟩ = some (.int .u64 (B.t : Nat))) (first | exact Hp.b016 (B := B) T0.out | exact Hp.b016 (B := B.in1S 1 n) T1 | go_keep) (first | (go_at_call 71; refine (T0.out.act 2 rfl (pit_in B.T HT.out.1 HT.out.2 n hn)).mono ?_; rintro e w1 ⟨rfl, T1⟩))
 go_wp2_with fail
 go_ret
 exact ⟨rfl, T1⟩
theorem inGate_hp (T : Hp w0 A0 w (busObs b pp pt pu pi pm mp B)) (n : Nat) :
    Calls Tryz.prog 38 #[.pointer (some ⟨b, 0, none⟩), .int .i64 (n : Nat)] w fun e w' => e = .returned (.int .u8 (B.in1V 4 n)) ∧ Hp w0 A0 w' (busObs b pp pt pu pi pm mp (B.in1S 4 n)) := by
 obtain ⟨k0, k1, k2, k3, k4, k5, k6, k7, kf, kl⟩ := bus_facts T.bus
 show Calls _ _ _ _ fun e w' => e = .returned (.int .u8 (if B.g then 2 else 0)) ∧ _
 cases hg : B.g
 all_goals
  rw [hg] at k5
  go_enter Tryz.func38, Tryz.ntmps38
  go_wp2_with fail
  go_ret
  exact ⟨rfl, T⟩
end
end Go.Proofs.YtojmpdddfnkffaaGreat

/- bus: Out. -/
namespace Go.Proofs.YtojmpdddfnkffaaGreat
open Go.RowKit Go.MapKept
set_option linter.unusedVariables false

def Bs.outP (B : Bs) (p v : Nat) : Bs := match dev p with
 | none => B
 | some x => B.out1 x.1 x.2 v
def Bs.outs (B : Bs) (a v : Nat) : Nat → Bs
 | 0 => B
 | k + 1 => (B.outs a v k).outP ((a + k) % 65536) (v / 256 ^ k % 256)
def Bs.wide (B : Bs) (a s v : Nat) : Bs := if a = 496 then { B with k := B.k.out 0 s v } else B.outs a v s
def Bs.out (B : Bs) (a s v : Nat) : Bs := (B.wide a s v).lines
theorem dev_bd {p : Nat} {x : Nat × Nat} (h : dev p = some x) : x.1 < 5 ∧ (x.1 = 1 → x.2 < 4) := by
 unfold dev at h
 (repeat' split at h)
 all_goals (first | (simp only [Option.some.injEq] at h; subst h; simp; omega) | (simp only [Option.some.injEq] at h; subst h; simp; done) | cases h)
theorem Bs.out1_ok {B : Bs} (h : B.ok) (k n v : Nat) (hv : v < 256) : (B.out1 k n v).ok ∧ (B.out1 k n v).t = B.t := by
 unfold Bs.out1
 split
 ·exact ⟨⟨h.T, h.t⟩, rfl⟩
 ·exact ⟨⟨Tm3.out_ok h.T _ _ (by omega) (by omega), h.t⟩, rfl⟩
 ·exact ⟨⟨h.T, h.t⟩, rfl⟩
 ·exact ⟨⟨h.T, h.t⟩, rfl⟩
 ·exact ⟨⟨h.T, h.t⟩, rfl⟩
theorem Bs.outP_ok {B : Bs} (h : B.ok) (p v : Nat) (hv : v < 256) : (B.outP p v).ok ∧ (B.outP p v).t = B.t := by
 unfold Bs.outP
 split
 ·exact ⟨h, rfl⟩
 ·exact out1_ok h _ _ _ hv
theorem Bs.outs_ok {B : Bs} (h : B.ok) (a v : Nat) : ∀ k, (B.outs a v k).ok ∧ (B.outs a v k).t = B.t
 | 0 => ⟨h, rfl⟩
 | k + 1 => by
  have ih := outs_ok h a v k
  have q := outP_ok ih.1 ((a + k) % 65536) (v / 256 ^ k % 256) (Nat.mod_lt _ (by decide))
  exact ⟨q.1, q.2.trans ih.2⟩
theorem ut_put (U : Uart.Ut) (n : Int) (v : Nat) : (U.out n v).sent.length ≤ U.sent.length + 1 := by
 unfold Uart.Ut.out
 (repeat' split) <;> first | (show (U.sent ++ [v]).length ≤ _; simp; done) | (unfold Uart.Ut.setD; split <;> exact Nat.le_succ _) | exact Nat.le_succ _
theorem dk_put (D : Ide.Dk) (n s : Int) (v : Nat) : (D.out n s v).log.length ≤ D.log.length + 4 := by
 by_cases h : Ide.callErr n s = 0
 ·have := Ide.out_log D n s v h
  split at this <;> omega
 ·unfold Ide.Dk.out
  rw [if_pos h]
  exact Nat.le_add_right _ _
theorem Bs.out1_fits {B : Bs} {m : Nat} (h : B.fits m) (k n v : Nat) : (B.out1 k n v).fits (m + 4) := by
 have h1 := h.s
 have h2 := h.l
 unfold Bs.out1
 split
 ·exact ⟨by show B.u.sent.length ≤ _; omega, by show B.k.log.length ≤ _; omega⟩
 ·exact ⟨by show B.u.sent.length ≤ _; omega, by show B.k.log.length ≤ _; omega⟩
 ·exact ⟨by have := ut_put B.u n v; show (B.u.out n v).sent.length ≤ _; omega, by show B.k.log.length ≤ _; omega⟩
 ·exact ⟨by show B.u.sent.length ≤ _; omega, by have := dk_put B.k n 1 v; show (B.k.out n 1 v).log.length ≤ _; omega⟩
 ·exact ⟨by show B.u.sent.length ≤ _; omega, by show B.k.log.length ≤ _; omega⟩
theorem Bs.fits.le {B : Bs} {m n : Nat} (h : B.fits m) (hn : m ≤ n) : B.fits n := ⟨Nat.le_trans h.s hn, Nat.le_trans h.l hn⟩
theorem Bs.outs_fits {B : Bs} {m : Nat} (h : B.fits m) (a v : Nat) : ∀ k, (B.outs a v k).fits (m + 4 * k)
 | 0 => h
 | k + 1 => by
  have ih := outs_fits h a v k
  show (Bs.outP _ _ _).fits _
  unfold Bs.outP
  split
  ·exact ih.le (by omega)
  ·exact (out1_fits ih _ _ _).le (by omega)
theorem Bs.wide_ok {B : Bs} (h : B.ok) (a s v : Nat) : (B.wide a s v).ok ∧ (B.wide a s v).t = B.t := by
 unfold Bs.wide
 split
 ·exact ⟨⟨h.T, h.t⟩, rfl⟩
 ·exact outs_ok h a v s
theorem Bs.wide_fits {B : Bs} {m : Nat} (h : B.fits m) (a s v : Nat) (hs : s ≤ 4) : (B.wide a s v).fits (m + 16) := by
 have h1 := h.s
 have h2 := h.l
 unfold Bs.wide
 split
 ·exact ⟨by show B.u.sent.length ≤ _; omega, by have := dk_put B.k 0 s v; show (B.k.out 0 s v).log.length ≤ _; omega⟩
 ·exact (outs_fits h a v s).le (by omega)
theorem Bs.lines_ok {B : Bs} (h : B.ok) : B.lines.ok := ⟨h.T, h.t⟩
theorem Bs.lines_fits {B : Bs} {m : Nat} (h : B.fits m) : B.lines.fits m := ⟨h.s, h.l⟩
theorem Bs.out_ok {B : Bs} (h : B.ok) (a s v : Nat) : (B.out a s v).ok := lines_ok (wide_ok h a s v).1
theorem Bs.out_t {B : Bs} (h : B.ok) (a s v : Nat) : (B.out a s v).t = B.t := (wide_ok h a s v).2
theorem Bs.out_fits {B : Bs} {m : Nat} (h : B.fits m) (a s v : Nat) (hs : s ≤ 4) : (B.out a s v).fits (m + 16) := lines_fits (wide_fits h a s v hs)
theorem zero_port (w : World) : (zeroValue 89).run Tryz.prog w = .ok (.agg #[.nilFunc, .nilFunc, .int .i64 0]) w := by kernel_rfl
section
variable {b pp pt pu pi pm mp : Nat} {B : Bs} {w0 w : World} {A0 : Nat → Prop}
theorem Hp.look (T : Hp w0 A0 w (busObs b pp pt pu pi pm mp B)) (n : Nat) (x : Int) (hx : x = (n : Int)) :
    (Instr.lookup 82 (.map (some mp)) (.int .u16 x) true).run Tryz.prog w = .ok (.tuple #[(prt b n).getD (.agg #[.nilFunc, .nilFunc, .int .i64 0]), .bool (prt b n).isSome]) w := by
 obtain ⟨A, a⟩ := T.get 6 rfl
 exact a.1.lookupOk (k := 41) (e := 89) (by kernel_rfl) (by kernel_rfl) (zero_port w) n x hx
theorem Hp.lookN (T : Hp w0 A0 w (busObs b pp pt pu pi pm mp B)) (n : Nat) (x : Int) (hx : x = (n : Int)) (hd : dev n = none) :
    (Instr.lookup 82 (.map (some mp)) (.int .u16 x) true).run Tryz.prog w = .ok (.tuple #[.agg #[.nilFunc, .nilFunc, .int .i64 0], .bool false]) w := by
 rw [T.look n x hx]; unfold prt; rw [hd]; rfl
theorem Hp.lookS (T : Hp w0 A0 w (busObs b pp pt pu pi pm mp B)) (n : Nat) (x : Int) (hx : x = (n : Int)) (k j : Nat) (hd : dev n = some (k, j)) :
    (Instr.lookup 82 (.map (some mp)) (.int .u16 x) true).run Tryz.prog w = .ok (.tuple #[.agg #[.func (.func (outF k)) #[.pointer (some ⟨b, 0, none⟩)] #[], .func (.func (inF k)) #[.pointer (some ⟨b, 0, none⟩)] #[], .int .i64 (j : Nat)], .bool true]) w := by
 rw [T.look n x hx]; unfold prt; rw [hd]; rfl
theorem check_any (s : Nat) (hs : s = 1 ∨ s = 2 ∨ s = 4) (w : World) : Calls Tryz.prog 61 #[.pointer (some ⟨b, 0, none⟩), .int .i64 (s : Nat)] w fun e w' => e = .returned (.int .i64 0) ∧ w = w' := by
 rcases hs with rfl | rfl | rfl
 all_goals
  go_enter Tryz.func61, Tryz.ntmps61
  go_wp2_with fail
  go_ret
  exact ⟨rfl, rfl⟩
theorem check_bad (s : Int) (h1 : s ≠ 1) (h2 : s ≠ 2) (h4 : s ≠ 4) (w : World) : Calls Tryz.prog 61 #[.pointer (some ⟨b, 0, none⟩), .int .i64 s] w fun e w' => e = .returned (.int .i64 2) ∧ w = w' := by
 have e1 : (s != 1) = true := by simpa using h1
 have e2 : (s != 2) = true := by simpa using h2
 have e4 : (s != 4) = true := by simpa using h4
 clear h1 h2 h4
 go_enter Tryz.func61, Tryz.ntmps61
 go_wp2_with fail
 go_ret
 exact ⟨rfl, rfl⟩
theorem out_hp (h : B.ok) (hf : B.fits 1000000) (T : Hp w0 A0 w (busObs b pp pt pu pi pm mp B)) (a s v : Nat) (ha : a < 65536) (hs : s = 1 ∨ s = 2 ∨ s = 4) (hv : v < 4294967296) :
    Calls Tryz.prog 18 #[.pointer (some ⟨b, 0, none⟩), .int .u16 (a : Nat), .int .i64 (s : Nat), .int .u32 (v : Nat)] w fun e w' => e = .returned (.int .i64 0) ∧ Hp w0 A0 w' (busObs b pp pt pu pi pm mp (B.out a s v)) := by
 have HO := Lib.hid h
 have HF := Lib.hid hf
 have HS := Lib.hid hs
 have s4 : s ≤ 4 := by omega
 clear h hf hs
 go_enter Tryz.func18, Tryz.ntmps18
 go_wp2_with fail
 refine (check_any s HS.out w).mono ?_
 rintro e w1 ⟨rfl, rfl⟩
 by_cases h9 : a = 496
 ·subst h9
  obtain ⟨k0, k1, k2, k3, k4, k5, k6, k7, kf, kl⟩ := bus_facts T.bus
  go_wp2_with fail
  refine (T.act 4 rfl (ide_out 0 s v hv (by have := HF.out.l; omega))).mono ?_
  rintro e w1 ⟨rfl, T1⟩
  have T2 : Hp w0 A0 w1 (busObs b pp pt pu pi pm mp (B.wide 496 s v)) := T1
  clear T1 T k0 k1 k2 k3 k4 k5 k6 k7 kf kl
  go_wp2_with fail
  go_loopw [30] (fun i wr => i = .int .i64 0 ∧ wr = w1) (fun i _ => 0)
  case atStart => exact ⟨rfl, rfl⟩
  case round =>
   obtain ⟨rfl, rfl⟩ := hrel
   go_wp2_with fail
   refine (lines_hp (Bs.wide_ok HO.out 496 s v).1 T2).mono ?_
   rintro e w2 ⟨rfl, T3⟩
   go_wp2_with fail
   go_ret
   exact ⟨rfl, T3⟩
 ·have e9 : ((a : Int) == 496) = false := by simp; omega
  have H9 := Lib.hid h9
  clear h9
  have HT := Lib.hid T
  clear T
  go_wp2_with fail
  go_loopw [30] (fun i wr => ∃ k : Nat, k ≤ s ∧ i = .int .i64 k ∧ Hp w0 A0 wr (busObs b pp pt pu pi pm mp (B.outs a v k))) (fun i _ => s - (intOf i).toNat)
  case atStart => exact ⟨0, by omega, rfl, HT.out⟩
  case round =>
   rename_i wr
   obtain ⟨k, hk, rfl, T⟩ := hrel
   have OK := Lib.hid (Bs.outs_ok HO.out a v k).1
   have FI := Lib.hid (Bs.outs_fits HF.out a v k)
   have hbv : v / 256 ^ k % 256 < 256 := Nat.mod_lt _ (by decide)
   by_cases hlt : k < s
   ·obtain ⟨k0, k1, k2, k3, k4, k5, k6, k7, kf, kl⟩ := bus_facts T.bus
    have hkey : IntKind.u16.wrap ((a : Int) + (k : Int)) = (((a + k) % 65536 : Nat) : Int) := by rw [IntKind.wrap_u16]; omega
    have HT1 := Lib.hid T
    cases hd : dev ((a + k) % 65536) with
    | none =>
     have lk := T.lookN ((a + k) % 65536) _ hkey hd
     have hs : (B.outs a v (k + 1)) = B.outs a v k := by show Bs.outP _ _ _ = _; unfold Bs.outP; rw [hd]
     have HS1 := Lib.hid hs
     clear hs hd hkey T hbv
     go_wp2_with fail
     go_roundw
     case rel => exact ⟨k + 1, by omega, by go_num, by rw [HS1.out]; exact HT1.out.alloc _⟩
     case measure => (simp [intOf]) <;> omega
    | some x =>
     obtain ⟨kd, j⟩ := x
     have hs : (B.outs a v (k + 1)) = (B.outs a v k).out1 kd j (v / 256 ^ k % 256) := by show Bs.outP _ _ _ = _; unfold Bs.outP; rw [hd]
     obtain ⟨hk5, hj⟩ := dev_bd hd
     simp only at hk5 hj
     have lk := T.lookS ((a + k) % 65536) _ hkey kd j hd
     clear hd hkey T
     have q2 : (0 : Int) ≤ 8 * (k : Int) := by omega
     have q3 : (8 : Int) * (k : Int) ≤ 32 := by omega
     rcases (show kd = 0 ∨ kd = 1 ∨ kd = 2 ∨ kd = 3 ∨ kd = 4 by omega) with rfl | rfl | rfl | rfl | rfl
     ·have HS1 := Lib.hid hs
      have HJ := Lib.hid hj
      clear hs hk5 hj
      simp only [outF, inF] at lk
      go_upto_region 12 with (fail)
      clear lk k0 k1 k2 k3 k4 k5 k6 k7 kf kl
      have T2 := HT1.out.alloc (.cells #[.func (.func 29) #[.pointer (some ⟨b, 0, none⟩)] #[], .func (.func 30) #[.pointer (some ⟨b, 0, none⟩)] #[], .int .i64 (j : Nat)] 89)
      have hb := heap_new wr (.cells #[.func (.func 29) #[.pointer (some ⟨b, 0, none⟩)] #[], .func (.func 30) #[.pointer (some ⟨b, 0, none⟩)] #[], .int .i64 (j : Nat)] 89)
      have hl := heap_lt hb
      generalize wr.alloc (.cells #[.func (.func 29) #[.pointer (some ⟨b, 0, none⟩)] #[], .func (.func 30) #[.pointer (some ⟨b, 0, none⟩)] #[], .int .i64 (j : Nat)] 89) = W at *
      generalize wr.heap.size = g at *
      have x0 : W.cell? ⟨g, 0, none⟩ = some (.func (.func 29) #[.pointer (some ⟨b, 0, none⟩)] #[]) := by rw [cell_at hb]; rfl
      have x2 : W.cell? ⟨g, 2, none⟩ = some (.int .i64 (j : Nat)) := by rw [cell_at hb]; rfl
      have HT2 := Lib.hid T2.drew
      have hw : IntKind.i64.wrap (8 * (k : Int)) = 8 * (k : Int) := IntWalk.i64_in _ (by omega)
      clear hb T2
      go_still_tail 9, (by kernel_rfl)
      change wpList _ _ _ _ _ W.drew
      go_wp2_with fail
      rw [Ide.shr_nat v k]
      refine (outPic_hp HT2.out j (v / 256 ^ k % 256) hbv).mono ?_
      rintro e w2 ⟨rfl, T3⟩
      rw [← HS1.out] at T3
      have HT3 := Lib.hid T3
      clear T3
      go_wp2_with fail
      go_roundw
      case rel => exact ⟨k + 1, by omega, by go_num, HT3.out⟩
      case measure => (simp [intOf]) <;> omega
     ·have HS1 := Lib.hid hs
      have HJ := Lib.hid hj
      clear hs hk5 hj
      simp only [outF, inF] at lk
      go_upto_region 12 with (fail)
      clear lk k0 k1 k2 k3 k4 k5 k6 k7 kf kl
      have T2 := HT1.out.alloc (.cells #[.func (.func 31) #[.pointer (some ⟨b, 0, none⟩)] #[], .func (.func 32) #[.pointer (some ⟨b, 0, none⟩)] #[], .int .i64 (j : Nat)] 89)
      have hb := heap_new wr (.cells #[.func (.func 31) #[.pointer (some ⟨b, 0, none⟩)] #[], .func (.func 32) #[.pointer (some ⟨b, 0, none⟩)] #[], .int .i64 (j : Nat)] 89)
      have hl := heap_lt hb
      generalize wr.alloc (.cells #[.func (.func 31) #[.pointer (some ⟨b, 0, none⟩)] #[], .func (.func 32) #[.pointer (some ⟨b, 0, none⟩)] #[], .int .i64 (j : Nat)] 89) = W at *
      generalize wr.heap.size = g at *
      have x0 : W.cell? ⟨g, 0, none⟩ = some (.func (.func 31) #[.pointer (some ⟨b, 0, none⟩)] #[]) := by rw [cell_at hb]; rfl
      have x2 : W.cell? ⟨g, 2, none⟩ = some (.int .i64 (j : Nat)) := by rw [cell_at hb]; rfl
      have HT2 := Lib.hid T2.drew
      have hw : IntKind.i64.wrap (8 * (k : Int)) = 8 * (k : Int) := IntWalk.i64_in _ (by omega)
      clear hb T2
      go_still_tail 9, (by kernel_rfl)
      change wpList _ _ _ _ _ W.drew
      go_wp2_with fail
      rw [Ide.shr_nat v k]
      refine (outTimer_hp OK.out HT2.out j (v / 256 ^ k % 256) (by have := HJ.out; simpa using this) hbv).mono ?_
      rintro e w2 ⟨rfl, T3⟩
      rw [← HS1.out] at T3
      have HT3 := Lib.hid T3
      clear T3
      go_wp2_with fail
      go_roundw
      case rel => exact ⟨k + 1, by omega, by go_num, HT3.out⟩
      case measure => (simp [intOf]) <;> omega
     ·have HS1 := Lib.hid hs
      have HJ := Lib.hid hj
      clear hs hk5 hj
      simp only [outF, inF] at lk
      go_upto_region 12 with (fail)
      clear lk k0 k1 k2 k3 k4 k5 k6 k7 kf kl
      have T2 := HT1.out.alloc (.cells #[.func (.func 33) #[.pointer (some ⟨b, 0, none⟩)] #[], .func (.func 34) #[.pointer (some ⟨b, 0, none⟩)] #[], .int .i64 (j : Nat)] 89)
      have hb := heap_new wr (.cells #[.func (.func 33) #[.pointer (some ⟨b, 0, none⟩)] #[], .func (.func 34) #[.pointer (some ⟨b, 0, none⟩)] #[], .int .i64 (j : Nat)] 89)
      have hl := heap_lt hb
      generalize wr.alloc (.cells #[.func (.func 33) #[.pointer (some ⟨b, 0, none⟩)] #[], .func (.func 34) #[.pointer (some ⟨b, 0, none⟩)] #[], .int .i64 (j : Nat)] 89) = W at *
      generalize wr.heap.size = g at *
      have x0 : W.cell? ⟨g, 0, none⟩ = some (.func (.func 33) #[.pointer (some ⟨b, 0, none⟩)] #[]) := by rw [cell_at hb]; rfl
      have x2 : W.cell? ⟨g, 2, none⟩ = some (.int .i64 (j : Nat)) := by rw [cell_at hb]; rfl
      have HT2 := Lib.hid T2.drew
      have hw : IntKind.i64.wrap (8 * (k : Int)) = 8 * (k : Int) := IntWalk.i64_in _ (by omega)
      clear hb T2
      go_still_tail 9, (by kernel_rfl)
      change wpList _ _ _ _ _ W.drew
      go_wp2_with fail
      rw [Ide.shr_nat v k]
      refine (outPort_hp HT2.out j (v / 256 ^ k % 256) hbv (by have := FI.out.s; omega)).mono ?_
      rintro e w2 ⟨rfl, T3⟩
      rw [← HS1.out] at T3
      have HT3 := Lib.hid T3
      clear T3
      go_wp2_with fail
      go_roundw
      case rel => exact ⟨k + 1, by omega, by go_num, HT3.out⟩
      case measure => (simp [intOf]) <;> omega
     ·have HS1 := Lib.hid hs
      have HJ := Lib.hid hj
      clear hs hk5 hj
      simp only [outF, inF] at lk
      go_upto_region 12 with (fail)
      clear lk k0 k1 k2 k3 k4 k5 k6 k7 kf kl
      have T2 := HT1.out.alloc (.cells #[.func (.func 35) #[.pointer (some ⟨b, 0, none⟩)] #[], .func (.func 36) #[.pointer (some ⟨b, 0, none⟩)] #[], .int .i64 (j : Nat)] 89)
      have hb := heap_new wr (.cells #[.func (.func 35) #[.pointer (some ⟨b, 0, none⟩)] #[], .func (.func 36) #[.pointer (some ⟨b, 0, none⟩)] #[], .int .i64 (j : Nat)] 89)
      have hl := heap_lt hb
      generalize wr.alloc (.cells #[.func (.func 35) #[.pointer (some ⟨b, 0, none⟩)] #[], .func (.func 36) #[.pointer (some ⟨b, 0, none⟩)] #[], .int .i64 (j : Nat)] 89) = W at *
      generalize wr.heap.size = g at *
      have x0 : W.cell? ⟨g, 0, none⟩ = some (.func (.func 35) #[.pointer (some ⟨b, 0, none⟩)] #[]) := by rw [cell_at hb]; rfl
      have x2 : W.cell? ⟨g, 2, none⟩ = some (.int .i64 (j : Nat)) := by rw [cell_at hb]; rfl
      have HT2 := Lib.hid T2.drew
      have hw : IntKind.i64.wrap (8 * (k : Int)) = 8 * (k : Int) := IntWalk.i64_in _ (by omega)
      clear hb T2
      go_still_tail 9, (by kernel_rfl)
      change wpList _ _ _ _ _ W.drew
      go_wp2_with fail
      rw [Ide.shr_nat v k]
      refine (outDrive_hp HT2.out j (v / 256 ^ k % 256) hbv (by have := FI.out.l; omega)).mono ?_
      rintro e w2 ⟨rfl, T3⟩
      rw [← HS1.out] at T3
      have HT3 := Lib.hid T3
      clear T3
      go_wp2_with fail
      go_roundw
      case rel => exact ⟨k + 1, by omega, by go_num, HT3.out⟩
      case measure => (simp [intOf]) <;> omega
     ·have HS1 := Lib.hid hs
      have HJ := Lib.hid hj
      clear hs hk5 hj
      simp only [outF, inF] at lk
      go_upto_region 12 with (fail)
      clear lk k0 k1 k2 k3 k4 k5 k6 k7 kf kl
      have T2 := HT1.out.alloc (.cells #[.func (.func 37) #[.pointer (some ⟨b, 0, none⟩)] #[], .func (.func 38) #[.pointer (some ⟨b, 0, none⟩)] #[], .int .i64 (j : Nat)] 89)
      have hb := heap_new wr (.cells #[.func (.func 37) #[.pointer (some ⟨b, 0, none⟩)] #[], .func (.func 38) #[.pointer (some ⟨b, 0, none⟩)] #[], .int .i64 (j : Nat)] 89)
      have hl := heap_lt hb
      generalize wr.alloc (.cells #[.func (.func 37) #[.pointer (some ⟨b, 0, none⟩)] #[], .func (.func 38) #[.pointer (some ⟨b, 0, none⟩)] #[], .int .i64 (j : Nat)] 89) = W at *
      generalize wr.heap.size = g at *
      have x0 : W.cell? ⟨g, 0, none⟩ = some (.func (.func 37) #[.pointer (some ⟨b, 0, none⟩)] #[]) := by rw [cell_at hb]; rfl
      have x2 : W.cell? ⟨g, 2, none⟩ = some (.int .i64 (j : Nat)) := by rw [cell_at hb]; rfl
      have HT2 := Lib.hid T2.drew
      have hw : IntKind.i64.wrap (8 * (k : Int)) = 8 * (k : Int) := IntWalk.i64_in _ (by omega)
      clear hb T2
      go_still_tail 9, (by kernel_rfl)
      change wpList _ _ _ _ _ W.drew
      go_wp2_with fail
      rw [Ide.shr_nat v k]
      refine (outGate_hp HT2.out j (v / 256 ^ k % 256) hbv).mono ?_
      rintro e w2 ⟨rfl, T3⟩
      rw [← HS1.out] at T3
      have HT3 := Lib.hid T3
      clear T3
      go_wp2_with fail
      go_roundw
      case rel => exact ⟨k + 1, by omega, by go_num, HT3.out⟩
      case measure => (simp [intOf]) <;> omega
   ·have hk2 : k = s := by omega
    subst hk2
    have HT2 := Lib.hid T
    clear T
    go_wp2_with fail
    have T2 : Hp w0 A0 wr (busObs b pp pt pu pi pm mp (B.wide a k v)) := by
     show Hp _ _ _ (busObs _ _ _ _ _ _ _ (if a = 496 then _ else B.outs a v k)); rw [if_neg H9.out]; exact HT2.out
    refine (lines_hp (Bs.wide_ok HO.out a k v).1 T2).mono ?_
    rintro e w2 ⟨rfl, T3⟩
    go_wp2_with fail
    go_ret
    exact ⟨rfl, T3⟩
end
end Go.Proofs.YtojmpdddfnkffaaGreat

