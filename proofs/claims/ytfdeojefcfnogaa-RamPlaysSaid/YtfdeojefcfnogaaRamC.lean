/- ram: a byte is laid. -/
import Derived.Test.YtfdeojefcfnogaaRamB
namespace Go.Proofs.Ytfdeojefcfnogaa
open Go.RowKit Go.MapKept
set_option linter.unusedVariables false

theorem RS.lay_quiet (R : RS) (n v : Nat) (h : R.watched (n / 64) = false) : R.lay n v = { R with byte := fun i => if i = n then v else R.byte i } := by
  unfold RS.lay
  congr 1
  · funext g
    by_cases e : g = n / 64
    · rw [if_pos e, e, h]
    · rw [if_neg e]
  · funext k
    rw [if_neg]
    rintro ⟨_, h2⟩
    rw [h] at h2
    cases h2
theorem RS.lay_loud (R : RS) (n v : Nat) (h : R.watched (n / 64) = true) :
    R.lay n v = { R with byte := fun i => if i = n then v else R.byte i, watched := fun g => if g = n / 64 then false else R.watched g, noted := fun k => if k = n / 64 * 64 then true else R.noted k } := by
  unfold RS.lay
  congr 1
  funext k
  by_cases e : k = n / 64 * 64
  · rw [if_pos ⟨e, h⟩, if_pos e]
  · rw [if_neg (fun x => e x.1), if_neg e]
theorem set_del (g : Nat → Bool) (x : Nat) (m : Nat) : (if (if m = x then false else g m) then some (Value.bool true) else none) = (if m = x then none else (if g m then some (Value.bool true) else none)) := by
  by_cases e : m = x <;> simp [e]
theorem set_put (g : Nat → Bool) (x : Nat) (m : Nat) : (if (if m = x then true else g m) then some (Value.bool true) else none) = (if m = x then some (Value.bool true) else (if g m then some (Value.bool true) else none)) := by
  by_cases e : m = x <;> simp [e]

theorem Keeps.one {S : Nat → Prop} {a b c : World} {r : Nat} (h : Keeps S a b) (k : Keeps (· = r) b c) (hr : S r) : Keeps S a c := h.andThen k fun i _ e => by rw [e]; exact hr
theorem SetAt.look {w : World} {g : Nat → Bool} {r n : Nat} {v : Bool} (h : SetAt w r g) (hv : g n = v) (x : Int) (hx : x = (n : Int)) : (Instr.lookup 59 (.map (some r)) (.int .u32 x) false).run Try.prog w = .ok (.bool v) w := by
  rw [← hv]; exact SetAt.lookup h x hx
theorem MarkAt.look {w : World} {g : Nat → Bool} {r n : Nat} {v : Bool} (h : MarkAt w r g) (hv : g n = v) (x : Int) (hx : x = (n : Int)) : (Instr.lookup 59 (.map (some r)) (.int .u32 x) false).run Try.prog w = .ok (.bool v) w := by
  rw [← hv]; exact MarkAt.lookup h x hx

set_option maxHeartbeats 1000000 in
theorem put_old {w : World} {b bp bo bw bn : Nat} {pg : Nat → Option Nat} {R : RS} (H : RamIn w b bp bo bw bn pg R) (a v : Nat) (ha : a < 4294967296) (hv : v < 256) (hs : R.place a < R.size) (q : Nat) (hq : pg (R.place a / 4096) = some q) :
    Calls Try.prog 25 #[.pointer (some ⟨b, 0, .none⟩), .int .u32 a, .int .u8 v] w fun e w' => e = .returned (.tuple #[]) ∧ RamIn w' b bp bo bw bn pg (R.put a v) ∧ Keeps (Owned b bp bo bw bn pg) w w' := by
  obtain ⟨-, k1, -, -, -, -, kf, klt⟩ := H.facts
  have hpl := R.place_le a
  have hsz := RS.size_le H.ok
  have hpa := place_any H a ha
  have hg : R.put a v = R.lay (R.place a) v := by unfold RS.put; rw [if_pos hs]
  have HG := Lib.hid hg
  clear hg
  generalize R.place a = p at *
  have HP := Lib.hid hpa
  clear hpa
  have hd : decide (p < R.size) = true := decide_eq_true hs
  have hx : ((p : Int) / 4096) = ((p / 4096 : Nat) : Int) := by omega
  have hc := page_cell (H.page _ _ hq) (Nat.mod_lt p (show 0 < 4096 by decide))
  have hf : ∀ k, w.frozen? ⟨q, k, .none⟩ = false := fun k => free_at (H.page _ _ hq)
  go_enter Try.func25, Try.ntmps25
  go_wp2_with fail
  refine HP.out.mono ?_
  rintro e w1 ⟨rfl, n, rfl⟩
  rw [hd]
  have hl := pages_lookup (H.mp.drewN n) _ hx
  rw [hq, Option.map_some] at hl
  have HQ := Lib.hid hq
  have HX := Lib.hid hx
  clear hx hd hq
  go_upto_region 7 with (fail)
  have H1 := (H.drewN n).store p v q hv HQ.out
  have K1 : Keeps (Owned b bp bo bw bn pg) w ((w.drewN n).setCell ⟨q, p % 4096, .none⟩ (.int .u8 v)) := ((Keeps.refl _ w).drewN n).setCell (.inl (.inr (.inr (.inr (.inr (.inr ⟨_, HQ.out⟩)))))) _
  generalize (w.drewN n).setCell ⟨q, p % 4096, .none⟩ (.int .u8 v) = W1 at *
  clear hl hc hf k1 kf klt
  obtain ⟨-, -, -, k3, k4, -, kf, klt⟩ := H1.facts
  have hx : ((p : Int) / 64) = ((p / 64 : Nat) : Int) := by omega
  cases hw : R.watched (p / 64)
  · have hl := SetAt.look H1.mw hw _ hx
    have HW := Lib.hid hw
    clear hx hw
    go_wp2_with fail
    go_end0
    exact ⟨rfl, by rw [HG.out, RS.lay_quiet _ _ _ HW.out]; exact H1, K1⟩
  · have hl := SetAt.look H1.mw hw _ hx
    have HW := Lib.hid hw
    have hx2 : ((p : Int) / 64 * 64) = ((p / 64 * 64 : Nat) : Int) := by omega
    obtain ⟨W2, hdel, M2, K2⟩ := MapAt.delete H1.mw Try.underlying59 Try.underlying23 (p / 64) _ hx 23 0
    have M2 : SetAt W2 bw (fun m => if m = p / 64 then false else R.watched m) := M2.ext (fun m => set_del R.watched (p / 64) m)
    have H2 := H1.turnWatched M2 K2
    obtain ⟨W3, hput, M3, K3⟩ := MapAt.update H2.mn Try.underlying59 Try.underlying23 (p / 64 * 64) _ hx2 (.bool true)
    have M3 : SetAt W3 bn (fun m => if m = p / 64 * 64 then true else R.noted m) := M3.ext (fun m => set_put R.noted (p / 64 * 64) m)
    have H3 := H2.turnNoted M3 K3
    obtain ⟨-, -, -, -, q4, -, -, -⟩ := H2.facts
    clear hx hx2 hw M2 M3 H2
    go_wp2_with fail
    go_end0
    refine ⟨rfl, by rw [HG.out, RS.lay_loud _ _ _ HW.out]; exact H3, ?_⟩
    exact (K1.one K2 (.inr (.inr (.inr (.inl rfl))))).one K3 (.inr (.inr (.inr (.inr (.inl rfl)))))
set_option maxHeartbeats 1000000 in
theorem put_new {w : World} {b bp bo bw bn : Nat} {pg : Nat → Option Nat} {R : RS} (H : RamIn w b bp bo bw bn pg R) (a v : Nat) (ha : a < 4294967296) (hv : v < 256) (hs : R.place a < R.size) (hq : pg (R.place a / 4096) = .none) :
    Calls Try.prog 25 #[.pointer (some ⟨b, 0, .none⟩), .int .u32 a, .int .u8 v] w fun e w' => e = .returned (.tuple #[]) ∧ RamIn w' b bp bo bw bn (fun m => if m = R.place a / 4096 then some w.heap.size else pg m) (R.put a v) ∧ Keeps (Owned b bp bo bw bn pg) w w' := by
  obtain ⟨-, k1, -, -, -, -, kf, klt⟩ := H.facts
  have hpl := R.place_le a
  have hsz := RS.size_le H.ok
  have hpa := place_any H a ha
  have hg : R.put a v = R.lay (R.place a) v := by unfold RS.put; rw [if_pos hs]
  have HG := Lib.hid hg
  clear hg
  generalize R.place a = p at *
  have HP := Lib.hid hpa
  clear hpa
  have hd : decide (p < R.size) = true := decide_eq_true hs
  have hx : ((p : Int) / 4096) = ((p / 4096 : Nat) : Int) := by omega
  have hin : p / 4096 < R.pages := by unfold RS.size at hs; omega
  go_enter Try.func25, Try.ntmps25
  go_wp2_with fail
  refine HP.out.mono ?_
  rintro e w1 ⟨rfl, n, rfl⟩
  rw [hd]
  have hl := pages_lookup (H.mp.drewN n) _ hx
  rw [hq, Option.map_none] at hl
  have HQ := Lib.hid hq
  have HX := Lib.hid hx
  clear hx hd hq
  have hzp := zero_page
  go_upto_region 5 with (fail)
  have hx := HX.out
  obtain ⟨W0, hput, M0, K0⟩ := MapAt.update ((H.mp.drewN n).alloc (.cells zeroCells 69)) Try.underlying58 Try.underlying23 (p / 4096) _ hx (.pointer (some ⟨w.heap.size, 0, .none⟩))
  have H0 : RamIn W0 b bp bo bw bn (fun m => if m = p / 4096 then some w.heap.size else pg m) R := (H.drewN n).newPage (p / 4096) HQ.out hin M0 K0
  have j1 := (((H.drewN n).alloc (.cells zeroCells 69)).facts).2.1
  have hsame : (fun m => if m = p / 4096 then some w.heap.size else pg m) (p / 4096) = some w.heap.size := by simp
  have hpage := H0.page _ _ hsame
  have hc := page_cell hpage (Nat.mod_lt p (show 0 < 4096 by decide))
  have hf : ∀ k, W0.frozen? ⟨w.heap.size, k, .none⟩ = false := fun k => free_at hpage
  have j2 := H0.facts.2.2.2.2.2.2.2
  have HS := Lib.hid hsame
  clear hl hx M0 hpage hsame k1 kf klt
  go_upto_region 7 with (fail)
  have hsame := HS.out
  have H1 := H0.store p v w.heap.size hv hsame
  have K1 : Keeps (Owned b bp bo bw bn pg) w (W0.setCell ⟨w.heap.size, p % 4096, .none⟩ (.int .u8 v)) :=
    ((((Keeps.refl _ w).drewN n).alloc _).one K0 (.inr (.inl rfl))).setCell (.inr (Nat.le_refl _)) _
  generalize W0.setCell ⟨w.heap.size, p % 4096, .none⟩ (.int .u8 v) = W1 at *
  clear hc hf j1 j2 hzp hsame
  obtain ⟨-, -, -, k3, k4, -, kf, klt⟩ := H1.facts
  have hx : ((p : Int) / 64) = ((p / 64 : Nat) : Int) := by omega
  cases hw : R.watched (p / 64)
  · have hl := SetAt.look H1.mw hw _ hx
    have HW := Lib.hid hw
    clear hx hw
    go_wp2_with fail
    go_end0
    exact ⟨rfl, by rw [HG.out, RS.lay_quiet _ _ _ HW.out]; exact H1, K1⟩
  · have hl := SetAt.look H1.mw hw _ hx
    have HW := Lib.hid hw
    have hx2 : ((p : Int) / 64 * 64) = ((p / 64 * 64 : Nat) : Int) := by omega
    obtain ⟨W2, hdel, M2, K2⟩ := MapAt.delete H1.mw Try.underlying59 Try.underlying23 (p / 64) _ hx 23 0
    have M2 : SetAt W2 bw (fun m => if m = p / 64 then false else R.watched m) := M2.ext (fun m => set_del R.watched (p / 64) m)
    have H2 := H1.turnWatched M2 K2
    obtain ⟨W3, hput, M3, K3⟩ := MapAt.update H2.mn Try.underlying59 Try.underlying23 (p / 64 * 64) _ hx2 (.bool true)
    have M3 : SetAt W3 bn (fun m => if m = p / 64 * 64 then true else R.noted m) := M3.ext (fun m => set_put R.noted (p / 64 * 64) m)
    have H3 := H2.turnNoted M3 K3
    obtain ⟨-, -, -, -, q4, -, -, -⟩ := H2.facts
    clear hx hx2 hw M2 M3 H2
    go_wp2_with fail
    go_end0
    refine ⟨rfl, by rw [HG.out, RS.lay_loud _ _ _ HW.out]; exact H3, ?_⟩
    exact (K1.one K2 (.inr (.inr (.inr (.inl rfl))))).one K3 (.inr (.inr (.inr (.inr (.inl rfl)))))
end Go.Proofs.Ytfdeojefcfnogaa
