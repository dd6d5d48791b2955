/- Steps of a proof: RamB, RamC, RamD, together. -/
import Derived.Test.YtmpcafdgkbpneaaGreatS0
/- ram: a byte is read; a byte is laid. -/
set_option maxHeartbeats 4000000
set_option maxRecDepth 20000
namespace Go.Proofs.YtmpcafdgkbpneaaGreat
open Go.RowKit Go.MapKept
set_option linter.unusedVariables false

def Moves (S S' : Nat → Prop) (w w' : World) : Prop := Keeps S w w' ∧ ∀ k, S' k → S k ∨ w.heap.size ≤ k
theorem Moves.refl (S : Nat → Prop) (w : World) : Moves S S w w := ⟨Keeps.refl S w, fun k h => .inl h⟩
theorem Moves.drewN (S : Nat → Prop) (w : World) (n : Nat) : Moves S S w (w.drewN n) := ⟨(Keeps.refl S w).drewN n, fun k h => .inl h⟩
theorem Moves.trans {S S' S'' : Nat → Prop} {a b c : World} (h : Moves S S' a b) (k : Moves S' S'' b c) : Moves S S'' a c := by
 refine ⟨h.1.andThen k.1 fun i hi hS => ?_, fun i hi => ?_⟩
 ·rcases h.2 i hS with h1 | h1
  ·exact h1
  ·omega
 ·rcases k.2 i hi with h1 | h1
  ·exact h.2 i h1
  ·exact .inr (Nat.le_trans h.1.size h1)

theorem page_set (byte : Nat → Nat) (k i v : Nat) (hi : i < 4096) :
    (pageCells byte k).setIfInBounds i (.int .u8 v) = pageCells (fun m => if m = k * 4096 + i then v else byte m) k := by
 apply Array.ext_getElem?
 intro j
 unfold pageCells
 rw [Array.getElem?_setIfInBounds, Array.getElem?_ofFn, Array.getElem?_ofFn]
 by_cases hj : j < 4096
 ·rw [dif_pos hj, dif_pos hj]
  by_cases e : i = j
  ·subst e
   rw [if_pos rfl, if_pos (by simpa using hi)]
   simp
  ·rw [if_neg e]
   have : ¬ k * 4096 + j = k * 4096 + i := by omega
   show _ = some (Value.int .u8 ((if k * 4096 + j = k * 4096 + i then v else byte (k * 4096 + j) : Nat) : Int))
   rw [if_neg this]
 ·rw [dif_neg hj, dif_neg hj]
  by_cases e : i = j
  ·omega
  ·rw [if_neg e]
theorem page_else (byte : Nat → Nat) (k n v : Nat) (h : n / 4096 ≠ k) : pageCells (fun m => if m = n then v else byte m) k = pageCells byte k := by
 unfold pageCells
 congr 1
 funext i
 have : ¬ k * 4096 + i.val = n := by have := i.isLt; omega
 show Value.int .u8 ((if k * 4096 + i.val = n then v else byte (k * 4096 + i.val) : Nat) : Int) = _
 rw [if_neg this]
def zeroCells : Array Value := Array.replicate 4096 (.int .u8 0)
set_option maxRecDepth 100000 in
theorem zero_page (W : World) : (zeroValue 291).run Tryz.prog W = .ok (.agg zeroCells) W := by kernel_rfl
theorem page_zero : pageCells (fun _ => 0) 0 = zeroCells := by
 apply Array.ext_getElem?
 intro j
 unfold pageCells zeroCells
 rw [Array.getElem?_ofFn, Array.getElem?_replicate]
 rfl

section
variable {w w' : World} {b bp bo bw bn : Nat} {pg : Nat → Option Nat} {R : RS}
theorem RamIn.store (H : RamIn w b bp bo bw bn pg R) (n v q : Nat) (hv : v < 256) (hq : pg (n / 4096) = some q) :
    RamIn (w.setCell ⟨q, n % 4096, .none⟩ (.int .u8 v)) b bp bo bw bn pg { R with byte := fun i => if i = n then v else R.byte i } := by
 have en : n / 4096 * 4096 + n % 4096 = n := by omega
 obtain ⟨f, mo, hf⟩ := H.mo
 refine { H with
  obj := by rw [heap_set_ne _ _ _ _ _ (H.q_b hq).symm]; exact H.obj
  mp := H.mp.setCell _ _
  mo := ⟨f, mo.setCell _ _, hf⟩
  mw := MapAt.setCell H.mw _ _
  mn := MapAt.setCell H.mn _ _
  page := ?_
  zero := ?_
  ok := ⟨H.ok.p1, H.ok.p2, fun i => ?_⟩ }
 ·intro k q' hq'
  by_cases e : q' = q
  ·subst e
   have hk := H.inj _ _ _ hq hq'
   subst hk
   rw [heap_set_map, H.page _ _ hq]
   show some (Obj.cells _ _ _) = _
   rw [page_set _ _ _ _ (Nat.mod_lt _ (by decide)), en]
  ·rw [heap_set_ne _ _ _ _ _ e, H.page k q' hq', page_else]
   intro hk
   subst hk
   rw [hq] at hq'
   exact e (by cases hq'; rfl)
 ·intro k hk i hi
  have : ¬ k * 4096 + i = n := by
   intro e
   have : n / 4096 = k := by omega
   rw [this, hk] at hq
   cases hq
  show (if k * 4096 + i = n then v else _) = 0
  rw [if_neg this]
  exact H.zero k hk i hi
 ·show (if i = n then v else R.byte i) < 256
  split
  ·exact hv
  ·exact H.ok.b i
theorem RamIn.newPage (H : RamIn w b bp bo bw bn pg R) (k : Nat) (hk : pg k = .none) (hk2 : k < R.pages) {w1 : World} (hm : MapAt w1 bp .u32 (fun m => if m = k then some (.pointer (some ⟨w.heap.size, 0, .none⟩)) else pagePtr pg m))
    (hk1 : Keeps (· = bp) (w.alloc (.cells zeroCells 291)) w1) :
    RamIn w1 b bp bo bw bn (fun m => if m = k then some w.heap.size else pg m) R := by
 have hin := fun m hm => Owned.lt H (k := m) hm
 have hh : ∀ m, m < w.heap.size → m ≠ bp → w1.heap[m]? = w.heap[m]? := fun m h1 h2 => by
  rw [hk1.block m (by simp; omega) h2, Below.heap_alloc _ _ _ h1]
 obtain ⟨f, mo, hf⟩ := H.mo
 refine { H with
  obj := by rw [hh b (hin b (.inl rfl)) H.b_p]; exact H.obj
  mp := hm.ext fun m => ?_
  mo := ⟨f, mo.of_heap (hh bo mo.lt H.d1.symm), hf⟩
  mw := MapAt.of_heap H.mw (hh bw (MapAt.lt H.mw) H.d2.symm)
  mn := MapAt.of_heap H.mn (hh bn (MapAt.lt H.mn) H.d3.symm)
  page := ?_
  zero := ?_
  inj := ?_
  inside := ?_ }
 ·unfold pagePtr
  by_cases e : m = k
  ·simp [e]
  ·simp [e]
 ·intro k' q hq
  by_cases e : k' = k
  ·subst e
   simp only [if_true, Option.some.injEq] at hq
   subst hq
   rw [hk1.block _ (by simp) (by have := H.mp.lt; omega), heap_new]
   have : pageCells R.byte k' = zeroCells := by
    rw [← page_zero]
    unfold pageCells
    congr 1
    funext i
    rw [H.zero k' hk i.val i.isLt]
   rw [this]
  ·simp only [e, if_false] at hq
   rw [hh q (hin q (.inr (.inr (.inr (.inr (.inr ⟨k', hq⟩)))))) (H.q_p hq)]
   exact H.page k' q hq
 ·intro k' hk' i hi
  by_cases e : k' = k
  ·simp [e] at hk'
  ·simp only [e, if_false] at hk'
   exact H.zero k' hk' i hi
 ·intro k1 k2 q h1 h2
  by_cases e1 : k1 = k
  ·by_cases e2 : k2 = k
   ·rw [e1, e2]
   ·simp only [e1, e2, if_true, if_false, Option.some.injEq] at h1 h2
    have := hin q (.inr (.inr (.inr (.inr (.inr ⟨k2, h2⟩)))))
    omega
  ·by_cases e2 : k2 = k
   ·simp only [e1, e2, if_true, if_false, Option.some.injEq] at h1 h2
    have := hin q (.inr (.inr (.inr (.inr (.inr ⟨k1, h1⟩)))))
    omega
   ·simp only [e1, e2, if_false] at h1 h2
    exact H.inj k1 k2 q h1 h2
 ·intro k' q hq
  by_cases e : k' = k
  ·rw [e]; exact hk2
  ·simp only [e, if_false] at hq
   exact H.inside k' q hq
theorem RamIn.turnWatched (H : RamIn w b bp bo bw bn pg R) {g : Nat → Bool} (hm : SetAt w' bw g) (hk : Keeps (· = bw) w w') : RamIn w' b bp bo bw bn pg { R with watched := g } := by
 have hin := fun m hm => Owned.lt H (k := m) hm
 obtain ⟨f, mo, hf⟩ := H.mo
 exact { H with
  obj := by rw [hk.block b (hin b (.inl rfl)) H.b_w]; exact H.obj
  mp := H.mp.of_heap (hk.block _ H.mp.lt H.d2)
  mo := ⟨f, mo.of_heap (hk.block _ mo.lt H.d4), hf⟩
  mw := hm
  mn := MapAt.of_heap H.mn (hk.block _ (MapAt.lt H.mn) H.d6.symm)
  page := fun k q hq => by rw [hk.block q (heap_lt (H.page k q hq)) (H.q_w hq)]; exact H.page k q hq
  ok := ⟨H.ok.p1, H.ok.p2, H.ok.b⟩ }
theorem RamIn.turnNoted (H : RamIn w b bp bo bw bn pg R) {g : Nat → Bool} (hm : SetAt w' bn g) (hk : Keeps (· = bn) w w') : RamIn w' b bp bo bw bn pg { R with noted := g } := by
 have hin := fun m hm => Owned.lt H (k := m) hm
 obtain ⟨f, mo, hf⟩ := H.mo
 exact { H with
  obj := by rw [hk.block b (hin b (.inl rfl)) H.b_n]; exact H.obj
  mp := H.mp.of_heap (hk.block _ H.mp.lt H.d3)
  mo := ⟨f, mo.of_heap (hk.block _ mo.lt H.d5), hf⟩
  mw := MapAt.of_heap H.mw (hk.block _ (MapAt.lt H.mw) H.d6)
  mn := hm
  page := fun k q hq => by rw [hk.block q (heap_lt (H.page k q hq)) (H.q_n hq)]; exact H.page k q hq
  ok := ⟨H.ok.p1, H.ok.p2, H.ok.b⟩ }
theorem RamIn.turnOnly (H : RamIn w b bp bo bw bn pg R) {g : Nat → Bool} (hm : MarkAt w' bo g) (hk : Keeps (· = bo) w w') : RamIn w' b bp bo bw bn pg { R with only := g } := by
 have hin := fun m hm => Owned.lt H (k := m) hm
 exact { H with
  obj := by rw [hk.block b (hin b (.inl rfl)) H.b_o]; exact H.obj
  mp := H.mp.of_heap (hk.block _ H.mp.lt H.d1)
  mo := hm
  mw := MapAt.of_heap H.mw (hk.block _ (MapAt.lt H.mw) H.d4.symm)
  mn := MapAt.of_heap H.mn (hk.block _ (MapAt.lt H.mn) H.d5.symm)
  page := fun k q hq => by rw [hk.block q (heap_lt (H.page k q hq)) (H.q_o hq)]; exact H.page k q hq
  ok := ⟨H.ok.p1, H.ok.p2, H.ok.b⟩ }
theorem Owned.newPage {k m : Nat} (n : Nat) (h : Owned b bp bo bw bn (fun m => if m = k then some n else pg m) m) : Owned b bp bo bw bn pg m ∨ m = n := by
 rcases h with h | h | h | h | h | ⟨j, hj⟩
 ·exact .inl (.inl h)
 ·exact .inl (.inr (.inl h))
 ·exact .inl (.inr (.inr (.inl h)))
 ·exact .inl (.inr (.inr (.inr (.inl h))))
 ·exact .inl (.inr (.inr (.inr (.inr (.inl h)))))
 ·by_cases e : j = k
  ·simp only [e, if_true, Option.some.injEq] at hj
   exact .inr hj.symm
  ·simp only [e, if_false] at hj
   exact .inl (.inr (.inr (.inr (.inr (.inr ⟨j, hj⟩)))))
end

theorem get_any {w : World} {b bp bo bw bn : Nat} {pg : Nat → Option Nat} {R : RS} (H : RamIn w b bp bo bw bn pg R) (a : Nat) (ha : a < 4294967296) :
    Calls Tryz.prog 35 #[.pointer (some ⟨b, 0, .none⟩), .int .u32 a] w fun e w' => e = .returned (.int .u8 (R.get a : Nat)) ∧ ∃ n, w' = w.drewN n := by
 obtain ⟨-, k1, -, -, -, -, kf, klt⟩ := H.facts
 have hpl := R.place_le a
 have hsz := RS.size_le H.ok
 have hpa := place_any H a ha
 have hg : R.get a = if R.place a < R.size then R.byte (R.place a) else 255 := rfl
 have HG := Lib.hid hg
 clear hg
 generalize R.place a = p at *
 have HP := Lib.hid hpa
 clear hpa
 by_cases hs : p < R.size
 ·have hd : decide (p < R.size) = true := decide_eq_true hs
  have hx : ((p : Int) / 4096) = ((p / 4096 : Nat) : Int) := by omega
  have hm : ((p : Int) % 4096) = ((p % 4096 : Nat) : Int) := by omega
  rcases hq : pg (p / 4096) with _ | q
  ·have hb : R.byte p = 0 := by
     have := H.zero _ hq (p % 4096) (Nat.mod_lt _ (by decide))
     rwa [show p / 4096 * 4096 + p % 4096 = p by omega] at this
   go_enter Tryz.func35, Tryz.ntmps35
   go_wp2_with fail
   refine HP.out.mono ?_
   rintro e w1 ⟨rfl, n, rfl⟩
   rw [hd]
   have hl := pages_lookup (H.mp.drewN n) _ hx
   rw [hq] at hl
   clear hx hm hd hq
   go_wp2_with fail
   go_ret
   refine ⟨?_, n, rfl⟩
   rw [HG.out, if_pos hs, hb]; rfl
  ·have hc := page_cell (H.page _ _ hq) (Nat.mod_lt p (show 0 < 4096 by decide))
   rw [show p / 4096 * 4096 + p % 4096 = p by omega] at hc
   have hb := H.ok.b p
   go_enter Tryz.func35, Tryz.ntmps35
   go_wp2_with fail
   refine HP.out.mono ?_
   rintro e w1 ⟨rfl, n, rfl⟩
   rw [hd]
   have hl := pages_lookup (H.mp.drewN n) _ hx
   rw [hq, Option.map_some] at hl
   have HQ := Lib.hid hq
   clear hx hd hm hq
   go_wp2_with fail
   go_ret
   refine ⟨?_, n, rfl⟩
   rw [HG.out, if_pos hs]; rfl
 ·have hd : decide (p < R.size) = false := decide_eq_false hs
  go_enter Tryz.func35, Tryz.ntmps35
  go_wp2_with fail
  refine HP.out.mono ?_
  rintro e w1 ⟨rfl, n, rfl⟩
  rw [hd]
  clear hd
  go_wp2_with fail
  go_ret
  refine ⟨?_, n, rfl⟩
  rw [HG.out, if_neg hs]; rfl
end Go.Proofs.YtmpcafdgkbpneaaGreat

/- ram: a byte is laid. -/
namespace Go.Proofs.YtmpcafdgkbpneaaGreat
open Go.RowKit Go.MapKept
set_option linter.unusedVariables false

theorem RS.lay_quiet (R : RS) (n v : Nat) (h : R.watched (n / 64) = false) : R.lay n v = { R with byte := fun i => if i = n then v else R.byte i } := by
 unfold RS.lay
 congr 1
 ·funext g
  by_cases e : g = n / 64
  ·rw [if_pos e, e, h]
  ·rw [if_neg e]
 ·funext k
  rw [if_neg]
  rintro ⟨_, h2⟩
  rw [h] at h2
  cases h2
theorem RS.lay_loud (R : RS) (n v : Nat) (h : R.watched (n / 64) = true) :
    R.lay n v = { R with byte := fun i => if i = n then v else R.byte i, watched := fun g => if g = n / 64 then false else R.watched g, noted := fun k => if k = n / 64 * 64 then true else R.noted k } := by
 unfold RS.lay
 congr 1
 funext k
 by_cases e : k = n / 64 * 64
 ·rw [if_pos ⟨e, h⟩, if_pos e]
 ·rw [if_neg (fun x => e x.1), if_neg e]
theorem set_del (g : Nat → Bool) (x : Nat) (m : Nat) : (if (if m = x then false else g m) then some (Value.bool true) else none) = (if m = x then none else (if g m then some (Value.bool true) else none)) := by
 by_cases e : m = x <;> simp [e]
theorem set_put (g : Nat → Bool) (x : Nat) (m : Nat) : (if (if m = x then true else g m) then some (Value.bool true) else none) = (if m = x then some (Value.bool true) else (if g m then some (Value.bool true) else none)) := by
 by_cases e : m = x <;> simp [e]

theorem Keeps.one {S : Nat → Prop} {a b c : World} {r : Nat} (h : Keeps S a b) (k : Keeps (· = r) b c) (hr : S r) : Keeps S a c := h.andThen k fun i _ e => by rw [e]; exact hr
theorem SetAt.look {w : World} {g : Nat → Bool} {r n : Nat} {v : Bool} (h : SetAt w r g) (hv : g n = v) (x : Int) (hx : x = (n : Int)) : (Instr.lookup 150 (.map (some r)) (.int .u32 x) false).run Tryz.prog w = .ok (.bool v) w := by
 rw [← hv]; exact SetAt.lookup h x hx
theorem MarkAt.look {w : World} {g : Nat → Bool} {r n : Nat} {v : Bool} (h : MarkAt w r g) (hv : g n = v) (x : Int) (hx : x = (n : Int)) : (Instr.lookup 150 (.map (some r)) (.int .u32 x) false).run Tryz.prog w = .ok (.bool v) w := by
 rw [← hv]; exact MarkAt.lookup h x hx

theorem put_old {w : World} {b bp bo bw bn : Nat} {pg : Nat → Option Nat} {R : RS} (H : RamIn w b bp bo bw bn pg R) (a v : Nat) (ha : a < 4294967296) (hv : v < 256) (hs : R.place a < R.size) (q : Nat) (hq : pg (R.place a / 4096) = some q) :
    Calls Tryz.prog 140 #[.pointer (some ⟨b, 0, .none⟩), .int .u32 a, .int .u8 v] w fun e w' => e = .returned (.tuple #[]) ∧ RamIn w' b bp bo bw bn pg (R.put a v) ∧ Keeps (Owned b bp bo bw bn pg) w w' := by
 obtain ⟨-, k1, -, -, -, -, kf, klt⟩ := H.facts
 have hpl := R.place_le a
 have hsz := RS.size_le H.ok
 have hpa := place_any H a ha
 have hg : R.put a v = R.lay (R.place a) v := by unfold RS.put; rw [if_pos hs]
 have HG := Lib.hid hg
 clear hg
 generalize R.place a = p at *
 have HP := Lib.hid hpa
 clear hpa
 have hd : decide (p < R.size) = true := decide_eq_true hs
 have hx : ((p : Int) / 4096) = ((p / 4096 : Nat) : Int) := by omega
 have hc := page_cell (H.page _ _ hq) (Nat.mod_lt p (show 0 < 4096 by decide))
 have hf : ∀ k, w.frozen? ⟨q, k, .none⟩ = false := fun k => free_at (H.page _ _ hq)
 go_enter Tryz.func140, Tryz.ntmps140
 go_wp2_with fail
 refine HP.out.mono ?_
 rintro e w1 ⟨rfl, n, rfl⟩
 rw [hd]
 have hl := pages_lookup (H.mp.drewN n) _ hx
 rw [hq, Option.map_some] at hl
 have HQ := Lib.hid hq
 have HX := Lib.hid hx
 clear hx hd hq
 go_upto_region 7 with (fail)
 have H1 := (H.drewN n).store p v q hv HQ.out
 have K1 : Keeps (Owned b bp bo bw bn pg) w ((w.drewN n).setCell ⟨q, p % 4096, .none⟩ (.int .u8 v)) := ((Keeps.refl _ w).drewN n).setCell (.inl (.inr (.inr (.inr (.inr (.inr ⟨_, HQ.out⟩)))))) _
 generalize (w.drewN n).setCell ⟨q, p % 4096, .none⟩ (.int .u8 v) = W1 at *
 clear hl hc hf k1 kf klt
 obtain ⟨-, -, -, k3, k4, -, kf, klt⟩ := H1.facts
 have hx : ((p : Int) / 64) = ((p / 64 : Nat) : Int) := by omega
 cases hw : R.watched (p / 64)
 ·have hl := SetAt.look H1.mw hw _ hx
  have HW := Lib.hid hw
  clear hx hw
  go_wp2_with fail
  go_end0
  exact ⟨rfl, by rw [HG.out, RS.lay_quiet _ _ _ HW.out]; exact H1, K1⟩
 ·have hl := SetAt.look H1.mw hw _ hx
  have HW := Lib.hid hw
  have hx2 : ((p : Int) / 64 * 64) = ((p / 64 * 64 : Nat) : Int) := by omega
  obtain ⟨W2, hdel, M2, K2⟩ := MapAt.delete H1.mw Tryz.underlying150 Tryz.underlying22 (p / 64) _ hx 22 0
  have M2 : SetAt W2 bw (fun m => if m = p / 64 then false else R.watched m) := M2.ext (fun m => set_del R.watched (p / 64) m)
  have H2 := H1.turnWatched M2 K2
  obtain ⟨W3, hput, M3, K3⟩ := MapAt.update H2.mn Tryz.underlying150 Tryz.underlying22 (p / 64 * 64) _ hx2 (.bool true)
  have M3 : SetAt W3 bn (fun m => if m = p / 64 * 64 then true else R.noted m) := M3.ext (fun m => set_put R.noted (p / 64 * 64) m)
  have H3 := H2.turnNoted M3 K3
  obtain ⟨-, -, -, -, q4, -, -, -⟩ := H2.facts
  clear hx hx2 hw M2 M3 H2
  go_wp2_with fail
  go_end0
  refine ⟨rfl, by rw [HG.out, RS.lay_loud _ _ _ HW.out]; exact H3, ?_⟩
  exact (K1.one K2 (.inr (.inr (.inr (.inl rfl))))).one K3 (.inr (.inr (.inr (.inr (.inl rfl)))))
theorem put_new {w : World} {b bp bo bw bn : Nat} {pg : Nat → Option Nat} {R : RS} (H : RamIn w b bp bo bw bn pg R) (a v : Nat) (ha : a < 4294967296) (hv : v < 256) (hs : R.place a < R.size) (hq : pg (R.place a / 4096) = .none) :
    Calls Tryz.prog 140 #[.pointer (some ⟨b, 0, .none⟩), .int .u32 a, .int .u8 v] w fun e w' => e = .returned (.tuple #[]) ∧ RamIn w' b bp bo bw bn (fun m => if m = R.place a / 4096 then some w.heap.size else pg m) (R.put a v) ∧ Keeps (Owned b bp bo bw bn pg) w w' := by
 obtain ⟨-, k1, -, -, -, -, kf, klt⟩ := H.facts
 have hpl := R.place_le a
 have hsz := RS.size_le H.ok
 have hpa := place_any H a ha
 have hg : R.put a v = R.lay (R.place a) v := by unfold RS.put; rw [if_pos hs]
 have HG := Lib.hid hg
 clear hg
 generalize R.place a = p at *
 have HP := Lib.hid hpa
 clear hpa
 have hd : decide (p < R.size) = true := decide_eq_true hs
 have hx : ((p : Int) / 4096) = ((p / 4096 : Nat) : Int) := by omega
 have hin : p / 4096 < R.pages := by unfold RS.size at hs; omega
 go_enter Tryz.func140, Tryz.ntmps140
 go_wp2_with fail
 refine HP.out.mono ?_
 rintro e w1 ⟨rfl, n, rfl⟩
 rw [hd]
 have hl := pages_lookup (H.mp.drewN n) _ hx
 rw [hq, Option.map_none] at hl
 have HQ := Lib.hid hq
 have HX := Lib.hid hx
 clear hx hd hq
 have hzp := zero_page
 go_upto_region 5 with (fail)
 have hx := HX.out
 obtain ⟨W0, hput, M0, K0⟩ := MapAt.update ((H.mp.drewN n).alloc (.cells zeroCells 291)) Tryz.underlying149 Tryz.underlying22 (p / 4096) _ hx (.pointer (some ⟨w.heap.size, 0, .none⟩))
 have H0 : RamIn W0 b bp bo bw bn (fun m => if m = p / 4096 then some w.heap.size else pg m) R := (H.drewN n).newPage (p / 4096) HQ.out hin M0 K0
 have j1 := (((H.drewN n).alloc (.cells zeroCells 291)).facts).2.1
 have hsame : (fun m => if m = p / 4096 then some w.heap.size else pg m) (p / 4096) = some w.heap.size := by simp
 have hpage := H0.page _ _ hsame
 have hc := page_cell hpage (Nat.mod_lt p (show 0 < 4096 by decide))
 have hf : ∀ k, W0.frozen? ⟨w.heap.size, k, .none⟩ = false := fun k => free_at hpage
 have j2 := H0.facts.2.2.2.2.2.2.2
 have HS := Lib.hid hsame
 clear hl hx M0 hpage hsame k1 kf klt
 go_upto_region 7 with (fail)
 have hsame := HS.out
 have H1 := H0.store p v w.heap.size hv hsame
 have K1 : Keeps (Owned b bp bo bw bn pg) w (W0.setCell ⟨w.heap.size, p % 4096, .none⟩ (.int .u8 v)) :=
  ((((Keeps.refl _ w).drewN n).alloc _).one K0 (.inr (.inl rfl))).setCell (.inr (Nat.le_refl _)) _
 generalize W0.setCell ⟨w.heap.size, p % 4096, .none⟩ (.int .u8 v) = W1 at *
 clear hc hf j1 j2 hzp hsame
 obtain ⟨-, -, -, k3, k4, -, kf, klt⟩ := H1.facts
 have hx : ((p : Int) / 64) = ((p / 64 : Nat) : Int) := by omega
 cases hw : R.watched (p / 64)
 ·have hl := SetAt.look H1.mw hw _ hx
  have HW := Lib.hid hw
  clear hx hw
  go_wp2_with fail
  go_end0
  exact ⟨rfl, by rw [HG.out, RS.lay_quiet _ _ _ HW.out]; exact H1, K1⟩
 ·have hl := SetAt.look H1.mw hw _ hx
  have HW := Lib.hid hw
  have hx2 : ((p : Int) / 64 * 64) = ((p / 64 * 64 : Nat) : Int) := by omega
  obtain ⟨W2, hdel, M2, K2⟩ := MapAt.delete H1.mw Tryz.underlying150 Tryz.underlying22 (p / 64) _ hx 22 0
  have M2 : SetAt W2 bw (fun m => if m = p / 64 then false else R.watched m) := M2.ext (fun m => set_del R.watched (p / 64) m)
  have H2 := H1.turnWatched M2 K2
  obtain ⟨W3, hput, M3, K3⟩ := MapAt.update H2.mn Tryz.underlying150 Tryz.underlying22 (p / 64 * 64) _ hx2 (.bool true)
  have M3 : SetAt W3 bn (fun m => if m = p / 64 * 64 then true else R.noted m) := M3.ext (fun m => set_put R.noted (p / 64 * 64) m)
  have H3 := H2.turnNoted M3 K3
  obtain ⟨-, -, -, -, q4, -, -, -⟩ := H2.facts
  clear hx hx2 hw M2 M3 H2
  go_wp2_with fail
  go_end0
  refine ⟨rfl, by rw [HG.out, RS.lay_loud _ _ _ HW.out]; exact H3, ?_⟩
  exact (K1.one K2 (.inr (.inr (.inr (.inl rfl))))).one K3 (.inr (.inr (.inr (.inr (.inl rfl)))))
end Go.Proofs.YtmpcafdgkbpneaaGreat

/- ram: Read, Write. -/
namespace Go.Proofs.YtmpcafdgkbpneaaGreat
open Go.RowKit Go.MapKept
set_option linter.unusedVariables false

theorem Ram.lt {w : World} {b : Nat} {S : Nat → Prop} {R : RS} (H : Ram w b S R) {k : Nat} (h : S k) : k < w.heap.size := by
 obtain ⟨bp, bo, bw, bn, pg, I, hS⟩ := H
 exact Owned.lt I ((hS k).1 h)
theorem Ram.isok {w : World} {b : Nat} {S : Nat → Prop} {R : RS} (H : Ram w b S R) : R.ok := by
 obtain ⟨bp, bo, bw, bn, pg, I, hS⟩ := H
 exact I.ok
theorem Ram.keeps {w w' : World} {b : Nat} {S T : Nat → Prop} {R : RS} (H : Ram w b S R) (hk : Keeps T w w') (hn : ∀ k, S k → ¬ T k) : Ram w' b S R := by
 obtain ⟨bp, bo, bw, bn, pg, I, hS⟩ := H
 exact ⟨bp, bo, bw, bn, pg, I.keeps hk fun k hk' => hn k ((hS k).2 hk'), hS⟩
theorem Ram.below {w w' : World} {b : Nat} {S : Nat → Prop} {R : RS} (H : Ram w b S R) (hb : Below w.heap.size w w') : Ram w' b S R :=
 H.keeps (Keeps.ofBelow (S := fun _ => False) hb) fun _ _ h => h
theorem Ram.drewN {w : World} {b : Nat} {S : Nat → Prop} {R : RS} (H : Ram w b S R) (n : Nat) : Ram (w.drewN n) b S R := H.keeps ((Keeps.refl (fun _ => False) _).drewN n) fun _ _ h => h
theorem Ram.alloc {w : World} {b : Nat} {S : Nat → Prop} {R : RS} (H : Ram w b S R) (o : Obj) : Ram (w.alloc o) b S R := H.keeps ((Keeps.refl (fun _ => False) _).alloc o) fun _ _ h => h

theorem put_out {w : World} {b bp bo bw bn : Nat} {pg : Nat → Option Nat} {R : RS} (H : RamIn w b bp bo bw bn pg R) (a v : Nat) (ha : a < 4294967296) (hs : ¬ R.place a < R.size) :
    Calls Tryz.prog 140 #[.pointer (some ⟨b, 0, .none⟩), .int .u32 a, .int .u8 v] w fun e w' => e = .returned (.tuple #[]) ∧ ∃ n, w' = w.drewN n := by
 have hpa := place_any H a ha
 have HP := Lib.hid hpa
 clear hpa
 have hd : decide (R.place a < R.size) = false := decide_eq_false hs
 have HD := Lib.hid hd
 clear hd
 go_enter Tryz.func140, Tryz.ntmps140
 go_wp2_with fail
 refine HP.out.mono ?_
 rintro e w1 ⟨rfl, n, rfl⟩
 rw [HD.out]
 go_wp2_with fail
 go_returns
 exact ⟨rfl, n, rfl⟩
theorem put_any {w : World} {b : Nat} {S : Nat → Prop} {R : RS} (H : Ram w b S R) (a v : Nat) (ha : a < 4294967296) (hv : v < 256) :
    Calls Tryz.prog 140 #[.pointer (some ⟨b, 0, .none⟩), .int .u32 a, .int .u8 v] w fun e w' => e = .returned (.tuple #[]) ∧ ∃ S', Ram w' b S' (R.put a v) ∧ Moves S S' w w' := by
 obtain ⟨bp, bo, bw, bn, pg, I, hS⟩ := H
 have mono : ∀ {T : Nat → Prop} {w' : World}, Keeps (Owned b bp bo bw bn pg) w w' → Keeps S w w' := fun h => h.mono fun k _ hk => (hS k).2 hk
 by_cases hs : R.place a < R.size
 ·rcases hq : pg (R.place a / 4096) with _ | q
  ·refine (put_new I a v ha hv hs hq).mono ?_
   rintro e w' ⟨rfl, I', K⟩
   refine ⟨rfl, _, ⟨bp, bo, bw, bn, _, I', fun k => Iff.rfl⟩, mono (T := S) K, fun k hk => ?_⟩
   rcases Owned.newPage _ hk with h | h
   ·exact .inl ((hS k).2 h)
   ·exact .inr (Nat.le_of_eq h.symm)
  ·refine (put_old I a v ha hv hs q hq).mono ?_
   rintro e w' ⟨rfl, I', K⟩
   exact ⟨rfl, S, ⟨bp, bo, bw, bn, pg, I', hS⟩, mono (T := S) K, fun k hk => .inl hk⟩
 ·refine (put_out I a v ha hs).mono ?_
  rintro e w' ⟨rfl, n, rfl⟩
  refine ⟨rfl, S, ⟨bp, bo, bw, bn, pg, ?_, hS⟩, Moves.drewN S w n⟩
  have : R.put a v = R := by unfold RS.put; rw [if_neg hs]
  rw [this]; exact I.drewN n
theorem put_anyv {w : World} {b : Nat} {S : Nat → Prop} {R : RS} (H : Ram w b S R) (a v : Nat) (x y : Int) (hx : x = (a : Int)) (hy : y = (v : Int)) (ha : a < 4294967296) (hv : v < 256) :
    Calls Tryz.prog 140 #[.pointer (some ⟨b, 0, .none⟩), .int .u32 x, .int .u8 y] w fun e w' => e = .returned (.tuple #[]) ∧ ∃ S', Ram w' b S' (R.put a v) ∧ Moves S S' w w' := by
 rw [hx, hy]; exact put_any H a v ha hv
theorem get_anyv {w : World} {b : Nat} {S : Nat → Prop} {R : RS} (H : Ram w b S R) (a : Nat) (x : Int) (hx : x = (a : Int)) (ha : a < 4294967296) :
    Calls Tryz.prog 35 #[.pointer (some ⟨b, 0, .none⟩), .int .u32 x] w fun e w' => e = .returned (.int .u8 (R.get a : Nat)) ∧ ∃ n, w' = w.drewN n := by
 obtain ⟨bp, bo, bw, bn, pg, I, hS⟩ := H
 rw [hx]; exact get_any I a ha
theorem place_anyv {w : World} {b : Nat} {S : Nat → Prop} {R : RS} (H : Ram w b S R) (a : Nat) (x : Int) (hx : x = (a : Int)) (ha : a < 4294967296) :
    Calls Tryz.prog 66 #[.pointer (some ⟨b, 0, .none⟩), .int .u32 x] w fun e w' => e = .returned (.tuple #[.int .u32 (R.place a : Nat), .bool (decide (R.place a < R.size))]) ∧ ∃ n, w' = w.drewN n := by
 obtain ⟨bp, bo, bw, bn, pg, I, hS⟩ := H
 rw [hx]; exact place_any I a ha

def at32 (a i : Nat) : Nat := (a + i) % 4294967296
theorem at32_lt (a i : Nat) : at32 a i < 4294967296 := Nat.mod_lt _ (by decide)
def RS.read (R : RS) (a : Nat) : Nat → Nat
 | 0 => 0
 | k + 1 => R.read a k + R.get (at32 a k) * 256 ^ k
theorem RS.read_lt {R : RS} (h : R.ok) (a k : Nat) : R.read a k < 256 ^ k := by
 induction k with
 | zero => simp [RS.read]
 | succ k ih =>
  have h1 := RS.get_lt h (at32 a k)
  rw [RS.read, Nat.pow_succ]
  have h2 : R.get (at32 a k) * 256 ^ k ≤ 255 * 256 ^ k := Nat.mul_le_mul_right _ (by omega)
  omega
def RS.write (R : RS) (a v : Nat) : Nat → RS
 | 0 => R
 | k + 1 => (R.write a v k).wr (at32 a k) (v / 256 ^ k % 256)
theorem RS.write_ok {R : RS} (h : R.ok) (a v k : Nat) : (R.write a v k).ok := by
 induction k with
 | zero => exact h
 | succ k ih => exact RS.wr_ok ih _ _ (Nat.mod_lt _ (by decide))
theorem or_shift (v b k : Nat) (hv : v < 256 ^ k) (hb : b < 256) (hk : k < 4) : bits .or .u32 (v : Int) ((b : Int) * 2 ^ (8 * k) % 4294967296) = ((v + b * 256 ^ k : Nat) : Int) := by
 have hp : (256 : Nat) ^ k = 2 ^ (8 * k) := by rw [Nat.pow_mul]
 have hle : b * 256 ^ k ≤ 255 * 256 ^ k := Nat.mul_le_mul_right _ (by omega)
 have h3 : 256 ^ k ≤ 256 ^ 3 := Nat.pow_le_pow_right (by decide) (by omega)
 have e : ((b : Int) * 2 ^ (8 * k) % 4294967296) = ((b * 256 ^ k : Nat) : Int) := by
  rw [hp]
  rw [hp] at hle h3
  rw [Int.emod_eq_of_lt]
  ·simp
  ·exact Int.mul_nonneg (by omega) (Int.pow_nonneg (by decide))
  ·have : ((b : Int) * 2 ^ (8 * k)) = ((b * 2 ^ (8 * k) : Nat) : Int) := by simp
   rw [this]; omega
 rw [e, u32_or_nat _ _ (by omega) (by omega), Nat.or_comm]
 congr 1
 rw [Nat.add_comm, hp]
 rw [hp] at hv
 exact nat_join (8 * k) _ _ (by simp) hv

theorem read_1 {w : World} {b : Nat} {S : Nat → Prop} {R : RS} (H : Ram w b S R) (a : Nat) (ha : a < 4294967296) :
    Calls Tryz.prog 13 #[.pointer (some ⟨b, 0, .none⟩), .int .u32 a, .int .i64 1] w fun e w' => e = .returned (.tuple #[.int .u32 (R.read a 1 : Nat), .int .i64 0]) ∧ ∃ n, w' = w.drewN n := by
 go_enter Tryz.func13, Tryz.ntmps13
 go_wp2_with fail
 go_loopw [8, 26] (fun v i wr => ∃ k : Nat, k ≤ 1 ∧ i = .int .u32 k ∧ v = .int .u32 (R.read a k : Nat) ∧ ∃ n, wr = w.drewN n) (fun _ i _ => 1 - (intOf i).toNat)
 case atStart => exact ⟨0, by omega, rfl, rfl, 0, rfl⟩
 case round =>
  obtain ⟨k, hk, rfl, rfl, n, rfl⟩ := hrel
  by_cases hlt : k < 1
  ·go_wp2_with fail
   refine (get_anyv (H.drewN n) (at32 a k) _ (by unfold at32; omega) (at32_lt _ _)).mono ?_
   rintro e w1 ⟨rfl, n2, rfl⟩
   have hb := RS.get_lt H.isok (at32 a k)
   have hr := RS.read_lt H.isok a k
   have hr2 : 256 ^ k ≤ 256 ^ 3 := Nat.pow_le_pow_right (by decide) (by omega)
   have HR := Lib.hid (show R.read a (k + 1) = R.read a k + R.get (at32 a k) * 256 ^ k from rfl)
   have HO := Lib.hid (or_shift (R.read a k) (R.get (at32 a k)) k hr hb (by omega))
   generalize R.read a k = x at *
   generalize R.get (at32 a k) = y at *
   go_wp2_with fail
   go_roundw
   case rel => exact ⟨k + 1, by omega, by go_num, by rw [HR.out, HO.out], _, rfl⟩
   case measure => (simp [intOf]) <;> omega
  ·have hk2 : k = 1 := by omega
   have HK := Lib.hid hk2
   clear hk2
   go_wp2_with fail
   go_ret2
   exact ⟨by rw [HK.out]; rfl, n, rfl⟩
theorem read_2 {w : World} {b : Nat} {S : Nat → Prop} {R : RS} (H : Ram w b S R) (a : Nat) (ha : a < 4294967296) :
    Calls Tryz.prog 13 #[.pointer (some ⟨b, 0, .none⟩), .int .u32 a, .int .i64 2] w fun e w' => e = .returned (.tuple #[.int .u32 (R.read a 2 : Nat), .int .i64 0]) ∧ ∃ n, w' = w.drewN n := by
 go_enter Tryz.func13, Tryz.ntmps13
 go_wp2_with fail
 go_loopw [8, 26] (fun v i wr => ∃ k : Nat, k ≤ 2 ∧ i = .int .u32 k ∧ v = .int .u32 (R.read a k : Nat) ∧ ∃ n, wr = w.drewN n) (fun _ i _ => 2 - (intOf i).toNat)
 case atStart => exact ⟨0, by omega, rfl, rfl, 0, rfl⟩
 case round =>
  obtain ⟨k, hk, rfl, rfl, n, rfl⟩ := hrel
  by_cases hlt : k < 2
  ·go_wp2_with fail
   refine (get_anyv (H.drewN n) (at32 a k) _ (by unfold at32; omega) (at32_lt _ _)).mono ?_
   rintro e w1 ⟨rfl, n2, rfl⟩
   have hb := RS.get_lt H.isok (at32 a k)
   have hr := RS.read_lt H.isok a k
   have hr2 : 256 ^ k ≤ 256 ^ 3 := Nat.pow_le_pow_right (by decide) (by omega)
   have HR := Lib.hid (show R.read a (k + 1) = R.read a k + R.get (at32 a k) * 256 ^ k from rfl)
   have HO := Lib.hid (or_shift (R.read a k) (R.get (at32 a k)) k hr hb (by omega))
   generalize R.read a k = x at *
   generalize R.get (at32 a k) = y at *
   go_wp2_with fail
   go_roundw
   case rel => exact ⟨k + 1, by omega, by go_num, by rw [HR.out, HO.out], _, rfl⟩
   case measure => (simp [intOf]) <;> omega
  ·have hk2 : k = 2 := by omega
   have HK := Lib.hid hk2
   clear hk2
   go_wp2_with fail
   go_ret2
   exact ⟨by rw [HK.out]; rfl, n, rfl⟩
theorem read_4 {w : World} {b : Nat} {S : Nat → Prop} {R : RS} (H : Ram w b S R) (a : Nat) (ha : a < 4294967296) :
    Calls Tryz.prog 13 #[.pointer (some ⟨b, 0, .none⟩), .int .u32 a, .int .i64 4] w fun e w' => e = .returned (.tuple #[.int .u32 (R.read a 4 : Nat), .int .i64 0]) ∧ ∃ n, w' = w.drewN n := by
 go_enter Tryz.func13, Tryz.ntmps13
 go_wp2_with fail
 go_loopw [8, 26] (fun v i wr => ∃ k : Nat, k ≤ 4 ∧ i = .int .u32 k ∧ v = .int .u32 (R.read a k : Nat) ∧ ∃ n, wr = w.drewN n) (fun _ i _ => 4 - (intOf i).toNat)
 case atStart => exact ⟨0, by omega, rfl, rfl, 0, rfl⟩
 case round =>
  obtain ⟨k, hk, rfl, rfl, n, rfl⟩ := hrel
  by_cases hlt : k < 4
  ·go_wp2_with fail
   refine (get_anyv (H.drewN n) (at32 a k) _ (by unfold at32; omega) (at32_lt _ _)).mono ?_
   rintro e w1 ⟨rfl, n2, rfl⟩
   have hb := RS.get_lt H.isok (at32 a k)
   have hr := RS.read_lt H.isok a k
   have hr2 : 256 ^ k ≤ 256 ^ 3 := Nat.pow_le_pow_right (by decide) (by omega)
   have HR := Lib.hid (show R.read a (k + 1) = R.read a k + R.get (at32 a k) * 256 ^ k from rfl)
   have HO := Lib.hid (or_shift (R.read a k) (R.get (at32 a k)) k hr hb (by omega))
   generalize R.read a k = x at *
   generalize R.get (at32 a k) = y at *
   go_wp2_with fail
   go_roundw
   case rel => exact ⟨k + 1, by omega, by go_num, by rw [HR.out, HO.out], _, rfl⟩
   case measure => (simp [intOf]) <;> omega
  ·have hk2 : k = 4 := by omega
   have HK := Lib.hid hk2
   clear hk2
   go_wp2_with fail
   go_ret2
   exact ⟨by rw [HK.out]; rfl, n, rfl⟩
theorem shr_byte (v k : Nat) : ((v : Int) / 2 ^ (8 * k) % 256) = ((v / 256 ^ k % 256 : Nat) : Int) := by
 have hp : (256 : Nat) ^ k = 2 ^ (8 * k) := by rw [Nat.pow_mul]
 rw [hp]; simp
theorem wr_no (R : RS) (a v : Nat) (h : ¬ (R.place a < R.size ∧ R.only (R.place a / 4096) = false)) : R.wr a v = R := by unfold RS.wr; rw [if_neg h]
theorem wr_yes (R : RS) (a v : Nat) (h1 : R.place a < R.size) (h2 : R.only (R.place a / 4096) = false) : R.wr a v = R.put a v := by unfold RS.wr RS.put; rw [if_pos ⟨h1, h2⟩, if_pos h1]

theorem write_1 {w : World} {b : Nat} {S : Nat → Prop} {R : RS} (H : Ram w b S R) (a v : Nat) (ha : a < 4294967296) (hv : v < 4294967296) :
    Calls Tryz.prog 69 #[.pointer (some ⟨b, 0, .none⟩), .int .u32 a, .int .i64 1, .int .u32 v] w fun e w' => e = .returned (.int .i64 0) ∧ ∃ S', Ram w' b S' (R.write a v 1) ∧ Moves S S' w w' := by
 go_enter Tryz.func69, Tryz.ntmps69
 go_wp2_with fail
 go_loopw [28] (fun i wr => ∃ k : Nat, k ≤ 1 ∧ i = .int .u32 k ∧ ∃ S', Ram wr b S' (R.write a v k) ∧ Moves S S' w wr) (fun i _ => 1 - (intOf i).toNat)
 case atStart => exact ⟨0, by omega, rfl, S, H, Moves.refl S w⟩
 case round =>
  obtain ⟨k, hk, rfl, S', H', M'⟩ := hrel
  by_cases hlt : k < 1
  ·have HW := Lib.hid (show R.write a v (k + 1) = (R.write a v k).wr (at32 a k) (v / 256 ^ k % 256) from rfl)
   have HN := Lib.hid (wr_no (R.write a v k) (at32 a k) (v / 256 ^ k % 256))
   have HY := Lib.hid (wr_yes (R.write a v k) (at32 a k) (v / 256 ^ k % 256))
   have hpl := RS.place_le (R.write a v k) (at32 a k)
   have hal := at32_lt a k
   have HB := Lib.hid (shr_byte v k)
   go_wp2_with fail
   refine (place_anyv H' (at32 a k) _ (by unfold at32; omega) (at32_lt _ _)).mono ?_
   rintro e w1 ⟨rfl, n2, rfl⟩
   have H2 := H'.drewN n2
   have M2 := M'.trans (Moves.drewN S' _ n2)
   obtain ⟨bp, bo, bw, bn, pg, I, hS⟩ := H2
   obtain ⟨-, -, c2, -, -, -, -, klt⟩ := I.facts
   have mo := I.mo
   have H2 : Ram _ b S' (R.write a v k) := ⟨bp, bo, bw, bn, pg, I, hS⟩
   clear I hS H' M'
   generalize (R.write a v k).place (at32 a k) = p at *
   by_cases hs : p < (R.write a v k).size
   ·have hd : decide (p < (R.write a v k).size) = true := decide_eq_true hs
    rw [hd]
    clear hd
    have hx : ((p : Int) / 4096) = ((p / 4096 : Nat) : Int) := by omega
    cases ho : (R.write a v k).only (p / 4096)
    ·have hl := MarkAt.look mo ho _ hx
     have HO := Lib.hid ho
     clear hx ho mo
     go_wp2_with fail
     refine (put_anyv H2 (at32 a k) (v / 256 ^ k % 256) _ _ (by unfold at32; omega) HB.out (at32_lt _ _) (Nat.mod_lt _ (by decide))).mono ?_
     rintro e w1 ⟨rfl, S3, H3, M3⟩
     rw [← HY.out hs HO.out, ← HW.out] at H3
     have M4 := M2.trans M3
     go_wp2_with fail
     go_roundw
     case rel => exact ⟨k + 1, by omega, by go_num, S3, H3, M4⟩
     case measure => (simp [intOf]) <;> omega
    ·have hl := MarkAt.look mo ho _ hx
     have HO := Lib.hid ho
     clear hx ho mo
     have H3 : Ram (wr.drewN n2) b S' (R.write a v (k + 1)) := by rw [HW.out, HN.out fun h => by have := HO.out; rw [this] at h; cases h.2]; exact H2
     go_wp2_with fail
     go_roundw
     case rel => exact ⟨k + 1, by omega, by go_num, S', H3, M2⟩
     case measure => (simp [intOf]) <;> omega
   ·have hd : decide (p < (R.write a v k).size) = false := decide_eq_false hs
    rw [hd]
    clear hd
    have H3 : Ram (wr.drewN n2) b S' (R.write a v (k + 1)) := by rw [HW.out, HN.out fun h => hs h.1]; exact H2
    go_wp2_with fail
    go_roundw
    case rel => exact ⟨k + 1, by omega, by go_num, S', H3, M2⟩
    case measure => (simp [intOf]) <;> omega
  ·have hk2 : k = 1 := by omega
   have HK := Lib.hid hk2
   clear hk2
   go_wp2_with fail
   go_returns
   exact ⟨rfl, S', by rw [← HK.out]; exact H', M'⟩
theorem write_2 {w : World} {b : Nat} {S : Nat → Prop} {R : RS} (H : Ram w b S R) (a v : Nat) (ha : a < 4294967296) (hv : v < 4294967296) :
    Calls Tryz.prog 69 #[.pointer (some ⟨b, 0, .none⟩), .int .u32 a, .int .i64 2, .int .u32 v] w fun e w' => e = .returned (.int .i64 0) ∧ ∃ S', Ram w' b S' (R.write a v 2) ∧ Moves S S' w w' := by
 go_enter Tryz.func69, Tryz.ntmps69
 go_wp2_with fail
 go_loopw [28] (fun i wr => ∃ k : Nat, k ≤ 2 ∧ i = .int .u32 k ∧ ∃ S', Ram wr b S' (R.write a v k) ∧ Moves S S' w wr) (fun i _ => 2 - (intOf i).toNat)
 case atStart => exact ⟨0, by omega, rfl, S, H, Moves.refl S w⟩
 case round =>
  obtain ⟨k, hk, rfl, S', H', M'⟩ := hrel
  by_cases hlt : k < 2
  ·have HW := Lib.hid (show R.write a v (k + 1) = (R.write a v k).wr (at32 a k) (v / 256 ^ k % 256) from rfl)
   have HN := Lib.hid (wr_no (R.write a v k) (at32 a k) (v / 256 ^ k % 256))
   have HY := Lib.hid (wr_yes (R.write a v k) (at32 a k) (v / 256 ^ k % 256))
   have hpl := RS.place_le (R.write a v k) (at32 a k)
   have hal := at32_lt a k
   have HB := Lib.hid (shr_byte v k)
   go_wp2_with fail
   refine (place_anyv H' (at32 a k) _ (by unfold at32; omega) (at32_lt _ _)).mono ?_
   rintro e w1 ⟨rfl, n2, rfl⟩
   have H2 := H'.drewN n2
   have M2 := M'.trans (Moves.drewN S' _ n2)
   obtain ⟨bp, bo, bw, bn, pg, I, hS⟩ := H2
   obtain ⟨-, -, c2, -, -, -, -, klt⟩ := I.facts
   have mo := I.mo
   have H2 : Ram _ b S' (R.write a v k) := ⟨bp, bo, bw, bn, pg, I, hS⟩
   clear I hS H' M'
   generalize (R.write a v k).place (at32 a k) = p at *
   by_cases hs : p < (R.write a v k).size
   ·have hd : decide (p < (R.write a v k).size) = true := decide_eq_true hs
    rw [hd]
    clear hd
    have hx : ((p : Int) / 4096) = ((p / 4096 : Nat) : Int) := by omega
    cases ho : (R.write a v k).only (p / 4096)
    ·have hl := MarkAt.look mo ho _ hx
     have HO := Lib.hid ho
     clear hx ho mo
     go_wp2_with fail
     refine (put_anyv H2 (at32 a k) (v / 256 ^ k % 256) _ _ (by unfold at32; omega) HB.out (at32_lt _ _) (Nat.mod_lt _ (by decide))).mono ?_
     rintro e w1 ⟨rfl, S3, H3, M3⟩
     rw [← HY.out hs HO.out, ← HW.out] at H3
     have M4 := M2.trans M3
     go_wp2_with fail
     go_roundw
     case rel => exact ⟨k + 1, by omega, by go_num, S3, H3, M4⟩
     case measure => (simp [intOf]) <;> omega
    ·have hl := MarkAt.look mo ho _ hx
     have HO := Lib.hid ho
     clear hx ho mo
     have H3 : Ram (wr.drewN n2) b S' (R.write a v (k + 1)) := by rw [HW.out, HN.out fun h => by have := HO.out; rw [this] at h; cases h.2]; exact H2
     go_wp2_with fail
     go_roundw
     case rel => exact ⟨k + 1, by omega, by go_num, S', H3, M2⟩
     case measure => (simp [intOf]) <;> omega
   ·have hd : decide (p < (R.write a v k).size) = false := decide_eq_false hs
    rw [hd]
    clear hd
    have H3 : Ram (wr.drewN n2) b S' (R.write a v (k + 1)) := by rw [HW.out, HN.out fun h => hs h.1]; exact H2
    go_wp2_with fail
    go_roundw
    case rel => exact ⟨k + 1, by omega, by go_num, S', H3, M2⟩
    case measure => (simp [intOf]) <;> omega
  ·have hk2 : k = 2 := by omega
   have HK := Lib.hid hk2
   clear hk2
   go_wp2_with fail
   go_returns
   exact ⟨rfl, S', by rw [← HK.out]; exact H', M'⟩
theorem write_4 {w : World} {b : Nat} {S : Nat → Prop} {R : RS} (H : Ram w b S R) (a v : Nat) (ha : a < 4294967296) (hv : v < 4294967296) :
    Calls Tryz.prog 69 #[.pointer (some ⟨b, 0, .none⟩), .int .u32 a, .int .i64 4, .int .u32 v] w fun e w' => e = .returned (.int .i64 0) ∧ ∃ S', Ram w' b S' (R.write a v 4) ∧ Moves S S' w w' := by
 go_enter Tryz.func69, Tryz.ntmps69
 go_wp2_with fail
 go_loopw [28] (fun i wr => ∃ k : Nat, k ≤ 4 ∧ i = .int .u32 k ∧ ∃ S', Ram wr b S' (R.write a v k) ∧ Moves S S' w wr) (fun i _ => 4 - (intOf i).toNat)
 case atStart => exact ⟨0, by omega, rfl, S, H, Moves.refl S w⟩
 case round =>
  obtain ⟨k, hk, rfl, S', H', M'⟩ := hrel
  by_cases hlt : k < 4
  ·have HW := Lib.hid (show R.write a v (k + 1) = (R.write a v k).wr (at32 a k) (v / 256 ^ k % 256) from rfl)
   have HN := Lib.hid (wr_no (R.write a v k) (at32 a k) (v / 256 ^ k % 256))
   have HY := Lib.hid (wr_yes (R.write a v k) (at32 a k) (v / 256 ^ k % 256))
   have hpl := RS.place_le (R.write a v k) (at32 a k)
   have hal := at32_lt a k
   have HB := Lib.hid (shr_byte v k)
   go_wp2_with fail
   refine (place_anyv H' (at32 a k) _ (by unfold at32; omega) (at32_lt _ _)).mono ?_
   rintro e w1 ⟨rfl, n2, rfl⟩
   have H2 := H'.drewN n2
   have M2 := M'.trans (Moves.drewN S' _ n2)
   obtain ⟨bp, bo, bw, bn, pg, I, hS⟩ := H2
   obtain ⟨-, -, c2, -, -, -, -, klt⟩ := I.facts
   have mo := I.mo
   have H2 : Ram _ b S' (R.write a v k) := ⟨bp, bo, bw, bn, pg, I, hS⟩
   clear I hS H' M'
   generalize (R.write a v k).place (at32 a k) = p at *
   by_cases hs : p < (R.write a v k).size
   ·have hd : decide (p < (R.write a v k).size) = true := decide_eq_true hs
    rw [hd]
    clear hd
    have hx : ((p : Int) / 4096) = ((p / 4096 : Nat) : Int) := by omega
    cases ho : (R.write a v k).only (p / 4096)
    ·have hl := MarkAt.look mo ho _ hx
     have HO := Lib.hid ho
     clear hx ho mo
     go_wp2_with fail
     refine (put_anyv H2 (at32 a k) (v / 256 ^ k % 256) _ _ (by unfold at32; omega) HB.out (at32_lt _ _) (Nat.mod_lt _ (by decide))).mono ?_
     rintro e w1 ⟨rfl, S3, H3, M3⟩
     rw [← HY.out hs HO.out, ← HW.out] at H3
     have M4 := M2.trans M3
     go_wp2_with fail
     go_roundw
     case rel => exact ⟨k + 1, by omega, by go_num, S3, H3, M4⟩
     case measure => (simp [intOf]) <;> omega
    ·have hl := MarkAt.look mo ho _ hx
     have HO := Lib.hid ho
     clear hx ho mo
     have H3 : Ram (wr.drewN n2) b S' (R.write a v (k + 1)) := by rw [HW.out, HN.out fun h => by have := HO.out; rw [this] at h; cases h.2]; exact H2
     go_wp2_with fail
     go_roundw
     case rel => exact ⟨k + 1, by omega, by go_num, S', H3, M2⟩
     case measure => (simp [intOf]) <;> omega
   ·have hd : decide (p < (R.write a v k).size) = false := decide_eq_false hs
    rw [hd]
    clear hd
    have H3 : Ram (wr.drewN n2) b S' (R.write a v (k + 1)) := by rw [HW.out, HN.out fun h => hs h.1]; exact H2
    go_wp2_with fail
    go_roundw
    case rel => exact ⟨k + 1, by omega, by go_num, S', H3, M2⟩
    case measure => (simp [intOf]) <;> omega
  ·have hk2 : k = 4 := by omega
   have HK := Lib.hid hk2
   clear hk2
   go_wp2_with fail
   go_returns
   exact ⟨rfl, S', by rw [← HK.out]; exact H', M'⟩
end Go.Proofs.YtmpcafdgkbpneaaGreat

