/- ram: a byte is read; a byte is laid. -/
import Derived.Test.YtfdeojefcfnogaaRamA
namespace Go.Proofs.Ytfdeojefcfnogaa
open Go.RowKit Go.MapKept
set_option linter.unusedVariables false

/-- Of the blocks that were there, those of S may have turned; of S', what is not of S is new. -/
def Moves (S S' : Nat → Prop) (w w' : World) : Prop := Keeps S w w' ∧ ∀ k, S' k → S k ∨ w.heap.size ≤ k
theorem Moves.refl (S : Nat → Prop) (w : World) : Moves S S w w := ⟨Keeps.refl S w, fun k h => .inl h⟩
theorem Moves.drewN (S : Nat → Prop) (w : World) (n : Nat) : Moves S S w (w.drewN n) := ⟨(Keeps.refl S w).drewN n, fun k h => .inl h⟩
theorem Moves.trans {S S' S'' : Nat → Prop} {a b c : World} (h : Moves S S' a b) (k : Moves S' S'' b c) : Moves S S'' a c := by
  refine ⟨h.1.andThen k.1 fun i hi hS => ?_, fun i hi => ?_⟩
  · rcases h.2 i hS with h1 | h1
    · exact h1
    · omega
  · rcases k.2 i hi with h1 | h1
    · exact h.2 i h1
    · exact .inr (Nat.le_trans h.1.size h1)

theorem page_set (byte : Nat → Nat) (k i v : Nat) (hi : i < 4096) :
    (pageCells byte k).setIfInBounds i (.int .u8 v) = pageCells (fun m => if m = k * 4096 + i then v else byte m) k := by
  apply Array.ext_getElem?
  intro j
  unfold pageCells
  rw [Array.getElem?_setIfInBounds, Array.getElem?_ofFn, Array.getElem?_ofFn]
  by_cases hj : j < 4096
  · rw [dif_pos hj, dif_pos hj]
    by_cases e : i = j
    · subst e
      rw [if_pos rfl, if_pos (by simpa using hi)]
      simp
    · rw [if_neg e]
      have : ¬ k * 4096 + j = k * 4096 + i := by omega
      show _ = some (Value.int .u8 ((if k * 4096 + j = k * 4096 + i then v else byte (k * 4096 + j) : Nat) : Int))
      rw [if_neg this]
  · rw [dif_neg hj, dif_neg hj]
    by_cases e : i = j
    · omega
    · rw [if_neg e]
theorem page_else (byte : Nat → Nat) (k n v : Nat) (h : n / 4096 ≠ k) : pageCells (fun m => if m = n then v else byte m) k = pageCells byte k := by
  unfold pageCells
  congr 1
  funext i
  have : ¬ k * 4096 + i.val = n := by have := i.isLt; omega
  show Value.int .u8 ((if k * 4096 + i.val = n then v else byte (k * 4096 + i.val) : Nat) : Int) = _
  rw [if_neg this]
def zeroCells : Array Value := Array.replicate 4096 (.int .u8 0)
set_option maxRecDepth 100000 in
theorem zero_page (W : World) : (zeroValue 69).run Try.prog W = .ok (.agg zeroCells) W := by kernel_rfl
theorem page_zero : pageCells (fun _ => 0) 0 = zeroCells := by
  apply Array.ext_getElem?
  intro j
  unfold pageCells zeroCells
  rw [Array.getElem?_ofFn, Array.getElem?_replicate]
  rfl

section
variable {w w' : World} {b bp bo bw bn : Nat} {pg : Nat → Option Nat} {R : RS}
/-- A byte is stored into a page that is there. -/
theorem RamIn.store (H : RamIn w b bp bo bw bn pg R) (n v q : Nat) (hv : v < 256) (hq : pg (n / 4096) = some q) :
    RamIn (w.setCell ⟨q, n % 4096, .none⟩ (.int .u8 v)) b bp bo bw bn pg { R with byte := fun i => if i = n then v else R.byte i } := by
  have en : n / 4096 * 4096 + n % 4096 = n := by omega
  obtain ⟨f, mo, hf⟩ := H.mo
  refine { H with
    obj := by rw [heap_set_ne _ _ _ _ _ (H.q_b hq).symm]; exact H.obj
    mp := H.mp.setCell _ _
    mo := ⟨f, mo.setCell _ _, hf⟩
    mw := MapAt.setCell H.mw _ _
    mn := MapAt.setCell H.mn _ _
    page := ?_
    zero := ?_
    ok := ⟨H.ok.p1, H.ok.p2, fun i => ?_⟩ }
  · intro k q' hq'
    by_cases e : q' = q
    · subst e
      have hk := H.inj _ _ _ hq hq'
      subst hk
      rw [heap_set_map, H.page _ _ hq]
      show some (Obj.cells _ _ _) = _
      rw [page_set _ _ _ _ (Nat.mod_lt _ (by decide)), en]
    · rw [heap_set_ne _ _ _ _ _ e, H.page k q' hq', page_else]
      intro hk
      subst hk
      rw [hq] at hq'
      exact e (by cases hq'; rfl)
  · intro k hk i hi
    have : ¬ k * 4096 + i = n := by
      intro e
      have : n / 4096 = k := by omega
      rw [this, hk] at hq
      cases hq
    show (if k * 4096 + i = n then v else _) = 0
    rw [if_neg this]
    exact H.zero k hk i hi
  · show (if i = n then v else R.byte i) < 256
    split
    · exact hv
    · exact H.ok.b i
/-- A page is made. -/
theorem RamIn.newPage (H : RamIn w b bp bo bw bn pg R) (k : Nat) (hk : pg k = .none) (hk2 : k < R.pages) {w1 : World} (hm : MapAt w1 bp .u32 (fun m => if m = k then some (.pointer (some ⟨w.heap.size, 0, .none⟩)) else pagePtr pg m))
    (hk1 : Keeps (· = bp) (w.alloc (.cells zeroCells 69)) w1) :
    RamIn w1 b bp bo bw bn (fun m => if m = k then some w.heap.size else pg m) R := by
  have hin := fun m hm => Owned.lt H (k := m) hm
  have hh : ∀ m, m < w.heap.size → m ≠ bp → w1.heap[m]? = w.heap[m]? := fun m h1 h2 => by
    rw [hk1.block m (by simp; omega) h2, Below.heap_alloc _ _ _ h1]
  obtain ⟨f, mo, hf⟩ := H.mo
  refine { H with
    obj := by rw [hh b (hin b (.inl rfl)) H.b_p]; exact H.obj
    mp := hm.ext fun m => ?_
    mo := ⟨f, mo.of_heap (hh bo mo.lt H.d1.symm), hf⟩
    mw := MapAt.of_heap H.mw (hh bw (MapAt.lt H.mw) H.d2.symm)
    mn := MapAt.of_heap H.mn (hh bn (MapAt.lt H.mn) H.d3.symm)
    page := ?_
    zero := ?_
    inj := ?_
    inside := ?_ }
  · unfold pagePtr
    by_cases e : m = k
    · simp [e]
    · simp [e]
  · intro k' q hq
    by_cases e : k' = k
    · subst e
      simp only [if_true, Option.some.injEq] at hq
      subst hq
      rw [hk1.block _ (by simp) (by have := H.mp.lt; omega), heap_new]
      have : pageCells R.byte k' = zeroCells := by
        rw [← page_zero]
        unfold pageCells
        congr 1
        funext i
        rw [H.zero k' hk i.val i.isLt]
      rw [this]
    · simp only [e, if_false] at hq
      rw [hh q (hin q (.inr (.inr (.inr (.inr (.inr ⟨k', hq⟩)))))) (H.q_p hq)]
      exact H.page k' q hq
  · intro k' hk' i hi
    by_cases e : k' = k
    · simp [e] at hk'
    · simp only [e, if_false] at hk'
      exact H.zero k' hk' i hi
  · intro k1 k2 q h1 h2
    by_cases e1 : k1 = k
    · by_cases e2 : k2 = k
      · rw [e1, e2]
      · simp only [e1, e2, if_true, if_false, Option.some.injEq] at h1 h2
        have := hin q (.inr (.inr (.inr (.inr (.inr ⟨k2, h2⟩)))))
        omega
    · by_cases e2 : k2 = k
      · simp only [e1, e2, if_true, if_false, Option.some.injEq] at h1 h2
        have := hin q (.inr (.inr (.inr (.inr (.inr ⟨k1, h1⟩)))))
        omega
      · simp only [e1, e2, if_false] at h1 h2
        exact H.inj k1 k2 q h1 h2
  · intro k' q hq
    by_cases e : k' = k
    · rw [e]; exact hk2
    · simp only [e, if_false] at hq
      exact H.inside k' q hq
/-- The watched granules' map turns. -/
theorem RamIn.turnWatched (H : RamIn w b bp bo bw bn pg R) {g : Nat → Bool} (hm : SetAt w' bw g) (hk : Keeps (· = bw) w w') : RamIn w' b bp bo bw bn pg { R with watched := g } := by
  have hin := fun m hm => Owned.lt H (k := m) hm
  obtain ⟨f, mo, hf⟩ := H.mo
  exact { H with
    obj := by rw [hk.block b (hin b (.inl rfl)) H.b_w]; exact H.obj
    mp := H.mp.of_heap (hk.block _ H.mp.lt H.d2)
    mo := ⟨f, mo.of_heap (hk.block _ mo.lt H.d4), hf⟩
    mw := hm
    mn := MapAt.of_heap H.mn (hk.block _ (MapAt.lt H.mn) H.d6.symm)
    page := fun k q hq => by rw [hk.block q (heap_lt (H.page k q hq)) (H.q_w hq)]; exact H.page k q hq
    ok := ⟨H.ok.p1, H.ok.p2, H.ok.b⟩ }
/-- The noted granules' map turns. -/
theorem RamIn.turnNoted (H : RamIn w b bp bo bw bn pg R) {g : Nat → Bool} (hm : SetAt w' bn g) (hk : Keeps (· = bn) w w') : RamIn w' b bp bo bw bn pg { R with noted := g } := by
  have hin := fun m hm => Owned.lt H (k := m) hm
  obtain ⟨f, mo, hf⟩ := H.mo
  exact { H with
    obj := by rw [hk.block b (hin b (.inl rfl)) H.b_n]; exact H.obj
    mp := H.mp.of_heap (hk.block _ H.mp.lt H.d3)
    mo := ⟨f, mo.of_heap (hk.block _ mo.lt H.d5), hf⟩
    mw := MapAt.of_heap H.mw (hk.block _ (MapAt.lt H.mw) H.d6)
    mn := hm
    page := fun k q hq => by rw [hk.block q (heap_lt (H.page k q hq)) (H.q_n hq)]; exact H.page k q hq
    ok := ⟨H.ok.p1, H.ok.p2, H.ok.b⟩ }
/-- The map of pages that can only be read turns. -/
theorem RamIn.turnOnly (H : RamIn w b bp bo bw bn pg R) {g : Nat → Bool} (hm : MarkAt w' bo g) (hk : Keeps (· = bo) w w') : RamIn w' b bp bo bw bn pg { R with only := g } := by
  have hin := fun m hm => Owned.lt H (k := m) hm
  exact { H with
    obj := by rw [hk.block b (hin b (.inl rfl)) H.b_o]; exact H.obj
    mp := H.mp.of_heap (hk.block _ H.mp.lt H.d1)
    mo := hm
    mw := MapAt.of_heap H.mw (hk.block _ (MapAt.lt H.mw) H.d4.symm)
    mn := MapAt.of_heap H.mn (hk.block _ (MapAt.lt H.mn) H.d5.symm)
    page := fun k q hq => by rw [hk.block q (heap_lt (H.page k q hq)) (H.q_o hq)]; exact H.page k q hq
    ok := ⟨H.ok.p1, H.ok.p2, H.ok.b⟩ }
theorem Owned.newPage {k m : Nat} (n : Nat) (h : Owned b bp bo bw bn (fun m => if m = k then some n else pg m) m) : Owned b bp bo bw bn pg m ∨ m = n := by
  rcases h with h | h | h | h | h | ⟨j, hj⟩
  · exact .inl (.inl h)
  · exact .inl (.inr (.inl h))
  · exact .inl (.inr (.inr (.inl h)))
  · exact .inl (.inr (.inr (.inr (.inl h))))
  · exact .inl (.inr (.inr (.inr (.inr (.inl h)))))
  · by_cases e : j = k
    · simp only [e, if_true, Option.some.injEq] at hj
      exact .inr hj.symm
    · simp only [e, if_false] at hj
      exact .inl (.inr (.inr (.inr (.inr (.inr ⟨j, hj⟩)))))
end

set_option maxHeartbeats 1000000 in
theorem get_any {w : World} {b bp bo bw bn : Nat} {pg : Nat → Option Nat} {R : RS} (H : RamIn w b bp bo bw bn pg R) (a : Nat) (ha : a < 4294967296) :
    Calls Try.prog 26 #[.pointer (some ⟨b, 0, .none⟩), .int .u32 a] w fun e w' => e = .returned (.int .u8 (R.get a : Nat)) ∧ ∃ n, w' = w.drewN n := by
  obtain ⟨-, k1, -, -, -, -, kf, klt⟩ := H.facts
  have hpl := R.place_le a
  have hsz := RS.size_le H.ok
  have hpa := place_any H a ha
  have hg : R.get a = if R.place a < R.size then R.byte (R.place a) else 255 := rfl
  have HG := Lib.hid hg
  clear hg
  generalize R.place a = p at *
  have HP := Lib.hid hpa
  clear hpa
  by_cases hs : p < R.size
  · have hd : decide (p < R.size) = true := decide_eq_true hs
    have hx : ((p : Int) / 4096) = ((p / 4096 : Nat) : Int) := by omega
    have hm : ((p : Int) % 4096) = ((p % 4096 : Nat) : Int) := by omega
    rcases hq : pg (p / 4096) with _ | q
    · have hb : R.byte p = 0 := by
        have := H.zero _ hq (p % 4096) (Nat.mod_lt _ (by decide))
        rwa [show p / 4096 * 4096 + p % 4096 = p by omega] at this
      go_enter Try.func26, Try.ntmps26
      go_wp2_with fail
      refine HP.out.mono ?_
      rintro e w1 ⟨rfl, n, rfl⟩
      rw [hd]
      have hl := pages_lookup (H.mp.drewN n) _ hx
      rw [hq] at hl
      clear hx hm hd hq
      go_wp2_with fail
      go_ret
      refine ⟨?_, n, rfl⟩
      rw [HG.out, if_pos hs, hb]; rfl
    · have hc := page_cell (H.page _ _ hq) (Nat.mod_lt p (show 0 < 4096 by decide))
      rw [show p / 4096 * 4096 + p % 4096 = p by omega] at hc
      have hb := H.ok.b p
      go_enter Try.func26, Try.ntmps26
      go_wp2_with fail
      refine HP.out.mono ?_
      rintro e w1 ⟨rfl, n, rfl⟩
      rw [hd]
      have hl := pages_lookup (H.mp.drewN n) _ hx
      rw [hq, Option.map_some] at hl
      have HQ := Lib.hid hq
      clear hx hd hm hq
      go_wp2_with fail
      go_ret
      refine ⟨?_, n, rfl⟩
      rw [HG.out, if_pos hs]; rfl
  · have hd : decide (p < R.size) = false := decide_eq_false hs
    go_enter Try.func26, Try.ntmps26
    go_wp2_with fail
    refine HP.out.mono ?_
    rintro e w1 ⟨rfl, n, rfl⟩
    rw [hd]
    clear hd
    go_wp2_with fail
    go_ret
    refine ⟨?_, n, rfl⟩
    rw [HG.out, if_neg hs]; rfl
end Go.Proofs.Ytfdeojefcfnogaa
