/- ram: Written. -/
import Derived.Test.YtfdeojefcfnogaaRamH
import Derived.Maps.Range
namespace Go.Proofs.Ytfdeojefcfnogaa
open Go.RowKit Go.MapKept
open Go.ChangeMaps (setBlock)
set_option linter.unusedVariables false

theorem info32 : (Try.prog.info? 23).map (fun i => (i.zero, i.size, i.bytes)) = some (some (.int .u32 0), 1, 4) := by kernel_rfl
/-- What Written tells, and leaves. -/
def Told (w : World) (b : Nat) (S : Nat → Prop) (R : RS) (e : Ending) (w' : World) : Prop :=
  ∃ (v : Value) (L : List Nat), e = .returned v ∧ (∀ x, x ∈ L ↔ R.noted x = true) ∧ L.Pairwise (· < ·) ∧ w'.ownsRow w.heap.size 23 1 v L.length (wordsL L) ∧ Ram w' b S R.told ∧ Keeps S w w'
theorem Keeps.ofBelow2 {S : Nat → Prop} {B : Nat} {w w' : World} (hb : Below B w w') (h : B = w.heap.size) : Keeps S w w' := by subst h; exact Keeps.ofBelow hb
theorem Below.grown {B : Nat} {a w w' : World} {v : Value} (h : Below B a w) (hg : w.grownBy w' v.ownBlock) (hB : B ≤ w.heap.size) (hv : ∀ k, v.ownBlock = some k → B ≤ k) : Below B a w' :=
  h.trans ⟨hg.os, hg.tape, hg.output, hg.size, fun i hi => hg.block i (by omega) fun e => by have := hv i e.symm; omega⟩
theorem below_setBlock {B r : Nat} {a w : World} {o o' : Obj} (h : Below B a w) (hr : B ≤ r) (hb : w.heap[r]? = some o) : Below B a (setBlock w r o') :=
  h.trans ⟨rfl, rfl, rfl, by simp [setBlock], fun i hi => (heap_set hb).2 i (by omega)⟩
set_option maxHeartbeats 4000000 in
theorem written_any {N : Nat} (hs : Sorts N) (hN : N ≤ 1048576) {w : World} {b : Nat} {S : Nat → Prop} {R : RS} (H : Ram w b S R) (hb : ∀ L : List Nat, L.Nodup → (∀ x ∈ L, R.noted x = true) → L.length ≤ N) (h32 : ∀ x, R.noted x = true → x < 4294967296) :
    Calls Try.prog 16 #[.pointer (some ⟨b, 0, .none⟩)] w (Told w b S R) := by
  obtain ⟨bp, bo, bw, bn, pg, I, hS⟩ := H
  obtain ⟨-, -, -, -, k4, -, kf, klt⟩ := I.facts
  obtain ⟨es, clock, hm, hst, hkey, hval⟩ := I.mn
  have hno : ∀ n : Nat, R.noted n = true ↔ ∃ x ∈ es.toList, x.key = .int .u32 (n : Nat) := fun n => by
    constructor
    · intro h
      obtain ⟨x, hx, hk, _⟩ := (hval n (.bool true)).1 (by show (if R.noted n = true then some (Value.bool true) else none) = _; rw [if_pos h])
      exact ⟨x, hx, hk⟩
    · rintro ⟨x, hx, hk⟩
      have e : (if R.noted n = true then some (Value.bool true) else none) = some x.val := (hval n x.val).2 ⟨x, hx, hk, rfl⟩
      cases h : R.noted n
      · rw [if_neg (by rw [h]; decide)] at e; cases e
      · rfl
  have HNO := Lib.hid hno
  have HI := Lib.hid I
  have HKEY := Lib.hid hkey
  have HB := Lib.hid hb
  have H32 := Lib.hid h32
  have HST := Lib.hid hst
  have HS := Lib.hid hS
  clear hval hno I hkey hb h32 hst hS
  have hlen := fun ty => run_len_map (P := Try.prog) (w := w) 59 ty bn es clock (by kernel_rfl) hm
  by_cases h0 : es.size = 0
  · have g : (((es.size : Nat) : Int) == 0) = true := by simp; exact Array.eq_empty_of_size_eq_zero h0
    have HE := Lib.hid h0
    clear h0
    go_enter Try.func16, Try.ntmps16
    go_wp2_with fail
    refine bodyPost_ret (v := .slice none 0 0) (by simp [results, go_sem]) rfl ?_
    have e0 : R.told = R := by
      unfold RS.told
      have : R.noted = fun _ => false := by
        funext n
        cases h : R.noted n
        · rfl
        · obtain ⟨x, hx, _⟩ := (HNO.out n).1 h
          rw [Array.eq_empty_of_size_eq_zero HE.out] at hx
          simp at hx
      rw [← this]
    refine ⟨_, [], rfl, fun x => ?_, List.Pairwise.nil, World.ownsRow_nil _ _ _ _, ?_, Keeps.refl _ _⟩
    · constructor
      · intro h; cases h
      · intro h
        obtain ⟨y, hy, _⟩ := (HNO.out x).1 h
        rw [Array.eq_empty_of_size_eq_zero HE.out] at hy
        simp at hy
    · rw [e0]; exact ⟨bp, bo, bw, bn, pg, HI.out, HS.out⟩
  · have g : (((es.size : Nat) : Int) == 0) = false := by simp; intro h; exact h0 (by rw [h]; rfl)
    have hrange := run_range_map (P := Try.prog) w 59 _ _ bn es clock Try.underlying59 hm
    have HE := Lib.hid h0
    clear h0
    go_enter Try.func16, Try.ntmps16
    go_wp2_with fail
    have HM := Lib.hid hm
    have HLT := Lib.hid (heap_lt hm)
    have hiter := heap_new w (.mapIter (some bn) clock #[] clock)
    have hb0 : Below w.heap.size w (w.alloc (.mapIter (some bn) clock #[] clock)) := (Below.refl _ _).alloc (Nat.le_refl _) _
    have hsz0 : (w.alloc (.mapIter (some bn) clock #[] clock)).heap.size = w.heap.size + 1 := by simp
    obtain ⟨w1, hw1⟩ : ∃ w1, w1 = w.alloc (.mapIter (some bn) clock #[] clock) := ⟨_, rfl⟩
    rw [← hw1] at hiter hb0 hsz0 ⊢
    clear hw1 hm hrange hlen
    obtain ⟨r, hr⟩ : ∃ r, r = w.heap.size := ⟨_, rfl⟩
    rw [← hr] at hiter hb0 hsz0 HLT ⊢
    have HR := Lib.hid hr
    obtain ⟨i0, hi, hz0, hz1, hz2⟩ := info_parts info32
    clear hr
    go_loopw [3] (fun s wr => ∃ v L seen c0, v = s ∧ wr.heap[r]? = some (.mapIter (some bn) clock seen c0) ∧ clock ≤ c0 ∧ Coll es seen L ∧ wr.ownsRow (r + 1) 23 1 v L.length (wordsL L) ∧ Below r w wr) (fun _ wr => wr.rangeLeft bn r)
    case atStart => exact ⟨_, [], #[], clock, rfl, hiter, Nat.le_refl _, Coll.start es, World.ownsRow_nil _ _ _ _, hb0⟩
    case round =>
      clear hiter hb0 hsz0
      obtain ⟨v, L, seen, c0, rfl, hit, hc0, hC, hown, hB⟩ := hrel
      have hm2 : wr.heap[bn]? = some (.map es clock) := (hB.block bn HLT.out).trans HM.out
      rcases run_next_at (P := Try.prog) wr 0 r bn clock c0 seen es clock hit hm2 HST.out.1 hc0 with ⟨h0, hrun⟩ | ⟨e, he, w2, hw2, hrun⟩
      · have HOWN := Lib.hid hown
        have HC := Lib.hid hC
        have HB2 := Lib.hid hB
        have H0 := Lib.hid h0
        have K4 := hB
        rw [HR.out] at K4
        have I2 : RamIn wr b bp bo bw bn pg R := HI.out.keeps (Keeps.ofBelow (S := fun _ => False) K4) (fun _ _ h => h)
        obtain ⟨-, -, -, -, k4, -, kf, klt⟩ := I2.facts
        obtain ⟨W3, hcl, M3, K3⟩ := MapAt.clear I2.mn Try.underlying59 0
        have M3 : SetAt W3 bn (fun _ => false) := M3.ext (fun m => by simp)
        have I3 := Lib.hid (I2.turnNoted M3 K3)
        have HK3 := Lib.hid K3
        clear hit hC hm2 hB h0 K4 I2 M3 hown K3
        have hL0 : 0 < L.length := by
          have hx : es[0]'(by have := HE.out; omega) ∈ es.toList := by simp
          obtain ⟨n, hn⟩ := HKEY.out _ hx
          have := (HC.out.done H0.out n).2 ⟨_, hx, hn⟩
          exact List.length_pos_of_mem this
        have hmem : ∀ x, x ∈ L ↔ R.noted x = true := fun x => (HC.out.done H0.out x).trans (HNO.out x).symm
        have hLN : L.length ≤ N := HB.out L HC.out.nodup fun x hx => (hmem x).1 hx
        have HL0 := Lib.hid hL0
        have HMEM := Lib.hid hmem
        have HLN := Lib.hid hLN
        obtain ⟨g, c, rfl, hg1, hg2⟩ := row_some HOWN.out hL0
        have hbr := HLT.out
        have HROW : Hid (W3.ownsRow (r + 1) 23 1 (.slice (some ⟨g, 0, none⟩) L.length c) L.length (wordsL L)) := Lib.hid (row_of_heap HOWN.out fun k hk => HK3.out.block k (World.ownsRow.lt HOWN.out k hk).2 (by have := (World.ownsRow.lt HOWN.out k hk).1; omega))
        clear hL0 hmem hLN
        go_wp2_with fail
        refine (hs L W3 (r + 1) g c HLN.out HL0.out (fun x hx => H32.out x ((HMEM.out x).1 hx)) HC.out.nodup HROW.out).mono ?_
        rintro e w4 ⟨rfl, L', hp, ho, hrow, hK4⟩
        go_wp2_with fail
        have hrw := HR.out
        have hl' := hp.length_eq
        have hout : ∀ k, Owned b bp bo bw bn pg k → k < r := fun k hk => by rw [hrw]; exact hk.lt HI.out
        refine bodyPost_ret (v := .slice (some ⟨g, 0, none⟩) L.length c) (by simp [results, go_sem]) rfl ⟨_, L', rfl, fun x => ?_, ho, ?_, ⟨bp, bo, bw, bn, pg, I3.out.keeps hK4 (fun k hk e => by have := hout k hk; omega), HS.out⟩, ?_⟩
        · rw [hp.mem_iff]; exact HMEM.out x
        · rw [← hrw]; rw [← hl'] at hrow ⊢; exact row_down hrow (by omega)
        · have k1 : Keeps S w wr := Keeps.ofBelow2 HB2.out hrw
          have k2 := k1.one HK3.out ((HS.out bn).2 (.inr (.inr (.inr (.inr (.inl rfl))))))
          exact k2.andThen hK4 fun i hi e => by subst e; omega
      · obtain ⟨n, hn⟩ := HKEY.out e (left_mem he).1
        have hlt := left_less he
        have HC2 := Lib.hid (hC.step HST.out he hn)
        have hnt : R.noted n = true := (HNO.out n).2 ⟨e, (left_mem he).1, hn⟩
        have hn32 := H32.out n hnt
        have hLN : (L ++ [n]).length ≤ N := HB.out _ HC2.out.nodup fun x hx => by
          obtain ⟨y, hy, hk, _⟩ := HC2.out.from' x hx
          exact (HNO.out x).2 ⟨y, hy, hk⟩
        rw [List.length_append, List.length_singleton] at hLN
        have hh : ∀ k : Nat, w2.heap[k]? = wr.heap[k]? := fun k => by rcases hw2 with rfl | rfl <;> rfl
        have hit2 : w2.heap[r]? = some (.mapIter (some bn) clock seen c0) := (hh r).trans hit
        have hB2 : Below r w w2 := by rcases hw2 with rfl | rfl; exact hB; exact ⟨hB.os, hB.tape, hB.output, hB.size, hB.block⟩
        have hs2 := (heap_set (o' := .mapIter (some bn) clock (seen.push e.born) clock) hit2)
        have hB3 : Below r w (setBlock w2 r (.mapIter (some bn) clock (seen.push e.born) clock)) := below_setBlock hB2 (Nat.le_refl _) hit2
        have hit3 : (setBlock w2 r (.mapIter (some bn) clock (seen.push e.born) clock)).heap[r]? = some (.mapIter (some bn) clock (seen.push e.born) clock) := hs2.1
        have hown3 : (setBlock w2 r (.mapIter (some bn) clock (seen.push e.born) clock)).ownsRow (r + 1) 23 1 v L.length (wordsL L) :=
          row_of_heap hown fun k hk => by
            have := (World.ownsRow.lt hown k hk).1
            exact (hs2.2 k (by omega)).trans (hh k)
        have hsz3 : r < (setBlock w2 r (.mapIter (some bn) clock (seen.push e.born) clock)).heap.size := heap_lt hit3
        have hold : wr.rangeLeft bn r = (leftOf es seen).size := by unfold World.rangeLeft; simp only [hm2, hit]
        rw [hn] at hrun
        generalize setBlock w2 r (.mapIter (some bn) clock (seen.push e.born) clock) = w3 at *
        have hm3 : w3.heap[bn]? = some (.map es clock) := (hB3.block bn HLT.out).trans HM.out
        have hent := run_entry_at (P := Try.prog) w3 r bn clock seen es clock e hit3 hm3 (left_mem he).1 HST.out.2.1
        rw [hn] at hent
        have HOWN3 := Lib.hid hown3
        have HIT3 := Lib.hid hit3
        have HB3 := Lib.hid hB3
        have HOLD := Lib.hid hold
        have HLT2 := Lib.hid hlt
        have HLN := Lib.hid hLN
        have HSZ3 := Lib.hid hsz3
        have HN32 := Lib.hid hn32
        have hl20 : L.length + 1 ≤ 1048576 := by omega
        clear hown hit hm2 hB hh hit2 hB2 hs2 hold hlt hnt hC hw2 hown3 hit3 hB3 hLN hsz3 hm3 he hn hn32
        have hc1 := Lib.hid (one_new w3 23 (.int .u32 (n : Nat)))
        go_wp2_with (at_builtin; (refine wpList_append_own _ rfl _ _ 35 rfl (r + 1) 23 i0 (.int .u32 0) 1 4 Try.underlying35 hi hz0 hz1 hz2 rfl (by decide) _ _ _ rfl (HOWN3.out.alloc _) ⟨w3.heap.size, 0, none⟩ 1 1 [.int .u32 (n : Nat)] rfl rfl hc1.out (fun u hu => by rw [List.mem_singleton.1 hu]; rfl) (by unfold maxLen; omega) (by omega) (by simp; have := HSZ3.out; omega) ?_); intro v' w1' hown1 hgrow1 _)
        have hv1 : ∀ k, v.ownBlock = some k → r + 1 ≤ k := fun k hk => (World.ownsRow.lt HOWN3.out k hk).1
        have hit4 : w1'.heap[r]? = some (.mapIter (some bn) clock (seen.push e.born) clock) :=
          (hgrow1.block r (by simp; have := HSZ3.out; omega) (fun e => by have := hv1 r e.symm; omega)).trans (heap_alloc_lt HIT3.out)
        have hB4 : Below r w w1' := Below.grown (HB3.out.alloc (by have := HSZ3.out; omega) _) hgrow1 (by simp; have := HSZ3.out; omega) fun k hk => by have := hv1 k hk; omega
        have hm4 : w1'.heap[bn]? = some (.map es clock) := (hB4.block bn HLT.out).trans HM.out
        have hrow4 : w1'.ownsRow (r + 1) 23 1 v' (L ++ [n]).length (wordsL (L ++ [n])) := by rw [List.length_append, wordsL_snoc]; exact hown1
        go_roundw
        case rel => exact ⟨v', L ++ [n], seen.push e.born, clock, rfl, hit4, Nat.le_refl _, HC2.out, hrow4, hB4⟩
        case measure =>
          have e1 : w1'.rangeLeft bn r = (leftOf es (seen.push e.born)).size := by unfold World.rangeLeft; simp only [hm4, hit4]
          rw [HOLD.out, e1]; exact HLT2.out
end Go.Proofs.Ytfdeojefcfnogaa
