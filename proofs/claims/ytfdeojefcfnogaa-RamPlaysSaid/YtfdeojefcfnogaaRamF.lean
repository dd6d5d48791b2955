/- ram: Dump. -/
import Derived.Test.YtfdeojefcfnogaaRamE
import Derived.Deep.RegionHeld3
import Derived.Laws.CopyOwn
import Derived.Laws.MakeOwn
namespace Go.Proofs.Ytfdeojefcfnogaa
open Go.RowKit Go.MapKept
set_option linter.unusedVariables false

theorem Ram.set {w : World} {b : Nat} {S : Nat → Prop} {R : RS} (H : Ram w b S R) {g : Nat} (hg : ¬ S g) (k : Nat) (v : Value) : Ram (w.setCell ⟨g, k, .none⟩ v) b S R :=
  H.keeps ((Keeps.refl (· = g) w).setOne k v) fun j hj e => hg (by rw [← e]; exact hj)
theorem below_dn {B : Nat} {w a : World} (h : Below B w a) (n : Nat) : Below B w (a.drewN n) := ⟨h.os, h.tape, h.output, h.size, h.block⟩
/-- n cells of a value. -/
def fresh (n : Nat) (z : Value) : Array Value := Array.replicate n z
theorem made_fresh (z : Value) (n : Nat) (hz : z.cells = #[z]) : madeCells z.cells (n * 1) = fresh n z := by
  rw [hz]
  apply Array.ext_getElem?
  intro j
  unfold madeCells fresh
  simp [Array.getElem?_replicate, Array.getElem?_map, Array.getElem?_range]
  by_cases h : j < n <;> simp [h, Nat.mod_one]
theorem make_run (w : World) (T E : TypeId) (z : Value) (bytes n : Nat) (hT : Try.prog.underlying T = some (.slice E)) (hi : (Try.prog.info? E).map (fun i => (i.zero, i.size, i.bytes)) = some (some z, 1, bytes)) (hz : z.cells = #[z])
    (hb : bytes * n ≤ 281474976710656) (hn : n ≤ 9223372036854775807) (x y : Int) (hx : x = (n : Int)) (hy : y = (n : Int)) :
    (Instr.makeSlice T (.int .i64 x) (.int .i64 y)).run Try.prog w = .ok (.slice (some ⟨w.heap.size, 0, .none⟩) n n) (w.alloc (.cells (fresh n z) E)) := by
  subst hx hy
  cases h : Try.prog.info? E with
  | none => rw [h] at hi; cases hi
  | some i =>
    rw [h] at hi
    simp only [Option.map_some, Option.some.injEq, Prod.mk.injEq] at hi
    obtain ⟨h1, h2, h3⟩ := hi
    have hb' : (i.bytes : Int) * (n : Int) ≤ 281474976710656 := by
      have : ((bytes * n : Nat) : Int) ≤ 281474976710656 := by omega
      rw [h3]; rwa [Int.natCast_mul] at this
    have := run_make (P := Try.prog) w T E i z hT h h1 .i64 .i64 (n : Int) (n : Int) (by omega) (Int.le_refl _) hb' (by omega)
    rw [this, h2, Int.toNat_natCast, made_fresh z n hz]
theorem make_bytes (w : World) (n : Nat) (h : n ≤ 281474976710656) (x y : Int) (hx : x = (n : Int)) (hy : y = (n : Int)) :
    (Instr.makeSlice 47 (.int .i64 x) (.int .i64 y)).run Try.prog w = .ok (.slice (some ⟨w.heap.size, 0, .none⟩) n n) (w.alloc (.cells (fresh n (.int .u8 0)) 5)) :=
  make_run w _ _ _ 1 n Try.underlying47 (by kernel_rfl) rfl (by omega) (by omega) x y hx hy

/-- The first k of n bytes from a on, and noughts behind them. -/
def outCells (R : RS) (a n k : Nat) : Array Value := Array.ofFn (n := n) fun i => .int .u8 ((if i.val < k then R.get (at32 a i.val) else 0 : Nat) : Int)
theorem out_zero (R : RS) (a n : Nat) : fresh n (.int .u8 0) = outCells R a n 0 := by
  apply Array.ext_getElem?
  intro j
  unfold outCells fresh
  rw [Array.getElem?_replicate, Array.getElem?_ofFn]
  by_cases h : j < n <;> simp [h]
theorem out_full (R : RS) (a n : Nat) : outCells R a n n = Array.ofFn (n := n) fun i => .int .u8 (R.get (at32 a i.val) : Nat) := by
  unfold outCells
  congr 1
  funext i
  rw [if_pos i.isLt]
theorem out_set (R : RS) (a n k : Nat) (hk : k < n) : (outCells R a n k).setIfInBounds k (.int .u8 (R.get (at32 a k) : Nat)) = outCells R a n (k + 1) := by
  apply Array.ext_getElem?
  intro j
  unfold outCells
  rw [Array.getElem?_setIfInBounds, Array.getElem?_ofFn, Array.getElem?_ofFn]
  by_cases hj : j < n
  · rw [dif_pos hj, dif_pos hj]
    by_cases e : k = j
    · subst e
      rw [if_pos rfl, if_pos (by simpa using hj), if_pos (show k < k + 1 by omega)]
    · rw [if_neg e]
      congr 2
      by_cases h : j < k
      · rw [if_pos h, if_pos (show j < k + 1 by omega)]
      · rw [if_neg h, if_neg (show ¬ j < k + 1 by omega)]
  · rw [dif_neg hj, dif_neg hj]
    by_cases e : k = j
    · omega
    · rw [if_neg e]

theorem slice_page (q p : Nat) (W : World) : (Instr.sliceAt 69 (.pointer (some ⟨q, 0, .none⟩)) (some (.int .u32 ((p : Int).tmod 4096))) none none).run Try.prog W = .ok (.slice (some ⟨q, p % 4096, .none⟩) (4096 - p % 4096) (4096 - p % 4096)) W := by
  have e : (p : Int).tmod 4096 = ((p % 4096 : Nat) : Int) := by
    rw [Int.tmod_eq_emod_of_nonneg (by omega)]; omega
  have h : p % 4096 < 4096 := Nat.mod_lt _ (by decide)
  rw [e]
  generalize p % 4096 = x at *
  have hn : ¬ 4096 = x := by omega
  have hle : x ≤ 4096 := by omega
  have ha : (⟨q, 0, .none⟩ : Addr).add x = ⟨q, x, .none⟩ := by rw [Go.WideShapes.add_plain]; simp
  simp [Instr.sliceAt, run_underlying Try.underlying69, Result.andThen, Instr.sliceBounds, Instr.sliceBound, asIntOf, Instr.sureAddr, hn, hle, ha]
def outL (R : RS) (a n k : Nat) : List Value := (List.range n).map fun i => .int .u8 ((if i < k then R.get (at32 a i) else 0 : Nat) : Int)
theorem outL_len (R : RS) (a n k : Nat) : (outL R a n k).length = n := by unfold outL; simp
theorem outCells_eq (R : RS) (a n k : Nat) : outCells R a n k = (outL R a n k).toArray := by
  apply Array.ext_getElem?
  intro j
  unfold outCells outL
  rw [Array.getElem?_ofFn]
  by_cases h : j < n
  · rw [dif_pos h]; simp [h]
  · rw [dif_neg h]; simp [h]
def chunk (R : RS) (a k m : Nat) : List Value := (List.range m).map fun j => .int .u8 (R.get (at32 a (k + j)) : Nat)
theorem chunk_len (R : RS) (a k m : Nat) : (chunk R a k m).length = m := by unfold chunk; simp
theorem chunk_one (R : RS) (a k m : Nat) : ∀ v ∈ chunk R a k m, v.oneCell' = true := by
  intro v hv
  unfold chunk at hv
  obtain ⟨j, _, rfl⟩ := List.mem_map.1 hv
  rfl
theorem chunk_splice (R : RS) (a n k m : Nat) (h : k + m ≤ n) : splice (outL R a n k) k (chunk R a k m) = outL R a n (k + m) := by
  unfold splice
  rw [chunk_len]
  apply List.ext_getElem?
  intro j
  have hl := outL_len R a n k
  by_cases h1 : j < k
  · rw [List.getElem?_append_left (by rw [List.length_take]; omega), List.getElem?_take_of_lt h1]
    unfold outL
    have : j < n := by omega
    have h3 : j < k + m := by omega
    simp [this, h1, h3]
  · by_cases h2 : j < k + m
    · rw [List.getElem?_append_right (by rw [List.length_take]; omega), List.getElem?_append_left (by rw [chunk_len, List.length_take]; omega), List.length_take, Nat.min_eq_left (by omega)]
      unfold outL chunk
      have h4 : j < n := by omega
      have h5 : j - k < m := by omega
      have h6 : k + (j - k) = j := by omega
      simp [h4, h5, h2, h6]
    · rw [List.getElem?_append_right (by rw [List.length_take]; omega), List.getElem?_append_right (by rw [chunk_len, List.length_take]; omega), List.length_take, Nat.min_eq_left (by omega), chunk_len, List.getElem?_drop]
      have h6 : k + m + (j - k - m) = j := by omega
      rw [h6]
      unfold outL
      by_cases h4 : j < n
      · simp [h4, h1, h2]
      · simp [h4]
theorem chunk_get (R : RS) (a k p m j : Nat) (hp : R.place (at32 a k) = p) (hc : R.closed = false) (hs : p < R.size) (hm : m ≤ 4096 - p % 4096) (ok : R.ok) (hj : j < m) : R.get (at32 a (k + j)) = R.byte (p / 4096 * 4096 + (p % 4096 + j)) := by
  have h2 := RS.size_le ok
  have pl : ∀ x, R.place x = x := fun x => by unfold RS.place; rw [hc]; rfl
  rw [pl] at hp
  have e : at32 a (k + j) = p + j := by unfold at32 at *; omega
  have h3 : p + j < R.size := by unfold RS.size at *; omega
  unfold RS.get
  rw [pl, e, if_pos h3]
  congr 1; omega
theorem chunk_cells (R : RS) (a k m q p : Nat) (w : World) (T : TypeId) (h : w.heap[q]? = some (.cells (pageCells R.byte (p / 4096)) T)) (hg : ∀ j, j < m → R.get (at32 a (k + j)) = R.byte (p / 4096 * 4096 + (p % 4096 + j))) (hm : m ≤ 4096 - p % 4096) :
    ∀ (j : Nat) v, (chunk R a k m)[j]? = some v → w.cell? ((⟨q, p % 4096, .none⟩ : Addr).add j) = some v := by
  intro j v hv
  have hj : j < m := by
    have := (List.getElem?_eq_some_iff.1 hv).1
    rwa [chunk_len] at this
  rw [Go.WideShapes.add_plain, page_cell h (by omega), ← hg j hj]
  unfold chunk at hv
  simp [hj] at hv
  rw [hv]

set_option maxHeartbeats 4000000 in
theorem dump_any {w : World} {b : Nat} {S : Nat → Prop} {R : RS} (H : Ram w b S R) (a n : Nat) (ha : a < 4294967296) (h1 : 1 ≤ n) (h2 : n ≤ 140737488355328) :
    Calls Try.prog 23 #[.pointer (some ⟨b, 0, .none⟩), .int .u32 a, .int .i64 n] w fun e w' => ∃ g, e = .returned (.slice (some ⟨g, 0, .none⟩) n n) ∧ w.heap.size ≤ g ∧
      w'.heap[g]? = some (.cells (Array.ofFn (n := n) fun i => .int .u8 (R.get (at32 a i.val) : Nat)) 5) ∧ Below w.heap.size w w' := by
  have hmk := fun w => make_bytes w n (by omega) _ _ rfl rfl
  go_enter Try.func23, Try.ntmps23
  go_wp2_with fail
  have HB := H.own
  have hin := H.lt H.own
  go_loopw [8] (fun i wr => ∃ k : Nat, k ≤ n ∧ i = .int .i64 k ∧ Ram wr b S R ∧ wr.heap[w.heap.size]? = some (.cells (outCells R a n k) 5) ∧ Below w.heap.size w wr) (fun i _ => n - (intOf i).toNat)
  case atStart => exact ⟨0, by omega, rfl, H.alloc _, by rw [← out_zero]; exact heap_new w _, by go_grown⟩
  case round =>
    obtain ⟨k, hk, rfl, H', G', B'⟩ := hrel
    by_cases hlt : k < n
    · clear hmk
      go_wp2_with fail
      refine (place_anyv H' (at32 a k) _ (by unfold at32; omega) (at32_lt _ _)).mono ?_
      rintro e w1 ⟨rfl, n2, rfl⟩
      have H2 := H'.drewN n2
      have G2 : (wr.drewN n2).heap[w.heap.size]? = some (.cells (outCells R a n k) 5) := G'
      have B2 : Below w.heap.size w (wr.drewN n2) := ⟨B'.os, B'.tape, B'.output, B'.size, B'.block⟩
      obtain ⟨bp, bo, bw, bn, pg, I, hS⟩ := H2
      obtain ⟨-, c1, -, -, -, c5, kf, klt⟩ := I.facts
      have H2 : Ram (wr.drewN n2) b S R := ⟨bp, bo, bw, bn, pg, I, hS⟩
      have hpl := RS.place_le R (at32 a k)
      have hal := at32_lt a k
      have hm := I.mp
      clear G'
      generalize hp : R.place (at32 a k) = p at *
      have HP := Lib.hid hp
      have hx : ((p : Int) / 4096) = ((p / 4096 : Nat) : Int) := by omega
      have hl := pages_lookup hm _ hx
      rcases hq : pg (p / 4096) with _ | q
      · rw [hq, Option.map_none] at hl
        by_cases hs : p < R.size
        · have hd : decide (p < R.size) = true := decide_eq_true hs
          rw [hd]
          clear hd hx hq
          have GG : wr.heap[w.heap.size]? = some (.cells (outCells R a n k) 5) := G2
          have hcell : wr.cell? ⟨w.heap.size, k, .none⟩ = some (.int .u8 0) := by
            rw [cell_at GG]; unfold outCells; rw [Array.getElem?_ofFn, dif_pos hlt, if_neg (Nat.lt_irrefl k)]; rfl
          have hfree := fun j => free_at (k := j) GG
          have hszw := heap_lt GG
          have HG2 := Lib.hid G2
          clear G2 GG
          go_wp2_with fail
          refine (get_anyv H2 (at32 a k) _ (by unfold at32; omega) (at32_lt _ _)).mono ?_
          rintro e w1 ⟨rfl, n3, rfl⟩
          clear c1 c5 kf klt hm hl
          go_wp2_with fail
          go_roundw
          case rel =>
            refine ⟨k + 1, by omega, by go_num, ?_, ?_, ?_⟩
            · exact (H'.drewN (n2 + n3)).set (fun hS => Nat.lt_irrefl _ (H.lt hS)) k _
            · rw [← out_set R a n k hlt]
              refine (heap_set_map _ _ _ _).trans ?_
              show Option.map _ ((wr.drewN n2).heap[w.heap.size]?) = _
              rw [HG2.out]; rfl
            · exact (below_dn B' (n2 + n3)).setCell (p := ⟨w.heap.size, k, .none⟩) (Nat.le_refl _) _
          case measure => (simp [intOf]) <;> omega
        · have hd : decide (p < R.size) = false := decide_eq_false hs
          rw [hd]
          clear hd hx hq
          have GG : wr.heap[w.heap.size]? = some (.cells (outCells R a n k) 5) := G2
          have hcell : wr.cell? ⟨w.heap.size, k, .none⟩ = some (.int .u8 0) := by
            rw [cell_at GG]; unfold outCells; rw [Array.getElem?_ofFn, dif_pos hlt, if_neg (Nat.lt_irrefl k)]; rfl
          have hfree := fun j => free_at (k := j) GG
          have hszw := heap_lt GG
          have HG2 := Lib.hid G2
          clear G2 GG
          go_wp2_with fail
          refine (get_anyv H2 (at32 a k) _ (by unfold at32; omega) (at32_lt _ _)).mono ?_
          rintro e w1 ⟨rfl, n3, rfl⟩
          clear c1 c5 kf klt hm hl
          go_wp2_with fail
          go_roundw
          case rel =>
            refine ⟨k + 1, by omega, by go_num, ?_, ?_, ?_⟩
            · exact (H'.drewN (n2 + n3)).set (fun hS => Nat.lt_irrefl _ (H.lt hS)) k _
            · rw [← out_set R a n k hlt]
              refine (heap_set_map _ _ _ _).trans ?_
              show Option.map _ ((wr.drewN n2).heap[w.heap.size]?) = _
              rw [HG2.out]; rfl
            · exact (below_dn B' (n2 + n3)).setCell (p := ⟨w.heap.size, k, .none⟩) (Nat.le_refl _) _
          case measure => (simp [intOf]) <;> omega
      · have hs : p < R.size := by have := I.inside _ _ hq; unfold RS.size; omega
        have hd : decide (p < R.size) = true := decide_eq_true hs
        rw [hd]
        rw [hq, Option.map_some] at hl
        have HQ := Lib.hid hq
        clear hd hx hq
        cases hc : R.closed
        · rw [hc] at c5
          have HC := Lib.hid hc
          clear hc
          have b1 : (0 : Int) ≤ (p : Int) % 4096 := by omega
          have b2 : (p : Int) % 4096 < 4096 := by omega
          have b3 : (k : Int) ≤ (n : Int) := by omega
          have b4 : (0 : Int) ≤ (k : Int) := by omega
          have b5 : p % 4096 < 4096 := by omega
          have b6 : ¬ 4096 = p % 4096 := by omega
          have b7 : ¬ n = k := by omega
          have GG : wr.heap[w.heap.size]? = some (.cells (outL R a n k).toArray 5 (0, 0)) := by rw [← outCells_eq]; exact G2
          have PP : wr.heap[q]? = some (.cells (pageCells R.byte (p / 4096)) 69) := I.page _ _ HQ.out
          have HGG := Lib.hid GG
          have HPP := Lib.hid PP
          have hm1 : Nat.min (4096 - p % 4096) (n - k) ≤ n - k := Nat.min_le_right _ _
          have hm2 : Nat.min (4096 - p % 4096) (n - k) ≤ 4096 - p % 4096 := Nat.min_le_left _ _
          have hm3 : 1 ≤ Nat.min (4096 - p % 4096) (n - k) := Nat.le_min.2 ⟨by omega, by omega⟩
          generalize hmm : Nat.min (4096 - p % 4096) (n - k) = m at *
          have HMM := Lib.hid hmm
          have HCS := Lib.hid (chunk_len R a k m)
          have HSP := Lib.hid (chunk_splice R a n k m (by omega))
          have HCC : Hid (∀ j, j < m → R.get (at32 a (k + j)) = R.byte (p / 4096 * 4096 + (p % 4096 + j))) := fun j hj => chunk_get R a k p m j HP.out HC.out hs (by omega) H.isok hj
          clear GG PP G2 hmm
          have hsl := slice_page q p
          go_upto_region 9 with (fail)
          go_region_held3 (fun w' => True) (trivial) ((refine step_copy_splice (by rfl) (.tmp 54) (.tmp 59) 47 47 (by rfl) 5 Try.underlying47 (by kernel_rfl) (some ⟨w.heap.size, k, .none⟩) (some ⟨q, p % 4096, .none⟩) (n - k) (n - k) (4096 - p % 4096) (4096 - p % 4096) (by rfl) (by rfl) w.heap.size k (outL R a n k) 5 (by exact HGG.out) (chunk R a k m) (by rw [HCS.out]; exact HMM.out.symm) (fun _ => ⟨rfl, _, rfl, chunk_cells R a k m q p _ _ HPP.out HCC.out (by omega)⟩) (by rw [HCS.out, outL_len]; omega) (chunk_one R a k m) w.heap.size w (by exact ⟨B'.os, B'.tape, B'.output, B'.size, B'.block⟩) (Nat.le_refl _) ?_; intro w4 hg4 hb4))
          all_goals
            have H4 := H.below hb4
            have HG4 := Lib.hid hg4.out
            rw [HCS.out]
            have hww : IntKind.i64.wrap ((k : Int) + (m : Int)) = ((k + m : Nat) : Int) := by rw [IntKind.wrap_i64]; omega
            have HWW := Lib.hid hww
            clear hww
            clear hg4 hsl c1 c5 kf klt hm hl b1 b2 b6 b7
            go_wp2_with fail
            go_roundw
            case rel => exact ⟨k + m, by omega, by rw [← HWW.out], H4, by rw [outCells_eq, ← HSP.out]; exact HG4.out, hb4⟩
            case measure =>
              show n - (intOf (.int .i64 (IntKind.i64.wrap ((k : Int) + (m : Int))))).toNat < n - (intOf (.int .i64 (k : Int))).toNat
              rw [HWW.out]
              simp [intOf]; omega
        · rw [hc] at c5
          clear hc
          have GG : wr.heap[w.heap.size]? = some (.cells (outCells R a n k) 5) := G2
          have hcell : wr.cell? ⟨w.heap.size, k, .none⟩ = some (.int .u8 0) := by
            rw [cell_at GG]; unfold outCells; rw [Array.getElem?_ofFn, dif_pos hlt, if_neg (Nat.lt_irrefl k)]; rfl
          have hfree := fun j => free_at (k := j) GG
          have hszw := heap_lt GG
          have HG2 := Lib.hid G2
          clear G2 GG
          go_wp2_with fail
          refine (get_anyv H2 (at32 a k) _ (by unfold at32; omega) (at32_lt _ _)).mono ?_
          rintro e w1 ⟨rfl, n3, rfl⟩
          clear c1 c5 kf klt hm hl
          go_wp2_with fail
          go_roundw
          case rel =>
            refine ⟨k + 1, by omega, by go_num, ?_, ?_, ?_⟩
            · exact (H'.drewN (n2 + n3)).set (fun hS => Nat.lt_irrefl _ (H.lt hS)) k _
            · rw [← out_set R a n k hlt]
              refine (heap_set_map _ _ _ _).trans ?_
              show Option.map _ ((wr.drewN n2).heap[w.heap.size]?) = _
              rw [HG2.out]; rfl
            · exact (below_dn B' (n2 + n3)).setCell (p := ⟨w.heap.size, k, .none⟩) (Nat.le_refl _) _
          case measure => (simp [intOf]) <;> omega
    · have hk2 : k = n := by omega
      have HK := Lib.hid hk2
      clear hk2 hmk
      go_wp2_with fail
      go_ret
      refine ⟨w.heap.size, rfl, Nat.le_refl _, ?_, B'⟩
      rw [HK.out] at G'
      rw [← out_full]; exact G'
end Go.Proofs.Ytfdeojefcfnogaa
