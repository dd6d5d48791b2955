/- ide's laws: a disk's bytes; a command at a place; two lists. -/
import Derived.Test.YtebhnfoehgpilaaIdeL
import Derived.Laws.MakeOwn
namespace Go.Proofs.Ytebhnfoehgpilaa
open Go.RowKit
set_option linter.unusedVariables false

/-- n cells of a value. -/
def fresh (n : Nat) (z : Value) : Array Value := Array.replicate n z
theorem made_fresh (z : Value) (n : Nat) (hz : z.cells = #[z]) : madeCells z.cells (n * 1) = fresh n z := by
  rw [hz]
  apply Array.ext_getElem?
  intro j
  unfold madeCells fresh
  simp [Array.getElem?_replicate, Array.getElem?_map, Array.getElem?_range]
  by_cases h : j < n <;> simp [h, Nat.mod_one]
theorem make_run (w : World) (T E : TypeId) (z : Value) (bytes n : Nat) (hT : Try.prog.underlying T = some (.slice E)) (hi : (Try.prog.info? E).map (fun i => (i.zero, i.size, i.bytes)) = some (some z, 1, bytes)) (hz : z.cells = #[z])
    (hb : bytes * n ≤ 281474976710656) (hn : n ≤ 9223372036854775807) (x y : Int) (hx : x = (n : Int)) (hy : y = (n : Int)) :
    (Instr.makeSlice T (.int .i64 x) (.int .i64 y)).run Try.prog w = .ok (.slice (some ⟨w.heap.size, 0, .none⟩) n n) (w.alloc (.cells (fresh n z) E)) := by
  subst hx hy
  cases h : Try.prog.info? E with
  | none => rw [h] at hi; cases hi
  | some i =>
    rw [h] at hi
    simp only [Option.map_some, Option.some.injEq, Prod.mk.injEq] at hi
    obtain ⟨h1, h2, h3⟩ := hi
    have hb' : (i.bytes : Int) * (n : Int) ≤ 281474976710656 := by
      have : ((bytes * n : Nat) : Int) ≤ 281474976710656 := by omega
      rw [h3]; rwa [Int.natCast_mul] at this
    have := run_make (P := Try.prog) w T E i z hT h h1 .i64 .i64 (n : Int) (n : Int) (by omega) (Int.le_refl _) hb' (by omega)
    rw [this, h2, Int.toNat_natCast, made_fresh z n hz]
theorem make_bytes (w : World) (n : Nat) (h : n ≤ 281474976710656) (x y : Int) (hx : x = (n : Int)) (hy : y = (n : Int)) :
    (Instr.makeSlice 23 (.int .i64 x) (.int .i64 y)).run Try.prog w = .ok (.slice (some ⟨w.heap.size, 0, .none⟩) n n) (w.alloc (.cells (fresh n (.int .u8 0)) 5)) :=
  make_run w _ _ _ 1 n Try.underlying23 (by kernel_rfl) rfl (by omega) (by omega) x y hx hy

/-- A byte of the laws' disk. -/
def dsk (seed i : Nat) : Nat := ((i / 512 + 1) * 16 + i % 7 + seed) % 256
theorem dsk_lt (seed i : Nat) : dsk seed i < 256 := Nat.mod_lt _ (by decide)
/-- The first k bytes are laid. -/
def dskCells (m seed k : Nat) : Array Value := Array.ofFn (n := m) fun i => .int .u8 ((if i.val < k then dsk seed i.val else 0 : Nat) : Int)
theorem dsk_zero (m seed : Nat) : fresh m (.int .u8 0) = dskCells m seed 0 := by
  apply Array.ext_getElem?
  intro j
  unfold dskCells fresh
  rw [Array.getElem?_replicate, Array.getElem?_ofFn]
  by_cases h : j < m <;> simp [h]
theorem dsk_set (m seed k : Nat) (hk : k < m) : (dskCells m seed k).setIfInBounds k (.int .u8 (dsk seed k : Nat)) = dskCells m seed (k + 1) := by
  unfold dskCells
  rw [ofFn_set m (fun i => .int .u8 ((if i < k then dsk seed i else 0 : Nat) : Int)) k]
  refine ofFn_ext (f := fun i => if i = k then .int .u8 (dsk seed k : Nat) else .int .u8 ((if i < k then dsk seed i else 0 : Nat) : Int)) (g := fun i => .int .u8 ((if i < k + 1 then dsk seed i else 0 : Nat) : Int)) fun i hi => ?_
  by_cases e : i = k
  · subst e; rw [if_pos rfl, if_pos (Nat.lt_succ_self _)]
  · rw [if_neg e]
    by_cases h : i < k
    · rw [if_pos h, if_pos (by omega)]
    · rw [if_neg h, if_neg (by omega)]
theorem dsk_full (m seed : Nat) : (dskCells m seed m).toList = bytesL m (dsk seed) := by
  apply List.ext_getElem?
  intro j
  rw [Array.getElem?_toList]
  unfold dskCells
  rw [Array.getElem?_ofFn]
  by_cases h : j < m
  · rw [dif_pos h, bytesL_at _ _ _ h]; show some (Value.int .u8 ((if j < m then dsk seed j else 0 : Nat) : Int)) = _; rw [if_pos h]
  · rw [dif_neg h, bytesL_no _ _ _ (by omega)]
theorem dsk_cell {w : World} {g m seed k i : Nat} {T : TypeId} (h : w.heap[g]? = some (.cells (dskCells m seed k) T)) (hi : i < m) : ∃ x, w.cell? ⟨g, i, none⟩ = some (.int .u8 x) := by
  rw [cell_at h]; unfold dskCells; rw [Array.getElem?_ofFn, dif_pos hi]; exact ⟨_, rfl⟩
/-- How many sectors. -/
def secs (s : Int) : Nat := ((if s < 0 then -(s + 1) else s) % 5).toNat
theorem secs_lt (s : Int) : secs s < 5 := by unfold secs; omega
set_option maxHeartbeats 2000000 in
theorem lawdisk_any (s : Int) (h0 : -9223372036854775808 ≤ s) (h1 : s ≤ 9223372036854775807) (seed : Nat) (hs : seed < 256) (w : World) :
    Calls Try.prog 10 #[.int .i64 s, .int .u8 seed] w fun e w' => ∃ v, e = .returned v ∧ w'.ownsRow w.heap.size 5 1 v (secs s * 512) (bytesL (secs s * 512) (dsk seed)) ∧ Below w.heap.size w w' := by
  obtain ⟨n, hn⟩ : ∃ n, n = secs s := ⟨_, rfl⟩
  rw [← hn]
  have hn5 : n < 5 := by rw [hn]; exact secs_lt s
  have HN := Lib.hid hn
  have main : ∀ t : Int, (t = if s < 0 then -(s + 1) else s) → 0 ≤ t ∧ t % 5 = (n : Int) := fun t ht => by
    have := HN.out
    unfold secs at this
    rw [← ht] at this
    by_cases h : s < 0
    · rw [if_pos h] at ht; omega
    · rw [if_neg h] at ht; omega
  have HM := Lib.hid main
  obtain ⟨m, hm⟩ : ∃ m, m = n * 512 := ⟨_, rfl⟩
  rw [← hm]
  have hm2 : m ≤ 2048 := by omega
  have HMM := Lib.hid hm
  clear hn main hm
  go_enter Try.func10, Try.ntmps10
  go_upto_if 8 with (fail)
  go_cut [0] from 7 (fun x wc => ∃ t : Int, x = .int .i64 t ∧ (0 ≤ t ∧ t % 5 = (n : Int)) ∧ w = wc)
  case first =>
    by_cases hneg : s < 0
    · have q : 0 ≤ -(s + 1) := by omega
      go_wp2_with fail
      go_meet
      exact ⟨_, rfl, HM.out _ (if_pos hneg).symm, rfl⟩
    · go_wp2_with fail
      go_meet
      exact ⟨_, rfl, HM.out _ (if_neg (by omega)).symm, rfl⟩
  case rest =>
    obtain ⟨t, rfl, ⟨t0, t5⟩, rfl⟩ := hcut
    have hq : t % 5 * 512 = (m : Int) := by have := HMM.out; omega
    have hmk := make_bytes w m (by omega) (t % 5 * 512) (t % 5 * 512) hq hq
    clear hq t5 h0 h1 hn5
    go_wp2_with fail
    have HS0 := Lib.hid (dsk_zero m seed)
    rw [HS0.out]
    clear hmk
    go_loopw [6] (fun i wr => ∃ k : Nat, k ≤ m ∧ i = .int .i64 k ∧ wr.heap[w.heap.size]? = some (.cells (dskCells m seed k) 5) ∧ Below w.heap.size w wr) (fun i _ => m - (intOf i).toNat)
    case atStart => exact ⟨0, by omega, rfl, heap_new w _, (Below.refl _ _).alloc (Nat.le_refl _) _⟩
    case round =>
      obtain ⟨k, hk, rfl, hg, hB⟩ := hrel
      have hfz : ∀ j, wr.frozen? ⟨w.heap.size, j, none⟩ = false := fun j => free_at hg
      have hl := heap_lt hg
      by_cases hlt : k < m
      · obtain ⟨x, hx⟩ := dsk_cell hg hlt
        have HG := Lib.hid hg
        have q1 : (0 : Int) ≤ (k : Int) := by omega
        have q2 : (k : Int) < (m : Int) := by omega
        have q3 : (k : Int) < 2048 := by omega
        clear hg
        go_wp2_with fail
        go_roundw
        case rel =>
          refine ⟨k + 1, by omega, by go_num, ?_, hB.setCell (Nat.le_refl _) _⟩
          rw [← dsk_set m seed k hlt]
          have := heap_set_same (.int .u8 (dsk seed k : Nat)) (k := k) HG.out
          trace_state
          exact this
        case measure => (simp [intOf]) <;> omega
      · have hk2 : k = m := by omega
        have HK := Lib.hid hk2
        have HG := Lib.hid hg
        clear hk2 hg
        go_wp2_with fail
        go_ret
        have hg2 := HG.out
        rw [HK.out] at hg2
        refine ⟨_, rfl, ⟨by rw [bytesL_len]; omega, .inr ⟨w.heap.size, m, _, rfl, Nat.le_refl _, hg2, Nat.le_refl _, by unfold maxLen; omega, ?_, ?_⟩⟩, hB⟩
        · unfold dskCells; rw [Array.size_ofFn]; omega
        · rw [dsk_full, Nat.mul_one, List.take_of_length_le (by rw [bytesL_len]; exact Nat.le_refl _)]
end Go.Proofs.Ytebhnfoehgpilaa
