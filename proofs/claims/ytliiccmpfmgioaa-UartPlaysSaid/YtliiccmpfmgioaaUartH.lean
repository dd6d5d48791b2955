/- uart's laws: what comes and what is sent keeps its order; in plain words; bytes as a string. -/
import Derived.Test.YtliiccmpfmgioaaUartG
import Derived.Test.YtliiccmpfmgioaaReach
import Derived.Laws.BytesArg
namespace Go.Proofs.Ytliiccmpfmgioaa
open Go.RowKit Go.Conc
set_option linter.unusedVariables false

/-- A slice of bytes that came in. -/
def BytesIn (w : World) (a : Option Addr) (len : Nat) (f : Nat → Nat) : Prop :=
  len = 0 ∨ ∃ b off, a = some ⟨b, off, none⟩ ∧ b < w.heap.size ∧ ∀ i, i < len → w.cell? ⟨b, off + i, none⟩ = some (.int .u8 (f i : Nat))
def byteF (z : Nat → Int) (len : Nat) : Nat → Nat := fun i => if i < len then (z i).toNat else 0
theorem bytes_in {w : World} {a : Option Addr} {len : Nat} {z : Nat → Int} (h : IntsIn .u8 w a len z) : BytesIn w a len (byteF z len) := by
  refine h.imp id ?_
  rintro ⟨b, off, rfl, hb, hc⟩
  refine ⟨b, off, rfl, hb, fun i hi => ?_⟩
  obtain ⟨h1, h2, h3⟩ := hc i hi
  have e1 : IntKind.u8.min = 0 := rfl
  rw [h1]
  unfold byteF
  rw [if_pos hi]
  congr 2
  omega
theorem byteF_lt {w : World} {a : Option Addr} {len : Nat} {z : Nat → Int} (h : IntsIn .u8 w a len z) (i : Nat) : byteF z len i < 256 := by
  unfold byteF
  split
  · rename_i hi
    rcases h with h | ⟨b, off, _, _, hc⟩
    · omega
    · have := (hc i hi).2
      have e1 : IntKind.u8.min = 0 := rfl
      have e2 : IntKind.u8.max = 255 := rfl
      omega
  · decide
def fst (f : Nat → Nat) (k : Nat) : List Nat := (List.range k).map f
theorem fst_len (f : Nat → Nat) (k : Nat) : (fst f k).length = k := by unfold fst; simp
theorem fst_snoc (f : Nat → Nat) (k : Nat) : fst f (k + 1) = fst f k ++ [f k] := by unfold fst; rw [List.range_succ]; simp
theorem fst_at (f : Nat → Nat) (k i : Nat) (h : i < k) : (fst f k)[i]? = some (f i) := by unfold fst; simp [h]
theorem drop_cons (f : Nat → Nat) (k i : Nat) (h : i < k) : (fst f k).drop i = f i :: (fst f k).drop (i + 1) := by
  have hl : i < (fst f k).length := by rw [fst_len]; exact h
  rw [List.drop_eq_getElem_cons hl]
  congr 1
  have := fst_at f k i h
  rw [List.getElem?_eq_getElem hl] at this
  exact Option.some.inj this
/-- Numbers as a string of bytes. -/
def strL (L : List Nat) : ByteArray := strOfNums (L.map fun x => ((x : Nat) : Int))
theorem conv_row {w : World} {B n : Nat} {v : Value} {L : List Nat} (h : w.ownsRow B 5 1 v n (bytesV L)) :
    (convert 27 9 v).run Try.prog w = .ok (.string (strL L)) w := by
  have hL := h.1
  rw [bytesV_len, Nat.mul_one] at hL
  rcases h.2 with ⟨rfl, h0⟩ | ⟨g, cap, cur, rfl, _, hg, h1, h2, h3, h4⟩
  · rw [h0] at hL
    rw [List.eq_nil_of_length_eq_zero hL]
    exact run_convert_bytes_nil _ _ _ Try.underlying27 Try.underlying5 0 0 _ Try.underlying9
  · refine run_convert_bytes_arg w _ _ Try.underlying27 Try.underlying5 g 0 n cap (L.map fun x => ((x : Nat) : Int)) (by simp; exact hL) ?_ _ Try.underlying9
    intro i hi
    have hi2 : i < L.length := by omega
    obtain ⟨g', c', e, hx, _⟩ := byte_at h i _ (List.getElem?_eq_getElem hi2)
    injection e with e1 e2 e3
    injection e1 with e1
    injection e1 with e1
    subst e1
    rw [Nat.zero_add, hx]
    simp [List.getD, hi2]
theorem conv_in {w : World} {a : Option Addr} {len c : Nat} {f : Nat → Nat} (h : BytesIn w a len f) :
    (convert 27 9 (.slice a len c)).run Try.prog w = .ok (.string (strL (fst f len))) w := by
  rcases h with h0 | ⟨b, off, rfl, hb, hc⟩
  · subst h0
    cases a with
    | none => exact run_convert_bytes_nil _ _ _ Try.underlying27 Try.underlying5 0 c _ Try.underlying9
    | some ad =>
      have hl : (loadCells ad 0).run Try.prog w = .ok #[] w := run_loadCells_list (P := Try.prog) w ad [] (fun j v hj => by simp at hj)
      rw [run_convert_bytes_string w _ _ _ _ 0 c Try.underlying27 Try.underlying5 Try.underlying9, run_bytesToString w _ 0 c [] hl]
      rfl
  · refine run_convert_bytes_arg w _ _ Try.underlying27 Try.underlying5 b off len c ((fst f len).map fun x => ((x : Nat) : Int)) (by simp [fst_len]) ?_ _ Try.underlying9
    intro i hi
    rw [hc i hi]
    have hi2 : i < (fst f len).length := by rw [fst_len]; exact hi
    have := fst_at f len i hi
    simp [List.getD, this]
/-- k bytes came and were sent. -/
structure Pushed (f : Nat → Nat) (room : Nat) (on : Bool) (k : Nat) (U : Ut) : Prop where
  on : U.on = on
  came : U.came = fst f (min k room)
  lost : U.lost = decide (room < k)
  sent : U.sent = fst f k
  wanted : U.wanted = 1
  lcr : U.lcr = 0
theorem out0_send {U : Ut} (h : U.lcr = 0) (v : Nat) : U.out 0 v = U.send v := by
  unfold Ut.out
  rw [if_neg (by decide), if_neg (fun x => by have := x.2; unfold Ut.latch at this; rw [h] at this; cases this), if_pos rfl]
theorem pushed_next {f : Nat → Nat} {room : Nat} {on : Bool} {k : Nat} {U : Ut} (hr : room = if on then 16 else 1) (h : Pushed f room on k U) : Pushed f room on (k + 1) ((U.push (f k)).out 0 (f k)) := by
  have key : (U.push (f k)).on = on ∧ (U.push (f k)).came = fst f (min (k + 1) room) ∧ (U.push (f k)).lost = decide (room < k + 1) ∧ (U.push (f k)).sent = fst f k ∧ (U.push (f k)).wanted = 1 ∧ (U.push (f k)).lcr = 0 := by
    unfold Ut.push
    by_cases hk : k < room
    · have c1 : ¬ (U.on = false ∧ U.came ≠ []) := by
        rintro ⟨h1, h2⟩
        rw [h.on] at h1
        subst h1
        simp at hr
        subst hr
        have : k = 0 := by omega
        subst this
        exact h2 (by rw [h.came]; rfl)
      have c2 : U.came.length < 16 := by
        rw [h.came, fst_len]
        have : room ≤ 16 := by rw [hr]; split <;> omega
        omega
      rw [if_neg c1, if_pos c2]
      refine ⟨h.on, ?_, ?_, h.sent, h.wanted, h.lcr⟩
      · show U.came ++ [f k] = _
        rw [h.came, Nat.min_eq_left (by omega), Nat.min_eq_left (by omega), fst_snoc]
      · show U.lost = _
        rw [h.lost, decide_eq_false (by omega), decide_eq_false (by omega)]
    · have e : (if U.on = false ∧ U.came ≠ [] then U.lose else if U.came.length < 16 then U.take (f k) else U.lose) = U.lose := by
        cases ho : on
        · rw [ho] at hr
          simp at hr
          rw [if_pos ⟨by rw [h.on, ho], fun hn => by
            have := congrArg List.length hn
            rw [h.came, fst_len] at this
            simp at this; omega⟩]
        · rw [ho] at hr
          simp at hr
          rw [if_neg (fun x => by have := x.1; rw [h.on, ho] at this; cases this), if_neg (by rw [h.came, fst_len]; omega)]
      rw [e]
      refine ⟨h.on, ?_, ?_, h.sent, h.wanted, h.lcr⟩
      · show U.came = _
        rw [h.came, Nat.min_eq_right (by omega), Nat.min_eq_right (by omega)]
      · show true = _
        rw [decide_eq_true (by omega)]
  obtain ⟨k1, k2, k3, k4, k5, k6⟩ := key
  generalize U.push (f k) = V at *
  rw [out0_send k6]
  exact ⟨k1, k2, k3, by show V.sent ++ [f k] = _; rw [k4, fst_snoc], k5, k6⟩
/-- i bytes are read. -/
structure Taken (f : Nat → Nat) (room n i : Nat) (U : Ut) : Prop where
  came : U.came = (fst f (min n room)).drop i
  lost : U.lost = decide (room < n)
  sent : U.sent = fst f n
  wanted : U.wanted = 1
  lcr : U.lcr = 0
theorem Pushed.taken {f : Nat → Nat} {room : Nat} {on : Bool} {n : Nat} {U : Ut} (h : Pushed f room on n U) : Taken f room n 0 U := ⟨h.came, h.lost, h.sent, h.wanted, h.lcr⟩
theorem taken_next {f : Nat → Nat} {room n i : Nat} {U : Ut} (h : Taken f room n i U) (hi : i < n) (hr : i < room) :
    U.inV 0 = f i ∧ Taken f room n (i + 1) (U.inS 0) ∧ (U.inS 0).line = (decide (i + 1 < n) && decide (i + 1 < room)) := by
  have hc : U.came = f i :: (fst f (min n room)).drop (i + 1) := by rw [h.came]; exact drop_cons _ _ _ (by omega)
  have hl : ¬ ((0 : Int) < 2 ∧ U.latch = true) := fun x => by have := x.2; unfold Ut.latch at this; rw [h.lcr] at this; cases this
  have e1 : U.inV 0 = f i := by
    unfold Ut.inV
    rw [if_neg (by decide), if_neg hl, if_pos rfl, hc]; rfl
  have e2 : U.inS 0 = U.tail := by
    unfold Ut.inS
    rw [if_neg (by decide), if_neg hl, if_pos rfl]
  have e3 : U.tail.came = (fst f (min n room)).drop (i + 1) := by show U.came.tail = _; rw [hc]; rfl
  rw [e2]
  refine ⟨e1, ⟨e3, h.lost, h.sent, h.wanted, h.lcr⟩, ?_⟩
  unfold Ut.line Ut.rx Ut.tx
  rw [e3, show U.tail.wanted = 1 from h.wanted]
  have e4 : ((fst f (min n room)).drop (i + 1)).isEmpty = !(decide (i + 1 < n) && decide (i + 1 < room)) := by
    rw [Bool.eq_iff_iff]
    simp [fst_len]
    omega
  rw [e4]
  simp
theorem taken_end {f : Nat → Nat} {room n i : Nat} {U : Ut} (h : Taken f room n i U) (hi : n ≤ i ∨ room ≤ i) :
    U.inV 5 = (if room < n then 98 else 96) ∧ (U.inS 5).line = false ∧ (U.inS 5).sent = fst f n ∧ (U.inS 5).quit.sent = [] := by
  have hc : U.came = [] := by rw [h.came]; exact List.drop_eq_nil_of_le (by rw [fst_len]; omega)
  have hl : ¬ ((5 : Int) < 2 ∧ U.latch = true) := fun x => by have := x.1; omega
  have e2 : U.inS 5 = U.setLost false := by
    unfold Ut.inS
    rw [if_neg (by decide), if_neg hl, if_neg (by decide), if_neg (by decide), if_pos rfl]
  refine ⟨?_, ?_, ?_, rfl⟩
  · unfold Ut.inV
    rw [if_neg (by decide), if_neg hl, if_neg (by decide), if_neg (by decide), if_neg (by decide), if_neg (by decide), if_neg (by decide), if_pos rfl]
    unfold Ut.stat
    rw [hc, h.lost]
    by_cases e : room < n <;> simp [e]
  · rw [e2]
    unfold Ut.line Ut.rx Ut.tx
    rw [show (U.setLost false).came = [] from hc, show (U.setLost false).wanted = 1 from h.wanted]
    simp
  · rw [e2]; exact h.sent
theorem pushed_start (f : Nat → Nat) : Pushed f 1 false 0 (Ut.new.out 1 1) ∧ Pushed f 16 true 0 ((Ut.new.out 2 1).out 1 1) := by
  refine ⟨⟨?_, ?_, ?_, ?_, ?_, ?_⟩, ⟨?_, ?_, ?_, ?_, ?_, ?_⟩⟩ <;> kernel_rfl
end Go.Proofs.Ytliiccmpfmgioaa
