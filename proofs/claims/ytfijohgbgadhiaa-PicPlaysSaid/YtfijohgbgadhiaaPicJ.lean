/- pic: a pair of chips of the call's own, its calls one behind the other; which line is told, by bits. -/
import Derived.Test.YtfijohgbgadhiaaPicI
namespace Go.Proofs.Ytfijohgbgadhiaa
open Go.RowKit
set_option linter.unusedVariables false

theorem scan_lt4 (s : Nat) (a b : Bool) : scan s a b < 4 := by unfold scan; (repeat' split) <;> omega
theorem onC_ok {c : Chip} (h : c.ok) : (onC c).ok := ⟨h.asks, h.served, h.masked, h.up, h.base, scan_lt4 _ _ _⟩
theorem outC_ok {c : Chip} (h : c.ok) (cm : Bool) (v : Nat) (hv : v < 256) : (outC c cm v).ok := by
  unfold outC
  split
  · split
    · exact mk_ok _ _ _ _ _ _ _ _ _ _ (by decide) (by decide) (by decide) h.up h.base (by decide)
    · split
      · split
        · exact ⟨h.asks, h.served, h.masked, h.up, h.base, h.stage⟩
        · exact h
      · split
        · exact ⟨h.asks, Nat.lt_of_le_of_lt Nat.and_le_left h.served, h.masked, h.up, h.base, h.stage⟩
        · split
          · exact ⟨h.asks, Nat.lt_of_le_of_lt Nat.and_le_left h.served, h.masked, h.up, h.base, h.stage⟩
          · exact h
  · split
    · exact ⟨h.asks, h.served, hv, h.up, h.base, h.stage⟩
    · split
      · exact onC_ok ⟨h.asks, h.served, h.masked, h.up, Nat.lt_of_le_of_lt Nat.and_le_left hv, h.stage⟩
      · split
        · exact onC_ok ⟨h.asks, h.served, h.masked, h.up, h.base, h.stage⟩
        · exact onC_ok h
theorem otc_ok {c : Chip} (h : c.ok) (n : Int) (v : Nat) (hv : v < 256) : (otc c n v).ok := by
  unfold otc
  split
  · exact outC_ok h _ _ hv
  · split
    · exact outC_ok h _ _ hv
    · exact h
theorem otd_ok {c : Chip} (h : c.ok) (n : Int) (v : Nat) (hv : v < 256) : (otd c n v).ok := by
  unfold otd
  split
  · exact outC_ok h _ _ hv
  · split
    · exact outC_ok h _ _ hv
    · exact h

/-- A pair of chips that was made behind w0, nothing elder turned since. -/
structure St (w0 w : World) (b : Nat) (c d : Chip) : Prop where
  P : Pair w b c d
  cok : c.ok
  dok : d.ok
  B : Below w0.heap.size w0 w
  lo : w0.heap.size ≤ b
theorem St.keep {w0 w w' : World} {b : Nat} {c d c' d' : Chip} (S : St w0 w b c d) (H : Pair w' b c' d') (hc : c'.ok) (hd : d'.ok) (k : Keeps (· = b) w w') : St w0 w' b c' d' :=
  ⟨H, hc, hd, Keeps.toBelow S.B k S.B.size (fun i hi => by have := S.lo; omega), S.lo⟩
theorem St.drew {w0 w : World} {b : Nat} {c d : Chip} (S : St w0 w b c d) (n : Nat) : St w0 (w.drewN n) b c d := ⟨S.P, S.cok, S.dok, below_drewN S.B n, S.lo⟩
theorem St.drew1 {w0 w : World} {b : Nat} {c d : Chip} (S : St w0 w b c d) : St w0 w.drew b c d := ⟨S.P, S.cok, S.dok, ⟨S.B.os, S.B.tape, S.B.output, S.B.size, S.B.block⟩, S.lo⟩
theorem St.alloc {w0 w : World} {b : Nat} {c d : Chip} (S : St w0 w b c d) (o : Obj) : St w0 (w.alloc o) b c d := ⟨heap_alloc_lt S.P, S.cok, S.dok, S.B.alloc S.B.size _, S.lo⟩
theorem St.of (w0 w : World) (b : Nat) (c d : Chip) (H : Pair w b c d) (hc : c.ok) (hd : d.ok) (B : Below w0.heap.size w0 w) (lo : w0.heap.size ≤ b) : St w0 w b c d := ⟨H, hc, hd, B, lo⟩

theorem out_st {w0 w : World} {b : Nat} {c d : Chip} (S : St w0 w b c d) (n : Int) (v : Nat) (hv : v < 256) :
    Calls Try.prog 10 #[.pointer (some ⟨b, 0, none⟩), .int .i64 n, .int .u8 v] w fun r w' => r = .returned (.int .i64 (perr n)) ∧ St w0 w' b (otc c n v) (otd d n v) :=
  (out_any b c d S.cok S.dok n v hv w S.P).mono fun _ _ ⟨h, H, k⟩ => ⟨h, S.keep H (otc_ok S.cok n v hv) (otd_ok S.dok n v hv) k⟩
theorem out_stv {w0 w : World} {b : Nat} {c d : Chip} (S : St w0 w b c d) (n : Int) (x : Int) (v : Nat) (hx : x = (v : Int)) (hv : v < 256) :
    Calls Try.prog 10 #[.pointer (some ⟨b, 0, none⟩), .int .i64 n, .int .u8 x] w fun r w' => r = .returned (.int .i64 (perr n)) ∧ St w0 w' b (otc c n v) (otd d n v) := by
  rw [hx]; exact out_st S n v hv
theorem line_st {w0 w : World} {b : Nat} {c d : Chip} (S : St w0 w b c d) (n : Int) (up : Bool) :
    Calls Try.prog 11 #[.pointer (some ⟨b, 0, none⟩), .int .i64 n, .bool up] w fun r w' => r = .returned (.int .i64 (lerr n)) ∧ St w0 w' b (lnc c n up) (lnd d n up) :=
  (line_e b c d S.cok S.dok n up w S.P).mono fun _ _ ⟨h, H, k⟩ => ⟨h, S.keep H (lnc_ok S.cok n up) (lnd_ok S.dok n up) k⟩
theorem pending_st {w0 w : World} {b : Nat} {c d : Chip} (S : St w0 w b c d) :
    Calls Try.prog 12 #[.pointer (some ⟨b, 0, none⟩)] w fun r w' => r = .returned (.bool (told0 c d)) ∧ St w0 w' b c d :=
  (pending_any b c d S.cok S.dok w S.P).mono fun _ _ ⟨h, n, k⟩ => ⟨h, by rw [k]; exact S.drew n⟩
theorem ack_st {w0 w : World} {b : Nat} {c d : Chip} (S : St w0 w b c d) :
    Calls Try.prog 13 #[.pointer (some ⟨b, 0, none⟩)] w fun r w' => r = .returned (.int .i64 (vec0 c d : Nat)) ∧ St w0 w' b (tkc c d) (tkd c d) :=
  (ack_any b c d S.cok S.dok w S.P).mono fun _ _ ⟨h, H, k⟩ => ⟨h, S.keep H (tkc_ok S.cok) (tkd_ok S.dok) k⟩

-- WHICH LINE, BY BITS
set_option maxRecDepth 100000 in
theorem tz8_low : ∀ x : Fin 256, ∀ n : Fin 8, (x.val.testBit n.val = true ∧ ∀ j : Fin 8, j.val < n.val → x.val.testBit j.val = false) → tz8 x.val = n.val := by decide +kernel
set_option maxRecDepth 100000 in
theorem tz8_up : ∀ x : Fin 256, ∀ n : Fin 9, (∀ j : Fin 8, j.val < n.val → x.val.testBit j.val = false) → n.val ≤ tz8 x.val := by decide +kernel
theorem tz8_is {x n : Nat} (hx : x < 256) (hn : n < 8) (h : x.testBit n = true) (hl : ∀ j, j < n → x.testBit j = false) : tz8 x = n :=
  tz8_low ⟨x, hx⟩ ⟨n, hn⟩ ⟨h, fun j hj => hl j.val hj⟩
theorem tz8_ge {x n : Nat} (hx : x < 256) (hn : n ≤ 8) (hl : ∀ j, j < n → x.testBit j = false) : n ≤ tz8 x :=
  tz8_up ⟨x, hx⟩ ⟨n, by omega⟩ (fun j hj => hl j.val hj)
theorem bit_not (m j : Nat) (hm : m < 256) (hj : j < 8) : (255 - m).testBit j = !m.testBit j := by
  have h : ∀ m : Fin 256, ∀ j : Fin 8, (255 - m.val).testBit j.val = !m.val.testBit j.val := by decide +kernel
  exact h ⟨m, hm⟩ ⟨j, hj⟩
theorem bit_pow (n j : Nat) (hn : n < 8) (hj : j < 8) : (2 ^ n).testBit j = decide (n = j) := by
  have h : ∀ n : Fin 8, ∀ j : Fin 8, (2 ^ n.val).testBit j.val = decide (n.val = j.val) := by decide +kernel
  exact h ⟨n, hn⟩ ⟨j, hj⟩
theorem bit_left (a m j : Nat) (hm : m < 256) (hj : j < 8) : (left a m).testBit j = (a.testBit j && !m.testBit j) := by
  unfold left; rw [Nat.testBit_and, bit_not m j hm hj]
theorem bits_eq {x y : Nat} (hx : x < 256) (hy : y < 256) (h : ∀ j, j < 8 → x.testBit j = y.testBit j) : x = y := by
  refine Nat.eq_of_testBit_eq fun i => ?_
  by_cases hi : i < 8
  · exact h i hi
  · have hp : 2 ^ 8 ≤ 2 ^ i := Nat.pow_le_pow_right (by decide) (by omega)
    rw [Nat.testBit_lt_two_pow (Nat.lt_of_lt_of_le hx hp), Nat.testBit_lt_two_pow (Nat.lt_of_lt_of_le hy hp)]
/-- What a line does to what asks, by bits. -/
theorem asks_line (c : Chip) (hc : c.ok) (k j : Nat) (hk : k < 8) (hj : j < 8) (up : Bool) (hne : k ≠ j) : (lineC c k up).asks.testBit j = c.asks.testBit j := by
  have hp : 2 ^ k < 256 := Nat.pow_lt_pow_right (a := 2) (by decide) hk
  cases up
  · show (c.asks &&& (255 - 2 ^ k)).testBit j = _
    rw [Nat.testBit_and, bit_not _ _ hp hj, bit_pow k j hk hj, decide_eq_false hne]; simp
  · show (c.asks ||| (2 ^ k &&& (255 - c.up))).testBit j = _
    rw [Nat.testBit_or, Nat.testBit_and, bit_pow k j hk hj, decide_eq_false hne]; simp
theorem asks_down (c : Chip) (hc : c.ok) (k : Nat) (hk : k < 8) : (lineC c k false).asks.testBit k = false := by
  have hp : 2 ^ k < 256 := Nat.pow_lt_pow_right (a := 2) (by decide) hk
  show (c.asks &&& (255 - 2 ^ k)).testBit k = _
  rw [Nat.testBit_and, bit_not _ _ hp hk, bit_pow k k hk hk]; simp
theorem asks_up (c : Chip) (hc : c.ok) (k : Nat) (hk : k < 8) (h : c.asks.testBit k = true ∨ c.up.testBit k = false) : (lineC c k true).asks.testBit k = true := by
  show (c.asks ||| (2 ^ k &&& (255 - c.up))).testBit k = _
  rw [Nat.testBit_or, Nat.testBit_and, bit_not _ _ hc.up hk, bit_pow k k hk hk]
  rcases h with h | h <;> simp [h]
theorem isTold_no {a m s : Nat} (h : left a m = 0) (hs : s < 256) : isTold a m s = false := by
  unfold isTold
  have : tz8 (a &&& (255 - m)) = 8 := by
    show tz8 (left a m) = 8
    rw [h]; kernel_rfl
  rw [this]
  exact decide_eq_false (by have := tz8_le s hs; omega)
end Go.Proofs.Ytfijohgbgadhiaa
