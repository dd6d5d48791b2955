/- Bits PitModes PitFns PitNow PitLine PitP, together. -/
import Derived.WalkKit
import Derived.Laws.BitsAll
import Derived.Test.YtojmpdddfnkffaaRows
import Derived.Test.YtojmpdddfnkffaaObj
import Derived.BigRegion
import Derived.Laws.EntriesVeiled
import Derived.Deep.RegionWith
import Derived.Deep.QuietTactic
import Derived.BigQuiet
import Derived.Deep.Cut
import Derived.Deep.CutRange
import Derived.Lib.Hide
/- Bits of words as arithmetic: fields, masks, disjoint sums. No program in sight. -/
namespace Go.Proofs.Ytojmpdddfnkffaa
open Go.RowKit

theorem nat_field (x s k : Nat) : x &&& ((2 ^ k - 1) * 2 ^ s) = x / 2 ^ s % 2 ^ k * 2 ^ s := by
  rw [← Nat.shiftLeft_eq, ← Nat.shiftLeft_eq, ← Nat.shiftRight_eq_div_pow]
  apply Nat.eq_of_testBit_eq
  intro i
  simp only [Nat.testBit_and, Nat.testBit_shiftLeft, Nat.testBit_mod_two_pow, Nat.testBit_shiftRight, Nat.testBit_two_pow_sub_one]
  by_cases h : s ≤ i
  · have : s + (i - s) = i := by omega
    simp [h, this, Bool.and_comm]
  · simp [h]

theorem and_field_u32 (x m : Int) (s k : Nat) (h0 : 0 ≤ x) (h1 : x < 4294967296) (hm : m.toNat = (2 ^ k - 1) * 2 ^ s) (hm0 : 0 ≤ m) (hm1 : m < 4294967296) :
    bits .and .u32 x m = x / (2 ^ s : Nat) % (2 ^ k : Nat) * (2 ^ s : Nat) := by
  rw [u32_and x m h0 h1 hm0 hm1, hm, nat_field]
  obtain ⟨n, rfl⟩ := Int.eq_ofNat_of_zero_le h0
  simp

theorem or_join_u32 (x y : Int) (i : Nat) (h0 : 0 ≤ x) (h1 : x < 4294967296) (h2 : 0 ≤ y) (h3 : y < 4294967296) (hx : x % (2 ^ i : Nat) = 0) (hy : y < (2 ^ i : Nat)) :
    bits .or .u32 x y = x + y := by
  obtain ⟨a, rfl⟩ := Int.eq_ofNat_of_zero_le h0
  obtain ⟨b, rfl⟩ := Int.eq_ofNat_of_zero_le h2
  rw [u32_or _ _ h0 h1 h2 h3]
  simp only [Int.toNat_natCast]
  rw [nat_join i a b (by exact_mod_cast hx) (by exact_mod_cast hy)]
  simp

theorem or_comm_u32 (x y : Int) (h0 : 0 ≤ x) (h1 : x < 4294967296) (h2 : 0 ≤ y) (h3 : y < 4294967296) : bits .or .u32 x y = bits .or .u32 y x := by
  rw [u32_or _ _ h0 h1 h2 h3, u32_or _ _ h2 h3 h0 h1, Nat.or_comm]

-- DESCRIPTORS
def pLim0 (lo hi : Int) : Int := lo % 65536 + hi / 65536 % 16 * 65536
def pBase (lo hi : Int) : Int := lo / 65536 + hi % 256 * 65536 + hi / 16777216 * 16777216
def pTy (hi : Int) : Int := hi / 256 % 16
def pDpl (hi : Int) : Int := hi / 8192 % 4
def hbit (n k : Int) : Bool := n / 2 ^ k.toNat % 2 == 1
def pLimit (lo hi : Int) : Int := if hbit hi 23 then pLim0 lo hi * 4096 + 4095 else pLim0 lo hi

section
variable (lo hi : Int) (h0 : 0 ≤ lo) (h1 : lo < 4294967296) (h2 : 0 ≤ hi) (h3 : hi < 4294967296)
include h0 h1 h2 h3
theorem lim0_eq : bits .or .u32 (bits .and .u32 lo 65535) (bits .and .u32 hi 983040) = pLim0 lo hi := by
  have e1 := and_field_u32 lo 65535 0 16 h0 h1 (by decide) (by decide) (by decide)
  have e2 := and_field_u32 hi 983040 16 4 h2 h3 (by decide) (by decide) (by decide)
  simp only [Nat.pow_zero, Nat.reducePow] at e1 e2
  rw [e1, e2]
  rw [or_comm_u32 _ _ (by omega) (by omega) (by omega) (by omega), or_join_u32 _ _ 16 (by omega) (by omega) (by omega) (by omega) (by simp only [Nat.reducePow]; omega) (by simp only [Nat.reducePow]; omega)]
  unfold pLim0
  omega
omit h0 h1 h2 h3 in
theorem lim0_bd : 0 ≤ pLim0 lo hi ∧ pLim0 lo hi < 1048576 := by unfold pLim0; omega
omit h0 h1 h2 h3 in
theorem lim1_eq : bits .or .u32 (pLim0 lo hi * 4096 % 4294967296) 4095 = pLim0 lo hi * 4096 + 4095 := by
  have := lim0_bd lo hi
  rw [or_join_u32 _ _ 12 (by omega) (by omega) (by omega) (by omega) (by simp only [Nat.reducePow]; omega) (by simp only [Nat.reducePow]; omega)]
  omega
theorem base_eq : bits .or .u32 (bits .or .u32 (lo / 65536) (bits .and .u32 hi 255 * 65536 % 4294967296)) (bits .and .u32 hi 4278190080) = pBase lo hi := by
  have e1 : bits .and .u32 hi 255 = hi % 256 := by
    have := and_field_u32 hi 255 0 8 h2 h3 (by decide) (by decide) (by decide)
    simp only [Nat.pow_zero, Nat.reducePow] at this
    omega
  have e2 : bits .and .u32 hi 4278190080 = hi / 16777216 * 16777216 := by
    have := and_field_u32 hi 4278190080 24 8 h2 h3 (by decide) (by decide) (by decide)
    simp only [Nat.reducePow] at this
    omega
  have e3 : bits .or .u32 (lo / 65536) (hi % 256 * 65536 % 4294967296) = lo / 65536 + hi % 256 * 65536 := by
    rw [or_comm_u32 (lo / 65536) (hi % 256 * 65536 % 4294967296) (by omega) (by omega) (by omega) (by omega), or_join_u32 _ _ 16 (by omega) (by omega) (by omega) (by omega) (by simp only [Nat.reducePow]; omega) (by simp only [Nat.reducePow]; omega)]
    omega
  have e4 : bits .or .u32 (lo / 65536 + hi % 256 * 65536) (hi / 16777216 * 16777216) = lo / 65536 + hi % 256 * 65536 + hi / 16777216 * 16777216 := by
    rw [or_comm_u32 (lo / 65536 + hi % 256 * 65536) (hi / 16777216 * 16777216) (by omega) (by omega) (by omega) (by omega), or_join_u32 _ _ 24 (by omega) (by omega) (by omega) (by omega) (by simp only [Nat.reducePow]; omega) (by simp only [Nat.reducePow]; omega)]
    omega
  rw [e1, e2, e3, e4]
  rfl
end
section
variable (hi : Int) (h2 : 0 ≤ hi) (h3 : hi < 4294967296)
include h2 h3
theorem ty_eq : wrap64 (bits .and .u32 (hi / 256) 15) = pTy hi := by
  have e1 := and_field_u32 (hi / 256) 15 0 4 (by omega) (by omega) (by decide) (by decide) (by decide)
  simp only [Nat.pow_zero, Nat.reducePow] at e1
  rw [e1, IntWalk.wrap64_in _ (by omega)]
  unfold pTy; omega
theorem dpl_eq : wrap64 (bits .and .u32 (hi / 8192) 3) = pDpl hi := by
  have e1 := and_field_u32 (hi / 8192) 3 0 2 (by omega) (by omega) (by decide) (by decide) (by decide)
  simp only [Nat.pow_zero, Nat.reducePow] at e1
  rw [e1, IntWalk.wrap64_in _ (by omega)]
  unfold pDpl; omega
theorem hbit_eq (k : Int) : (bits .and .u32 (hi / 2 ^ k.toNat) 1 == 1) = hbit hi k := by
  have hd : hi / 2 ^ k.toNat ≤ hi := Int.ediv_le_self _ h2
  have hp : 0 ≤ hi / 2 ^ k.toNat := Int.ediv_nonneg h2 (Int.le_of_lt (Int.pow_pos (by decide)))
  have e1 := and_field_u32 (hi / 2 ^ k.toNat) 1 0 1 hp (by omega) (by decide) (by decide) (by decide)
  simp only [Nat.pow_zero, Nat.reducePow] at e1
  rw [e1]
  unfold hbit
  simp
end
end Go.Proofs.Ytojmpdddfnkffaa

/- pit.modes: the table of what each mode does; the five functions in it; a look-up in it. -/
namespace Go.Proofs.Ytojmpdddfnkffaa.Pit
open Go.RowKit
set_option linter.unusedVariables false

def fnv (f : Nat) : Value := .func (.func f) #[] #[]
def modeEs : Array MapEntry := #[⟨.int .u8 0, .agg #[.func (.func 102) #[] #[], .func (.func 103) #[] #[]], 0⟩,
  ⟨.int .u8 2, .agg #[.func (.func 101) #[] #[], .func (.func 104) #[] #[]], 1⟩,
  ⟨.int .u8 3, .agg #[.func (.func 101) #[] #[], .func (.func 105) #[] #[]], 2⟩]

theorem mode_ins (X : World) (n : Nat) (hn : n = X.heap.size) (es : Array MapEntry) (ck : Nat) (a : Int) (v : Value) (hnew : Instr.findNow (.int .u8) (.int .u8 a) es.toList 0 = some none) :
    (Instr.mapUpdate 165 (.map (some n)) (.int .u8 a) v).run Try.prog (X.alloc (.map es ck)) = .ok () (X.alloc (.map (es.push ⟨.int .u8 a, v, ck⟩) (ck + 1))) := by
  subst hn
  have hb : (X.alloc (.map es ck)).heap[X.heap.size]? = some (.map es ck) := heap_new X _
  have hset : ({ (X.alloc (.map es ck)) with heap := (X.alloc (.map es ck)).heap.setIfInBounds X.heap.size (.map (es.push ⟨.int .u8 a, v, ck⟩) (ck + 1)) } : World) = X.alloc (.map (es.push ⟨.int .u8 a, v, ck⟩) (ck + 1)) := by
    simp only [World.alloc]
    congr 1
    apply Array.ext_getElem?
    intro k
    rw [Array.getElem?_setIfInBounds]
    simp only [Array.getElem?_push, Array.size_push]
    by_cases h : X.heap.size = k
    · subst h; simp
    · simp [h, Ne.symm h]
  have hk : Try.prog.underlying 5 = some (.int .u8) := Try.underlying5
  simp [Instr.mapUpdate, go_sem, MapKept.run_getObj_map hb, MapKept.run_checkKey hk (show MapKept.IsKey (.int .u8) (.int .u8 a) from rfl), MapKept.run_findKey hk hnew, MapKept.run_setObj_map _ hb]
  exact hset

set_option maxHeartbeats 1000000 in
theorem modes_any (w : World) : Calls Try.prog 89 #[] w fun e w' => e = .returned (.map (some w.heap.size)) ∧ w.alloc (.map modeEs 3) = w' := by
  have hmm := @run_makeMap Try.prog
  have u0 := fun (X : World) (n : Nat) (hn : n = X.heap.size) v => mode_ins X n hn #[] 0 0 v rfl
  have u1 := fun (X : World) (n : Nat) (hn : n = X.heap.size) v0 v => mode_ins X n hn #[⟨.int .u8 0, v0, 0⟩] 1 2 v rfl
  have u2 := fun (X : World) (n : Nat) (hn : n = X.heap.size) v0 v1 v => mode_ins X n hn #[⟨.int .u8 0, v0, 0⟩, ⟨.int .u8 2, v1, 1⟩] 2 3 v rfl
  simp only [List.push_toArray, List.nil_append, List.cons_append, Nat.reduceAdd] at u0 u1 u2
  go_enter Try.func89, Try.ntmps89
  go_wp2
  go_ret
  exact ⟨rfl, rfl⟩
end Go.Proofs.Ytojmpdddfnkffaa.Pit

/- pit: the five functions of the modes, and looking a mode up. -/
namespace Go.Proofs.Ytojmpdddfnkffaa.Pit
open Go.RowKit
set_option linter.unusedVariables false

theorem look_hit (n : Nat) (W : World) (h : W.heap[n]? = some (.map modeEs 3)) (m : Int) (i : Nat) (v : Value)
    (hf : Instr.findNow (.int .u8) (.int .u8 m) modeEs.toList 0 = some (some (i, v))) :
    (Instr.lookup 165 (.map (some n)) (.int .u8 m) true).run Try.prog W = .ok (.tuple #[v, .bool true]) W := by
  have hk : Try.prog.underlying 5 = some (.int .u8) := Try.underlying5
  have hf' : (Instr.findKey 5 (.int .u8 m) modeEs.toList).run Try.prog W = .ok (some (i, v)) W := MapKept.run_findKey hk hf
  simp [Instr.lookup, go_sem, MapKept.run_getObj_map h, MapKept.run_checkKey hk (show MapKept.IsKey (.int .u8) (.int .u8 m) from rfl), hf']

theorem look_miss (n : Nat) (W : World) (h : W.heap[n]? = some (.map modeEs 3)) (m : Int) (h0 : m ≠ 0) (h2 : m ≠ 2) (h3 : m ≠ 3) :
    (Instr.lookup 165 (.map (some n)) (.int .u8 m) true).run Try.prog W = .ok (.tuple #[.agg #[.nilFunc, .nilFunc], .bool false]) W := by
  have hk : Try.prog.underlying 5 = some (.int .u8) := Try.underlying5
  have hf : Instr.findNow (.int .u8) (.int .u8 m) modeEs.toList 0 = some none := by
    have e0 : (m == 0) = false := by simp [h0]
    have e2 : (m == 2) = false := by simp [h2]
    have e3 : (m == 3) = false := by simp [h3]
    simp [Instr.findNow, Instr.sameNow, modeEs, e0, e2, e3]
  have hf' : (Instr.findKey 5 (.int .u8 m) modeEs.toList).run Try.prog W = .ok none W := MapKept.run_findKey hk hf
  have hz : (zeroValue 163).run Try.prog W = .ok (.agg #[.nilFunc, .nilFunc]) W := by kernel_rfl
  simp [Instr.lookup, go_sem, MapKept.run_getObj_map h, MapKept.run_checkKey hk (show MapKept.IsKey (.int .u8) (.int .u8 m) from rfl), hf', hz]

theorem look0 (n : Nat) (W : World) (h : W.heap[n]? = some (.map modeEs 3)) : (Instr.lookup 165 (.map (some n)) (.int .u8 0) true).run Try.prog W =
    .ok (.tuple #[.agg #[.func (.func 102) #[] #[], .func (.func 103) #[] #[]], .bool true]) W := look_hit n W h 0 0 _ rfl
theorem look2 (n : Nat) (W : World) (h : W.heap[n]? = some (.map modeEs 3)) : (Instr.lookup 165 (.map (some n)) (.int .u8 2) true).run Try.prog W =
    .ok (.tuple #[.agg #[.func (.func 101) #[] #[], .func (.func 104) #[] #[]], .bool true]) W := look_hit n W h 2 1 _ rfl
theorem look3 (n : Nat) (W : World) (h : W.heap[n]? = some (.map modeEs 3)) : (Instr.lookup 165 (.map (some n)) (.int .u8 3) true).run Try.prog W =
    .ok (.tuple #[.agg #[.func (.func 101) #[] #[], .func (.func 105) #[] #[]], .bool true]) W := look_hit n W h 3 2 _ rfl

section
variable (l n : Int) (w : World) (h0 : 1 ≤ l) (h1 : l ≤ 65536) (h2 : 0 ≤ n) (h3 : n < 18446744073709551616)
include h0 h1 h2 h3
set_option maxHeartbeats 400000 in
theorem m1_any : Calls Try.prog 101 #[.int .u64 l, .int .u64 n] w fun e w' => e = .returned (.int .u64 (l - n % l)) ∧ w = w' := by
  have hm0 := Int.emod_nonneg n (show l ≠ 0 by omega)
  have hm1 := Int.emod_lt_of_pos n (show 0 < l by omega)
  have hl : (l == 0) = false := by simp; omega
  go_enter Try.func101, Try.ntmps101
  go_wp2
  go_ret
  exact ⟨rfl, rfl⟩
omit h0 h1 h2 h3 in
set_option maxHeartbeats 400000 in
theorem m2_any : Calls Try.prog 102 #[.int .u64 l, .int .u64 n] w fun e w' => e = .returned (.int .u64 ((l - n) % 18446744073709551616)) ∧ w = w' := by
  go_enter Try.func102, Try.ntmps102
  go_wp2
  go_ret
  exact ⟨rfl, rfl⟩
omit h0 h1 h2 h3 in
set_option maxHeartbeats 400000 in
theorem m3_any : Calls Try.prog 103 #[.int .u64 l, .int .u64 n] w fun e w' => e = .returned (.bool (decide (l ≤ n))) ∧ w = w' := by
  go_enter Try.func103, Try.ntmps103
  go_wp2
  go_ret
  exact ⟨rfl, rfl⟩
set_option maxHeartbeats 400000 in
theorem m4_any : Calls Try.prog 104 #[.int .u64 l, .int .u64 n] w fun e w' => e = .returned (.bool (n % l != l - 1)) ∧ w = w' := by
  have hm0 := Int.emod_nonneg n (show l ≠ 0 by omega)
  have hm1 := Int.emod_lt_of_pos n (show 0 < l by omega)
  have hl : (l == 0) = false := by simp; omega
  go_enter Try.func104, Try.ntmps104
  go_wp2
  go_ret
  exact ⟨rfl, rfl⟩
set_option maxHeartbeats 400000 in
theorem m5_any : Calls Try.prog 105 #[.int .u64 l, .int .u64 n] w fun e w' => e = .returned (.bool (decide (n % l < (l + 1) / 2))) ∧ w = w' := by
  have hm0 := Int.emod_nonneg n (show l ≠ 0 by omega)
  have hm1 := Int.emod_lt_of_pos n (show 0 < l by omega)
  have hl : (l == 0) = false := by simp; omega
  go_enter Try.func105, Try.ntmps105
  go_wp2
  go_ret
  exact ⟨rfl, rfl⟩
end
end Go.Proofs.Ytojmpdddfnkffaa.Pit

/- pit: a counter's value. -/
namespace Go.Proofs.Ytojmpdddfnkffaa.Pit
open Go.RowKit
set_option linter.unusedVariables false

/-- A counter's value, of its mode, whether it stands, its length, when it began; at a time. -/
def nowv (m : Int) (st : Bool) (l g t : Int) : Int :=
  if st then l % 65536 else if m = 0 then (l - (t - g)) % 65536 else if m = 2 ∨ m = 3 then (l - (t - g) % l) % 65536 else l % 65536

theorem lt_of_cell {w : World} {b o : Nat} {v : Value} (h : w.cell? ⟨b, o, none⟩ = some v) : b < w.heap.size := World.block_lt_of_cell? _ _ h

def noFn : Obj := .cells #[.nilFunc, .nilFunc] 163
theorem in_a (w : World) : ((w.alloc (.map modeEs 3)).drew).heap[w.heap.size]? = some (.map modeEs 3) := heap_new w _
theorem in_b (w : World) : (((w.alloc (.map modeEs 3)).alloc (.cells #[.nilFunc, .nilFunc] 163)).drew).heap[w.heap.size]? = some (.map modeEs 3) := heap_alloc_lt (heap_new w _)
theorem in_c (w : World) : (((w.alloc (.cells #[.nilFunc, .nilFunc] 163)).alloc (.map modeEs 3)).drew).heap[w.heap.size + 1]? = some (.map modeEs 3) := by
  have := heap_new (w.alloc (.cells #[.nilFunc, .nilFunc] 163)) (.map modeEs 3)
  simp only [World.size_alloc] at this
  exact this

def selv (st : Bool) (a b : Int) : Int := if st then a else b
theorem selv_t {st : Bool} {a b : Int} (h : (!st) = false) : selv st a b = a := by cases st <;> simp_all [selv]
theorem selv_f {st : Bool} {a b : Int} (h : (!st) = true) : selv st a b = b := by cases st <;> simp_all [selv]
/-- What the table says of a mode. -/
def Hit (m : Int) (f0 f1 : Value) (is : Bool) : Prop := ∀ (n : Nat) (W : World), W.heap[n]? = some (.map modeEs 3) →
  (Instr.lookup 165 (.map (some n)) (.int .u8 m) true).run Try.prog W = .ok (.tuple #[.agg #[f0, f1], .bool is]) W

set_option maxHeartbeats 1000000 in
theorem now_hit (m : Int) (st : Bool) (l g t : Int) (b o : Nat) (w : World) (c0 : w.cell? ⟨b, o, none⟩ = some (.int .u8 m)) (c2 : w.cell? ⟨b, o + 2, none⟩ = some (.bool st))
    (c3 : w.cell? ⟨b, o + 3, none⟩ = some (.int .u64 l)) (c4 : w.cell? ⟨b, o + 4, none⟩ = some (.int .u64 g)) (h0 : 1 ≤ l) (h1 : l ≤ 65536) (h2 : 0 ≤ g) (h3 : g ≤ t) (h4 : t < 18446744073709551616)
    (x y : Nat) (hit : Hit m (.func (.func x) #[] #[]) (.func (.func y) #[] #[]) true) (r : Int)
    (hcf : ∀ (args : Array Value) (w : World), (callFunc x args).run Try.prog w = .ok (Next.enter x args) w)
    (hx : ∀ w, Calls Try.prog x #[.int .u64 l, .int .u64 (t - g)] w fun e w' => e = .returned (.int .u64 r) ∧ w = w') :
    Calls Try.prog 98 #[.pointer (some ⟨b, o, none⟩), .int .u64 t] w fun e w' => e = .returned (.int .u16 (selv st (l % 65536) (IntKind.u16.wrap r))) ∧ Below w.heap.size w w' := by
  have hlt := lt_of_cell c0
  have hlt1 : b < w.heap.size + 1 := by omega
  have hlt2 : b < w.heap.size + 1 + 1 := by omega
  have la := hit _ _ (in_a w)
  have lb := hit _ _ (in_b w)
  have lc := hit _ _ (in_c w)
  have HX := Lib.hid hx
  clear hit hx
  go_enter Try.func98, Try.ntmps98
  go_upto_region 1 with (fail)
  go_cut [5, 6] from 7 (fun s5 s6 wc => ∃ k, s5 = .pointer (some ⟨k, 0, none⟩) ∧ s6 = .bool true ∧ Below w.heap.size w wc ∧ wc.cell? ⟨k, 0, none⟩ = some (.func (.func x) #[] #[]) ∧ b < wc.heap.size)
  case first =>
    go_region_with (first | (go_at_call 89; refine (modes_any _).mono ?_; rintro e w2 ⟨rfl, rfl⟩))
    all_goals
      go_wp2_with fail
      go_meet
      exact ⟨_, rfl, rfl, by go_grown, by simp [go_sem], by simp; omega⟩
  case rest =>
    obtain ⟨k, rfl, rfl, hb, hk, hbl⟩ := hcut
    obtain ⟨hc, hf⟩ := bcell hb
    clear la lb lc
    have hsub : IntKind.u64.wrap (t - g) = t - g := IntWalk.u64_in _ (by omega)
    have hs0 : 0 ≤ t - g := by omega
    go_wp2_with fail
    · go_quiet ((exact Calls.quiet_of_same ((HX.out _).mono fun e w' h => ⟨h.1, h.2.symm⟩)))
      go_wp2_with fail
      go_ret
      have hst : (!st) = true := by assumption
      exact ⟨by rw [selv_f hst]; rfl, below_drewN hb _⟩
    · go_ret
      have hst : (!st) = false := by assumption
      exact ⟨by rw [selv_t hst]; rfl, hb⟩

theorem hit0 : Hit 0 (.func (.func 102) #[] #[]) (.func (.func 103) #[] #[]) true := look0
theorem hit2 : Hit 2 (.func (.func 101) #[] #[]) (.func (.func 104) #[] #[]) true := look2
theorem hit3 : Hit 3 (.func (.func 101) #[] #[]) (.func (.func 105) #[] #[]) true := look3
theorem cf1 (args : Array Value) (w : World) : (callFunc 101 args).run Try.prog w = .ok (Next.enter 101 args) w := by kernel_rfl
theorem cf2 (args : Array Value) (w : World) : (callFunc 102 args).run Try.prog w = .ok (Next.enter 102 args) w := by kernel_rfl
end Go.Proofs.Ytojmpdddfnkffaa.Pit

/- pit: the line of counter 0. -/
namespace Go.Proofs.Ytojmpdddfnkffaa.Pit
open Go.RowKit
set_option linter.unusedVariables false

def selb (st : Bool) (a b : Bool) : Bool := if st then a else b
theorem selb_t {st : Bool} {a b : Bool} (h : st = true) : selb st a b = a := by subst h; rfl
theorem selb_f {st : Bool} {a b : Bool} (h : st = false) : selb st a b = b := by subst h; rfl

set_option maxHeartbeats 1000000 in
theorem line_hit (m : Int) (st : Bool) (l g t : Int) (b : Nat) (w : World) (c0 : w.cell? ⟨b, 0, none⟩ = some (.int .u8 m)) (c2 : w.cell? ⟨b, 2, none⟩ = some (.bool st))
    (c3 : w.cell? ⟨b, 3, none⟩ = some (.int .u64 l)) (c4 : w.cell? ⟨b, 4, none⟩ = some (.int .u64 g)) (h0 : 1 ≤ l) (h1 : l ≤ 65536) (h2 : 0 ≤ g) (h3 : g ≤ t) (h4 : t < 18446744073709551616)
    (x y : Nat) (hit : Hit m (.func (.func x) #[] #[]) (.func (.func y) #[] #[]) true) (r : Bool)
    (hcf : ∀ (args : Array Value) (w : World), (callFunc y args).run Try.prog w = .ok (Next.enter y args) w)
    (hx : ∀ w, Calls Try.prog y #[.int .u64 l, .int .u64 (t - g)] w fun e w' => e = .returned (.bool r) ∧ w = w') :
    Calls Try.prog 66 #[.pointer (some ⟨b, 0, none⟩), .int .u64 t] w fun e w' => e = .returned (.bool (selb st (m != 0) r)) ∧ Below w.heap.size w w' := by
  have hlt := lt_of_cell c0
  have hlt1 : b < w.heap.size + 1 := by omega
  have hlt2 : b < w.heap.size + 1 + 1 := by omega
  have la := hit _ _ (in_a w)
  have lb := hit _ _ (in_b w)
  have lc := hit _ _ (in_c w)
  have HX := Lib.hid hx
  clear hit hx
  cases hst : st
  · subst hst
    go_enter Try.func66, Try.ntmps66
    go_upto_region 6 with (fail)
    go_cut [6, 7] from 8 (fun s6 s7 wc => ∃ k, s6 = .pointer (some ⟨k, 0, none⟩) ∧ s7 = .bool true ∧ Below w.heap.size w wc ∧ wc.cell? ⟨k, 1, none⟩ = some (.func (.func y) #[] #[]) ∧ b < wc.heap.size)
    case first =>
      go_region_with (first | (go_at_call 89; refine (modes_any _).mono ?_; rintro e w2 ⟨rfl, rfl⟩))
      all_goals
        go_wp2_with fail
        go_meet
        exact ⟨_, rfl, rfl, by go_grown, by simp [go_sem], by simp; omega⟩
    case rest =>
      obtain ⟨k, rfl, rfl, hb, hk, hbl⟩ := hcut
      obtain ⟨hc, hf⟩ := bcell hb
      clear la lb lc
      have hsub : IntKind.u64.wrap (t - g) = t - g := IntWalk.u64_in _ (by omega)
      have hs0 : 0 ≤ t - g := by omega
      go_wp2_with fail
      go_quiet ((exact Calls.quiet_of_same ((HX.out _).mono fun e w' h => ⟨h.1, h.2.symm⟩)))
      go_wp2_with fail
      go_ret
      exact ⟨rfl, below_drewN hb _⟩
  · subst hst
    clear la lb lc
    go_enter Try.func66, Try.ntmps66
    go_wp2_with fail
    go_ret
    exact ⟨rfl, Below.refl _ _⟩

theorem line_nil (t : Int) (w : World) : Calls Try.prog 66 #[.pointer none, .int .u64 t] w fun e w' => e = .returned (.bool false) ∧ w = w' := by
  go_enter Try.func66, Try.ntmps66
  go_wp2_with fail
  go_ret
  exact ⟨rfl, rfl⟩
theorem cf3 (args : Array Value) (w : World) : (callFunc 103 args).run Try.prog w = .ok (Next.enter 103 args) w := by kernel_rfl
theorem cf4 (args : Array Value) (w : World) : (callFunc 104 args).run Try.prog w = .ok (Next.enter 104 args) w := by kernel_rfl
theorem cf5 (args : Array Value) (w : World) : (callFunc 105 args).run Try.prog w = .ok (Next.enter 105 args) w := by kernel_rfl

/-- The value of a counter of mode 0, 2 or 3. -/
theorem now_any (m : Int) (st : Bool) (l g t : Int) (b o : Nat) (w : World) (c0 : w.cell? ⟨b, o, none⟩ = some (.int .u8 m)) (c2 : w.cell? ⟨b, o + 2, none⟩ = some (.bool st))
    (c3 : w.cell? ⟨b, o + 3, none⟩ = some (.int .u64 l)) (c4 : w.cell? ⟨b, o + 4, none⟩ = some (.int .u64 g)) (h0 : 1 ≤ l) (h1 : l ≤ 65536) (h2 : 0 ≤ g) (h3 : g ≤ t) (h4 : t < 18446744073709551616)
    (hm : m = 0 ∨ m = 2 ∨ m = 3) :
    Calls Try.prog 98 #[.pointer (some ⟨b, o, none⟩), .int .u64 t] w fun e w' => e = .returned (.int .u16 (nowv m st l g t)) ∧ Below w.heap.size w w' := by
  have hsub : 0 ≤ t - g := by omega
  rcases hm with rfl | rfl | rfl
  · refine (now_hit 0 st l g t b o w c0 c2 c3 c4 h0 h1 h2 h3 h4 _ _ hit0 ((l - (t - g)) % 18446744073709551616) cf2 (fun w => m2_any l (t - g) w)).mono fun e w' h => ⟨h.1.trans ?_, h.2⟩
    cases st
    · simp only [selv, nowv, Bool.false_eq_true, if_false, if_true, IntKind.wrap_u16]; congr 2; omega
    · simp [selv, nowv]
  · refine (now_hit 2 st l g t b o w c0 c2 c3 c4 h0 h1 h2 h3 h4 _ _ hit2 (l - (t - g) % l) cf1 (fun w => m1_any l (t - g) w h0 h1 hsub (by omega))).mono fun e w' h => ⟨h.1.trans ?_, h.2⟩
    cases st <;> simp [selv, nowv, IntKind.wrap_u16]
  · refine (now_hit 3 st l g t b o w c0 c2 c3 c4 h0 h1 h2 h3 h4 _ _ hit3 (l - (t - g) % l) cf1 (fun w => m1_any l (t - g) w h0 h1 hsub (by omega))).mono fun e w' h => ⟨h.1.trans ?_, h.2⟩
    cases st <;> simp [selv, nowv, IntKind.wrap_u16]

def linev (m : Int) (st : Bool) (l g t : Int) : Bool :=
  if st then m != 0 else if m = 0 then decide (l ≤ t - g) else if m = 2 then (t - g) % l != l - 1 else if m = 3 then decide ((t - g) % l < (l + 1) / 2) else true
theorem line_any (m : Int) (st : Bool) (l g t : Int) (b : Nat) (w : World) (c0 : w.cell? ⟨b, 0, none⟩ = some (.int .u8 m)) (c2 : w.cell? ⟨b, 2, none⟩ = some (.bool st))
    (c3 : w.cell? ⟨b, 3, none⟩ = some (.int .u64 l)) (c4 : w.cell? ⟨b, 4, none⟩ = some (.int .u64 g)) (h0 : 1 ≤ l) (h1 : l ≤ 65536) (h2 : 0 ≤ g) (h3 : g ≤ t) (h4 : t < 18446744073709551616)
    (hm : m = 0 ∨ m = 2 ∨ m = 3) :
    Calls Try.prog 66 #[.pointer (some ⟨b, 0, none⟩), .int .u64 t] w fun e w' => e = .returned (.bool (linev m st l g t)) ∧ Below w.heap.size w w' := by
  have hsub : 0 ≤ t - g := by omega
  rcases hm with rfl | rfl | rfl
  · refine (line_hit 0 st l g t b w c0 c2 c3 c4 h0 h1 h2 h3 h4 _ _ hit0 (decide (l ≤ t - g)) cf3 (fun w => m3_any l (t - g) w)).mono fun e w' h => ⟨h.1.trans ?_, h.2⟩
    cases st <;> simp [selb, linev]
  · refine (line_hit 2 st l g t b w c0 c2 c3 c4 h0 h1 h2 h3 h4 _ _ hit2 ((t - g) % l != l - 1) cf4 (fun w => m4_any l (t - g) w h0 h1 hsub (by omega))).mono fun e w' h => ⟨h.1.trans ?_, h.2⟩
    cases st <;> simp [selb, linev]
  · refine (line_hit 3 st l g t b w c0 c2 c3 c4 h0 h1 h2 h3 h4 _ _ hit3 (decide ((t - g) % l < (l + 1) / 2)) cf5 (fun w => m5_any l (t - g) w h0 h1 hsub (by omega))).mono fun e w' h => ⟨h.1.trans ?_, h.2⟩
    cases st <;> simp [selb, linev]
end Go.Proofs.Ytojmpdddfnkffaa.Pit

/- pit: a counter's value, and the line, in any mode. -/
namespace Go.Proofs.Ytojmpdddfnkffaa.Pit
open Go.RowKit
set_option linter.unusedVariables false

def Miss (m : Int) : Prop := ∀ (n : Nat) (W : World), W.heap[n]? = some (.map modeEs 3) →
  (Instr.lookup 165 (.map (some n)) (.int .u8 m) true).run Try.prog W = .ok (.tuple #[.agg #[.nilFunc, .nilFunc], .bool false]) W
theorem miss_of {m : Int} (h0 : m ≠ 0) (h2 : m ≠ 2) (h3 : m ≠ 3) : Miss m := fun n W h => look_miss n W h m h0 h2 h3
set_option maxHeartbeats 1000000 in
theorem now_miss (m : Int) (st : Bool) (l g t : Int) (b o : Nat) (w : World) (c0 : w.cell? ⟨b, o, none⟩ = some (.int .u8 m)) (c2 : w.cell? ⟨b, o + 2, none⟩ = some (.bool st))
    (c3 : w.cell? ⟨b, o + 3, none⟩ = some (.int .u64 l)) (h0 : 1 ≤ l) (h1 : l ≤ 65536) (hit : Miss m) :
    Calls Try.prog 98 #[.pointer (some ⟨b, o, none⟩), .int .u64 t] w fun e w' => e = .returned (.int .u16 (l % 65536)) ∧ Below w.heap.size w w' := by
  have hlt := lt_of_cell c0
  have hlt1 : b < w.heap.size + 1 := by omega
  have hlt2 : b < w.heap.size + 1 + 1 := by omega
  have la := hit _ _ (in_a w)
  have lb := hit _ _ (in_b w)
  have lc := hit _ _ (in_c w)
  clear hit
  go_enter Try.func98, Try.ntmps98
  go_upto_region 1 with (fail)
  go_cut [5, 6] from 7 (fun s5 s6 wc => s6 = .bool false ∧ Below w.heap.size w wc ∧ b < wc.heap.size)
  case first =>
    go_region_with (first | (go_at_call 89; refine (modes_any _).mono ?_; rintro e w2 ⟨rfl, rfl⟩))
    all_goals
      go_wp2_with fail
      go_meet
      exact ⟨rfl, by go_grown, by simp; omega⟩
  case rest =>
    obtain ⟨rfl, hb, hbl⟩ := hcut
    obtain ⟨hc, hf⟩ := bcell hb
    clear la lb lc
    go_wp2_with fail
    go_ret
    exact ⟨rfl, hb⟩
set_option maxHeartbeats 1000000 in
theorem line_miss (m : Int) (st : Bool) (l g t : Int) (b : Nat) (w : World) (c0 : w.cell? ⟨b, 0, none⟩ = some (.int .u8 m)) (c2 : w.cell? ⟨b, 2, none⟩ = some (.bool st)) (hm : m ≠ 0) (hit : Miss m) :
    Calls Try.prog 66 #[.pointer (some ⟨b, 0, none⟩), .int .u64 t] w fun e w' => e = .returned (.bool true) ∧ Below w.heap.size w w' := by
  have hlt := lt_of_cell c0
  have hlt1 : b < w.heap.size + 1 := by omega
  have hlt2 : b < w.heap.size + 1 + 1 := by omega
  have la := hit _ _ (in_a w)
  have lb := hit _ _ (in_b w)
  have lc := hit _ _ (in_c w)
  have hm0 : (m != 0) = true := by simpa using hm
  clear hit hm
  cases hst : st
  · subst hst
    go_enter Try.func66, Try.ntmps66
    go_upto_region 6 with (fail)
    go_cut [6, 7] from 8 (fun s6 s7 wc => s7 = .bool false ∧ Below w.heap.size w wc ∧ b < wc.heap.size)
    case first =>
      go_region_with (first | (go_at_call 89; refine (modes_any _).mono ?_; rintro e w2 ⟨rfl, rfl⟩))
      all_goals
        go_wp2_with fail
        go_meet
        exact ⟨rfl, by go_grown, by simp; omega⟩
    case rest =>
      obtain ⟨rfl, hb, hbl⟩ := hcut
      clear la lb lc
      go_wp2_with fail
      go_quiet (fail)
      go_wp2_with fail
      go_ret
      exact ⟨rfl, below_drewN hb _⟩
  · subst hst
    clear la lb lc
    go_enter Try.func66, Try.ntmps66
    go_wp2_with fail
    go_ret
    exact ⟨rfl, Below.refl _ _⟩
end Go.Proofs.Ytojmpdddfnkffaa.Pit

