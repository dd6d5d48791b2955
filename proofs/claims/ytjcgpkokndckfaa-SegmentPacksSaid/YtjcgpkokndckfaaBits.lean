/- Bits of words as arithmetic: fields, masks, disjoint sums. No program in sight. -/
import Derived.WalkKit
import Derived.Laws.BitsAll
namespace Go.Proofs.Ytjcgpkokndckfaa
open Go.RowKit

theorem nat_field (x s k : Nat) : x &&& ((2 ^ k - 1) * 2 ^ s) = x / 2 ^ s % 2 ^ k * 2 ^ s := by
  rw [← Nat.shiftLeft_eq, ← Nat.shiftLeft_eq, ← Nat.shiftRight_eq_div_pow]
  apply Nat.eq_of_testBit_eq
  intro i
  simp only [Nat.testBit_and, Nat.testBit_shiftLeft, Nat.testBit_mod_two_pow, Nat.testBit_shiftRight, Nat.testBit_two_pow_sub_one]
  by_cases h : s ≤ i
  · have : s + (i - s) = i := by omega
    simp [h, this, Bool.and_comm]
  · simp [h]

theorem and_field_u32 (x m : Int) (s k : Nat) (h0 : 0 ≤ x) (h1 : x < 4294967296) (hm : m.toNat = (2 ^ k - 1) * 2 ^ s) (hm0 : 0 ≤ m) (hm1 : m < 4294967296) :
    bits .and .u32 x m = x / (2 ^ s : Nat) % (2 ^ k : Nat) * (2 ^ s : Nat) := by
  rw [u32_and x m h0 h1 hm0 hm1, hm, nat_field]
  obtain ⟨n, rfl⟩ := Int.eq_ofNat_of_zero_le h0
  simp

theorem or_join_u32 (x y : Int) (i : Nat) (h0 : 0 ≤ x) (h1 : x < 4294967296) (h2 : 0 ≤ y) (h3 : y < 4294967296) (hx : x % (2 ^ i : Nat) = 0) (hy : y < (2 ^ i : Nat)) :
    bits .or .u32 x y = x + y := by
  obtain ⟨a, rfl⟩ := Int.eq_ofNat_of_zero_le h0
  obtain ⟨b, rfl⟩ := Int.eq_ofNat_of_zero_le h2
  rw [u32_or _ _ h0 h1 h2 h3]
  simp only [Int.toNat_natCast]
  rw [nat_join i a b (by exact_mod_cast hx) (by exact_mod_cast hy)]
  simp

theorem or_comm_u32 (x y : Int) (h0 : 0 ≤ x) (h1 : x < 4294967296) (h2 : 0 ≤ y) (h3 : y < 4294967296) : bits .or .u32 x y = bits .or .u32 y x := by
  rw [u32_or _ _ h0 h1 h2 h3, u32_or _ _ h2 h3 h0 h1, Nat.or_comm]

-- DESCRIPTORS
def pLim0 (lo hi : Int) : Int := lo % 65536 + hi / 65536 % 16 * 65536
def pBase (lo hi : Int) : Int := lo / 65536 + hi % 256 * 65536 + hi / 16777216 * 16777216
def pTy (hi : Int) : Int := hi / 256 % 16
def pDpl (hi : Int) : Int := hi / 8192 % 4
def hbit (n k : Int) : Bool := n / 2 ^ k.toNat % 2 == 1
def pLimit (lo hi : Int) : Int := if hbit hi 23 then pLim0 lo hi * 4096 + 4095 else pLim0 lo hi

section
variable (lo hi : Int) (h0 : 0 ≤ lo) (h1 : lo < 4294967296) (h2 : 0 ≤ hi) (h3 : hi < 4294967296)
include h0 h1 h2 h3
theorem lim0_eq : bits .or .u32 (bits .and .u32 lo 65535) (bits .and .u32 hi 983040) = pLim0 lo hi := by
  have e1 := and_field_u32 lo 65535 0 16 h0 h1 (by decide) (by decide) (by decide)
  have e2 := and_field_u32 hi 983040 16 4 h2 h3 (by decide) (by decide) (by decide)
  simp only [Nat.pow_zero, Nat.reducePow] at e1 e2
  rw [e1, e2]
  rw [or_comm_u32 _ _ (by omega) (by omega) (by omega) (by omega), or_join_u32 _ _ 16 (by omega) (by omega) (by omega) (by omega) (by simp only [Nat.reducePow]; omega) (by simp only [Nat.reducePow]; omega)]
  unfold pLim0
  omega
omit h0 h1 h2 h3 in
theorem lim0_bd : 0 ≤ pLim0 lo hi ∧ pLim0 lo hi < 1048576 := by unfold pLim0; omega
omit h0 h1 h2 h3 in
theorem lim1_eq : bits .or .u32 (pLim0 lo hi * 4096 % 4294967296) 4095 = pLim0 lo hi * 4096 + 4095 := by
  have := lim0_bd lo hi
  rw [or_join_u32 _ _ 12 (by omega) (by omega) (by omega) (by omega) (by simp only [Nat.reducePow]; omega) (by simp only [Nat.reducePow]; omega)]
  omega
theorem base_eq : bits .or .u32 (bits .or .u32 (lo / 65536) (bits .and .u32 hi 255 * 65536 % 4294967296)) (bits .and .u32 hi 4278190080) = pBase lo hi := by
  have e1 : bits .and .u32 hi 255 = hi % 256 := by
    have := and_field_u32 hi 255 0 8 h2 h3 (by decide) (by decide) (by decide)
    simp only [Nat.pow_zero, Nat.reducePow] at this
    omega
  have e2 : bits .and .u32 hi 4278190080 = hi / 16777216 * 16777216 := by
    have := and_field_u32 hi 4278190080 24 8 h2 h3 (by decide) (by decide) (by decide)
    simp only [Nat.reducePow] at this
    omega
  have e3 : bits .or .u32 (lo / 65536) (hi % 256 * 65536 % 4294967296) = lo / 65536 + hi % 256 * 65536 := by
    rw [or_comm_u32 (lo / 65536) (hi % 256 * 65536 % 4294967296) (by omega) (by omega) (by omega) (by omega), or_join_u32 _ _ 16 (by omega) (by omega) (by omega) (by omega) (by simp only [Nat.reducePow]; omega) (by simp only [Nat.reducePow]; omega)]
    omega
  have e4 : bits .or .u32 (lo / 65536 + hi % 256 * 65536) (hi / 16777216 * 16777216) = lo / 65536 + hi % 256 * 65536 + hi / 16777216 * 16777216 := by
    rw [or_comm_u32 (lo / 65536 + hi % 256 * 65536) (hi / 16777216 * 16777216) (by omega) (by omega) (by omega) (by omega), or_join_u32 _ _ 24 (by omega) (by omega) (by omega) (by omega) (by simp only [Nat.reducePow]; omega) (by simp only [Nat.reducePow]; omega)]
    omega
  rw [e1, e2, e3, e4]
  rfl
end
section
variable (hi : Int) (h2 : 0 ≤ hi) (h3 : hi < 4294967296)
include h2 h3
theorem ty_eq : wrap64 (bits .and .u32 (hi / 256) 15) = pTy hi := by
  have e1 := and_field_u32 (hi / 256) 15 0 4 (by omega) (by omega) (by decide) (by decide) (by decide)
  simp only [Nat.pow_zero, Nat.reducePow] at e1
  rw [e1, IntWalk.wrap64_in _ (by omega)]
  unfold pTy; omega
theorem dpl_eq : wrap64 (bits .and .u32 (hi / 8192) 3) = pDpl hi := by
  have e1 := and_field_u32 (hi / 8192) 3 0 2 (by omega) (by omega) (by decide) (by decide) (by decide)
  simp only [Nat.pow_zero, Nat.reducePow] at e1
  rw [e1, IntWalk.wrap64_in _ (by omega)]
  unfold pDpl; omega
theorem hbit_eq (k : Int) : (bits .and .u32 (hi / 2 ^ k.toNat) 1 == 1) = hbit hi k := by
  have hd : hi / 2 ^ k.toNat ≤ hi := Int.ediv_le_self _ h2
  have hp : 0 ≤ hi / 2 ^ k.toNat := Int.ediv_nonneg h2 (Int.le_of_lt (Int.pow_pos (by decide)))
  have e1 := and_field_u32 (hi / 2 ^ k.toNat) 1 0 1 hp (by omega) (by decide) (by decide) (by decide)
  simp only [Nat.pow_zero, Nat.reducePow] at e1
  rw [e1]
  unfold hbit
  simp
end
end Go.Proofs.Ytjcgpkokndckfaa
