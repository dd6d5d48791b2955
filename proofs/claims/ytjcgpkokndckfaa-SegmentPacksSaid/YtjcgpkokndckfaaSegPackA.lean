/- The words of a packed descriptor, as sums; read again. No program in sight. -/
import Derived.Test.YtjcgpkokndckfaaBits
namespace Go.Proofs.Ytjcgpkokndckfaa
open Go.RowKit
set_option linter.unusedVariables false

theorem nat_window (x y i j : Nat) (hij : i ≤ j) (hx : x % 2 ^ j < 2 ^ i) (hy : y % 2 ^ i = 0) (hyj : y < 2 ^ j) : x ||| y = x + y := by
  have hpi : 0 < 2 ^ i := Nat.two_pow_pos i
  have hpj : 0 < 2 ^ j := Nat.two_pow_pos j
  have hsum : y + x % 2 ^ j < 2 ^ j := by
    obtain ⟨d, rfl⟩ := Nat.exists_eq_add_of_le hij
    rw [Nat.pow_add] at *
    obtain ⟨q, hq⟩ := Nat.dvd_of_mod_eq_zero hy
    subst hq
    have hqd : q < 2 ^ d := Nat.lt_of_mul_lt_mul_left hyj
    have : 2 ^ i * (q + 1) ≤ 2 ^ i * 2 ^ d := Nat.mul_le_mul_left _ hqd
    rw [Nat.mul_add] at this
    omega
  have hA : (2 ^ j * (x / 2 ^ j)) % 2 ^ j = 0 := Nat.mul_mod_right _ _
  have e0 : x = 2 ^ j * (x / 2 ^ j) + x % 2 ^ j := (Nat.div_add_mod x (2 ^ j)).symm
  have hxl : x % 2 ^ j < 2 ^ j := Nat.mod_lt _ hpj
  have e1 : 2 ^ j * (x / 2 ^ j) ||| x % 2 ^ j = x := by rw [nat_join j _ _ hA hxl]; exact e0.symm
  rw [← e1, Nat.or_assoc, Nat.or_comm (x % 2 ^ j) y, nat_join i y _ hy hx, nat_join j _ _ hA hsum, e1]
  omega

theorem or_window (x y : Int) (i j : Nat) (hij : i ≤ j) (h0 : 0 ≤ x) (h1 : x < 4294967296) (h2 : 0 ≤ y) (h3 : y < 4294967296) (hx : x % (2 ^ j : Nat) < (2 ^ i : Nat)) (hy : y % (2 ^ i : Nat) = 0) (hyj : y < (2 ^ j : Nat)) :
    bits .or .u32 x y = x + y := by
  obtain ⟨a, rfl⟩ := Int.eq_ofNat_of_zero_le h0
  obtain ⟨b, rfl⟩ := Int.eq_ofNat_of_zero_le h2
  rw [u32_or _ _ h0 h1 h2 h3]
  simp only [Int.toNat_natCast]
  rw [nat_window a b i j hij (by exact_mod_cast hx) (by exact_mod_cast hy) (by exact_mod_cast hyj)]
  simp

def hiA (G b lm t p : Int) : Int := G + b / 16777216 * 16777216 + b / 65536 % 256 + lm / 65536 * 65536 + t * 256 + p * 8192

section
variable (G b lm t p : Int) (hG : G = 0 ∨ G = 8388608) (b0 : 0 ≤ b) (b1 : b < 4294967296) (l0 : 0 ≤ lm) (l1 : lm < 1048576) (t0 : 0 ≤ t) (t1 : t < 16) (p0 : 0 ≤ p) (p1 : p < 4)
include hG b0 b1 l0 l1 t0 t1 p0 p1
theorem hiA_raw : bits .or .u32 G (bits .or .u32 (bits .or .u32 (bits .or .u32 (bits .or .u32 (bits .and .u32 b 4278190080) (bits .and .u32 (b / 65536) 255)) (bits .and .u32 lm 983040)) (t * 256)) (p * 8192)) = hiA G b lm t p := by
  have e1 : bits .and .u32 b 4278190080 = b / 16777216 * 16777216 := by
    have := and_field_u32 b 4278190080 24 8 b0 b1 (by decide) (by decide) (by decide)
    simp only [Nat.reducePow] at this
    omega
  have e2 : bits .and .u32 (b / 65536) 255 = b / 65536 % 256 := by
    have := and_field_u32 (b / 65536) 255 0 8 (by omega) (by omega) (by decide) (by decide) (by decide)
    simp only [Nat.pow_zero, Nat.reducePow] at this
    omega
  have e3 : bits .and .u32 lm 983040 = lm / 65536 * 65536 := by
    have := and_field_u32 lm 983040 16 4 l0 (by omega) (by decide) (by decide) (by decide)
    simp only [Nat.reducePow] at this
    omega
  have f1 : bits .or .u32 (b / 16777216 * 16777216) (b / 65536 % 256) = b / 16777216 * 16777216 + b / 65536 % 256 :=
    or_window _ _ 0 24 (by decide) (by omega) (by omega) (by omega) (by omega) (by simp only [Nat.reducePow, Nat.pow_zero]; omega) (by simp only [Nat.pow_zero]; omega) (by simp only [Nat.reducePow]; omega)
  have f2 : bits .or .u32 (b / 16777216 * 16777216 + b / 65536 % 256) (lm / 65536 * 65536) = b / 16777216 * 16777216 + b / 65536 % 256 + lm / 65536 * 65536 :=
    or_window _ _ 16 20 (by decide) (by omega) (by omega) (by omega) (by omega) (by simp only [Nat.reducePow]; omega) (by simp only [Nat.reducePow]; omega) (by simp only [Nat.reducePow]; omega)
  have f3 : bits .or .u32 (b / 16777216 * 16777216 + b / 65536 % 256 + lm / 65536 * 65536) (t * 256) = b / 16777216 * 16777216 + b / 65536 % 256 + lm / 65536 * 65536 + t * 256 :=
    or_window _ _ 8 12 (by decide) (by omega) (by omega) (by omega) (by omega) (by simp only [Nat.reducePow]; omega) (by simp only [Nat.reducePow]; omega) (by simp only [Nat.reducePow]; omega)
  have f4 : bits .or .u32 (b / 16777216 * 16777216 + b / 65536 % 256 + lm / 65536 * 65536 + t * 256) (p * 8192) = b / 16777216 * 16777216 + b / 65536 % 256 + lm / 65536 * 65536 + t * 256 + p * 8192 :=
    or_window _ _ 13 15 (by decide) (by omega) (by omega) (by omega) (by omega) (by simp only [Nat.reducePow]; omega) (by simp only [Nat.reducePow]; omega) (by simp only [Nat.reducePow]; omega)
  have f5 : bits .or .u32 G (b / 16777216 * 16777216 + b / 65536 % 256 + lm / 65536 * 65536 + t * 256 + p * 8192) = b / 16777216 * 16777216 + b / 65536 % 256 + lm / 65536 * 65536 + t * 256 + p * 8192 + G := by
    have hb3 : 0 ≤ b / 16777216 ∧ b / 16777216 < 256 := by omega
    have hb2 : 0 ≤ b / 65536 % 256 ∧ b / 65536 % 256 < 256 := by omega
    have hm4 : 0 ≤ lm / 65536 ∧ lm / 65536 < 16 := by omega
    clear f1 f2 f3 f4 e1 e2 e3
    generalize b / 16777216 = b3 at *
    generalize b / 65536 % 256 = b2 at *
    generalize lm / 65536 = m4 at *
    refine (or_comm_u32 G (b3 * 16777216 + b2 + m4 * 65536 + t * 256 + p * 8192) (by omega) (by omega) (by omega) (by omega)).trans ?_
    exact or_window _ _ 23 24 (by decide) (by omega) (by omega) (by omega) (by omega) (by simp only [Nat.reducePow]; omega) (by simp only [Nat.reducePow]; omega) (by simp only [Nat.reducePow]; omega)
  rw [e1, e2, e3, f1, f2, f3, f4, f5]
  unfold hiA; omega
end

/-- One of the three marks, as far as it has come. -/
def mk (c v : Bool) (x : Int) : Int := if c && v then x else 0
theorem mk_cases (c v : Bool) (x : Int) : mk c v x = 0 ∨ mk c v x = x := by unfold mk; split <;> simp

/-- The upper word, as far as the marks have come. -/
def hiF (G b lm t p : Int) (a12 a15 a22 : Int) : Int := hiA G b lm t p + a12 + a15 + a22

section
variable (G b lm t p a12 a15 a22 : Int) (hG : G = 0 ∨ G = 8388608) (b0 : 0 ≤ b) (b1 : b < 4294967296) (l0 : 0 ≤ lm) (l1 : lm < 1048576) (t0 : 0 ≤ t) (t1 : t < 16) (p0 : 0 ≤ p) (p1 : p < 4)
include hG b0 b1 l0 l1 t0 t1 p0 p1
theorem or12 (h15 : a15 = 0 ∨ a15 = 32768) (h22 : a22 = 0 ∨ a22 = 4194304) : bits .or .u32 (hiF G b lm t p 0 a15 a22) 4096 = hiF G b lm t p 4096 a15 a22 := by
  have hb3 : 0 ≤ b / 16777216 ∧ b / 16777216 < 256 := by omega
  have hb2 : 0 ≤ b / 65536 % 256 ∧ b / 65536 % 256 < 256 := by omega
  have hm4 : 0 ≤ lm / 65536 ∧ lm / 65536 < 16 := by omega
  unfold hiF hiA
  generalize b / 16777216 = b3 at *
  generalize b / 65536 % 256 = b2 at *
  generalize lm / 65536 = m4 at *
  rw [or_window _ _ 12 13 (by decide) (by omega) (by omega) (by omega) (by omega) (by simp only [Nat.reducePow]; omega) (by simp only [Nat.reducePow]; omega) (by simp only [Nat.reducePow]; omega)]
  omega
theorem or15 (h12 : a12 = 0 ∨ a12 = 4096) (h22 : a22 = 0 ∨ a22 = 4194304) : bits .or .u32 (hiF G b lm t p a12 0 a22) 32768 = hiF G b lm t p a12 32768 a22 := by
  have hb3 : 0 ≤ b / 16777216 ∧ b / 16777216 < 256 := by omega
  have hb2 : 0 ≤ b / 65536 % 256 ∧ b / 65536 % 256 < 256 := by omega
  have hm4 : 0 ≤ lm / 65536 ∧ lm / 65536 < 16 := by omega
  unfold hiF hiA
  generalize b / 16777216 = b3 at *
  generalize b / 65536 % 256 = b2 at *
  generalize lm / 65536 = m4 at *
  rw [or_window _ _ 15 16 (by decide) (by omega) (by omega) (by omega) (by omega) (by simp only [Nat.reducePow]; omega) (by simp only [Nat.reducePow]; omega) (by simp only [Nat.reducePow]; omega)]
  omega
theorem or22 (h12 : a12 = 0 ∨ a12 = 4096) (h15 : a15 = 0 ∨ a15 = 32768) : bits .or .u32 (hiF G b lm t p a12 a15 0) 4194304 = hiF G b lm t p a12 a15 4194304 := by
  have hb3 : 0 ≤ b / 16777216 ∧ b / 16777216 < 256 := by omega
  have hb2 : 0 ≤ b / 65536 % 256 ∧ b / 65536 % 256 < 256 := by omega
  have hm4 : 0 ≤ lm / 65536 ∧ lm / 65536 < 16 := by omega
  unfold hiF hiA
  generalize b / 16777216 = b3 at *
  generalize b / 65536 % 256 = b2 at *
  generalize lm / 65536 = m4 at *
  rw [or_window _ _ 22 23 (by decide) (by omega) (by omega) (by omega) (by omega) (by simp only [Nat.reducePow]; omega) (by simp only [Nat.reducePow]; omega) (by simp only [Nat.reducePow]; omega)]
  omega
end

def loF (b lm : Int) : Int := b % 65536 * 65536 + lm % 65536
theorem lo_raw (b lm : Int) (b0 : 0 ≤ b) (b1 : b < 4294967296) (l0 : 0 ≤ lm) (l1 : lm < 4294967296) : bits .or .u32 (b * 65536 % 4294967296) (bits .and .u32 lm 65535) = loF b lm := by
  have e1 : bits .and .u32 lm 65535 = lm % 65536 := by
    have := and_field_u32 lm 65535 0 16 l0 l1 (by decide) (by decide) (by decide)
    simp only [Nat.pow_zero, Nat.reducePow] at this
    omega
  rw [e1, or_window _ _ 0 16 (by decide) (by omega) (by omega) (by omega) (by omega) (by simp only [Nat.reducePow, Nat.pow_zero]; omega) (by simp only [Nat.pow_zero]; omega) (by simp only [Nat.reducePow]; omega)]
  unfold loF; omega

/-- The limit that a packed one stands for. -/
structure Packs (b l t p : Int) (s r g : Bool) (lo hi : Int) : Prop where
  base : pBase lo hi = b
  limit : pLimit lo hi = l
  ty : pTy hi = t
  sys : (!hbit hi 12) = s
  dpl : pDpl hi = p
  pres : hbit hi 15 = r
  big : hbit hi 22 = g
  lo0 : 0 ≤ lo
  lo1 : lo < 4294967296
  hi0 : 0 ≤ hi
  hi1 : hi < 4294967296
  z21 : hi / 2097152 % 2 = 0
  z23 : (hi / 8388608 % 2 = 1) ↔ 1048575 < l

theorem mk_eq (v : Bool) (x : Int) : mk true v x = if v then x else 0 := by simp [mk]

theorem fields (b3 b2 m4 t p c12 c15 c22 cg : Int) (hb3 : 0 ≤ b3 ∧ b3 < 256) (hb2 : 0 ≤ b2 ∧ b2 < 256) (hm4 : 0 ≤ m4 ∧ m4 < 16) (ht : 0 ≤ t ∧ t < 16) (hp : 0 ≤ p ∧ p < 4)
    (h12 : 0 ≤ c12 ∧ c12 < 2) (h15 : 0 ≤ c15 ∧ c15 < 2) (h22 : 0 ≤ c22 ∧ c22 < 2) (hg : 0 ≤ cg ∧ cg < 2) (x : Int) (hx : x = b2 + 256 * t + 4096 * c12 + 8192 * p + 32768 * c15 + 65536 * m4 + 4194304 * c22 + 8388608 * cg + 16777216 * b3) :
    x % 256 = b2 ∧ x / 256 % 16 = t ∧ x / 4096 % 2 = c12 ∧ x / 8192 % 4 = p ∧ x / 32768 % 2 = c15 ∧ x / 65536 % 16 = m4 ∧ x / 2097152 % 2 = 0 ∧ x / 4194304 % 2 = c22 ∧ x / 8388608 % 2 = cg ∧ x / 16777216 = b3 ∧ 0 ≤ x ∧ x < 4294967296 := by
  have d8 : x / 256 = t + 16 * c12 + 32 * p + 128 * c15 + 256 * m4 + 16384 * c22 + 32768 * cg + 65536 * b3 := by omega
  have d12 : x / 4096 = c12 + 2 * p + 8 * c15 + 16 * m4 + 1024 * c22 + 2048 * cg + 4096 * b3 := by omega
  have d13 : x / 8192 = p + 4 * c15 + 8 * m4 + 512 * c22 + 1024 * cg + 2048 * b3 := by omega
  have d15 : x / 32768 = c15 + 2 * m4 + 128 * c22 + 256 * cg + 512 * b3 := by omega
  have d16 : x / 65536 = m4 + 64 * c22 + 128 * cg + 256 * b3 := by omega
  have d21 : x / 2097152 = 2 * c22 + 4 * cg + 8 * b3 := by omega
  have d22 : x / 4194304 = c22 + 2 * cg + 4 * b3 := by omega
  have d23 : x / 8388608 = cg + 2 * b3 := by omega
  refine ⟨by omega, by omega, by omega, by omega, by omega, by omega, by omega, by omega, by omega, by omega, by omega, by omega⟩

theorem packs_of (G b lm t p l : Int) (s r g : Bool) (b0 : 0 ≤ b) (b1 : b < 4294967296) (l0 : 0 ≤ lm) (l1 : lm < 1048576) (t0 : 0 ≤ t) (t1 : t < 16) (p0 : 0 ≤ p) (p1 : p < 4)
    (hl : G = 0 ∧ l = lm ∨ G = 8388608 ∧ l = lm * 4096 + 4095 ∧ 1048575 < l) :
    Packs b l t p s r g (loF b lm) (hiF G b lm t p (mk true (!s) 4096) (mk true r 32768) (mk true g 4194304)) := by
  have k12 : mk true (!s) 4096 = 4096 * (if s then 0 else 1) := by cases s <;> rfl
  have k15 : mk true r 32768 = 32768 * (if r then 1 else 0) := by cases r <;> rfl
  have k22 : mk true g 4194304 = 4194304 * (if g then 1 else 0) := by cases g <;> rfl
  rw [k12, k15, k22]
  have c12 : (0 : Int) ≤ (if s then 0 else 1) ∧ (if s then (0 : Int) else 1) < 2 := by cases s <;> simp
  have c15 : (0 : Int) ≤ (if r then 1 else 0) ∧ (if r then (1 : Int) else 0) < 2 := by cases r <;> simp
  have c22 : (0 : Int) ≤ (if g then 1 else 0) ∧ (if g then (1 : Int) else 0) < 2 := by cases g <;> simp
  obtain ⟨cg, hcg, hG⟩ : ∃ cg : Int, (0 ≤ cg ∧ cg < 2) ∧ G = 8388608 * cg := by
    rcases hl with ⟨h, _⟩ | ⟨h, _⟩
    · exact ⟨0, by omega, by omega⟩
    · exact ⟨1, by omega, by omega⟩
  obtain ⟨f0, f8, f12, f13, f15, f16, f21, f22, f23, f24, x0, x1⟩ := fields (b / 16777216) (b / 65536 % 256) (lm / 65536) t p _ _ _ cg (by omega) (by omega) (by omega) ⟨t0, t1⟩ ⟨p0, p1⟩ c12 c15 c22 hcg
    (hiF G b lm t p (4096 * (if s then 0 else 1)) (32768 * (if r then 1 else 0)) (4194304 * (if g then 1 else 0))) (by unfold hiF hiA; omega)
  generalize hiF G b lm t p (4096 * (if s then 0 else 1)) (32768 * (if r then 1 else 0)) (4194304 * (if g then 1 else 0)) = x at *
  have lo65 : loF b lm / 65536 = b % 65536 := by unfold loF; omega
  have lom : loF b lm % 65536 = lm % 65536 := by unfold loF; omega
  refine ⟨?_, ?_, f8, ?_, f13, ?_, ?_, by unfold loF; omega, by unfold loF; omega, x0, x1, f21, ?_⟩
  · unfold pBase; rw [lo65, f0, f24]; omega
  · unfold pLimit hbit pLim0
    rw [lom, f16, show x / 2 ^ (23 : Int).toNat = x / 8388608 from rfl, f23]
    rcases hl with ⟨h, rfl⟩ | ⟨h, rfl, hb⟩
    · have : cg = 0 := by omega
      subst this
      simp; omega
    · have : cg = 1 := by omega
      subst this
      simp; omega
  · unfold hbit
    rw [show x / 2 ^ (12 : Int).toNat = x / 4096 from rfl, f12]
    cases s <;> rfl
  · unfold hbit
    rw [show x / 2 ^ (15 : Int).toNat = x / 32768 from rfl, f15]
    cases r <;> rfl
  · unfold hbit
    rw [show x / 2 ^ (22 : Int).toNat = x / 4194304 from rfl, f22]
    cases g <;> rfl
  · rw [f23]; omega
end Go.Proofs.Ytjcgpkokndckfaa
