/- vmem's laws in plain words: what is stored is loaded. -/
import Derived.Test.YtknokiadbkgmaaaVmV
namespace Go.Proofs.Ytknokiadbkgmaaa
open Go.RowKit
set_option linter.unusedVariables false

theorem st_ck {R : RS} {C : CpuS} {seg : Int} {off : Nat} {size : Int} {v : Nat} : (st R C seg off size v).1 = (ck R C seg off size).1 ∧ (0 ≤ (st R C seg off size v).1.vec → (st R C seg off size v).2 = (ck R C seg off size).2) ∧ ((st R C seg off size v).1 = noF ∨ 0 ≤ (st R C seg off size v).1.vec) := by
  unfold st ck
  obtain ⟨⟨g, R'⟩, h⟩ : ∃ r, sg R C seg off size true = r := ⟨_, rfl⟩
  rw [h]
  cases g with
  | ok s => exact ⟨rfl, fun h => by have h : (0 : Int) ≤ -1 := h; omega, .inl rfl⟩
  | no a b c => exact ⟨rfl, fun _ => rfl, .inr (by show 0 ≤ a; rcases sg_vec h with h | h | h <;> omega)⟩
theorem putN_plain {R : RS} (P : Plain R) (s : SpanS) (v off n : Nat) (hat : ∀ j, j < n → s.at j = off + j) : ∀ k, k ≤ n → Plain (putN R s v k) ∧ (putN R s v k).size = R.size ∧ ∀ c, (putN R s v k).get c = if off ≤ c ∧ c < off + k ∧ c < R.size then v / 256 ^ (c - off) % 256 else R.get c
  | 0, _ => ⟨P, rfl, fun c => by rw [if_neg (by omega)]; rfl⟩
  | k + 1, hk => by
    obtain ⟨P1, h1, h2⟩ := putN_plain P s v off n hat k (by omega)
    have e : putN R s v (k + 1) = (putN R s v k).wr (s.at k) (v / 256 ^ k % 256) := rfl
    obtain ⟨g1, g2, g3⟩ := P1.wr (s.at k) (v / 256 ^ k % 256) (Nat.mod_lt _ (by decide))
    rw [e]
    refine ⟨g1, by rw [g2, h1], fun c => ?_⟩
    rw [g3, hat k (by omega), h1]
    by_cases hc : c = off + k ∧ off + k < R.size
    · obtain ⟨rfl, hc⟩ := hc
      rw [if_pos ⟨rfl, hc⟩, if_pos ⟨by omega, by omega, hc⟩, show off + k - off = k by omega]
    · rw [if_neg hc, h2]
      by_cases h3 : off ≤ c ∧ c < off + k ∧ c < R.size
      · rw [if_pos h3, if_pos ⟨h3.1, by omega, h3.2.2⟩]
      · rw [if_neg h3, if_neg (fun h4 => h3 ⟨h4.1, by by_cases e : c = off + k; exact absurd ⟨e, by omega⟩ hc; omega, h4.2.2⟩)]
theorem mod_256 (v k : Nat) : v % 256 ^ k + v / 256 ^ k % 256 * 256 ^ k = v % 256 ^ (k + 1) := by
  rw [Nat.pow_succ, Nat.mod_mul, Nat.mul_comm (256 ^ k)]
theorem getN_put {R : RS} {s t : SpanS} {v off n : Nat} (h : ∀ j, j < n → R.get (t.at j) = v / 256 ^ j % 256) : ∀ k, k ≤ n → getN R t k = v % 256 ^ k
  | 0, _ => by show 0 = v % 1; omega
  | k + 1, hk => by
    show getN R t k + R.get (t.at k) * 256 ^ k = _
    rw [getN_put (s := s) (off := off) h k (by omega), h k (by omega), mod_256]
/-- Bytes that are let to be written may be read, each by itself. -/
theorem reach_less (s : SegR) (off size i : Nat) (hi : i < size) (h : s.reach off size true = true) : s.reach off size false = true ∧ s.reach (off + i) 1 false = true := by
  unfold SegR.reach reach at h ⊢
  simp only [Bool.not_true, Bool.false_or, Bool.not_false, Bool.true_or, Bool.and_true, Bool.and_eq_true] at h ⊢
  obtain ⟨⟨⟨h1, h2⟩, h3⟩, h4⟩ := h
  refine ⟨⟨⟨h1, h2⟩, h4⟩, ⟨h1, h2⟩, ?_⟩
  split at h4
  · rename_i hd
    rw [if_pos hd]
    simp only [Bool.and_eq_true, decide_eq_true_eq] at h4 ⊢
    obtain ⟨a, b⟩ := h4
    refine ⟨by omega, ?_⟩
    split at b <;> rename_i hg
    · rw [if_pos hg]; omega
    · rw [if_neg hg]; omega
  · rename_i hd
    rw [if_neg hd]
    simp only [decide_eq_true_eq] at h4 ⊢
    omega
/-- Without pages, at the head of memory. -/
theorem back_plain {R : RS} (P : Plain R) (hsz : R.size = 65536) {C : CpuS} {seg : Int} {off : Nat} {size : Int} {v : Nat} (hp : C.paged = false) (hoff : off ≤ 65280) {R' : RS} (h : st R C seg off size v = (noF, R')) (hb : (C.seg seg.toNat).base = 0) :
    0 ≤ seg ∧ seg ≤ 5 ∧ ∃ k : Nat, size = k ∧ (k = 1 ∨ k = 2 ∨ k = 4) ∧ ld R' C seg off size = ((v % 256 ^ k, noF), R') ∧ ∀ i, i < k → ld R' C seg (off + i) 1 = ((v / 256 ^ i % 256, noF), R') := by
  unfold st at h
  obtain ⟨⟨g, R1⟩, hg⟩ : ∃ r, sg R C seg off size true = r := ⟨_, rfl⟩
  rw [hg] at h
  cases g with
  | no a b c =>
    obtain ⟨h1, _⟩ := Prod.mk.inj h
    injection h1 with h1
    rcases sg_vec hg with e | e | e <;> omega
  | ok s =>
    have hR : putN R1 s v (s.n0 + s.n1) = R' := (Prod.mk.inj h).2
    unfold sg at hg
    split at hg
    · rename_i hh
      obtain ⟨hsz', hs0, hs5⟩ := hh
      refine ⟨hs0, hs5, size.toNat, by rcases hsz' with e | e | e <;> omega, by rcases hsz' with e | e | e <;> omega, ?_⟩
      have hk : size.toNat = 1 ∨ size.toNat = 2 ∨ size.toNat = 4 := by rcases hsz' with e | e | e <;> omega
      have hk2 : size = (size.toNat : Int) := by rcases hsz' with e | e | e <;> omega
      obtain ⟨i0, hi0⟩ : ∃ i : Nat, seg = i := ⟨seg.toNat, by omega⟩
      subst hi0
      generalize size.toNat = k at *
      subst hk2
      unfold sg2 at hg
      split at hg
      · rename_i h2
        have hpg : ∀ (Q : RS) (o z : Nat) (wr : Bool), pg Q C o z wr C.user = (.ok ⟨o, lin2 o z, first o z, z - first o z⟩, Q) := fun Q o z wr => by unfold pg; rw [hp]; rfl
        have hb' : (C.seg ((i0 : Int)).toNat).base = 0 := hb
        have hi : ((i0 : Int)).toNat = i0 := rfl
        rw [hb', show (0 + off) % 4294967296 = off by omega, hpg] at hg
        obtain ⟨h3, h4⟩ := Prod.mk.inj hg
        injection h3 with h3
        have h4 : R = R1 := h4
        subst h3 h4
        have hfl := first_le off k
        have hn : first off k + (k - first off k) = k := by omega
        have hat : ∀ (o z : Nat), o + z ≤ 65536 → ∀ j, j < z → (⟨o, lin2 o z, first o z, z - first o z⟩ : SpanS).at j = o + j := fun o z ho j hj => by
          unfold SpanS.at at32 lin2
          have := first_le o z
          simp only
          split <;> omega
        have hat4 : ∀ j, j < k → (⟨off, lin2 off k, first off k, k - first off k⟩ : SpanS).at j = off + j := hat off k (by omega)
        have h2' : (C.seg i0).nul = false ∧ (C.seg i0).reach off k true = true := h2
        obtain ⟨P', hz', hget⟩ := putN_plain P _ v off k hat4 k (Nat.le_refl _)
        have hR2 : putN R ⟨off, lin2 off k, first off k, k - first off k⟩ v k = R' := by rw [← hR]; show _ = putN R _ v (first off k + (k - first off k)); rw [hn]
        rw [hR2] at P' hz' hget
        have hbyte : ∀ j, j < k → R'.get (off + j) = v / 256 ^ j % 256 := fun j hj => by
          rw [hget, if_pos ⟨by omega, by omega, by omega⟩, show off + j - off = j by omega]
        have hld : ∀ (o z : Nat), (z = 1 ∨ z = 2 ∨ z = 4) → o + z ≤ 65536 → (C.seg i0).reach o z false = true → ld R' C (i0 : Int) o (z : Int) = ((getN R' ⟨o, lin2 o z, first o z, z - first o z⟩ z, noF), R') := fun o z hz ho hr => by
          unfold ld
          rw [sg_in hz (by omega), sg2_yes ⟨h2'.1, hr⟩, show (((C.seg i0).base + o) % 4294967296) = o by rw [show (C.seg i0).base = 0 from hb]; omega, hpg]
          have hfz := first_le o z
          show ((getN R' _ (first o z + (z - first o z)), noF), R') = _
          rw [show first o z + (z - first o z) = z by omega]
        have hrk := fun i hi => reach_less (C.seg i0) off k i hi h2'.2
        refine ⟨?_, fun i hi => ?_⟩
        · rw [hld off k hk (by omega) (hrk 0 (by omega)).1]
          rw [getN_put (s := ⟨0, 0, 0, 0⟩) (off := off) (v := v) (n := k) (fun j hj => by rw [hat4 j hj]; exact hbyte j hj) k (Nat.le_refl _)]
        · have e := hld (off + i) 1 (.inl rfl) (by omega) (hrk i hi).2
          have e1 : ((1 : Nat) : Int) = 1 := rfl
          rw [e1] at e
          rw [e]
          have : getN R' ⟨off + i, lin2 (off + i) 1, first (off + i) 1, 1 - first (off + i) 1⟩ 1 = v / 256 ^ i % 256 := by
            show 0 + R'.get (SpanS.at _ 0) * 256 ^ 0 = _
            rw [hat (off + i) 1 (by omega) 0 (by decide), show off + i + 0 = off + i by omega, hbyte i hi]
            omega
          rw [this]
      · cases hg
    · cases hg
end Go.Proofs.Ytknokiadbkgmaaa
