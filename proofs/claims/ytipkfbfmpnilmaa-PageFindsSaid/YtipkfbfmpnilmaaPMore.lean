/- page's laws: an ask as an argument; Find with less. -/
import Derived.Test.YtipkfbfmpnilmaaPAwake
import Derived.Test.YtipkfbfmpnilmaaPArgs
import Derived.Test.YtipkfbfmpnilmaaPMarks
namespace Go.Proofs.Ytipkfbfmpnilmaa
open Go.RowKit Go.MapKept Go.WideShapes Go.ChangeShapes
set_option linter.unusedVariables false

theorem open_ask {w : World} {r0 : Reach} {base : Nat} {v : Value} (h : Value.okWide Try.prog w r0 base 26 v) :
    ∃ (c l : Nat) (a b d : Bool), v = .agg #[.int .u32 c, .int .u32 l, .bool a, .bool b, .bool d] ∧ c < 4294967296 ∧ l < 4294967296 := by
  obtain ⟨cs, rfl, hlen, hc⟩ := arg_agg (ts := [22, 22, 4, 4, 4]) Try.underlying26 (by kernel_rfl) (by kernel_rfl) h
  match cs, hlen, hc with
  | [c0, c1, c2, c3, c4], _, hc =>
    obtain ⟨k, rfl, l0, u0⟩ := cell_int Try.underlying22 (hc 0 c0 22 rfl rfl)
    obtain ⟨p, rfl, l1, u1⟩ := cell_int Try.underlying22 (hc 1 c1 22 rfl rfl)
    obtain ⟨a, rfl⟩ := cell_bool Try.underlying4 (hc 2 c2 4 rfl rfl)
    obtain ⟨b, rfl⟩ := cell_bool Try.underlying4 (hc 3 c3 4 rfl rfl)
    obtain ⟨d, rfl⟩ := cell_bool Try.underlying4 (hc 4 c4 4 rfl rfl)
    have l2 : 0 ≤ k := l0
    have l3 : 0 ≤ p := l1
    have u2 : k < 4294967296 := Int.lt_of_le_of_lt u0 (by decide)
    have u3 : p < 4294967296 := Int.lt_of_le_of_lt u1 (by decide)
    obtain ⟨k, rfl⟩ := Int.eq_ofNat_of_zero_le l2
    obtain ⟨p, rfl⟩ := Int.eq_ofNat_of_zero_le l3
    exact ⟨k, p, a, b, d, rfl, by omega, by omega⟩

theorem words_below {w w1 : World} {a : Option Addr} {len : Nat} {at_ v : Nat → Nat} (h : WordsIn w a len at_ v) (hb : Below w.heap.size w w1) : WordsIn w1 a len at_ v := by
  rcases h with h | ⟨b, off, e, h⟩
  · exact .inl h
  · exact .inr ⟨b, off, e, h.below hb⟩
theorem find_r {w : World} {b : Nat} {S : Nat → Prop} {R : RS} (H : Ram w b S R) (cr3 lin : Nat) (hc : cr3 < 4294967296) (hl : lin < 4294967296) (wr us wp : Bool) (x y : Int) (hx : x = (cr3 : Int)) (hy : y = (lin : Int)) {fr pd pt : Nat} {xw xu : Bool} {cd : Int} {R' : RS}
    (hr : find R cr3 lin wr us wp = (⟨fr, pd, pt, xw, xu⟩, cd, R')) :
    Calls Try.prog 8 #[.pointer (some ⟨b, 0, .none⟩), .int .u32 x, .int .u32 y, .agg #[.bool wr, .bool us, .bool wp]] w fun e w' =>
      e = .returned (.tuple #[.agg #[.int .u32 fr, .int .u32 pd, .int .u32 pt, .bool xw, .bool xu], .int .i64 cd, .int .i64 0]) ∧ ∃ S', Ram w' b S' R' ∧ Moves S S' w w' := by
  rw [hx, hy]
  refine (find_any H cr3 lin hc hl wr us wp).mono ?_
  rintro e w' ⟨he, S', H', M'⟩
  rw [hr] at he H'
  exact ⟨he, S', H', M'⟩

theorem find_less {R : RS} {c l : Nat} {a b d : Bool} {x : WalkR} {R' : RS} (h : find R c l a b d = (x, -1, R')) :
    (∃ R1, find R c l false b d = (x, -1, R1)) ∧ ∃ R2, find R c l false false d = (x, -1, R2) := by
  unfold find at h ⊢
  have cn : ∀ a b : Bool, codeOf a b ≠ -1 := by decide
  have cn1 : ∀ a b : Bool, codeOf a b + 1 ≠ -1 := by decide
  by_cases h1 : R.read (pdeOf c l) 4 % 2 = 0
  · rw [if_pos h1] at h
    exact absurd (congrArg (·.2.1) h) (cn a b)
  · rw [if_neg h1] at h
    rw [if_neg h1, if_neg h1]
    by_cases h2 : R.read (pteOf (R.read (pdeOf c l) 4) l) 4 % 2 = 0
    · rw [if_pos h2] at h
      exact absurd (congrArg (·.2.1) h) (cn a b)
    · rw [if_neg h2] at h
      rw [if_neg h2, if_neg h2]
      simp only [] at h ⊢
      generalize (R.read (pdeOf c l) 4 / 2 % 2 == 1 && R.read (pteOf (R.read (pdeOf c l) 4) l) 4 / 2 % 2 == 1) = w at *
      generalize (R.read (pdeOf c l) 4 / 4 % 2 == 1 && R.read (pteOf (R.read (pdeOf c l) 4) l) 4 / 4 % 2 == 1) = u at *
      by_cases h3 : bad w u a b d = true
      · rw [if_pos h3] at h
        exact absurd (congrArg (·.2.1) h) (cn1 a b)
      · rw [if_neg h3] at h
        have h4 : bad w u false b d = false := by revert h3; unfold bad; cases w <;> cases u <;> cases a <;> cases b <;> cases d <;> decide
        have h5 : bad w u false false d = false := by revert h3; unfold bad; cases w <;> cases u <;> cases a <;> cases b <;> cases d <;> decide
        rw [h4, h5, if_neg (by decide), if_neg (by decide)]
        have e := congrArg (·.1) h
        simp only [] at e
        rw [e]; exact ⟨⟨_, rfl⟩, ⟨_, rfl⟩⟩
theorem find_fault {R : RS} {c l : Nat} {a b d : Bool} {x : WalkR} {cd : Int} {R' : RS} (h : find R c l a b d = (x, cd, R')) (h0 : 0 ≤ cd) :
    x = walk0 ∧ R' = R ∧ cd < 8 ∧ (((cd / 2) % 2 == 1) == a) = true ∧ ((cd / 4 == 1) == b) = true := by
  unfold find at h
  have k0 : ∀ a b : Bool, codeOf a b < 8 ∧ ((((codeOf a b) / 2) % 2 == 1) == a) = true ∧ (((codeOf a b) / 4 == 1) == b) = true := by decide
  have k1 : ∀ a b : Bool, codeOf a b + 1 < 8 ∧ ((((codeOf a b + 1) / 2) % 2 == 1) == a) = true ∧ (((codeOf a b + 1) / 4 == 1) == b) = true := by decide
  split at h
  · obtain ⟨e, h⟩ := Prod.mk.inj h
    obtain ⟨rfl, rfl⟩ := Prod.mk.inj h
    exact ⟨e.symm, rfl, k0 a b⟩
  · split at h
    · obtain ⟨e, h⟩ := Prod.mk.inj h
      obtain ⟨rfl, rfl⟩ := Prod.mk.inj h
      exact ⟨e.symm, rfl, k0 a b⟩
    · simp only [] at h
      split at h
      · obtain ⟨e, h⟩ := Prod.mk.inj h
        obtain ⟨rfl, rfl⟩ := Prod.mk.inj h
        exact ⟨e.symm, rfl, k1 a b⟩
      · have e := congrArg (·.2.1) h
        simp only [] at e
        omega
theorem find_code {R : RS} {c l : Nat} {a b d : Bool} {x : WalkR} {cd : Int} {R' : RS} (h : find R c l a b d = (x, cd, R')) : cd = -1 ∨ 0 ≤ cd := by
  have e := congrArg (·.2.1) h
  simp only [] at e
  rw [← e]
  unfold find
  have k0 : ∀ a b : Bool, 0 ≤ codeOf a b ∧ 0 ≤ codeOf a b + 1 := by decide
  split
  · exact .inr (k0 a b).1
  · split
    · exact .inr (k0 a b).1
    · simp only []
      split
      · exact .inr (k0 a b).2
      · exact .inl rfl
end Go.Proofs.Ytipkfbfmpnilmaa
