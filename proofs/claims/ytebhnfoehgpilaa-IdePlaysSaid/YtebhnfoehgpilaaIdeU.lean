/- ide's laws: what a law lays over its own disk; in plain words. -/
import Derived.Test.YtebhnfoehgpilaaIdeT
namespace Go.Proofs.Ytebhnfoehgpilaa
open Go.RowKit
set_option linter.unusedVariables false

/-- k bytes laid from a place on. -/
def part (d f : Nat → Nat) (o k : Nat) : Nat → Nat := fun i => if o ≤ i ∧ i < o + k then f (i - o) else d i
theorem part_0 (d f : Nat → Nat) (o : Nat) : part d f o 0 = d := by
  funext i; unfold part; rw [if_neg (by omega)]
theorem part_512 (d f : Nat → Nat) (o : Nat) : part d f o 512 = laid d f o := rfl
theorem part_next (d f : Nat → Nat) (o k : Nat) : upd (part d f o k) (o + k) (f k) = part d f o (k + 1) := by
  funext i
  unfold upd part
  by_cases e : i = o + k
  · subst e; rw [if_pos rfl, if_pos (by omega)]; congr 1; omega
  · rw [if_neg e]
    by_cases h : o ≤ i ∧ i < o + k
    · rw [if_pos h, if_pos (by omega)]
    · rw [if_neg h, if_neg (by omega)]
theorem laid_at (d f : Nat → Nat) (o j : Nat) (h : j < 512) : laid d f o (o + j) = f j := by
  unfold laid; rw [if_pos (by omega)]; congr 1; omega
theorem row_set {w : World} {B g m c : Nat} {d : Nat → Nat} (h : w.ownsRow B 5 1 (.slice (some ⟨g, 0, none⟩) m c) m (bytesL m d)) {i x : Nat} (hi : i < m) :
    (w.setCell ⟨g, i, none⟩ (.int .u8 (x : Nat))).ownsRow B 5 1 (.slice (some ⟨g, 0, none⟩) m c) m (bytesL m (upd d i x)) := by
  refine ⟨by rw [bytesL_len]; omega, ?_⟩
  rcases h.2 with ⟨e, h0⟩ | ⟨g', cap, cur, e, hb, hg, h1, h2, h3, h4⟩
  · omega
  · injection e with e1 e2 e3
    injection e1 with e1
    injection e1 with e1
    subst e1 e3
    refine .inr ⟨g, c, cur.setIfInBounds i (.int .u8 (x : Nat)), rfl, hb, heap_set_same _ hg, h1, h2, by rw [Array.size_setIfInBounds]; exact h3, ?_⟩
    rw [Nat.mul_one] at h4 ⊢
    apply List.ext_getElem?
    intro j
    rw [List.getElem?_take, Array.getElem?_toList, Array.getElem?_setIfInBounds]
    by_cases hj : j < m
    · rw [if_pos hj, bytesL_at _ _ _ hj]
      by_cases e : i = j
      · subst e; rw [if_pos rfl, if_pos (by omega), upd_same]
      · rw [if_neg e, upd_ne _ _ _ _ (fun q => e q.symm)]
        exact take_at h4 hj
    · rw [if_neg hj, bytesL_no _ _ _ (by omega)]

/-- k bytes of f from i on as one number, the lowest first. -/
def vsum (f : Nat → Nat) (i : Nat) : Nat → Nat
  | 0 => 0
  | k + 1 => vsum f i k + f (i + k) * 256 ^ k
theorem vsum_lt (f : Nat → Nat) (hf : ∀ j, f j < 256) (i : Nat) : ∀ k, vsum f i k < 256 ^ k
  | 0 => by simp [vsum]
  | k + 1 => by
    have ih := vsum_lt f hf i k
    have h1 : f (i + k) * 256 ^ k ≤ 255 * 256 ^ k := Nat.mul_le_mul_right _ (by have := hf (i + k); omega)
    rw [vsum, Nat.pow_succ]; omega
theorem vsum_at (f : Nat → Nat) (hf : ∀ j, f j < 256) (i : Nat) : ∀ k j, j < k → vsum f i k / 256 ^ j % 256 = f (i + j)
  | 0, j, h => absurd h (Nat.not_lt_zero _)
  | k + 1, j, h => by
    rw [vsum]
    by_cases e : j = k
    · subst e
      rw [Nat.add_mul_div_right _ _ (Nat.pow_pos (by decide)), Nat.div_eq_of_lt (vsum_lt f hf i j), Nat.zero_add, Nat.mod_eq_of_lt (hf _)]
    · have hj : j < k := by omega
      obtain ⟨t, rfl⟩ : ∃ t, k = j + (t + 1) := ⟨k - j - 1, by omega⟩
      have e2 : f (i + (j + (t + 1))) * 256 ^ (j + (t + 1)) = (f (i + (j + (t + 1))) * 256 ^ t * 256) * 256 ^ j := by
        rw [Nat.pow_add, Nat.pow_succ]; simp only [Nat.mul_comm, Nat.mul_left_comm]
      rw [e2, Nat.add_mul_div_right _ _ (Nat.pow_pos (by decide)), Nat.add_mul_mod_self_right]
      exact vsum_at f hf i (j + (t + 1)) j hj
theorem add_shift (v b k : Nat) (hv : v < 256 ^ k) (hb : b < 256) (hk : k < 4) : ((v : Int) + (b : Int) * 2 ^ (8 * k) % 4294967296) % 4294967296 = ((v + b * 256 ^ k : Nat) : Int) := by
  have hp : (256 : Nat) ^ k = 2 ^ (8 * k) := by rw [Nat.pow_mul]
  have hle : b * 256 ^ k ≤ 255 * 256 ^ k := Nat.mul_le_mul_right _ (by omega)
  have h3 : 256 ^ k ≤ 256 ^ 3 := Nat.pow_le_pow_right (by decide) (by omega)
  have e : ((b : Int) * 2 ^ (8 * k)) = ((b * 256 ^ k : Nat) : Int) := by rw [hp]; simp
  rw [e]
  omega

theorem At.alloc {w0 w : World} {b : Nat} {D : Dk} (h : At w0 w b D) (o : Obj) : At w0 (w.alloc o) b D := h.move (Below.alloc (Below.refl _ _) (Nat.le_refl _) _)
/-- A law's own disk, of which K bytes of a sector are laid, beside a disk to which L are put. -/
def Stage (w wc : World) (b B g m c n r : Nat) (d f : Nat → Nat) (K L : Nat) : Prop :=
  ∃ S wd, At wd wc b S ∧ wd.ownsRow B 5 1 (.slice (some ⟨g, 0, none⟩) m c) m (bytesL m (part d f (r * 512) K)) ∧ w.heap.size ≤ B ∧ Below w.heap.size w wd ∧ Writing n d r f L S
theorem row_base2 {w : World} {B g m c : Nat} {xs : List Value} (h : w.ownsRow B 5 1 (.slice (some ⟨g, 0, none⟩) m c) m xs) : B ≤ g ∧ g < w.heap.size := World.ownsRow.lt h g rfl
section
variable {w wc : World} {b B g m c n r : Nat} {d f : Nat → Nat} {K L : Nat}
theorem Stage.below (h : Stage w wc b B g m c n r d f K L) : Below w.heap.size w wc := by
  obtain ⟨S, wd, A, Rw, hB, Bl, W⟩ := h
  exact Bl.trans (A.below.mono Bl.size)
theorem Stage.glt (h : Stage w wc b B g m c n r d f K L) : g < wc.heap.size := by
  obtain ⟨S, wd, A, Rw, hB, Bl, W⟩ := h
  exact Nat.lt_of_lt_of_le (row_base2 Rw).2 A.below.size
theorem Stage.cell (h : Stage w wc b B g m c n r d f K L) (i : Nat) (hi : i < m) : wc.cell? ⟨g, i, none⟩ = some (.int .u8 (part d f (r * 512) K i : Nat)) ∧ wc.frozen? ⟨g, i, none⟩ = false := by
  obtain ⟨S, wd, A, Rw, hB, Bl, W⟩ := h
  rcases Rw.2 with ⟨e, h0⟩ | ⟨g', cap, cur, e, hb, hg, h1, h2, h3, h4⟩
  · omega
  · injection e with e1 e2 e3
    injection e1 with e1
    injection e1 with e1
    subst e1 e3
    have hg2 : wc.heap[g]? = some (.cells cur 5) := (A.below.block g (heap_lt hg)).trans hg
    rw [Nat.mul_one] at h4
    exact ⟨by rw [cell_at hg2]; exact take_at h4 hi, free_at hg2⟩
theorem Stage.store (h : Stage w wc b B g m c n r d f K L) (hi : r * 512 + K < m) : Stage w (wc.setCell ⟨g, r * 512 + K, none⟩ (.int .u8 (f K : Nat))) b B g m c n r d f (K + 1) L := by
  obtain ⟨S, wd, A, Rw, hB, Bl, W⟩ := h
  have hg := row_base2 Rw
  refine ⟨S, wd.setCell ⟨g, r * 512 + K, none⟩ (.int .u8 (f K : Nat)), A.touch hg.2 _ _, ?_, hB, Bl.setCell (Nat.le_trans hB hg.1) _, W⟩
  rw [← part_next]
  exact row_set Rw hi
theorem Stage.out (h : Stage w wc b B g m c n r d f K L) (s : Nat) (hs : s = 2 ∨ s = 4) (hK : K = L + s) (hL : L + s ≤ 512) (hr : r < n) (hn : n ≤ 64) (hf : ∀ j, f j < 256) :
    Calls Try.prog 12 #[.pointer (some ⟨b, 0, none⟩), .int .i64 0, .int .i64 (s : Nat), .int .u32 (vsum f L s : Nat)] wc fun e w' => e = .returned (.int .i64 0) ∧ Stage w w' b B g m c n r d f K K := by
  obtain ⟨S, wd, A, Rw, hB, Bl, W⟩ := h
  have hlt := vsum_lt f hf L s
  have hp : 256 ^ s ≤ 4294967296 := by rcases hs with rfl | rfl <;> decide
  have he : callErr 0 (s : Nat) = 0 := by rcases hs with rfl | rfl <;> decide
  have hl : S.log = [] := (W.on (by omega)).2.2.2.2.1
  refine (out_at A 0 (s : Nat) (vsum f L s) (by omega) (by rw [hl]; decide)).mono ?_
  rintro e w1 ⟨rfl, A1⟩
  rw [he]
  have W1 := writing_out W hr hn (vsum f L s) s hs hL (vsum_at f hf L s)
  rw [← hK] at W1
  exact ⟨rfl, _, wd, A1, Rw, hB, Bl, W1⟩
theorem disk_d {w0 w : World} {b n m : Nat} {d : Nat → Nat} {D : Dk} (h : At w0 w b D) (hn : D.n = n) (hd : D.d = d) (hm : m = n * 512) :
    Calls Try.prog 15 #[.pointer (some ⟨b, 0, none⟩)] w fun e w' => ∃ v, e = .returned v ∧ (convert 23 9 v).run Try.prog w' = .ok (.string (strOf m d)) w' ∧ At w0 w' b D := by
  subst hn hd hm
  refine (disk_at h).mono ?_
  rintro e w1 ⟨v, rfl, hr, A, hb⟩
  exact ⟨v, rfl, conv_row hr, A⟩
theorem nums_row {w : World} {a : Option Addr} {k c : Nat} {L : List Nat} (h : w.ownsRow 0 3 1 (.slice a k c) k (L.map fun x => .int .i64 (x : Nat))) (hk : k = L.length) : Nums w (.slice a k c) L := by
  subst hk
  refine ⟨a, c, rfl, ?_⟩
  rcases h.2 with ⟨e, h0⟩ | ⟨g', cap, cur, e, hb, hg, h1, h2, h3, h4⟩
  · exact .inl (List.eq_nil_of_length_eq_zero h0)
  · injection e with e1 e2 e3
    subst e1
    refine .inr ⟨g', 0, rfl, heap_lt hg, fun i hi => ?_⟩
    rw [cell_at hg, Nat.zero_add]
    rw [Nat.mul_one] at h4
    have := congrArg (fun l => l[i]?) h4
    simp only [List.getElem?_take, Array.getElem?_toList] at this
    rw [if_pos hi] at this
    rw [this]
    simp [hi]
theorem Nums.below {w w' : World} {v : Value} {L : List Nat} (h : Nums w v L) (hb : Below w.heap.size w w') : Nums w' v L := by
  obtain ⟨a, c, rfl, h⟩ := h
  refine ⟨a, c, rfl, h.imp id ?_⟩
  rintro ⟨g, off, rfl, hg, hc⟩
  exact ⟨g, off, rfl, Nat.lt_of_lt_of_le hg hb.size, fun i hi => (hb.cell hg).trans (hc i hi)⟩
theorem Nums.alloc {w : World} {v : Value} {L : List Nat} (h : Nums w v L) (o : Obj) : Nums (w.alloc o) v L := h.below (Below.alloc (Below.refl _ _) (Nat.le_refl _) _)
theorem Nums.made (w : World) (x : Nat) (T : TypeId) : Nums (w.alloc (.cells #[.int .i64 (x : Nat)] T)) (.slice (some ⟨w.heap.size, 0, none⟩) 1 1) [x] :=
  ⟨_, _, rfl, .inr ⟨_, 0, rfl, heap_lt (heap_new w _), fun i hi => by
    have e : i = 0 := by simp at hi; exact hi
    subst e
    rw [cell_at (heap_new w _)]; rfl⟩⟩
theorem written_d {w0 w : World} {b r : Nat} {D : Dk} (h : At w0 w b D) (hl : D.log = [r]) :
    Calls Try.prog 17 #[.pointer (some ⟨b, 0, none⟩)] w fun e w' => ∃ v, e = .returned v ∧ At w0 w' b D.quit ∧ Nums w' v [r] ∧ Below w0.heap.size w0 w' := by
  refine (written_at h).mono ?_
  rintro e w1 ⟨a, c, rfl, A, hr⟩
  rw [hl] at hr
  rw [hl]
  exact ⟨_, rfl, A, nums_row hr rfl, A.below⟩
end
end Go.Proofs.Ytebhnfoehgpilaa
