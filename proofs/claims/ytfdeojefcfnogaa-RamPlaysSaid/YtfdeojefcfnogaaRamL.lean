/- ram's laws: what is written is read; in plain words. -/
import Derived.Test.YtfdeojefcfnogaaRamK
import Derived.Test.YtfdeojefcfnogaaRefA
namespace Go.Proofs.Ytfdeojefcfnogaa
open Go.RowKit
set_option linter.unusedVariables false

/-- A memory of 256 pages, none of them of the kind that can only be read. -/
structure Bk (c : Bool) (R : RS) : Prop where
  closed : R.closed = c
  pages : R.pages = 256
  only : ∀ k, R.only k = false
theorem Bk.size {c : Bool} {R : RS} (h : Bk c R) : R.size = 1048576 := by unfold RS.size; rw [h.pages]
theorem Bk.place {c : Bool} {R : RS} (h : Bk c R) (n : Nat) (hn : n < 1048576) : R.place n = n := by
  unfold RS.place
  split
  · rw [place_bit n (by omega), if_neg (by omega)]
  · rfl
theorem Bk.get {c : Bool} {R : RS} (h : Bk c R) (n : Nat) (hn : n < 1048576) : R.get n = R.byte n := by
  unfold RS.get
  rw [h.place n hn, h.size, if_pos hn]
theorem Bk.high {R : RS} (h : Bk true R) (n : Nat) (hn : n < 1048576) : R.get (n + 1048576) = R.get n := by
  have e : R.place (n + 1048576) = R.place n := by
    unfold RS.place
    rw [h.closed, if_pos rfl, if_pos rfl, place_bit _ (by omega), if_pos (by omega), place_bit _ (by omega), if_neg (by omega)]
    omega
  unfold RS.get
  rw [e]
theorem Bk.wr {c : Bool} {R : RS} (h : Bk c R) (n v : Nat) (hn : n < 1048576) : Bk c (R.wr n v) ∧ (R.wr n v).byte = fun i => if i = n then v else R.byte i := by
  unfold RS.wr
  rw [h.place n hn, h.size, if_pos ⟨hn, h.only _⟩]
  exact ⟨⟨h.closed, h.pages, h.only⟩, rfl⟩
theorem at32_small (a i : Nat) (h : a + i < 4294967296) : at32 a i = a + i := Nat.mod_eq_of_lt h
theorem Bk.write {c : Bool} {R : RS} (h : Bk c R) (a v : Nat) : ∀ k, a + k ≤ 1048576 → Bk c (R.write a v k) ∧ ∀ i, (R.write a v k).byte i = if a ≤ i ∧ i < a + k then v / 256 ^ (i - a) % 256 else R.byte i
  | 0, _ => ⟨h, fun i => by rw [if_neg (by omega)]; rfl⟩
  | k + 1, hk => by
    obtain ⟨h1, h2⟩ := Bk.write h a v k (by omega)
    obtain ⟨h3, h4⟩ := h1.wr (at32 a k) (v / 256 ^ k % 256) (by rw [at32_small _ _ (by omega)]; omega)
    refine ⟨h3, fun i => ?_⟩
    show ((R.write a v k).wr (at32 a k) (v / 256 ^ k % 256)).byte i = _
    rw [h4]
    show (if i = at32 a k then v / 256 ^ k % 256 else (R.write a v k).byte i) = _
    rw [at32_small _ _ (by omega), h2]
    by_cases e : i = a + k
    · subst e; rw [if_pos rfl, if_pos (by omega), Nat.add_sub_cancel_left]
    · rw [if_neg e]
      by_cases e2 : a ≤ i ∧ i < a + k
      · rw [if_pos e2, if_pos (by omega)]
      · rw [if_neg e2, if_neg (by omega)]
theorem Bk.read {c : Bool} {R : RS} (h : Bk c R) (a v s : Nat) (ha : a + s ≤ 1048576) (hb : ∀ i, i < s → R.byte (a + i) = v / 256 ^ i % 256) : ∀ k, k ≤ s → R.read a k = v % 256 ^ k
  | 0, _ => by simp [RS.read, Nat.mod_one]
  | k + 1, hk => by
    rw [RS.read, Bk.read h a v s ha hb k (by omega), at32_small _ _ (by omega), h.get _ (by omega), hb k (by omega), Nat.mod_pow_succ, Nat.mul_comm]
theorem Bk.readHigh {R : RS} (h : Bk true R) (a : Nat) : ∀ k, a + k ≤ 1048576 → R.read (a + 1048576) k = R.read a k
  | 0, _ => rfl
  | k + 1, hk => by
    rw [RS.read, RS.read, Bk.readHigh h a k (by omega), at32_small _ _ (by omega), at32_small _ _ (by omega), show a + 1048576 + k = a + k + 1048576 by omega, h.high _ (by omega)]
theorem Bk.read1 {c : Bool} {R : RS} (h : Bk c R) (n : Nat) (hn : n < 1048576) : R.read n 1 = R.byte n := by
  rw [RS.read, RS.read, at32_small _ _ (by omega), h.get _ (by omega)]; simp
theorem Bk.start (c : Bool) : Bk c ((RS.new 256).gate (!c)) := ⟨by show (!(!c)) = c; simp, rfl, fun _ => rfl⟩
theorem read_atv {w0 w : World} {b : Nat} {R : RS} (h : RAt w0 w b R) (a : Nat) (x : Int) (hx : x = (a : Int)) (ha : a < 4294967296) (s : Nat) (hs : s = 1 ∨ s = 2 ∨ s = 4) (y : Int) (hy : y = (s : Int)) (z : Nat) (hz : R.read a s = z) :
    Calls Try.prog 12 #[.pointer (some ⟨b, 0, .none⟩), .int .u32 x, .int .i64 y] w fun e w' => e = .returned (.tuple #[.int .u32 (z : Nat), .int .i64 0]) ∧ RAt w0 w' b R := by
  subst hx hy hz
  exact read_at h a ha s hs
end Go.Proofs.Ytfdeojefcfnogaa
