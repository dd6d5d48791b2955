/- ram's laws: a memory that a law has made; the calls at the head of all statements. -/
import Derived.Test.YtfdeojefcfnogaaRamJ
import Derived.Test.YtfdeojefcfnogaaIn
namespace Go.Proofs.Ytfdeojefcfnogaa
open Go.RowKit
set_option linter.unusedVariables false

/-- A memory all of whose blocks were made behind the world w0. -/
def RAt (w0 w : World) (b : Nat) (R : RS) : Prop := ∃ S, Ram w b S R ∧ (∀ k, S k → w0.heap.size ≤ k) ∧ Below w0.heap.size w0 w
section
variable {w0 w w' : World} {b : Nat} {R : RS}
theorem RAt.below (h : RAt w0 w b R) : Below w0.heap.size w0 w := by obtain ⟨S, H, N, B⟩ := h; exact B
theorem RAt.isok (h : RAt w0 w b R) : R.ok := by obtain ⟨S, H, N, B⟩ := h; exact H.isok
theorem RAt.move (h : RAt w0 w b R) (hb : Below w.heap.size w w') : RAt w0 w' b R := by
  obtain ⟨S, H, N, B⟩ := h
  exact ⟨S, H.below hb, N, B.trans (hb.mono B.size)⟩
theorem RAt.drewN (h : RAt w0 w b R) (n : Nat) : RAt w0 (w.drewN n) b R := by
  obtain ⟨S, H, N, B⟩ := h
  exact ⟨S, H.drewN n, N, below_dn B n⟩
theorem RAt.alloc (h : RAt w0 w b R) (o : Obj) : RAt w0 (w.alloc o) b R := h.move ((Below.refl _ _).alloc (Nat.le_refl _) _)
theorem new_at (w : World) (n : Nat) (h1 : 1 ≤ n) (h2 : n ≤ 256) :
    Calls Try.prog 9 #[.int .i64 n] w fun e w' => ∃ b, e = .returned (.tuple #[.pointer (some ⟨b, 0, .none⟩), .int .i64 0]) ∧ RAt w w' b (RS.new n) := by
  refine (new_any w n h1 h2).mono ?_
  rintro e w1 ⟨b, S, rfl, H, N, B⟩
  exact ⟨b, rfl, S, H, N, B⟩
theorem read_at (h : RAt w0 w b R) (a : Nat) (ha : a < 4294967296) (s : Nat) (hs : s = 1 ∨ s = 2 ∨ s = 4) :
    Calls Try.prog 12 #[.pointer (some ⟨b, 0, .none⟩), .int .u32 a, .int .i64 (s : Nat)] w fun e w' => e = .returned (.tuple #[.int .u32 (R.read a s : Nat), .int .i64 0]) ∧ RAt w0 w' b R := by
  have h2 := h
  obtain ⟨S, H, N, B⟩ := h
  refine (read_any H a ha s hs).mono ?_
  rintro e w1 ⟨rfl, n, rfl⟩
  exact ⟨rfl, h2.drewN n⟩
theorem moved {S S' : Nat → Prop} {R' : RS} (N : ∀ k, S k → w0.heap.size ≤ k) (B : Below w0.heap.size w0 w) (H' : Ram w' b S' R') (M : Moves S S' w w') : RAt w0 w' b R' :=
  ⟨S', H', fun k hk => by
    rcases M.2 k hk with h | h
    · exact N k h
    · exact Nat.le_trans B.size h, Keeps.toBelow B M.1 B.size N⟩
theorem write_at (h : RAt w0 w b R) (a v : Nat) (ha : a < 4294967296) (hv : v < 4294967296) (s : Nat) (hs : s = 1 ∨ s = 2 ∨ s = 4) :
    Calls Try.prog 10 #[.pointer (some ⟨b, 0, .none⟩), .int .u32 a, .int .i64 (s : Nat), .int .u32 v] w fun e w' => e = .returned (.int .i64 0) ∧ RAt w0 w' b (R.write a v s) := by
  obtain ⟨S, H, N, B⟩ := h
  refine (write_any H a v ha hv s hs).mono ?_
  rintro e w1 ⟨rfl, S', H', M⟩
  exact ⟨rfl, moved N B H' M⟩
theorem gate_at (h : RAt w0 w b R) (x : Bool) :
    Calls Try.prog 11 #[.pointer (some ⟨b, 0, .none⟩), .bool x] w fun e w' => e = .returned (.tuple #[]) ∧ RAt w0 w' b (R.gate x) := by
  obtain ⟨S, H, N, B⟩ := h
  refine (gate_any H x).mono ?_
  rintro e w1 ⟨rfl, H', K⟩
  exact ⟨rfl, moved N B H' ⟨K, fun k hk => .inl hk⟩⟩
theorem watch_at (h : RAt w0 w b R) (a : Nat) (ha : a < 4294967296) :
    Calls Try.prog 14 #[.pointer (some ⟨b, 0, .none⟩), .int .u32 a] w fun e w' => e = .returned (.tuple #[]) ∧ RAt w0 w' b (R.watch a) := by
  obtain ⟨S, H, N, B⟩ := h
  refine (watch_any H a ha).mono ?_
  rintro e w1 ⟨rfl, H', K⟩
  exact ⟨rfl, moved N B H' ⟨K, fun k hk => .inl hk⟩⟩
theorem watched_at (h : RAt w0 w b R) (a : Nat) (ha : a < 4294967296) :
    Calls Try.prog 15 #[.pointer (some ⟨b, 0, .none⟩), .int .u32 a] w fun e w' => e = .returned (.bool (R.watches a)) ∧ RAt w0 w' b R := by
  have h2 := h
  obtain ⟨S, H, N, B⟩ := h
  refine (watched_any H a ha).mono ?_
  rintro e w1 ⟨rfl, n, rfl⟩
  exact ⟨rfl, h2.drewN n⟩
theorem len_at (h : RAt w0 w b R) :
    Calls Try.prog 20 #[.pointer (some ⟨b, 0, .none⟩)] w fun e w' => e = .returned (.int .i64 (R.size : Nat)) ∧ RAt w0 w' b R := by
  have h2 := h
  obtain ⟨S, H, N, B⟩ := h
  refine (len_any H).mono ?_
  rintro e w1 ⟨rfl, rfl⟩
  exact ⟨rfl, h2⟩
theorem told_at {N' : Nat} (hs : Sorts N') (hN : N' ≤ 1048576) (h : RAt w0 w b R) (hb : ∀ L : List Nat, L.Nodup → (∀ x ∈ L, R.noted x = true) → L.length ≤ N') (h32 : ∀ x, R.noted x = true → x < 4294967296) :
    Calls Try.prog 16 #[.pointer (some ⟨b, 0, .none⟩)] w fun e w' => ∃ (v : Value) (L : List Nat), e = .returned v ∧ (∀ x, x ∈ L ↔ R.noted x = true) ∧ L.Pairwise (· < ·) ∧ w'.ownsRow w.heap.size 23 1 v L.length (wordsL L) ∧ RAt w0 w' b R.told := by
  obtain ⟨S, H, N, B⟩ := h
  refine (written_any hs hN H hb h32).mono ?_
  rintro e w1 ⟨v, L, rfl, h1, h2, h3, H', K⟩
  exact ⟨v, L, rfl, h1, h2, h3, moved N B H' ⟨K, fun k hk => .inl hk⟩⟩
end
theorem wr_noted (R : RS) (a v n : Nat) (h : (R.wr a v).noted n = true) : R.noted n = true ∨ (n = R.place a / 64 * 64 ∧ R.watched (R.place a / 64) = true) := by
  unfold RS.wr at h
  split at h
  · unfold RS.lay at h
    by_cases e : n = R.place a / 64 * 64 ∧ R.watched (R.place a / 64) = true
    · exact .inr e
    · simp only [e, if_false] at h; exact .inl h
  · exact .inl h
theorem wr_watched (R : RS) (a v g : Nat) (h : (R.wr a v).watched g = true) : R.watched g = true := by
  unfold RS.wr at h
  split at h
  · unfold RS.lay at h
    by_cases e : g = R.place a / 64
    · simp only [e, if_true] at h; cases h
    · simp only [e, if_false] at h; exact h
  · exact h
theorem row_one {w : World} {B : Nat} {v : Value} {L : List Nat} {x : Nat} (h : w.ownsRow B 23 1 v L.length (wordsL L)) (hL : L = [x]) : ∃ g c, v = .slice (some ⟨g, 0, none⟩) 1 c ∧ w.cell? ⟨g, 0, none⟩ = some (.int .u32 (x : Nat)) ∧ g < w.heap.size := by
  subst hL
  rcases h.2 with ⟨rfl, e⟩ | ⟨g, cap, cur, rfl, hb, hg, h1, h2, h3, h4⟩
  · cases e
  · refine ⟨g, cap, rfl, ?_, heap_lt hg⟩
    rw [cell_at hg]
    have := congrArg (fun l => l[0]?) h4
    simp only [List.getElem?_take, Array.getElem?_toList] at this
    rw [if_pos (by show 0 < 1 * 1; decide)] at this
    rw [this]; rfl
theorem all_one {L : List Nat} {x : Nat} (h : ∀ y ∈ L, y = x) (hn : L.Nodup) (hx : x ∈ L) : L = [x] := by
  match L, h, hn, hx with
  | [a], h, _, _ => rw [h a (by simp)]
  | a :: b :: l, h, hn, _ =>
    have e1 := h a (by simp)
    have e2 := h b (by simp)
    subst e1
    subst e2
    simp at hn
def aw1 : RS := (RS.new 256).write 1048575 4660 2
def aw2 : RS := aw1.watch 70
def aw3 : RS := aw2.write 64 7 1
set_option maxRecDepth 100000 in
theorem aw_a : aw1.read 1048575 4 = 4294967092 := by kernel_rfl
set_option maxRecDepth 100000 in
theorem aw_b : aw3.noted 64 = true := by kernel_rfl
set_option maxRecDepth 100000 in
theorem aw_c : aw3.told.watches 64 = false := by kernel_rfl
theorem aw_p : aw2.place (at32 64 0) / 64 * 64 = 64 := by kernel_rfl
theorem aw_d (n : Nat) (h : aw3.noted n = true) : n = 64 := by
  have h1 : (aw2.wr (at32 64 0) (7 / 256 ^ 0 % 256)).noted n = true := h
  rcases wr_noted _ _ _ _ h1 with h2 | ⟨h2, _⟩
  · exfalso
    have h3 : aw1.noted n = true := by
      have e : aw2.noted = aw1.noted := by unfold aw2 RS.watch; split <;> rfl
      rw [← e]; exact h2
    have h4 : (((RS.new 256).wr (at32 1048575 0) (4660 / 256 ^ 0 % 256)).wr (at32 1048575 1) (4660 / 256 ^ 1 % 256)).noted n = true := h3
    rcases wr_noted _ _ _ _ h4 with h5 | ⟨_, h5⟩
    · rcases wr_noted _ _ _ _ h5 with h6 | ⟨_, h6⟩
      · cases h6
      · cases h6
    · have := wr_watched _ _ _ _ h5
      cases this
  · exact h2.trans aw_p
theorem aw_e {L : List Nat} (h : ∀ x, x ∈ L ↔ aw3.noted x = true) (hp : L.Pairwise (· < ·)) : L = [64] :=
  all_one (fun y hy => aw_d y ((h y).1 hy)) (hp.imp (fun h => Nat.ne_of_lt h)) ((h 64).2 aw_b)
theorem aw_f (L : List Nat) (hn : L.Nodup) (h : ∀ x ∈ L, aw3.noted x = true) : L.length ≤ 1 := by
  match L, hn, h with
  | [], _, _ => decide
  | [a], _, _ => exact Nat.le_refl _
  | a :: b :: l, hn, h =>
    have e1 := aw_d a (h a (by simp))
    have e2 := aw_d b (h b (by simp))
    subst e1
    subst e2
    simp at hn
set_option maxHeartbeats 1000000 in
theorem awake_any (w : World) : Calls Try.prog 8 #[] w fun e w' => e = .returned (.bool true) ∧ Below w.heap.size w w' := by
  have E1 := Lib.hid aw_a
  have E2 := Lib.hid aw_c
  go_enter Try.func8, Try.ntmps8
  go_wp2_with fail
  refine (new_at w 256 (by decide) (by decide)).mono ?_
  rintro e w1 ⟨b, rfl, A1⟩
  go_wp2_with fail
  refine (write_at A1 1048575 4660 (by decide) (by decide) 2 (by decide)).mono ?_
  rintro e w2 ⟨rfl, A2⟩
  have A2 : RAt w w2 b aw1 := A2
  go_wp2_with fail
  refine (read_at A2 1048575 (by decide) 4 (by decide)).mono ?_
  rintro e w3 ⟨rfl, A3⟩
  rw [E1.out]
  go_wp2_with fail
  refine (watch_at A3 70 (by decide)).mono ?_
  rintro e w4 ⟨rfl, A4⟩
  have A4 : RAt w w4 b aw2 := A4
  go_wp2_with fail
  refine (write_at A4 64 7 (by decide) (by decide) 1 (by decide)).mono ?_
  rintro e w5 ⟨rfl, A5⟩
  have A5 : RAt w w5 b aw3 := A5
  go_wp2_with fail
  refine (told_at sorts_one (by decide) A5 aw_f (fun x hx => by rw [aw_d x hx]; decide)).mono ?_
  rintro e w6 ⟨v, L, rfl, h1, h2, h3, A6⟩
  obtain ⟨g, c, rfl, hc, hg⟩ := row_one h3 (aw_e h1 h2)
  clear h1 h2 h3
  have HC := Lib.hid hc
  clear hc
  go_wp2_with fail
  obtain ⟨S6, H6, N6, B6⟩ := A6
  refine (watched_any H6 64 (by decide)).mono ?_
  rintro e w7 ⟨rfl, n, rfl⟩
  rw [E2.out]
  have hc : (w6.drewN n).cell? ⟨g, 0, none⟩ = some (.int .u32 64) := HC.out
  have hg7 : g < (w6.drewN n).heap.size := hg
  have H7 := H6.drewN n
  have B7 := Lib.hid (below_dn B6 n)
  clear hg B6
  generalize w6.drewN n = w7 at *
  go_wp2_with fail
  refine (len_any H7).mono ?_
  rintro e w8 ⟨rfl, rfl⟩
  rw [show aw3.told.size = 1048576 from rfl]
  go_wp2_with fail
  go_ret
  exact ⟨rfl, B7.out⟩
end Go.Proofs.Ytfdeojefcfnogaa
