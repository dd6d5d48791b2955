/- uart's laws: a port that a law has made, beside blocks that are the law's own; the calls at the head of all statements. -/
import Derived.Test.YtliiccmpfmgioaaUartF
import Derived.Test.YtliiccmpfmgioaaIn
namespace Go.Proofs.Ytliiccmpfmgioaa
open Go.RowKit Go.Conc
set_option linter.unusedVariables false

/-- A port all of whose blocks were made behind the world w0; the blocks of G hold what they held in the world wG. -/
def UAt (w0 w : World) (b : Nat) (U : Ut) (G : Nat → Prop) (wG : World) : Prop :=
  ∃ q sv, UtIn w b q sv U ∧ (∀ k, Held b q sv k → w0.heap.size ≤ k ∧ ¬ G k) ∧ (∀ g, G g → g < wG.heap.size ∧ w.heap[g]? = wG.heap[g]?) ∧ Below w0.heap.size w0 w ∧ wG.heap.size ≤ w.heap.size
section
variable {w0 w w' wG : World} {b : Nat} {U : Ut} {G : Nat → Prop}
theorem UAt.below (h : UAt w0 w b U G wG) : Below w0.heap.size w0 w := by obtain ⟨q, sv, H, N, g, B, s⟩ := h; exact B
theorem UAt.isok (h : UAt w0 w b U G wG) : U.ok := by obtain ⟨q, sv, H, N, g, B, s⟩ := h; exact H.ok
theorem UAt.kept (h : UAt w0 w b U G wG) {k : Nat} (hk : G k) : w.heap[k]? = wG.heap[k]? := by obtain ⟨q, sv, H, N, g, B, s⟩ := h; exact (g k hk).2
theorem UAt.row (h : UAt w0 w b U G wG) {B n : Nat} {E : TypeId} {v : Value} {xs : List Value} (hr : wG.ownsRow B E 1 v n xs) (hg : ∀ k, v.ownBlock = some k → G k) : w.ownsRow B E 1 v n xs := row_of_heap hr fun k hk => h.kept (hg k hk)
theorem UAt.move (h : UAt w0 w b U G wG) (hb : Below w.heap.size w w') : UAt w0 w' b U G wG := by
  obtain ⟨q, sv, H, N, g, B, s⟩ := h
  exact ⟨q, sv, H.of_heap fun k hk => hb.block k (H.lt hk), N, fun k hk => ⟨(g k hk).1, (hb.block k (Nat.lt_of_lt_of_le (g k hk).1 s)).trans (g k hk).2⟩, B.trans (hb.mono B.size), Nat.le_trans s hb.size⟩
theorem UAt.alloc (h : UAt w0 w b U G wG) (o : Obj) : UAt w0 (w.alloc o) b U G wG := h.move ((Below.refl _ _).alloc (Nat.le_refl _) _)
theorem UAt.went {q : Nat} {sv : Value} {U' : Ut} (H : UtIn w b q sv U) (N : ∀ k, Held b q sv k → w0.heap.size ≤ k ∧ ¬ G k) (g : ∀ g, G g → g < wG.heap.size ∧ w.heap[g]? = wG.heap[g]?) (B : Below w0.heap.size w0 w) (s : wG.heap.size ≤ w.heap.size) (h : Went w b q sv U' w') : UAt w0 w' b U' G wG := by
  obtain ⟨sv', H', K, hsv⟩ := h
  refine ⟨q, sv', H', fun k hk => ?_, fun k hk => ⟨(g k hk).1, (K.block k (Nat.lt_of_lt_of_le (g k hk).1 s) fun hh => (N k hh).2 hk).trans (g k hk).2⟩, Keeps.toBelow B K B.size fun k hk => (N k hk).1, Nat.le_trans s K.size⟩
  rcases hk with hk | hk | hk
  · exact N k (.inl hk)
  · exact N k (.inr (.inl hk))
  · rcases hsv k hk with h1 | h1
    · exact N k (.inr (.inr h1))
    · exact ⟨Nat.le_trans B.size h1, fun hG => by have := (g k hG).1; omega⟩
theorem new_at (w : World) : Calls Try.prog 9 #[] w fun e w' => ∃ b, e = .returned (.pointer (some ⟨b, 0, none⟩)) ∧ UAt w w' b Ut.new (fun _ => False) w' := by
  refine (new_any w).mono ?_
  rintro e w1 ⟨b, q, rfl, H, h1, h2, B⟩
  refine ⟨b, rfl, q, _, H, fun k hk => ⟨?_, fun h => h⟩, fun g h => h.elim, B, Nat.le_refl _⟩
  rcases hk with rfl | rfl | hk
  · exact h1
  · exact h2
  · cases hk
theorem out_at (h : UAt w0 w b U G wG) (reg : Int) (v : Nat) (hv : v < 256) (hL : U.sent.length + 1 ≤ 140737488355328) :
    Calls Try.prog 10 #[.pointer (some ⟨b, 0, none⟩), .int .i64 reg, .int .u8 (v : Nat)] w fun e w' => e = .returned (.int .i64 (callErr reg)) ∧ UAt w0 w' b (U.out reg v) G wG := by
  obtain ⟨q, sv, H, N, g, B, s⟩ := h
  refine (out_any H reg v hv hL).mono ?_
  rintro e w1 ⟨rfl, W⟩
  exact ⟨rfl, UAt.went H N g B s W⟩
theorem in_at (h : UAt w0 w b U G wG) (reg : Int) :
    Calls Try.prog 12 #[.pointer (some ⟨b, 0, none⟩), .int .i64 reg] w fun e w' => e = .returned (.tuple #[.int .u8 (U.inV reg : Nat), .int .i64 (callErr reg)]) ∧ UAt w0 w' b (U.inS reg) G wG := by
  obtain ⟨q, sv, H, N, g, B, s⟩ := h
  refine (in_any H reg).mono ?_
  rintro e w1 ⟨rfl, W⟩
  exact ⟨rfl, UAt.went H N g B s W⟩
theorem push_at (h : UAt w0 w b U G wG) (x : Nat) (hx : x < 256) :
    Calls Try.prog 16 #[.pointer (some ⟨b, 0, none⟩), .int .u8 (x : Nat)] w fun e w' => e = .returned (.tuple #[]) ∧ UAt w0 w' b (U.push x) G wG := by
  obtain ⟨q, sv, H, N, g, B, s⟩ := h
  refine (push_any H x hx).mono ?_
  rintro e w1 ⟨rfl, H1, K⟩
  exact ⟨rfl, UAt.went H N g B s (Went.of H1 (K.mono fun k _ e => e.imp id fun e => .inl e))⟩
theorem line_at (h : UAt w0 w b U G wG) :
    Calls Try.prog 19 #[.pointer (some ⟨b, 0, none⟩)] w fun e w' => e = .returned (.bool U.line) ∧ w = w' := by
  obtain ⟨q, sv, H, N, g, B, s⟩ := h
  exact line_any H
theorem sent_at (h : UAt w0 w b U G wG) :
    Calls Try.prog 11 #[.pointer (some ⟨b, 0, none⟩)] w fun e w' => ∃ v, e = .returned v ∧ w'.ownsRow 0 5 1 v U.sent.length (bytesV U.sent) ∧ (∀ k, v.ownBlock = some k → w0.heap.size ≤ k) ∧
      UAt w0 w' b U.quit (fun k => G k ∨ v.ownBlock = some k) w' ∧ ∀ g, G g → w'.heap[g]? = wG.heap[g]? := by
  obtain ⟨q, sv, H, N, g, B, s⟩ := h
  refine (sent_any H).mono ?_
  rintro e w1 ⟨rfl, H1, R, K⟩
  have hb := H.bs
  have hq := H.qs
  have hnot : ∀ k, G k → w1.heap[k]? = wG.heap[k]? := fun k hk => (K.block k (Nat.lt_of_lt_of_le (g k hk).1 s) (fun h => by
    rcases h with rfl | rfl
    · exact (N _ (.inl rfl)).2 hk
    · exact (N _ (.inr (.inl rfl))).2 hk)).trans (g k hk).2
  refine ⟨sv, rfl, R, fun k hk => (N k (.inr (.inr hk))).1, ⟨q, _, H1, fun k hk => ?_, fun k hk => ⟨?_, rfl⟩, Keeps.toBelow B K B.size fun k hk => ?_, Nat.le_refl _⟩, hnot⟩
  · rcases hk with rfl | rfl | hk
    · exact ⟨(N _ (.inl rfl)).1, fun h => h.elim (N _ (.inl rfl)).2 fun h => hb h⟩
    · exact ⟨(N _ (.inr (.inl rfl))).1, fun h => h.elim (N _ (.inr (.inl rfl))).2 fun h => hq h⟩
    · cases hk
  · rcases hk with hk | hk
    · exact Nat.lt_of_lt_of_le (Nat.lt_of_lt_of_le (g k hk).1 s) K.size
    · exact (World.ownsRow.lt R k hk).2
  · rcases hk with rfl | rfl
    · exact (N _ (.inl rfl)).1
    · exact (N _ (.inr (.inl rfl))).1
end
/-- A byte of a row. -/
theorem byte_at {w : World} {B n : Nat} {v : Value} {L : List Nat} (h : w.ownsRow B 5 1 v n (bytesV L)) (i x : Nat) (hx : L[i]? = some x) : ∃ g c, v = .slice (some ⟨g, 0, none⟩) n c ∧ w.cell? ⟨g, i, none⟩ = some (.int .u8 (x : Nat)) ∧ g < w.heap.size := by
  have hL := h.1
  rw [bytesV_len, Nat.mul_one] at hL
  have hi : i < L.length := (List.getElem?_eq_some_iff.1 hx).1
  rcases h.2 with ⟨rfl, h0⟩ | ⟨g, cap, cur, rfl, _, hg, h1, h2, h3, h4⟩
  · omega
  · refine ⟨g, cap, rfl, ?_, heap_lt hg⟩
    rw [cell_at hg]
    rw [Nat.mul_one] at h4
    have := congrArg (fun l => l[i]?) h4
    simp only [List.getElem?_take, Array.getElem?_toList] at this
    rw [if_pos (by omega)] at this
    rw [this]
    unfold bytesV
    rw [List.getElem?_map, hx]; rfl
def aw1 : Ut := Ut.new.out 0 65
def aw2 : Ut := (aw1.quit.push 7).push 8
theorem aw_a : aw2.inV 5 = 99 := by kernel_rfl
theorem aw_b : (aw2.inS 5).inV 0 = 7 := by kernel_rfl
theorem aw_c : ((aw2.inS 5).inS 0).sent.length + 1 ≤ 140737488355328 := by decide
set_option maxHeartbeats 1000000 in
theorem awake_any (w : World) : Calls Try.prog 8 #[] w fun e w' => e = .returned (.bool true) ∧ Below w.heap.size w w' := by
  have E1 := Lib.hid aw_a
  have E2 := Lib.hid aw_b
  go_enter Try.func8, Try.ntmps8
  go_wp2_with fail
  refine (new_at w).mono ?_
  rintro e w1 ⟨b, rfl, A1⟩
  go_wp2_with fail
  refine (out_at A1 0 65 (by decide) (by decide)).mono ?_
  rintro e w2 ⟨rfl, A2⟩
  have A2 : UAt w w2 b aw1 (fun _ => False) w1 := A2
  go_wp2_with fail
  refine (sent_at A2).mono ?_
  rintro e w3 ⟨v, rfl, R, hv, A3, -⟩
  obtain ⟨g, c, rfl, hc, hg⟩ := byte_at (L := [65]) R 0 65 rfl
  have HC := Lib.hid hc
  have HG := Lib.hid hg
  clear hc hg hv R
  go_wp2_with fail
  refine (push_at A3 7 (by decide)).mono ?_
  rintro e w4 ⟨rfl, A4⟩
  go_wp2_with fail
  refine (push_at A4 8 (by decide)).mono ?_
  rintro e w5 ⟨rfl, A5⟩
  have A5 : UAt w w5 b aw2 _ w3 := A5
  go_wp2_with fail
  refine (in_at A5 5).mono ?_
  rintro e w6 ⟨rfl, A6⟩
  rw [E1.out]
  go_wp2_with fail
  refine (in_at A6 0).mono ?_
  rintro e w7 ⟨rfl, A7⟩
  rw [E2.out]
  have hc : w7.cell? ⟨g, 0, none⟩ = some (.int .u8 65) := (World.cell?_of_block (A7.kept (.inr rfl))).trans HC.out
  have hg : g < w7.heap.size := cell_block_lt hc
  have hln : Value.slice (some ⟨g, 0, none⟩) aw1.sent.length c = .slice (some ⟨g, 0, none⟩) 1 c := rfl
  have HLN := Lib.hid hln
  clear hln
  go_wp2_with fail
  refine (out_at A7 8 0 (by decide) aw_c).mono ?_
  rintro e w8 ⟨rfl, A8⟩
  go_wp2_with fail
  go_ret
  exact ⟨rfl, A8.below⟩
end Go.Proofs.Ytliiccmpfmgioaa
