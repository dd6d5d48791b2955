/- ide's laws: a law's own block beside the disk; bytes as a string. -/
import Derived.Test.YtebhnfoehgpilaaIdeQ
import Derived.Laws.BytesArg
namespace Go.Proofs.Ytebhnfoehgpilaa
open Go.RowKit
set_option linter.unusedVariables false

/-- n bytes as a string. -/
def strOf (n : Nat) (f : Nat → Nat) : ByteArray := strOfNums ((List.range n).map fun i => ((f i : Nat) : Int))
theorem row_cell {w : World} {B : Nat} {v : Value} {m : Nat} {d : Nat → Nat} (h : w.ownsRow B 5 1 v m (bytesL m d)) (i : Nat) (hi : i < m) :
    ∃ g cap, v = .slice (some ⟨g, 0, none⟩) m cap ∧ w.cell? ⟨g, i, none⟩ = some (.int .u8 (d i : Nat)) ∧ g < w.heap.size := by
  rcases h.2 with ⟨rfl, h0⟩ | ⟨g, cap, cur, rfl, _, hg, h1, h2, h3, h4⟩
  · omega
  · refine ⟨g, cap, rfl, ?_, heap_lt hg⟩
    rw [cell_at hg]
    rw [Nat.mul_one] at h4
    have := congrArg (fun l => l[i]?) h4
    rw [List.getElem?_take, if_pos hi, bytesL_at _ _ _ hi, Array.getElem?_toList] at this
    exact this
theorem conv_row {w : World} {B : Nat} {v : Value} {n : Nat} {f : Nat → Nat} (h : w.ownsRow B 5 1 v n (bytesL n f)) :
    (convert 23 9 v).run Try.prog w = .ok (.string (strOf n f)) w := by
  have hc := row_cell h
  rcases h.2 with ⟨rfl, h0⟩ | ⟨g, cap, cur, rfl, _, hg, h1, h2, h3, h4⟩
  · subst h0
    exact run_convert_bytes_nil _ _ _ Try.underlying23 Try.underlying5 0 0 _ Try.underlying9
  · refine run_convert_bytes_arg w _ _ Try.underlying23 Try.underlying5 g 0 n cap ((List.range n).map fun i => ((f i : Nat) : Int)) (by simp) ?_ _ Try.underlying9
    intro i hi
    obtain ⟨g', cap', e, hx, _⟩ := hc i hi
    injection e with e1 e2 e3
    injection e1 with e1
    injection e1 with e1
    subst e1
    rw [Nat.zero_add, hx]
    simp [List.getD, hi]
theorem row_keep {w w' : World} {B C : Nat} {v : Value} {n : Nat} {f : Nat → Nat} (h : w.ownsRow B 5 1 v n (bytesL n f)) (hb : Below C w w') (hC : w.heap.size ≤ C) : w'.ownsRow B 5 1 v n (bytesL n f) :=
  row_of_heap h fun k hk => hb.block k (Nat.lt_of_lt_of_le (World.ownsRow.lt h k hk).2 hC)

/-- As 'At', and a block g that is the law's own. -/
def AtF (w0 w : World) (b : Nat) (D : Dk) (g : Nat) (o : Obj) : Prop :=
  ∃ ds lv, IdeIn 56 w b ds lv D ∧ D.room ∧ (∀ k, Held b ds lv k → w0.heap.size ≤ k ∧ k ≠ g) ∧ w.heap[g]? = some o ∧ Below w0.heap.size w0 w
section
variable {w0 w w' : World} {b g : Nat} {D : Dk} {o : Obj}
theorem AtF.at (h : AtF w0 w b D g o) : At w0 w b D := by
  obtain ⟨ds, lv, H, R, N, O, B⟩ := h
  exact ⟨ds, lv, H, R, fun k hk => (N k hk).1, B⟩
theorem AtF.obj (h : AtF w0 w b D g o) : w.heap[g]? = some o := by obtain ⟨ds, lv, H, R, N, O, B⟩ := h; exact O
theorem AtF.new (h : At w0 w b D) (hb : Below w.heap.size w w') (ho : w'.heap[w.heap.size]? = some o) : AtF w0 w' b D w.heap.size o := by
  obtain ⟨ds, lv, H, R, N, B⟩ := h
  exact ⟨ds, lv, H.keeps (Keeps.ofBelow (S := fun _ => False) hb) (fun _ _ h => h), R, fun k hk => ⟨N k hk, Nat.ne_of_lt (hk.lt H)⟩, ho, Keeps.toBelow B (Keeps.ofBelow (S := fun _ => False) hb) B.size (fun _ h => h.elim)⟩
theorem wentF {ds lv : Value} {D1 : Dk} {w1 : World} (H : IdeIn 56 w b ds lv D) (R : D1.room) (N : ∀ k, Held b ds lv k → w0.heap.size ≤ k ∧ k ≠ g) (O : w.heap[g]? = some o) (B : Below w0.heap.size w0 w) (h : Went w b ds lv D1 w1) : AtF w0 w1 b D1 g o := by
  obtain ⟨lv1, H1, K, N1⟩ := h
  have hg := heap_lt O
  refine ⟨ds, lv1, H1, R, fun k hk => ?_, heap_keeps K (fun hi => (N g hi).2 rfl) O, Keeps.toBelow B K B.size fun i hi => (N i hi).1⟩
  rcases hk with hk | hk | hk
  · exact N k (.inl hk)
  · exact N k (.inr (.inl hk))
  · rcases N1 k hk with h | h
    · exact N k (.inr (.inr h))
    · exact ⟨Nat.le_trans B.size h, by omega⟩
theorem out_atF (h : AtF w0 w b D g o) (reg size : Int) (v : Nat) (hv : v < 4294967296) (hL : D.log.length + 4 < 17592186044416) :
    Calls Try.prog 12 #[.pointer (some ⟨b, 0, none⟩), .int .i64 reg, .int .i64 size, .int .u32 v] w fun e w' => e = .returned (.int .i64 (callErr reg size)) ∧ AtF w0 w' b (D.out reg size v) g o := by
  obtain ⟨ds, lv, H, R, N, O, B⟩ := h
  refine (out_any H R reg size v hv hL).mono ?_
  rintro e w1 ⟨rfl, W⟩
  exact ⟨rfl, wentF H (Dk.room_out R reg size v) N O B W⟩
theorem in_atF (h : AtF w0 w b D g o) (reg size : Int) :
    Calls Try.prog 13 #[.pointer (some ⟨b, 0, none⟩), .int .i64 reg, .int .i64 size] w fun e w' => e = .returned (.tuple #[.int .u32 (D.inV reg size : Nat), .int .i64 (callErr reg size)]) ∧ AtF w0 w' b (D.inS reg size) g o := by
  obtain ⟨ds, lv, H, R, N, O, B⟩ := h
  refine (in_any H R reg size).mono ?_
  rintro e w1 ⟨rfl, W⟩
  exact ⟨rfl, wentF H (Dk.room_inS R reg size) N O B W⟩
theorem row_len {w : World} {B : Nat} {E : TypeId} {n : Nat} {v : Value} {xs : List Value} (h : w.ownsRow B E 1 v n xs) : ∃ a c, v = .slice a n c := by
  rcases h.2 with ⟨rfl, h0⟩ | ⟨g, cap, cur, rfl, _, hg, h1, h2, h3, h4⟩
  · subst h0; exact ⟨_, _, rfl⟩
  · exact ⟨_, _, rfl⟩
/-- What was written is told. -/
theorem written_at (h : At w0 w b D) :
    Calls Try.prog 17 #[.pointer (some ⟨b, 0, none⟩)] w fun e w' => ∃ a c, e = .returned (.slice a D.log.length c) ∧ At w0 w' b D.quit ∧ w'.ownsRow 0 3 1 (.slice a D.log.length c) D.log.length (D.log.map fun x => .int .i64 (x : Nat)) := by
  obtain ⟨ds, lv, H, R, N, B⟩ := h
  refine (written_in H).mono ?_
  rintro e w1 ⟨rfl, H1, K⟩
  have hl := H.log
  have d2 := H.d2
  have hr : w1.ownsRow 0 3 1 lv D.log.length (D.log.map fun x => .int .i64 (x : Nat)) := row_of_heap hl fun k hk => K.block k (World.ownsRow.lt hl k hk).2 fun e => d2 (by rw [hk, e])
  obtain ⟨a, c, rfl⟩ := row_len hl
  refine ⟨a, c, rfl, ⟨ds, _, H1, R, fun k hk => ?_, Keeps.toBelow B K B.size fun i hi => ?_⟩, hr⟩
  · rcases hk with hk | hk | hk
    · exact N k (.inl hk)
    · exact N k (.inr (.inl hk))
    · cases hk
  · exact N i (.inl hi)
end
end Go.Proofs.Ytebhnfoehgpilaa
