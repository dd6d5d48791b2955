/- uart's law: the program's port and the document's, side by side; a script of calls as an argument. -/
import Derived.Test.YtliiccmpfmgioaaUartU
namespace Go.Proofs.Ytliiccmpfmgioaa
open Go.RowKit Go.WideShapes Go.ChangeShapes Go.Conc
set_option linter.unusedVariables false

/-- Two ports behind the world w0 that share no block; the blocks of F are the law's own and hold what they held in wF. -/
def Two (w0 w : World) (b rb : Nat) (U V : Ut) (F : Nat → Prop) (wF : World) : Prop :=
  ∃ q sv cv ov, UtIn w b q sv U ∧ RfIn w rb cv ov V ∧ (∀ k, Held b q sv k → w0.heap.size ≤ k ∧ ¬ RHeld rb cv ov k ∧ ¬ F k) ∧ (∀ k, RHeld rb cv ov k → w0.heap.size ≤ k ∧ ¬ F k) ∧
    (∀ k, F k → w0.heap.size ≤ k ∧ k < wF.heap.size ∧ w.heap[k]? = wF.heap[k]?) ∧ Below w0.heap.size w0 w ∧ wF.heap.size ≤ w.heap.size
section
variable {w0 w w' wF : World} {b rb : Nat} {U V : Ut} {F : Nat → Prop}
theorem Two.below (h : Two w0 w b rb U V F wF) : Below w0.heap.size w0 w := by obtain ⟨q, sv, cv, ov, H, R, N, M, f, B, s⟩ := h; exact B
theorem Two.isok (h : Two w0 w b rb U V F wF) : U.ok := by obtain ⟨q, sv, cv, ov, H, R, N, M, f, B, s⟩ := h; exact H.ok
theorem Two.kept (h : Two w0 w b rb U V F wF) {k : Nat} (hk : F k) : w.heap[k]? = wF.heap[k]? := by obtain ⟨q, sv, cv, ov, H, R, N, M, f, B, s⟩ := h; exact (f k hk).2.2
theorem Two.cell (h : Two w0 w b rb U V F wF) {k : Nat} (hk : F k) (j : Nat) : w.cell? ⟨k, j, none⟩ = wF.cell? ⟨k, j, none⟩ := World.cell?_of_block (h.kept hk)
theorem Two.row (h : Two w0 w b rb U V F wF) {B n : Nat} {E : TypeId} {v : Value} {xs : List Value} (hr : wF.ownsRow B E 1 v n xs) (hg : ∀ k, v.ownBlock = some k → F k) : w.ownsRow B E 1 v n xs := row_of_heap hr fun k hk => h.kept (hg k hk)
/-- The law's own blocks may be turned, and new ones made. -/
theorem Two.touch (h : Two w0 w b rb U V F wF) {S : Nat → Prop} (K : Keeps S w w') (hS : ∀ k, S k → F k) : Two w0 w' b rb U V F w' := by
  obtain ⟨q, sv, cv, ov, H, R, N, M, f, B, s⟩ := h
  exact ⟨q, sv, cv, ov, H.keeps K fun k hk hs => (N k hk).2.2 (hS k hs), R.of_heap fun k hk => K.block k (R.lt hk) fun hs => (M k hk).2 (hS k hs), N, M,
    fun k hk => ⟨(f k hk).1, Nat.lt_of_lt_of_le (f k hk).2.1 (Nat.le_trans s K.size), rfl⟩, Keeps.toBelow B K B.size fun k hk => (f k (hS k hk)).1, Nat.le_refl _⟩
theorem Two.grow (h : Two w0 w b rb U V F wF) (o : Obj) : Two w0 (w.alloc o) b rb U V (fun k => F k ∨ k = w.heap.size) (w.alloc o) := by
  obtain ⟨q, sv, cv, ov, H, R, N, M, f, B, s⟩ := h
  have hs : (w.alloc o).heap.size = w.heap.size + 1 := by simp
  refine ⟨q, sv, cv, ov, H.of_heap fun k hk => Below.heap_alloc _ _ _ (H.lt hk), R.of_heap fun k hk => Below.heap_alloc _ _ _ (R.lt hk), fun k hk => ⟨(N k hk).1, (N k hk).2.1, ?_⟩, fun k hk => ⟨(M k hk).1, ?_⟩, fun k hk => ⟨?_, ?_, rfl⟩, B.alloc B.size _, Nat.le_refl _⟩
  · rintro (h | h)
    · exact (N k hk).2.2 h
    · have := H.lt hk; omega
  · rintro (h | h)
    · exact (M k hk).2 h
    · have := R.lt hk; omega
  · rcases hk with h | h
    · exact (f k h).1
    · rw [h]; exact B.size
  · rcases hk with h | h
    · have := (f k h).2.1; omega
    · omega
/-- Fewer blocks are the law's own. -/
theorem Two.fewer (h : Two w0 w b rb U V F wF) {G : Nat → Prop} (hG : ∀ k, G k → F k) : Two w0 w b rb U V G wF := by
  obtain ⟨q, sv, cv, ov, H, R, N, M, f, B, s⟩ := h
  exact ⟨q, sv, cv, ov, H, R, fun k hk => ⟨(N k hk).1, (N k hk).2.1, fun h => (N k hk).2.2 (hG k h)⟩, fun k hk => ⟨(M k hk).1, fun h => (M k hk).2 (hG k h)⟩, fun k hk => f k (hG k hk), B, s⟩
theorem Two.move (h : Two w0 w b rb U V F wF) (hb : Below w.heap.size w w') : Two w0 w' b rb U V F wF := by
  obtain ⟨q, sv, cv, ov, H, R, N, M, f, B, s⟩ := h
  exact ⟨q, sv, cv, ov, H.of_heap fun k hk => hb.block k (H.lt hk), R.of_heap fun k hk => hb.block k (R.lt hk), N, M, fun k hk => ⟨(f k hk).1, (f k hk).2.1, (hb.block k (Nat.lt_of_lt_of_le (f k hk).2.1 s)).trans (f k hk).2.2⟩, B.trans (hb.mono B.size), Nat.le_trans s hb.size⟩
theorem Two.drewN (h : Two w0 w b rb U V F wF) (n : Nat) : Two w0 (w.drewN n) b rb U V F wF := h.move ⟨rfl, rfl, rfl, Nat.le_refl _, fun _ _ => rfl⟩
/-- A call of the program's port. -/
theorem Two.went {q : Nat} {sv cv ov : Value} {U' : Ut} (H : UtIn w b q sv U) (R : RfIn w rb cv ov V) (N : ∀ k, Held b q sv k → w0.heap.size ≤ k ∧ ¬ RHeld rb cv ov k ∧ ¬ F k) (M : ∀ k, RHeld rb cv ov k → w0.heap.size ≤ k ∧ ¬ F k)
    (f : ∀ k, F k → w0.heap.size ≤ k ∧ k < wF.heap.size ∧ w.heap[k]? = wF.heap[k]?) (B : Below w0.heap.size w0 w) (s : wF.heap.size ≤ w.heap.size) (h : Went w b q sv U' w') : Two w0 w' b rb U' V F wF := by
  obtain ⟨sv', H', K, hsv⟩ := h
  have hn : ∀ k, Held b q sv' k → Held b q sv k ∨ w.heap.size ≤ k := fun k hk => by
    rcases hk with hk | hk | hk
    · exact .inl (.inl hk)
    · exact .inl (.inr (.inl hk))
    · exact (hsv k hk).imp (fun h => .inr (.inr h)) id
  refine ⟨q, sv', cv, ov, H', R.of_heap fun k hk => K.block k (R.lt hk) fun h => (N k h).2.1 hk, fun k hk => ?_, M, fun k hk => ⟨(f k hk).1, (f k hk).2.1, (K.block k (Nat.lt_of_lt_of_le (f k hk).2.1 s) fun h => (N k h).2.2 hk).trans (f k hk).2.2⟩,
    Keeps.toBelow B K B.size fun k hk => (N k hk).1, Nat.le_trans s K.size⟩
  rcases hn k hk with h1 | h1
  · exact N k h1
  · exact ⟨Nat.le_trans B.size h1, fun h => by have := R.lt h; omega, fun h => by have := (f k h).2.1; omega⟩
/-- A call of the document's port. -/
theorem Two.rwent {q : Nat} {sv cv ov : Value} {V' : Ut} (H : UtIn w b q sv U) (R : RfIn w rb cv ov V) (N : ∀ k, Held b q sv k → w0.heap.size ≤ k ∧ ¬ RHeld rb cv ov k ∧ ¬ F k) (M : ∀ k, RHeld rb cv ov k → w0.heap.size ≤ k ∧ ¬ F k)
    (f : ∀ k, F k → w0.heap.size ≤ k ∧ k < wF.heap.size ∧ w.heap[k]? = wF.heap[k]?) (B : Below w0.heap.size w0 w) (s : wF.heap.size ≤ w.heap.size) (h : RWent w rb cv ov V' w') : Two w0 w' b rb U V' F wF := by
  obtain ⟨cv', ov', R', K, hn⟩ := h
  refine ⟨q, sv, cv', ov', H.keeps K fun k hk h => (N k hk).2.1 h, R', fun k hk => ⟨(N k hk).1, fun h => ?_, (N k hk).2.2⟩, fun k hk => ?_, fun k hk => ⟨(f k hk).1, (f k hk).2.1, (K.block k (Nat.lt_of_lt_of_le (f k hk).2.1 s) fun h => (M k h).2 hk).trans (f k hk).2.2⟩,
    Keeps.toBelow B K B.size fun k hk => (M k hk).1, Nat.le_trans s K.size⟩
  · rcases hn k h with h1 | h1
    · exact (N k hk).2.1 h1
    · have := H.lt hk; omega
  · rcases hn k hk with h1 | h1
    · exact M k h1
    · exact ⟨Nat.le_trans B.size h1, fun h => by have := (f k h).2.1; omega⟩
/-- A port, and then the document's. -/
theorem rnew_two (h : UAt w0 w b U (fun _ => False) wF) : Calls Try.prog 13 #[] w fun e w' => ∃ rb, e = .returned (.pointer (some ⟨rb, 0, none⟩)) ∧ Two w0 w' b rb U Ut.new (fun _ => False) w' := by
  obtain ⟨q, sv, H, N, g, B, s⟩ := h
  refine (rnew_any w).mono ?_
  rintro e w1 ⟨rfl, R, Bl⟩
  refine ⟨_, rfl, q, sv, _, _, H.of_heap fun k hk => Bl.block k (H.lt hk), R, fun k hk => ⟨(N k hk).1, fun h => ?_, fun h => h⟩, fun k hk => ⟨?_, fun h => h⟩, fun k h => h.elim, B.trans (Bl.mono B.size), Nat.le_refl _⟩
  · rcases h with h | h | h
    · have := H.lt hk; omega
    · cases h
    · cases h
  · rcases hk with h | h | h
    · rw [h]; exact B.size
    · cases h
    · cases h
theorem out_two (h : Two w0 w b rb U V F wF) (reg : Int) (v : Nat) (hv : v < 256) (hL : U.sent.length + 1 ≤ 140737488355328) :
    Calls Try.prog 10 #[.pointer (some ⟨b, 0, none⟩), .int .i64 reg, .int .u8 (v : Nat)] w fun e w' => e = .returned (.int .i64 (callErr reg)) ∧ Two w0 w' b rb (U.out reg v) V F wF := by
  obtain ⟨q, sv, cv, ov, H, R, N, M, f, B, s⟩ := h
  refine (out_any H reg v hv hL).mono ?_
  rintro e w1 ⟨rfl, W⟩
  exact ⟨rfl, Two.went H R N M f B s W⟩
theorem rwrite_two (h : Two w0 w b rb U V F wF) (reg : Int) (v : Nat) (hv : v < 256) (hL : V.sent.length + 1 ≤ 140737488355328) :
    Calls Try.prog 14 #[.pointer (some ⟨rb, 0, none⟩), .int .i64 reg, .int .u8 (v : Nat)] w fun e w' => e = .returned (.int .i64 (callErr reg)) ∧ Two w0 w' b rb U (V.out reg v) F wF := by
  obtain ⟨q, sv, cv, ov, H, R, N, M, f, B, s⟩ := h
  refine (rwrite_any R reg v hv hL).mono ?_
  rintro e w1 ⟨rfl, W⟩
  exact ⟨rfl, Two.rwent H R N M f B s W⟩
theorem in_two (h : Two w0 w b rb U V F wF) (reg : Int) :
    Calls Try.prog 12 #[.pointer (some ⟨b, 0, none⟩), .int .i64 reg] w fun e w' => e = .returned (.tuple #[.int .u8 (U.inV reg : Nat), .int .i64 (callErr reg)]) ∧ Two w0 w' b rb (U.inS reg) V F wF := by
  obtain ⟨q, sv, cv, ov, H, R, N, M, f, B, s⟩ := h
  refine (in_any H reg).mono ?_
  rintro e w1 ⟨rfl, W⟩
  exact ⟨rfl, Two.went H R N M f B s W⟩
theorem rread_two (h : Two w0 w b rb U V F wF) (reg : Int) :
    Calls Try.prog 15 #[.pointer (some ⟨rb, 0, none⟩), .int .i64 reg] w fun e w' => e = .returned (.tuple #[.int .u8 (V.inV reg : Nat), .int .i64 (callErr reg)]) ∧ Two w0 w' b rb U (V.inS reg) F wF := by
  obtain ⟨q, sv, cv, ov, H, R, N, M, f, B, s⟩ := h
  refine (rread_any R reg).mono ?_
  rintro e w1 ⟨rfl, W⟩
  exact ⟨rfl, Two.rwent H R N M f B s W⟩
theorem push_two (h : Two w0 w b rb U V F wF) (x : Nat) (hx : x < 256) :
    Calls Try.prog 16 #[.pointer (some ⟨b, 0, none⟩), .int .u8 (x : Nat)] w fun e w' => e = .returned (.tuple #[]) ∧ Two w0 w' b rb (U.push x) V F wF := by
  obtain ⟨q, sv, cv, ov, H, R, N, M, f, B, s⟩ := h
  refine (push_any H x hx).mono ?_
  rintro e w1 ⟨rfl, H1, K⟩
  exact ⟨rfl, Two.went H R N M f B s (Went.of H1 (K.mono fun k _ e => e.imp id fun e => .inl e))⟩
theorem rpush_two (h : Two w0 w b rb U V F wF) (x : Nat) (hx : x < 256) :
    Calls Try.prog 17 #[.pointer (some ⟨rb, 0, none⟩), .int .u8 (x : Nat)] w fun e w' => e = .returned (.tuple #[]) ∧ Two w0 w' b rb U (V.push x) F wF := by
  obtain ⟨q, sv, cv, ov, H, R, N, M, f, B, s⟩ := h
  refine (rpush_any R x hx).mono ?_
  rintro e w1 ⟨rfl, W⟩
  exact ⟨rfl, Two.rwent H R N M f B s W⟩
theorem line_two (h : Two w0 w b rb U V F wF) :
    Calls Try.prog 19 #[.pointer (some ⟨b, 0, none⟩)] w fun e w' => e = .returned (.bool U.line) ∧ w = w' := by
  obtain ⟨q, sv, cv, ov, H, R, N, M, f, B, s⟩ := h
  exact line_any H
theorem rline_two (h : Two w0 w b rb U V F wF) :
    Calls Try.prog 20 #[.pointer (some ⟨rb, 0, none⟩)] w fun e w' => e = .returned (.bool V.line) ∧ w = w' := by
  obtain ⟨q, sv, cv, ov, H, R, N, M, f, B, s⟩ := h
  exact rline_any R
theorem sent_two (h : Two w0 w b rb U V F wF) :
    Calls Try.prog 11 #[.pointer (some ⟨b, 0, none⟩)] w fun e w' => ∃ v, e = .returned v ∧ w'.ownsRow 0 5 1 v U.sent.length (bytesV U.sent) ∧
      Two w0 w' b rb U.quit V (fun k => F k ∨ v.ownBlock = some k) w' ∧ ∀ g, F g → w'.heap[g]? = wF.heap[g]? := by
  obtain ⟨q, sv, cv, ov, H, R, N, M, f, B, s⟩ := h
  refine (sent_any H).mono ?_
  rintro e w1 ⟨rfl, H1, Rw, K⟩
  have hb := H.bs
  have hq := H.qs
  have hB1 : Held b q sv b := .inl rfl
  have hQ1 : Held b q sv q := .inr (.inl rfl)
  have hnot : ∀ k, F k → w1.heap[k]? = wF.heap[k]? := fun k hk => (K.block k (Nat.lt_of_lt_of_le (f k hk).2.1 s) (fun h => by
    rcases h with rfl | rfl
    · exact (N _ hB1).2.2 hk
    · exact (N _ hQ1).2.2 hk)).trans (f k hk).2.2
  refine ⟨sv, rfl, Rw, ⟨q, _, cv, ov, H1, R.of_heap fun k hk => K.block k (R.lt hk) (fun h => by
    rcases h with rfl | rfl
    · exact (N _ hB1).2.1 hk
    · exact (N _ hQ1).2.1 hk), fun k hk => ?_, fun k hk => ⟨(M k hk).1, ?_⟩, fun k hk => ⟨?_, ?_, rfl⟩, Keeps.toBelow B K B.size fun k hk => ?_, Nat.le_refl _⟩, hnot⟩
  · rcases hk with rfl | rfl | hk
    · exact ⟨(N _ hB1).1, (N _ hB1).2.1, fun h => h.elim (N _ hB1).2.2 fun h => hb h⟩
    · exact ⟨(N _ hQ1).1, (N _ hQ1).2.1, fun h => h.elim (N _ hQ1).2.2 fun h => hq h⟩
    · cases hk
  · rintro (h | h)
    · exact (M k hk).2 h
    · exact (N k (.inr (.inr h))).2.1 hk
  · rcases hk with hk | hk
    · exact (f k hk).1
    · exact (N k (.inr (.inr hk))).1
  · rcases hk with hk | hk
    · exact Nat.lt_of_lt_of_le (Nat.lt_of_lt_of_le (f k hk).2.1 s) K.size
    · exact (World.ownsRow.lt Rw k hk).2
  · rcases hk with rfl | rfl
    · exact (N _ hB1).1
    · exact (N _ hQ1).1
theorem rsent_two (h : Two w0 w b rb U V F wF) :
    Calls Try.prog 18 #[.pointer (some ⟨rb, 0, none⟩)] w fun e w' => ∃ v, e = .returned v ∧ w'.ownsRow 0 5 1 v V.sent.length (bytesV V.sent) ∧ Two w0 w' b rb U V.quit F wF := by
  obtain ⟨q, sv, cv, ov, H, R, N, M, f, B, s⟩ := h
  refine (rsent_any R).mono ?_
  rintro e w1 ⟨rfl, R1, Rw, K⟩
  have hR : RHeld rb cv ov rb := .inl rfl
  refine ⟨ov, rfl, Rw, q, sv, cv, _, H.keeps K fun k hk h => (N k hk).2.1 (by rw [h]; exact hR), R1, fun k hk => ⟨(N k hk).1, fun h => ?_, (N k hk).2.2⟩, fun k hk => ?_, fun k hk => ⟨(f k hk).1, (f k hk).2.1, (K.block k (Nat.lt_of_lt_of_le (f k hk).2.1 s) fun h => (M k (by rw [h]; exact hR)).2 hk).trans (f k hk).2.2⟩,
    Keeps.toBelow B K B.size fun k hk => by rw [hk]; exact (M rb hR).1, Nat.le_trans s K.size⟩
  · refine (N k hk).2.1 ?_
    rcases h with h | h | h
    · exact .inl h
    · exact .inr (.inl h)
    · cases h
  · refine M k ?_
    rcases hk with h | h | h
    · exact .inl h
    · exact .inr (.inl h)
    · cases h
end

theorem trod_struct3 {H : Type} {enc : TypeId × Value → H} {P : Program} {w : World} {base : Nat} {spare : Nat → Bool} {held : Bool} {t : TypeId} {f0 f1 f2 : Field} {fuel : Nat} {cs : List Value} {x : DataW H × List MemPlace}
    (ht : P.underlying t = some (.struct #[f0, f1, f2])) (h : DataW.trod enc P w base spare held fuel t cs = some x) :
    ∃ y0 y1 y2 n, DataW.trod enc P w base spare held n f0.type ((cs.drop f0.offset).take (P.cellsOf f0.type)) = some y0 ∧
      DataW.trod enc P w base spare held n f1.type ((cs.drop f1.offset).take (P.cellsOf f1.type)) = some y1 ∧ DataW.trod enc P w base spare held n f2.type ((cs.drop f2.offset).take (P.cellsOf f2.type)) = some y2 := by
  obtain ⟨xs, n, _, rfl, hl, hlen, hf⟩ := DataW.trod_struct ht h
  match xs, hlen with
  | [y0, y1, y2], _ => exact ⟨y0, y1, y2, n, by simpa using hf 0 f0 rfl, by simpa using hf 1 f1 rfl, by simpa using hf 2 f2 rfl⟩
/-- A script. -/
structure OpsAt (w : World) (b off len : Nat) (kd rg : Nat → Int) (v : Nat → Nat) : Prop where
  c0 : ∀ i, i < len → w.cell? ⟨b, off + i * 3, none⟩ = some (.int .i64 (kd i))
  c1 : ∀ i, i < len → w.cell? ⟨b, off + i * 3 + 1, none⟩ = some (.int .i64 (rg i))
  c2 : ∀ i, i < len → w.cell? ⟨b, off + i * 3 + 2, none⟩ = some (.int .u8 (v i : Nat))
  u2 : ∀ i, i < len → v i < 256
  hb : b < w.heap.size
theorem OpsAt.below {w w1 : World} {b off len : Nat} {kd rg : Nat → Int} {v : Nat → Nat} {B : Nat} (h : OpsAt w b off len kd rg v) (hb : Below B w w1) (hB : b < B) : OpsAt w1 b off len kd rg v :=
  ⟨fun i hi => (hb.cell hB).trans (h.c0 i hi), fun i hi => (hb.cell hB).trans (h.c1 i hi), fun i hi => (hb.cell hB).trans (h.c2 i hi), h.u2, Nat.lt_of_lt_of_le h.hb hb.size⟩
def OpsIn (w : World) (a : Option Addr) (len : Nat) (kd rg : Nat → Int) (v : Nat → Nat) : Prop := len = 0 ∨ ∃ b off, a = some ⟨b, off, none⟩ ∧ OpsAt w b off len kd rg v
theorem arg_ops {H : Type} {enc : TypeId × Value → H} {w : World} {r : Reach} {base base' : Nat} {spare : Nat → Bool} {held : Bool} {v : Value} {d : DataW H} {ps : List MemPlace}
    (h : Value.okWide Try.prog w r base 32 v) (hd : DataW.Trod enc Try.prog w base' spare held 32 v d ps) :
    ∃ a len cap kd rg x, v = .slice a len cap ∧ len ≤ 9223372036854775807 ∧ OpsIn w a len kd rg x := by
  have hC : Try.prog.cellsOf 36 = 3 := by kernel_rfl
  have h1 : Try.prog.cellsOf 5 = 1 := by kernel_rfl
  have h3 : Try.prog.cellsOf 3 = 1 := by kernel_rfl
  obtain ⟨a, len, cap, rfl, hl, h0 | ⟨b, off, rfl, hb, hrow⟩⟩ := arg_rows (enc := enc) Try.underlying32 (by rw [hC]; decide) h hd
  · exact ⟨a, len, cap, fun _ => 0, fun _ => 0, fun _ => 0, rfl, hl, .inl h0⟩
  · have key : ∀ i, i < len → ∃ (k r u : Int), w.cell? ⟨b, off + i * 3, none⟩ = some (.int .i64 k) ∧ w.cell? ⟨b, off + i * 3 + 1, none⟩ = some (.int .i64 r) ∧ w.cell? ⟨b, off + i * 3 + 2, none⟩ = some (.int .u8 u) ∧ (0 ≤ u ∧ u < 256) := by
      intro i hi
      obtain ⟨cs, y, n, hcl, hat, hy⟩ := hrow i hi
      rw [hC] at hcl hat
      obtain ⟨y0, y1, y2, m, g0, g1, g2⟩ := trod_struct3 Try.underlying36 hy
      match cs, hcl with
      | [c0, c1, c2], _ =>
        simp only [h1, h3] at g0 g1 g2
        obtain ⟨p0, e0, _, w0⟩ := DataW.trod_int Try.underlying3 g0
        obtain ⟨p1, e1, _, w1⟩ := DataW.trod_int Try.underlying3 g1
        obtain ⟨p2, e2, _, w2⟩ := DataW.trod_int Try.underlying5 g2
        have a0 := hat 0 (by decide)
        have a1 := hat 1 (by decide)
        have a2 := hat 2 (by decide)
        simp at e0 e1 e2 a0 a1 a2
        subst e0 e1 e2
        simp only [Nat.add_assoc]
        exact ⟨p0, p1, p2, a0, a1, a2, wf_u8 w2⟩
    refine ⟨_, len, cap, fun i => numAt w b (off + i * 3), fun i => numAt w b (off + i * 3 + 1), fun i => (numAt w b (off + i * 3 + 2)).toNat, rfl, hl, .inr ⟨b, off, rfl, ?_, ?_, ?_, ?_, hb⟩⟩
    all_goals
      intro i hi
      obtain ⟨k, r, u, a0, a1, a2, p0, p1⟩ := key i hi
    · rw [a0, numAt_of a0]
    · rw [a1, numAt_of a1]
    · rw [a2, numAt_of a2]; congr 2; omega
    · rw [numAt_of a2]; omega
end Go.Proofs.Ytliiccmpfmgioaa
