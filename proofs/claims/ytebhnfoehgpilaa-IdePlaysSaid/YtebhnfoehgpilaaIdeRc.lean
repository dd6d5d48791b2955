/- ide's law: the program's disk and the document's, side by side. -/
import Derived.Test.YtebhnfoehgpilaaIdeRb
import Derived.Test.YtebhnfoehgpilaaIdeU
namespace Go.Proofs.Ytebhnfoehgpilaa
open Go.RowKit Go.WideShapes Go.ChangeShapes
set_option linter.unusedVariables false

/-- Two ports behind the world w0 that share no block; the blocks of F are the law's own and hold what they held in wF. -/
def Two (w0 w : World) (b rb : Nat) (U V : Dk) (F : Nat → Prop) (wF : World) : Prop :=
  ∃ ds lv rds rlv, IdeIn 56 w b ds lv U ∧ IdeIn 51 w rb rds rlv V ∧ (U.room ∧ V.room) ∧ (∀ k, Held b ds lv k → w0.heap.size ≤ k ∧ ¬ Held rb rds rlv k ∧ ¬ F k) ∧ (∀ k, Held rb rds rlv k → w0.heap.size ≤ k ∧ ¬ F k) ∧
    (∀ k, F k → w0.heap.size ≤ k ∧ k < wF.heap.size ∧ w.heap[k]? = wF.heap[k]?) ∧ Below w0.heap.size w0 w ∧ wF.heap.size ≤ w.heap.size
section
variable {w0 w w' wF : World} {b rb : Nat} {U V : Dk} {F : Nat → Prop}
theorem Two.below (h : Two w0 w b rb U V F wF) : Below w0.heap.size w0 w := by obtain ⟨ds, lv, rds, rlv, H, R, O, N, M, f, B, s⟩ := h; exact B
theorem Two.isok (h : Two w0 w b rb U V F wF) : U.ok := by obtain ⟨ds, lv, rds, rlv, H, R, O, N, M, f, B, s⟩ := h; exact H.ok
theorem Two.theRoom (h : Two w0 w b rb U V F wF) : U.room := by obtain ⟨ds, lv, rds, rlv, H, R, O, N, M, f, B, s⟩ := h; exact O.1
theorem Two.kept (h : Two w0 w b rb U V F wF) {k : Nat} (hk : F k) : w.heap[k]? = wF.heap[k]? := by obtain ⟨ds, lv, rds, rlv, H, R, O, N, M, f, B, s⟩ := h; exact (f k hk).2.2
theorem Two.cell (h : Two w0 w b rb U V F wF) {k : Nat} (hk : F k) (j : Nat) : w.cell? ⟨k, j, none⟩ = wF.cell? ⟨k, j, none⟩ := World.cell?_of_block (h.kept hk)
theorem Two.row (h : Two w0 w b rb U V F wF) {B n : Nat} {E : TypeId} {v : Value} {xs : List Value} (hr : wF.ownsRow B E 1 v n xs) (hg : ∀ k, v.ownBlock = some k → F k) : w.ownsRow B E 1 v n xs := row_of_heap hr fun k hk => h.kept (hg k hk)
/-- The law's own blocks may be turned, and new ones made. -/
theorem Two.touch (h : Two w0 w b rb U V F wF) {S : Nat → Prop} (K : Keeps S w w') (hS : ∀ k, S k → F k) : Two w0 w' b rb U V F w' := by
  obtain ⟨ds, lv, rds, rlv, H, R, O, N, M, f, B, s⟩ := h
  exact ⟨ds, lv, rds, rlv, H.keeps K fun k hk hs => (N k hk).2.2 (hS k hs), R.of_heap fun k hk => K.block k (hk.lt R) fun hs => (M k hk).2 (hS k hs), O, N, M,
    fun k hk => ⟨(f k hk).1, Nat.lt_of_lt_of_le (f k hk).2.1 (Nat.le_trans s K.size), rfl⟩, Keeps.toBelow B K B.size fun k hk => (f k (hS k hk)).1, Nat.le_refl _⟩
theorem Two.grow (h : Two w0 w b rb U V F wF) (o : Obj) : Two w0 (w.alloc o) b rb U V (fun k => F k ∨ k = w.heap.size) (w.alloc o) := by
  obtain ⟨ds, lv, rds, rlv, H, R, O, N, M, f, B, s⟩ := h
  have hs : (w.alloc o).heap.size = w.heap.size + 1 := by simp
  refine ⟨ds, lv, rds, rlv, H.of_heap fun k hk => Below.heap_alloc _ _ _ (hk.lt H), R.of_heap fun k hk => Below.heap_alloc _ _ _ (hk.lt R), O, fun k hk => ⟨(N k hk).1, (N k hk).2.1, ?_⟩, fun k hk => ⟨(M k hk).1, ?_⟩, fun k hk => ⟨?_, ?_, rfl⟩, B.alloc B.size _, Nat.le_refl _⟩
  · rintro (h | h)
    · exact (N k hk).2.2 h
    · have := hk.lt H; omega
  · rintro (h | h)
    · exact (M k hk).2 h
    · have := hk.lt R; omega
  · rcases hk with h | h
    · exact (f k h).1
    · rw [h]; exact B.size
  · rcases hk with h | h
    · have := (f k h).2.1; omega
    · omega
/-- Fewer blocks are the law's own. -/
theorem Two.fewer (h : Two w0 w b rb U V F wF) {G : Nat → Prop} (hG : ∀ k, G k → F k) : Two w0 w b rb U V G wF := by
  obtain ⟨ds, lv, rds, rlv, H, R, O, N, M, f, B, s⟩ := h
  exact ⟨ds, lv, rds, rlv, H, R, O, fun k hk => ⟨(N k hk).1, (N k hk).2.1, fun h => (N k hk).2.2 (hG k h)⟩, fun k hk => ⟨(M k hk).1, fun h => (M k hk).2 (hG k h)⟩, fun k hk => f k (hG k hk), B, s⟩
theorem Two.move (h : Two w0 w b rb U V F wF) (hb : Below w.heap.size w w') : Two w0 w' b rb U V F wF := by
  obtain ⟨ds, lv, rds, rlv, H, R, O, N, M, f, B, s⟩ := h
  exact ⟨ds, lv, rds, rlv, H.of_heap fun k hk => hb.block k (hk.lt H), R.of_heap fun k hk => hb.block k (hk.lt R), O, N, M, fun k hk => ⟨(f k hk).1, (f k hk).2.1, (hb.block k (Nat.lt_of_lt_of_le (f k hk).2.1 s)).trans (f k hk).2.2⟩, B.trans (hb.mono B.size), Nat.le_trans s hb.size⟩
theorem Two.drewN (h : Two w0 w b rb U V F wF) (n : Nat) : Two w0 (w.drewN n) b rb U V F wF := h.move ⟨rfl, rfl, rfl, Nat.le_refl _, fun _ _ => rfl⟩
/-- A call of the program's port. -/
theorem Two.went {ds lv rds rlv : Value} {U' : Dk} (H : IdeIn 56 w b ds lv U) (R : IdeIn 51 w rb rds rlv V) (O : U'.room ∧ V.room) (N : ∀ k, Held b ds lv k → w0.heap.size ≤ k ∧ ¬ Held rb rds rlv k ∧ ¬ F k) (M : ∀ k, Held rb rds rlv k → w0.heap.size ≤ k ∧ ¬ F k)
    (f : ∀ k, F k → w0.heap.size ≤ k ∧ k < wF.heap.size ∧ w.heap[k]? = wF.heap[k]?) (B : Below w0.heap.size w0 w) (s : wF.heap.size ≤ w.heap.size) (h : Went w b ds lv U' w') : Two w0 w' b rb U' V F wF := by
  obtain ⟨lv', H', K, hsv⟩ := h
  have hn : ∀ k, Held b ds lv' k → Held b ds lv k ∨ w.heap.size ≤ k := fun k hk => by
    rcases hk with hk | hk | hk
    · exact .inl (.inl hk)
    · exact .inl (.inr (.inl hk))
    · exact (hsv k hk).imp (fun h => .inr (.inr h)) id
  refine ⟨ds, lv', rds, rlv, H', R.of_heap fun k hk => K.block k (hk.lt R) fun h => (N k h).2.1 hk, O, fun k hk => ?_, M, fun k hk => ⟨(f k hk).1, (f k hk).2.1, (K.block k (Nat.lt_of_lt_of_le (f k hk).2.1 s) fun h => (N k h).2.2 hk).trans (f k hk).2.2⟩,
    Keeps.toBelow B K B.size fun k hk => (N k hk).1, Nat.le_trans s K.size⟩
  rcases hn k hk with h1 | h1
  · exact N k h1
  · exact ⟨Nat.le_trans B.size h1, fun h => by have := h.lt R; omega, fun h => by have := (f k h).2.1; omega⟩
/-- A call of the document's port. -/
theorem Two.rwent {ds lv rds rlv : Value} {V' : Dk} (H : IdeIn 56 w b ds lv U) (R : IdeIn 51 w rb rds rlv V) (O : U.room ∧ V'.room) (N : ∀ k, Held b ds lv k → w0.heap.size ≤ k ∧ ¬ Held rb rds rlv k ∧ ¬ F k) (M : ∀ k, Held rb rds rlv k → w0.heap.size ≤ k ∧ ¬ F k)
    (f : ∀ k, F k → w0.heap.size ≤ k ∧ k < wF.heap.size ∧ w.heap[k]? = wF.heap[k]?) (B : Below w0.heap.size w0 w) (s : wF.heap.size ≤ w.heap.size) (h : RWent w rb rds rlv V' w') : Two w0 w' b rb U V' F wF := by
  obtain ⟨rlv', R', K, hsv⟩ := h
  have hn : ∀ k, Held rb rds rlv' k → Held rb rds rlv k ∨ w.heap.size ≤ k := fun k hk => by
    rcases hk with hk | hk | hk
    · exact .inl (.inl hk)
    · exact .inl (.inr (.inl hk))
    · exact (hsv k hk).imp (fun h => .inr (.inr h)) id
  refine ⟨ds, lv, rds, rlv', H.keeps K fun k hk h => (N k hk).2.1 h, R', O, fun k hk => ⟨(N k hk).1, fun h => ?_, (N k hk).2.2⟩, fun k hk => ?_, fun k hk => ⟨(f k hk).1, (f k hk).2.1, (K.block k (Nat.lt_of_lt_of_le (f k hk).2.1 s) fun h => (M k h).2 hk).trans (f k hk).2.2⟩,
    Keeps.toBelow B K B.size fun k hk => (M k hk).1, Nat.le_trans s K.size⟩
  · rcases hn k h with h1 | h1
    · exact (N k hk).2.1 h1
    · have := hk.lt H; omega
  · rcases hn k hk with h1 | h1
    · exact M k h1
    · exact ⟨Nat.le_trans B.size h1, fun h => by have := (f k h).2.1; omega⟩
theorem out_two (h : Two w0 w b rb U V F wF) (reg size : Int) (v : Nat) (hv : v < 4294967296) (hL : U.log.length + 4 < 17592186044416) :
    Calls Try.prog 12 #[.pointer (some ⟨b, 0, none⟩), .int .i64 reg, .int .i64 size, .int .u32 v] w fun e w' => e = .returned (.int .i64 (callErr reg size)) ∧ Two w0 w' b rb (U.out reg size v) V F wF := by
  obtain ⟨ds, lv, rds, rlv, H, R, O, N, M, f, B, s⟩ := h
  refine (out_any H O.1 reg size v hv hL).mono ?_
  rintro e w1 ⟨rfl, W⟩
  exact ⟨rfl, Two.went H R ⟨Dk.room_out O.1 _ _ _, O.2⟩ N M f B s W⟩
theorem rout_two (h : Two w0 w b rb U V F wF) (reg size : Int) (v : Nat) (hv : v < 4294967296) (hL : V.log.length + 4 < 17592186044416) :
    Calls Try.prog 19 #[.pointer (some ⟨rb, 0, none⟩), .int .i64 reg, .int .i64 size, .int .u32 v] w fun e w' => e = .returned (.int .i64 (callErr reg size)) ∧ Two w0 w' b rb U (V.out reg size v) F wF := by
  obtain ⟨ds, lv, rds, rlv, H, R, O, N, M, f, B, s⟩ := h
  refine (rout_any R O.2 reg size v hv hL).mono ?_
  rintro e w1 ⟨rfl, W⟩
  exact ⟨rfl, Two.rwent H R ⟨O.1, Dk.room_out O.2 _ _ _⟩ N M f B s W⟩
theorem in_two (h : Two w0 w b rb U V F wF) (reg size : Int) :
    Calls Try.prog 13 #[.pointer (some ⟨b, 0, none⟩), .int .i64 reg, .int .i64 size] w fun e w' => e = .returned (.tuple #[.int .u32 (U.inV reg size : Nat), .int .i64 (callErr reg size)]) ∧ Two w0 w' b rb (U.inS reg size) V F wF := by
  obtain ⟨ds, lv, rds, rlv, H, R, O, N, M, f, B, s⟩ := h
  refine (in_any H O.1 reg size).mono ?_
  rintro e w1 ⟨rfl, W⟩
  exact ⟨rfl, Two.went H R ⟨Dk.room_inS O.1 _ _, O.2⟩ N M f B s W⟩
theorem rin_two (h : Two w0 w b rb U V F wF) (reg size : Int) :
    Calls Try.prog 20 #[.pointer (some ⟨rb, 0, none⟩), .int .i64 reg, .int .i64 size] w fun e w' => e = .returned (.tuple #[.int .u32 (V.inV reg size : Nat), .int .i64 (callErr reg size)]) ∧ Two w0 w' b rb U (V.inS reg size) F wF := by
  obtain ⟨ds, lv, rds, rlv, H, R, O, N, M, f, B, s⟩ := h
  refine (rin_any R O.2 reg size).mono ?_
  rintro e w1 ⟨rfl, W⟩
  exact ⟨rfl, Two.rwent H R ⟨O.1, Dk.room_inS O.2 _ _⟩ N M f B s W⟩
theorem line_two (h : Two w0 w b rb U V F wF) :
    Calls Try.prog 22 #[.pointer (some ⟨b, 0, none⟩)] w fun e w' => e = .returned (.bool U.line) ∧ w = w' := by
  obtain ⟨ds, lv, rds, rlv, H, R, O, N, M, f, B, s⟩ := h
  exact line_in H
theorem rline_two (h : Two w0 w b rb U V F wF) :
    Calls Try.prog 23 #[.pointer (some ⟨rb, 0, none⟩)] w fun e w' => e = .returned (.bool V.line) ∧ w = w' := by
  obtain ⟨ds, lv, rds, rlv, H, R, O, N, M, f, B, s⟩ := h
  exact rline_in R
theorem Nums.of_heap {w w' : World} {v : Value} {L : List Nat} (h : Nums w v L) (hh : ∀ k, v.ownBlock = some k → w'.heap[k]? = w.heap[k]?) : Nums w' v L := by
  obtain ⟨a, c, rfl, h⟩ := h
  refine ⟨a, c, rfl, h.imp id ?_⟩
  rintro ⟨g, off, rfl, hg, hc⟩
  have hk := hh g rfl
  refine ⟨g, off, rfl, ?_, fun i hi => (World.cell?_of_block (a := ⟨g, off + i, none⟩) hk).trans (hc i hi)⟩
  obtain ⟨o, ho⟩ : ∃ o, w.heap[g]? = some o := ⟨_, Array.getElem?_eq_getElem hg⟩
  exact heap_lt (hk.trans ho)
theorem disk_two (h : Two w0 w b rb U V F wF) :
    Calls Try.prog 15 #[.pointer (some ⟨b, 0, none⟩)] w fun e w' => ∃ v, e = .returned v ∧ w'.ownsRow 0 5 1 v (U.n * 512) (bytesL (U.n * 512) U.d) ∧ Two w0 w' b rb U V (fun k => v.ownBlock = some k) w' ∧ Below w.heap.size w w' := by
  obtain ⟨ds, lv, rds, rlv, H, R, O, N, M, f, B, s⟩ := h
  refine (disk_in H).mono ?_
  rintro e w1 ⟨v, rfl, Rw, Bl⟩
  have hlt := World.ownsRow.lt Rw
  refine ⟨v, rfl, row_base Rw, ⟨ds, lv, rds, rlv, H.of_heap fun k hk => Bl.block k (hk.lt H), R.of_heap fun k hk => Bl.block k (hk.lt R), O, fun k hk => ⟨(N k hk).1, (N k hk).2.1, fun hv => ?_⟩, fun k hk => ⟨(M k hk).1, fun hv => ?_⟩, fun k hv => ⟨Nat.le_trans B.size (hlt k hv).1, (hlt k hv).2, rfl⟩, B.trans (Bl.mono B.size), Nat.le_refl _⟩, Bl⟩
  · have := hk.lt H; have := (hlt k hv).1; omega
  · have := hk.lt R; have := (hlt k hv).1; omega
/-- What was written is told: the program's. -/
theorem written_two (h : Two w0 w b rb U V F wF) :
    Calls Try.prog 17 #[.pointer (some ⟨b, 0, none⟩)] w fun e w' => ∃ v, e = .returned v ∧ Nums w' v U.log ∧ Two w0 w' b rb U.quit V (fun k => F k ∨ v.ownBlock = some k) w' ∧ (∀ k, F k → w'.heap[k]? = wF.heap[k]?) ∧ ∀ u, w.cell? ⟨rb, 0, none⟩ = some u → w'.cell? ⟨rb, 0, none⟩ = some u := by
  obtain ⟨ds, lv, rds, rlv, H, R, O, N, M, f, B, s⟩ := h
  refine (written_in H).mono ?_
  rintro e w1 ⟨rfl, H1, K⟩
  have hlg := H.log
  have hll := World.ownsRow.lt hlg
  have hr : w1.ownsRow 0 3 1 lv U.log.length (U.log.map fun x => .int .i64 (x : Nat)) := row_of_heap hlg fun k hk => K.block k (hll k hk).2 fun e => H.d2 (by rw [hk, e])
  have d2 := H.d2
  have d3 := H.d3
  have hb0 := N b (.inl rfl)
  obtain ⟨a, c, rfl⟩ := row_len hlg
  have hkept : ∀ k, F k → w1.heap[k]? = wF.heap[k]? := fun k hk => (K.block k (Nat.lt_of_lt_of_le (f k hk).2.1 s) (fun e => hb0.2.2 (by rw [← e]; exact hk))).trans (f k hk).2.2
  refine ⟨_, rfl, nums_row hr rfl, ⟨ds, _, rds, rlv, H1, R.of_heap fun k hk => K.block k (hk.lt R) (fun e => hb0.2.1 (by rw [← e]; exact hk)), ⟨O.1, O.2⟩, fun k hk => ?_, fun k hk => ⟨(M k hk).1, ?_⟩, fun k hk => ⟨?_, ?_, rfl⟩, Keeps.toBelow B K B.size (fun k hk => by rw [hk]; exact hb0.1), Nat.le_refl _⟩, hkept, fun u hu => (Keeps.cell (p := ⟨rb, 0, none⟩) K (heap_lt R.obj) (fun e => hb0.2.1 (.inl e.symm))).trans hu⟩
  · rcases hk with rfl | hk | hk
    · exact ⟨hb0.1, hb0.2.1, fun h => h.elim hb0.2.2 d2⟩
    · exact ⟨(N k (.inr (.inl hk))).1, (N k (.inr (.inl hk))).2.1, fun h => h.elim (N k (.inr (.inl hk))).2.2 (d3 k hk)⟩
    · cases hk
  · rintro (h | h)
    · exact (M k hk).2 h
    · exact (N k (.inr (.inr h))).2.1 hk
  · rcases hk with hk | hk
    · exact (f k hk).1
    · exact (N k (.inr (.inr hk))).1
  · rcases hk with hk | hk
    · exact Nat.lt_of_lt_of_le (f k hk).2.1 (Nat.le_trans s K.size)
    · exact Nat.lt_of_lt_of_le (hll k hk).2 K.size
theorem rwritten_two (h : Two w0 w b rb U V F wF) :
    Calls Try.prog 21 #[.pointer (some ⟨rb, 0, none⟩)] w fun e w' => ∃ v, e = .returned v ∧ Nums w' v V.log ∧ Two w0 w' b rb U V.quit F wF ∧ ∀ u, w.cell? ⟨rb, 0, none⟩ = some u → w'.cell? ⟨rb, 0, none⟩ = some u := by
  obtain ⟨ds, lv, rds, rlv, H, R, O, N, M, f, B, s⟩ := h
  refine (rwritten_in R).mono ?_
  rintro e w1 ⟨rfl, R1, K⟩
  have hlg := R.log
  have hll := World.ownsRow.lt hlg
  have hr : w1.ownsRow 0 3 1 rlv V.log.length (V.log.map fun x => .int .i64 (x : Nat)) := row_of_heap hlg fun k hk => K.block k (hll k hk).2 fun e => R.d2 (by rw [hk, e])
  have hb0 := M rb (.inl rfl)
  obtain ⟨a, c, rfl⟩ := row_len hlg
  have hsub : ∀ k, Held rb rds (.slice none 0 0) k → Held rb rds (.slice a V.log.length c) k := fun k hk => by
    rcases hk with hk | hk | hk
    · exact .inl hk
    · exact .inr (.inl hk)
    · cases hk
  refine ⟨_, rfl, nums_row hr rfl, ⟨ds, lv, rds, _, H.keeps K fun k hk e => (N k hk).2.1 (.inl e), R1, ⟨O.1, O.2⟩, fun k hk => ⟨(N k hk).1, fun h => (N k hk).2.1 (hsub k h), (N k hk).2.2⟩, fun k hk => M k (hsub k hk),
    fun k hk => ⟨(f k hk).1, (f k hk).2.1, (K.block k (Nat.lt_of_lt_of_le (f k hk).2.1 s) (fun e => hb0.2 (by rw [← e]; exact hk))).trans (f k hk).2.2⟩, Keeps.toBelow B K B.size (fun k hk => by rw [hk]; exact hb0.1), Nat.le_trans s K.size⟩, fun u hu => by rw [R1.facts.1, ← R.facts.1]; exact hu⟩
/-- The document's disk's bytes. -/
theorem Two.rdisk (h : Two w0 w b rb U V F wF) : ∃ a c, w.cell? ⟨rb, 0, none⟩ = some (.slice a (V.n * 512) c) ∧ w.ownsRow 0 5 1 (.slice a (V.n * 512) c) (V.n * 512) (bytesL (V.n * 512) V.d) ∧ rb < w.heap.size := by
  obtain ⟨ds, lv, rds, rlv, H, R, O, N, M, f, B, s⟩ := h
  obtain ⟨a, c, hds⟩ := R.disk.len
  have h0 := R.facts.1
  have hd := R.disk
  unfold Bytes at hd
  rw [hds] at h0 hd
  exact ⟨a, c, h0, hd, heap_lt R.obj⟩
/-- Both are made. -/
theorem new_two {W0 W1 : World} {v : Value} {n : Nat} {d : Nat → Nat} {bb : Nat} {dd : Value} (H : IdeIn 56 W1 bb dd (.slice none 0 0) (Dk.new n d)) (hb : W0.heap.size ≤ bb) (hd : ∀ k, dd.ownBlock = some k → W0.heap.size ≤ k) (B : Below W0.heap.size W0 W1)
    (F : Nat → Prop) (hF : ∀ k, F k → W0.heap.size ≤ k ∧ k < W1.heap.size ∧ ¬ Held bb dd (.slice none 0 0) k) (Hv : Reads W1 v (n * 512) d) (hn : n ≤ 64) (hdd : ∀ i, d i < 256) :
    Calls Try.prog 18 #[v] W1 fun e w' => ∃ rb, e = .returned (.tuple #[.pointer (some ⟨rb, 0, none⟩), .int .i64 0]) ∧ Two W0 w' bb rb (Dk.new n d) (Dk.new n d) F w' ∧ Below W1.heap.size W1 w' := by
  refine (rnew_yes Hv hn hdd).mono ?_
  rintro e w1 ⟨rb, rds, rfl, R, hrb, hrd, Bl⟩
  have hroom : (Dk.new n d).room := room_fresh _
  have hge : ∀ k, Held rb rds (.slice none 0 0) k → W1.heap.size ≤ k := fun k hk => by
    rcases hk with rfl | hk | hk
    · exact hrb
    · exact hrd k hk
    · cases hk
  refine ⟨rb, rfl, ⟨dd, _, rds, _, H.of_heap fun k hk => Bl.block k (hk.lt H), R, ⟨hroom, hroom⟩, fun k hk => ⟨?_, fun h => ?_, fun h => (hF k h).2.2 hk⟩, fun k hk => ⟨Nat.le_trans B.size (hge k hk), fun h => ?_⟩, fun k hk => ⟨(hF k hk).1, Nat.lt_of_lt_of_le (hF k hk).2.1 Bl.size, rfl⟩, B.trans (Bl.mono B.size), Nat.le_refl _⟩, Bl⟩
  · rcases hk with rfl | hk | hk
    · exact hb
    · exact hd k hk
    · cases hk
  · have := hge k h; have := hk.lt H; omega
  · have := hge k hk; have := (hF k h).2.1; omega
end

-- HOW MUCH WAS WRITTEN
/-- What was put so far, at least. -/
def Dk.much (S : Dk) : Nat := S.log.length * 512 + (if S.mode = 2 then S.done else 0)
theorem much_begin (S : Dk) (m : Nat) : (S.begin m).much = S.log.length * 512 := by
  unfold Dk.begin
  split
  · split
    · show S.log.length * 512 + (if 1 = 2 then 0 else 0) = _; simp
    · show S.log.length * 512 + (if m = 2 then 0 else 0) = _; split <;> simp
  · show S.log.length * 512 + (if 0 = 2 then S.done else 0) = _; simp
theorem much_next (S : Dk) : S.next.much = S.log.length * 512 := by
  unfold Dk.next
  split
  · show S.step.log.length * 512 + (if S.step.mode = 2 then S.step.done else 0) = _
    rw [step_log, if_neg (show ¬ S.step.mode = 2 by rw [← Dk.pre_step]; exact (by decide : ¬ (0 : Nat) = 2))]; exact Nat.add_zero _
  · rw [much_begin, step_log]
theorem much_putB {S : Dk} (h : S.room) (v : Nat) : (S.putB v).much ≤ S.much + 1 := by
  unfold Dk.putB
  by_cases hm : S.mode = 2
  · rw [if_pos hm]
    have hd := h (by omega)
    have e : S.much = S.log.length * 512 + S.done := by unfold Dk.much; rw [if_pos hm]
    split
    · have e1 : (S.put1 v).much = S.log.length * 512 + (S.done + 1) := by
        show S.log.length * 512 + (if S.mode = 2 then S.done + 1 else 0) = _
        rw [if_pos hm]
      omega
    · split
      · have e2 : ({ (S.put1 v).write.next with mark := true } : Dk).much = ((S.put1 v).write.next).much := rfl
        rw [e2, much_next, write_log, Dk.put1_log, List.length_append, List.length_singleton]
        omega
      · have e3 : ((S.put1 v).fail 16).much = S.log.length * 512 := by
          show S.log.length * 512 + (if 0 = 2 then S.done + 1 else 0) = _; simp
        omega
  · rw [if_neg hm]; omega
theorem much_puts {S : Dk} (h : S.room) (v k : Nat) : (S.puts v k).much ≤ S.much + k := by
  induction k with
  | zero => rw [Nat.add_zero]; exact Nat.le_refl _
  | succ k ih =>
    cases ho : (S.puts v k).other
    · rw [Dk.puts_go S v k ho]
      have := much_putB (room_puts h v k) (v / 256 ^ k % 256)
      omega
    · rw [Dk.puts_stay S v k ho 1]; omega
theorem much_log (S : Dk) : S.log.length * 512 ≤ S.much := by unfold Dk.much; omega
theorem much_idle {S : Dk} (h : S.mode ≠ 2) : S.much = S.log.length * 512 := by unfold Dk.much; rw [if_neg h, Nat.add_zero]
theorem much_command (S : Dk) (c : Nat) : (S.command c).much ≤ S.much := by
  have hl := much_log S
  unfold Dk.command
  split
  · exact Nat.le_refl _
  · have hb : ∀ m, (S.clean.begin m).much ≤ S.much := fun m => by rw [much_begin]; exact hl
    have hf : (S.clean.fail 4).much ≤ S.much := by
      have : (S.clean.fail 4).much = S.log.length * 512 := by show S.log.length * 512 + (if 0 = 2 then S.done else 0) = _; simp
      omega
    split
    · split
      · exact hf
      · exact hb 1
    · split
      · split
        · exact hf
        · exact hb 2
      · split
        · show S.log.length * 512 + (if 3 = 2 then 0 else 0) ≤ _; simpa using hl
        · split
          · show S.log.length * 512 + (if 0 = 2 then S.done else 0) ≤ _; simpa using hl
          · exact hf
theorem much_fresh (S : Dk) : S.fresh.much = S.log.length * 512 := by show S.log.length * 512 + (if 0 = 2 then 0 else 0) = _; simp
theorem much_setC (S : Dk) (v : Nat) : (S.setC v).much = S.much := rfl
theorem much_setR (S : Dk) (k v : Nat) : (S.setR k v).much = S.much := rfl
theorem much_out {S : Dk} (h : S.room) (reg size : Int) (v : Nat) : (S.out reg size v).much ≤ S.much + 4 := by
  have hl := much_log S
  unfold Dk.out
  by_cases he : callErr reg size ≠ 0
  · rw [if_pos he]; omega
  · rw [if_neg he]
    have hs := sized_call (reg := reg) (size := size) (by omega)
    split
    · rename_i h0
      have := much_puts h v size.toNat
      have := hs.2.2 h0
      omega
    · split
      · omega
      · split
        · have := much_command S (v % 256); omega
        · split
          · split
            · rw [much_fresh]
              show S.log.length * 512 ≤ _; omega
            · rw [much_setC]; omega
          · rw [much_setR]; omega
theorem much_getB (S : Dk) : S.getB.much ≤ S.much := by
  have hl := much_log S
  unfold Dk.getB
  split
  · rename_i hm
    have h2 : S.mode ≠ 2 := by omega
    split
    · show S.log.length * 512 + (if S.mode = 2 then S.done + 1 else 0) ≤ _; rw [if_neg h2, Nat.add_zero]; exact hl
    · split
      · show S.log.length * 512 + (if 0 = 2 then S.done + 1 else 0) ≤ _; simpa using hl
      · rw [much_next]; exact hl
  · exact Nat.le_refl _
theorem much_getN (S : Dk) (k : Nat) : (S.getN k).much ≤ S.much := by
  induction k with
  | zero => exact Nat.le_refl _
  | succ k ih => exact Nat.le_trans (much_getB _) ih
theorem much_setMark (S : Dk) (x : Bool) : (S.setMark x).much = S.much := rfl
theorem much_inS (S : Dk) (reg size : Int) : (S.inS reg size).much ≤ S.much := by
  unfold Dk.inS
  (repeat' split)
  · exact Nat.le_refl _
  · exact Nat.le_refl _
  · exact much_getN _ _
  · exact Nat.le_refl _
  · rw [much_setMark]; exact Nat.le_refl _
theorem much_quit (S : Dk) : S.quit.much ≤ S.much := by
  show ([] : List Nat).length * 512 + (if S.mode = 2 then S.done else 0) ≤ S.log.length * 512 + (if S.mode = 2 then S.done else 0)
  simp
theorem much_new (n : Nat) (d : Nat → Nat) : (Dk.new n d).much = 0 := by unfold Dk.new; rw [much_fresh]; exact Nat.zero_mul _
end Go.Proofs.Ytebhnfoehgpilaa
