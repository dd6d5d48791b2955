/- ram's laws: the memory as an object beside rows; a row that grows; two rows alike. -/
import Derived.Test.YtfdeojefcfnogaaRamK
import Derived.Test.YtfdeojefcfnogaaHeapB
import Derived.Test.YtfdeojefcfnogaaSoG
import Derived.Test.YtfdeojefcfnogaaRamL
namespace Go.Proofs.Ytfdeojefcfnogaa
open Go.RowKit Go.MapKept
set_option linter.unusedVariables false

def oMem (b : Nat) (R : RS) : Ob := ⟨fun w H => Ram w b H R,
  fun {w w' H} h g => by
    obtain ⟨bp, bo, bw, bn, pg, h, e⟩ := h
    exact ⟨bp, bo, bw, bn, pg, h.of_heap fun k hk => g k ((e k).2 hk), e⟩, fun h k hk => h.lt hk⟩
section
variable {b : Nat} {R : RS}
theorem m_write (a v : Nat) (ha : a < 4294967296) (hv : v < 4294967296) (s : Nat) (hs : s = 1 ∨ s = 2 ∨ s = 4) : Acts 10 #[.pointer (some ⟨b, 0, .none⟩), .int .u32 a, .int .i64 (s : Nat), .int .u32 v] (oMem b R) (.int .i64 0) (oMem b (R.write a v s)) := by
  rintro w A H
  refine (write_any H a v ha hv s hs).mono ?_
  rintro e w1 ⟨rfl, A', H1, M⟩
  exact ⟨rfl, A', H1, M⟩
theorem m_read (a : Nat) (ha : a < 4294967296) (s : Nat) (hs : s = 1 ∨ s = 2 ∨ s = 4) : Acts 12 #[.pointer (some ⟨b, 0, .none⟩), .int .u32 a, .int .i64 (s : Nat)] (oMem b R) (.tuple #[.int .u32 (R.read a s : Nat), .int .i64 0]) (oMem b R) := by
  rintro w A H
  refine (read_any H a ha s hs).mono ?_
  rintro e w1 ⟨rfl, n, rfl⟩
  exact ⟨rfl, A, H.drewN n, Moves.drewN _ _ _⟩
theorem m_gate (x : Bool) : Acts 11 #[.pointer (some ⟨b, 0, none⟩), .bool x] (oMem b R) (.tuple #[]) (oMem b (R.gate x)) := by
  rintro w A H
  refine (gate_any H x).mono ?_
  rintro e w1 ⟨rfl, H1, K⟩
  exact ⟨rfl, A, H1, K, fun k hk => .inl hk⟩
theorem m_watch (a : Nat) (ha : a < 4294967296) : Acts 14 #[.pointer (some ⟨b, 0, .none⟩), .int .u32 a] (oMem b R) (.tuple #[]) (oMem b (R.watch a)) := by
  rintro w A H
  refine (watch_any H a ha).mono ?_
  rintro e w1 ⟨rfl, H1, K⟩
  exact ⟨rfl, A, H1, K, fun k hk => .inl hk⟩
theorem m_watched (a : Nat) (ha : a < 4294967296) : Acts 15 #[.pointer (some ⟨b, 0, .none⟩), .int .u32 a] (oMem b R) (.bool (R.watches a)) (oMem b R) := by
  rintro w A H
  refine (watched_any H a ha).mono ?_
  rintro e w1 ⟨rfl, n, rfl⟩
  exact ⟨rfl, A, H.drewN n, Moves.drewN _ _ _⟩
theorem m_rom (n : Int) (x : Bool) : Acts 13 #[.pointer (some ⟨b, 0, .none⟩), .int .i64 n, .bool x] (oMem b R) (.int .i64 (romErr R n)) (oMem b (R.romAt n x)) := by
  rintro w A H
  refine (rom_any H n x).mono ?_
  rintro e w1 ⟨rfl, H1, K⟩
  exact ⟨rfl, A, H1, K, fun k hk => .inl hk⟩
end
section
variable {w0 w w' : World} {A0 : Nat → Prop} {os : List Ob} {b : Nat} {R : RS}
/-- Written: the row is handed out. -/
theorem Hp.told (T : Hp w0 A0 w os) (i : Nat) (hi : os[i]? = some (oMem b R)) (hb : ∀ L : List Nat, L.Nodup → (∀ x ∈ L, R.noted x = true) → L.length ≤ 1048576) (h32 : ∀ x, R.noted x = true → x < 4294967296) :
    Calls Try.prog 16 #[.pointer (some ⟨b, 0, .none⟩)] w fun e w' => ∃ (v : Value) (L : List Nat), e = .returned v ∧ (∀ x, x ∈ L ↔ R.noted x = true) ∧ L.Pairwise (· < ·) ∧ Hp w0 A0 w' (os.set i (oMem b R.told) ++ [oRow 23 v L.length (wordsL L)]) := by
  refine (T.call i (Q := fun e o => ∃ (v : Value) (L : List Nat), e = .returned v ∧ (∀ x, x ∈ L ↔ R.noted x = true) ∧ L.Pairwise (· < ·) ∧ o = Ob.all [oMem b R.told, oRow 23 v L.length (wordsL L)]) hi fun A H => ?_).mono ?_
  · refine (written_any (sorts_all 1048576 (by decide)) (Nat.le_refl _) H hb h32).mono ?_
    rintro e w1 ⟨v, L, rfl, h1, h2, hr, H1, K⟩
    have hge : ∀ k, v.ownBlock = some k → w.heap.size ≤ k := fun k hk => (World.ownsRow.lt hr k hk).1
    refine ⟨_, ⟨v, L, rfl, h1, h2, rfl⟩, fun k => A k ∨ v.ownBlock = some k, ⟨A, fun k => v.ownBlock = some k, H1, ⟨fun k => v.ownBlock = some k, fun _ => False, ⟨row_down' hr (Nat.zero_le _), fun k => Iff.rfl⟩, fun _ h => h, fun _ _ h => h, fun k => ⟨.inl, fun h => h.elim id False.elim⟩⟩, fun k h1 h2 => ?_, fun k => Iff.rfl⟩, K, fun k hk => ?_⟩
    · have h3 := Ram.lt H h1
      have h4 := hge k h2
      omega
    · exact hk.imp id (hge k)
  · rintro e w1 ⟨o, ⟨v, L, rfl, h1, h2, rfl⟩, T1⟩
    have hlt : i < os.length := (List.getElem?_eq_some_iff.1 hi).1
    have h3 := T1.two i (x := oMem b R.told) (y := oRow 23 v L.length (wordsL L)) (by rw [List.getElem?_set_self hlt])
    rw [List.set_set] at h3
    exact ⟨v, L, rfl, h1, h2, h3⟩
/-- A row grows. -/
theorem Hp.grown {E : TypeId} {v v' : Value} {n n' B : Nat} {xs xs' : List Value} (T : Hp w0 A0 w os) (i : Nat) (hi : os[i]? = some (oRow E v n xs)) (hr : w'.ownsRow B E 1 v' n' xs') (hg : w.grownBy w' v.ownBlock) (hB : ∀ k, v'.ownBlock = some k → v.ownBlock = some k ∨ w.heap.size ≤ k) : Hp w0 A0 w' (os.set i (oRow E v' n' xs')) := by
  obtain ⟨A, ⟨h, e⟩, g⟩ := T.turn i hi
  exact g w' (fun k => v'.ownBlock = some k) _ ⟨row_down' hr (Nat.zero_le _), fun k => Iff.rfl⟩ ⟨⟨hg.os, hg.tape, hg.output, hg.size, fun k hk hn => hg.block k hk fun e2 => hn ((e k).2 e2.symm)⟩, fun k hk => (hB k hk).imp (e k).2 id⟩
theorem Hp.row {E : TypeId} {v : Value} {n : Nat} {xs : List Value} (T : Hp w0 A0 w os) (i : Nat) (hi : os[i]? = some (oRow E v n xs)) : w.ownsRow 0 E 1 v n xs := by
  obtain ⟨A, h, e⟩ := T.get i hi
  exact h
end
/-- A row, wherever it starts in its block. -/
def oRowC (E : TypeId) (v : Value) (n : Nat) (xs : List Value) : Ob := ⟨fun w H => RowC w E 1 v n xs ∧ ∀ k, H k ↔ v.ownBlock = some k,
  fun h g => ⟨h.1.of_heap fun k hk => g k ((h.2 k).2 hk), h.2⟩, fun h k hk => h.1.lt ((h.2 k).1 hk)⟩
section
variable {w0 w w' : World} {A0 : Nat → Prop} {os : List Ob}
theorem Hp.grownC {E : TypeId} {v v' : Value} {n n' : Nat} {xs xs' : List Value} (T : Hp w0 A0 w os) (i : Nat) (hi : os[i]? = some (oRowC E v n xs)) (hr : RowC w' E 1 v' n' xs') (hg : w.grownBy w' v.ownBlock) (hB : ∀ k, v'.ownBlock = some k → v.ownBlock = some k ∨ w.heap.size ≤ k) : Hp w0 A0 w' (os.set i (oRowC E v' n' xs')) := by
  obtain ⟨A, ⟨h, e⟩, g⟩ := T.turn i hi
  exact g w' (fun k => v'.ownBlock = some k) _ ⟨hr, fun k => Iff.rfl⟩ ⟨⟨hg.os, hg.tape, hg.output, hg.size, fun k hk hn => hg.block k hk fun e2 => hn ((e k).2 e2.symm)⟩, fun k hk => (hB k hk).imp (e k).2 id⟩
theorem Hp.rowC {E : TypeId} {v : Value} {n : Nat} {xs : List Value} (T : Hp w0 A0 w os) (i : Nat) (hi : os[i]? = some (oRowC E v n xs)) : RowC w E 1 v n xs := by
  obtain ⟨A, h, e⟩ := T.get i hi
  exact h
end
/-- A slice that holds the numbers L. -/
def Nums32 (w : World) (v : Value) (L : List Nat) : Prop := ∃ a c, v = .slice a L.length c ∧ (L = [] ∨ ∃ g off, a = some ⟨g, off, none⟩ ∧ g < w.heap.size ∧ ∀ i, i < L.length → w.cell? ⟨g, off + i, none⟩ = some (.int .u32 (L.getD i 0 : Nat)))
theorem nums32_of {w : World} {v : Value} {L : List Nat} (h : w.ownsRow 0 23 1 v L.length (wordsL L)) : Nums32 w v L := by
  rcases h.2 with ⟨rfl, h0⟩ | ⟨g', cap, cur, rfl, hb, hg, h1, h2, h3, h4⟩
  · exact ⟨none, 0, by rw [h0], .inl (List.eq_nil_of_length_eq_zero h0)⟩
  · refine ⟨_, _, rfl, .inr ⟨g', 0, rfl, heap_lt hg, fun i hi => ?_⟩⟩
    rw [cell_at hg, Nat.zero_add]
    rw [Nat.mul_one] at h4
    have := congrArg (fun l => l[i]?) h4
    simp only [List.getElem?_take, Array.getElem?_toList] at this
    rw [if_pos hi] at this
    rw [this]
    simp [hi, wordsL]
theorem nums32_ofC {w : World} {v : Value} {L : List Nat} (h : RowC w 23 1 v L.length (wordsL L)) : Nums32 w v L := by
  rcases h.2 with ⟨rfl, h0⟩ | ⟨g', o, cap, cur, rfl, hg, h1, h2, h3, h4⟩
  · exact ⟨none, 0, by rw [h0], .inl (List.eq_nil_of_length_eq_zero h0)⟩
  · refine ⟨_, _, rfl, .inr ⟨g', o, rfl, heap_lt hg, fun i hi => ?_⟩⟩
    rw [cell_at hg, h4 i (by omega)]
    simp [hi, wordsL]
set_option maxHeartbeats 2000000 in
theorem same32_any {w : World} {v u : Value} {L : List Nat} (hv : Nums32 w v L) (hu : Nums32 w u L) (hL : L.length < 17592186044416) :
    Calls Try.prog 17 #[v, u] w fun e w' => e = .returned (.bool true) ∧ ∃ n, w' = w.drewN n := by
  obtain ⟨a, c, rfl, hv⟩ := hv
  obtain ⟨a2, c2, rfl, hu⟩ := hu
  obtain ⟨n, hn⟩ : ∃ n, n = L.length := ⟨_, rfl⟩
  rw [← hn] at hv hu hL ⊢
  have HN := Lib.hid hn
  clear hn
  have hn2 : (n : Int) ≤ 17592186044416 := by omega
  go_enter Try.func17, Try.ntmps17
  go_wp2_with fail
  go_loopw [5] (fun i wc => ∃ k : Nat, k ≤ n ∧ i = .int .i64 k ∧ ∃ m, wc = w.drewN m) (fun i _ => n - (intOf i).toNat)
  case atStart => exact ⟨0, by omega, rfl, 0, rfl⟩
  case round =>
    obtain ⟨k, hk, rfl, m, rfl⟩ := hrel
    by_cases hlt : k < n
    · have p1 : (0 : Int) ≤ (k : Int) := by omega
      have p2 : (k : Int) < n := by omega
      have hne : L ≠ [] := fun e => by have := HN.out; rw [e] at this; have e0 : n = 0 := this; omega
      obtain ⟨g, off, rfl, hg, hc⟩ := hv.resolve_left hne
      obtain ⟨g2, off2, rfl, hg2, hc2⟩ := hu.resolve_left hne
      have d1 := hc k hlt
      have d2 := hc2 k hlt
      generalize ((L.getD k 0 : Nat) : Int) = x at d1 d2
      clear hc hc2 hv hu hne
      go_upto_region 6 with (fail)
      have d3 : (w.drewN m).cell? ⟨g, off + k, none⟩ = some (.int .u32 x) := d1
      have d4 : (w.drewN m).cell? ⟨g2, off2 + k, none⟩ = some (.int .u32 x) := d2
      go_quiet (fail)
      go_wp2_with fail
      go_roundw
      case rel => exact ⟨k + 1, by omega, by go_num, _, rfl⟩
      case measure => (simp [intOf]) <;> omega
    · have p2 : (n : Int) ≤ k := by omega
      go_wp2_with fail
      go_ret
      exact ⟨rfl, m, rfl⟩
/-- Two lists that grow, with the same members, are one. -/
theorem sorted_ext {L M : List Nat} (h1 : L.Pairwise (· < ·)) (h2 : M.Pairwise (· < ·)) (h : ∀ x, x ∈ L ↔ x ∈ M) : L = M := by
  induction L generalizing M with
  | nil => cases M with
    | nil => rfl
    | cons y M => exact absurd ((h y).2 (by simp)) (by simp)
  | cons x L ih => cases M with
    | nil => exact absurd ((h x).1 (by simp)) (by simp)
    | cons y M =>
      rw [List.pairwise_cons] at h1 h2
      have hxy : x = y := by
        have a1 := (h x).1 (by simp)
        have a2 := (h y).2 (by simp)
        rcases List.mem_cons.1 a1 with e | e
        · exact e
        · rcases List.mem_cons.1 a2 with f | f
          · exact f.symm
          · have := h2.1 x e; have := h1.1 y f; omega
      subst hxy
      rw [ih h1.2 h2.2 fun z => ?_]
      have hz := h z
      constructor
      · intro hm
        have := h1.1 z hm
        rcases List.mem_cons.1 (hz.1 (List.mem_cons_of_mem _ hm)) with e | e
        · omega
        · exact e
      · intro hm
        have := h2.1 z hm
        rcases List.mem_cons.1 (hz.2 (List.mem_cons_of_mem _ hm)) with e | e
        · omega
        · exact e
theorem nodup_len : ∀ (n : Nat) (L : List Nat), L.Nodup → (∀ x ∈ L, x < n) → L.length ≤ n
  | 0, L, _, h => by
    cases L with
    | nil => exact Nat.le_refl _
    | cons x L => exact absurd (h x (by simp)) (Nat.not_lt_zero _)
  | n + 1, L, hn, h => by
    have h2 := nodup_len n (L.erase n) (hn.erase n) fun x hx => by
      have h3 := (hn.mem_erase_iff).1 hx
      have := h x h3.2
      have := h3.1
      omega
    rw [List.length_erase] at h2
    split at h2 <;> omega
end Go.Proofs.Ytfdeojefcfnogaa
