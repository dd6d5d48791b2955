/- ide: any write and any read of a register, as one; a disk that a law has made. -/
import Derived.Test.YtebhnfoehgpilaaIdeM
namespace Go.Proofs.Ytebhnfoehgpilaa
open Go.RowKit
set_option linter.unusedVariables false

def Dk.out (S : Dk) (reg size : Int) (v : Nat) : Dk :=
  if callErr reg size ≠ 0 then S
  else if reg = 0 then S.puts v size.toNat
  else if reg = 1 then S
  else if reg = 7 then S.command (v % 256)
  else if reg = 8 then (if v / 4 % 2 == 1 then (S.setC (v % 256)).fresh else S.setC (v % 256))
  else S.setR reg.toNat (v % 256)
def Dk.inV (S : Dk) (reg size : Int) : Nat :=
  if callErr reg size ≠ 0 then 0
  else if S.other ∧ reg ≠ 6 then 0
  else if reg = 0 then S.getV size.toNat
  else if reg < 7 then S.r reg.toNat
  else S.status
def Dk.inS (S : Dk) (reg size : Int) : Dk :=
  if callErr reg size ≠ 0 then S
  else if S.other ∧ reg ≠ 6 then S
  else if reg = 0 then S.getN size.toNat
  else if reg < 7 then S
  else S.setMark (S.mark && reg == 8)
theorem Dk.room_out {S : Dk} (h : S.room) (reg size : Int) (v : Nat) : (S.out reg size v).room := by
  unfold Dk.out
  split
  · exact h
  split
  · exact room_puts h _ _
  split
  · exact h
  split
  · exact room_command h _
  split
  · split
    · exact room_fresh _
    · exact h
  · exact h
theorem Dk.room_inS {S : Dk} (h : S.room) (reg size : Int) : (S.inS reg size).room := by
  unfold Dk.inS
  split
  · exact h
  split
  · exact h
  split
  · exact room_getN h _
  split
  · exact h
  · exact h
theorem command_log (S : Dk) (c : Nat) : (S.command c).log = S.log := by
  unfold Dk.command
  split
  · rfl
  split
  · split
    · rfl
    · rw [begin_log]; rfl
  split
  · split
    · rfl
    · rw [begin_log]; rfl
  split
  · rfl
  split <;> rfl
theorem out_log (S : Dk) (reg size : Int) (v : Nat) (h : callErr reg size = 0) : (S.out reg size v).log.length ≤ S.log.length + (if reg = 0 then 4 else 0) := by
  unfold Dk.out
  rw [if_neg (by omega)]
  by_cases h0 : reg = 0
  · rw [if_pos h0, if_pos h0]
    refine Nat.le_trans (puts_log _ _ _) ?_
    subst h0
    unfold callErr at h
    split at h
    · omega
    · split at h
      · omega
      · omega
  · rw [if_neg h0, if_neg h0]
    split
    · exact Nat.le_refl _
    split
    · rw [command_log]; exact Nat.le_refl _
    split
    · split <;> exact Nat.le_refl _
    · exact Nat.le_refl _
section
variable {w : World} {b : Nat} {ds lv : Value} {D : Dk}
theorem out_any (H : IdeIn 56 w b ds lv D) (hr : D.room) (reg size : Int) (v : Nat) (hv : v < 4294967296) (hL : D.log.length + 4 < 17592186044416) :
    Calls Try.prog 12 #[.pointer (some ⟨b, 0, none⟩), .int .i64 reg, .int .i64 size, .int .u32 v] w fun e w' => e = .returned (.int .i64 (callErr reg size)) ∧ Went w b ds lv (D.out reg size v) w' := by
  unfold Dk.out
  by_cases he : callErr reg size = 0
  · rw [if_neg (by omega), he]
    have he2 := he
    unfold callErr at he2
    by_cases h0 : reg = 0
    · subst h0
      have hs : size = 1 ∨ size = 2 ∨ size = 4 := by
        split at he2
        · omega
        · split at he2
          · omega
          · omega
      rw [if_pos rfl]
      have := out_0 H hr size.toNat v (by omega) hv hL
      rwa [show ((size.toNat : Nat) : Int) = size by omega] at this
    · rw [if_neg h0]
      by_cases h1 : reg = 1
      · subst h1
        rw [if_pos rfl]
        refine (out_1 size v).mono ?_
        rintro e w1 ⟨rfl, rfl⟩
        exact ⟨rfl, Went.of H (Keeps.refl _ _)⟩
      · rw [if_neg h1]
        by_cases h7 : reg = 7
        · subst h7
          rw [if_pos rfl]
          refine (out_7 H size v hv).mono ?_
          rintro e w1 ⟨rfl, H1, K⟩
          exact ⟨rfl, Went.of H1 K⟩
        · rw [if_neg h7]
          by_cases h8 : reg = 8
          · subst h8
            rw [if_pos rfl]
            refine (out_8 H size v hv).mono ?_
            rintro e w1 ⟨rfl, H1, K⟩
            exact ⟨rfl, Went.of H1 K⟩
          · rw [if_neg h8]
            have hr2 : 0 ≤ reg ∧ reg ≤ 8 := by
              split at he2
              · omega
              · omega
            have := out_r H reg.toNat (by omega) (by omega) size v hv
            rw [show ((reg.toNat : Nat) : Int) = reg by omega] at this
            refine this.mono ?_
            rintro e w1 ⟨rfl, H1, K⟩
            exact ⟨rfl, Went.of H1 K⟩
  · rw [if_pos he]
    refine (out_err reg size v _ rfl (by simpa using he)).mono ?_
    rintro e w1 ⟨rfl, rfl⟩
    exact ⟨rfl, Went.of H (Keeps.refl _ _)⟩
theorem in_any (H : IdeIn 56 w b ds lv D) (hr : D.room) (reg size : Int) :
    Calls Try.prog 13 #[.pointer (some ⟨b, 0, none⟩), .int .i64 reg, .int .i64 size] w fun e w' => e = .returned (.tuple #[.int .u32 (D.inV reg size : Nat), .int .i64 (callErr reg size)]) ∧ Went w b ds lv (D.inS reg size) w' := by
  unfold Dk.inV Dk.inS
  by_cases he : callErr reg size = 0
  · have he2 := he
    unfold callErr at he2
    have hz : ¬ (callErr reg size ≠ 0) := fun h => h he
    rw [if_neg hz, if_neg hz, he]
    by_cases ho : D.other = true ∧ reg ≠ 6
    · rw [if_pos ho, if_pos ho]
      refine (in_other H reg size he ho.1 ho.2).mono ?_
      rintro e w1 ⟨rfl, rfl⟩
      exact ⟨rfl, Went.of H (Keeps.refl _ _)⟩
    · rw [if_neg ho, if_neg ho]
      have ho2 : D.other = false ∨ reg = 6 := by
        cases h : D.other
        · exact .inl rfl
        · exact .inr (Classical.byContradiction fun q => ho ⟨h, q⟩)
      by_cases h0 : reg = 0
      · subst h0
        have hs : size = 1 ∨ size = 2 ∨ size = 4 := by
          split at he2
          · omega
          · split at he2
            · omega
            · omega
        rw [if_pos rfl, if_pos rfl]
        have := in_0 H hr size.toNat (by omega) (ho2.resolve_right (by decide))
        rw [show ((size.toNat : Nat) : Int) = size by omega] at this
        refine this.mono ?_
        rintro e w1 ⟨rfl, H1, K⟩
        exact ⟨rfl, Went.of H1 K⟩
      · rw [if_neg h0, if_neg h0]
        have hr2 : 0 ≤ reg ∧ reg ≤ 8 := by
          split at he2
          · omega
          · omega
        by_cases h7 : reg < 7
        · rw [if_pos h7, if_pos h7]
          have := in_r (w := w) H reg.toNat (by omega) (by omega) size (ho2.imp id fun h => by omega)
          rw [show ((reg.toNat : Nat) : Int) = reg by omega] at this
          refine this.mono ?_
          rintro e w1 ⟨rfl, rfl⟩
          exact ⟨rfl, Went.of H (Keeps.refl _ _)⟩
        · rw [if_neg h7, if_neg h7]
          refine (in_s H reg (by omega) size (ho2.resolve_right (by omega))).mono ?_
          rintro e w1 ⟨rfl, H1, K⟩
          exact ⟨rfl, Went.of H1 K⟩
  · rw [if_pos he, if_pos he]
    refine (in_err reg size _ rfl (by simpa using he)).mono ?_
    rintro e w1 ⟨rfl, rfl⟩
    exact ⟨rfl, Went.of H (Keeps.refl _ _)⟩
end

theorem below_dn {B : Nat} {w a : World} (h : Below B w a) (n : Nat) : Below B w (a.drewN n) := ⟨h.os, h.tape, h.output, h.size, h.block⟩
/-- A disk all of whose blocks were made behind the world w0. -/
def At (w0 w : World) (b : Nat) (D : Dk) : Prop :=
  ∃ ds lv, IdeIn 56 w b ds lv D ∧ D.room ∧ (∀ k, Held b ds lv k → w0.heap.size ≤ k) ∧ Below w0.heap.size w0 w
section
variable {w0 w w' : World} {b : Nat} {D : Dk}
theorem At.below (h : At w0 w b D) : Below w0.heap.size w0 w := by obtain ⟨ds, lv, H, R, N, B⟩ := h; exact B
theorem At.ok (h : At w0 w b D) : D.ok := by obtain ⟨ds, lv, H, R, N, B⟩ := h; exact H.ok
theorem At.room (h : At w0 w b D) : D.room := by obtain ⟨ds, lv, H, R, N, B⟩ := h; exact R
theorem At.move (h : At w0 w b D) (hb : Below w.heap.size w w') : At w0 w' b D := by
  obtain ⟨ds, lv, H, R, N, B⟩ := h
  exact ⟨ds, lv, H.keeps (Keeps.ofBelow (S := fun _ => False) hb) (fun _ _ h => h), R, N, Keeps.toBelow B (Keeps.ofBelow (S := fun _ => False) hb) B.size (fun _ h => h.elim)⟩
theorem At.drewN (h : At w0 w b D) (n : Nat) : At w0 (w.drewN n) b D := by
  obtain ⟨ds, lv, H, R, N, B⟩ := h
  exact ⟨ds, lv, H.drewN n, R, N, below_dn B n⟩
/-- A block that is the law's own and no disk's may be turned. -/
theorem At.set (h : At w0 w b D) {g : Nat} (hg : w0.heap.size ≤ g) (hn : ∀ ds lv, IdeIn 56 w b ds lv D → (∀ k, Held b ds lv k → w0.heap.size ≤ k) → ¬ Held b ds lv g) (k : Nat) (v : Value) : At w0 (w.setCell ⟨g, k, none⟩ v) b D := by
  obtain ⟨ds, lv, H, R, N, B⟩ := h
  refine ⟨ds, lv, H.of_heap fun i hi => heap_set_other _ (fun e => hn ds lv H N ?_), R, N, B.setCell hg _⟩
  rw [← show i = g from e]; exact hi
theorem out_at (h : At w0 w b D) (reg size : Int) (v : Nat) (hv : v < 4294967296) (hL : D.log.length + 4 < 17592186044416) :
    Calls Try.prog 12 #[.pointer (some ⟨b, 0, none⟩), .int .i64 reg, .int .i64 size, .int .u32 v] w fun e w' => e = .returned (.int .i64 (callErr reg size)) ∧ At w0 w' b (D.out reg size v) := by
  obtain ⟨ds, lv, H, R, N, B⟩ := h
  refine (out_any H R reg size v hv hL).mono ?_
  rintro e w1 ⟨rfl, lv1, H1, K, N1⟩
  refine ⟨rfl, ds, lv1, H1, Dk.room_out R reg size v, fun k hk => ?_, Keeps.toBelow B K B.size fun i hi => N i hi⟩
  rcases hk with hk | hk | hk
  · exact N k (.inl hk)
  · exact N k (.inr (.inl hk))
  · rcases N1 k hk with h | h
    · exact N k (.inr (.inr h))
    · exact Nat.le_trans B.size h
theorem in_at (h : At w0 w b D) (reg size : Int) :
    Calls Try.prog 13 #[.pointer (some ⟨b, 0, none⟩), .int .i64 reg, .int .i64 size] w fun e w' => e = .returned (.tuple #[.int .u32 (D.inV reg size : Nat), .int .i64 (callErr reg size)]) ∧ At w0 w' b (D.inS reg size) := by
  obtain ⟨ds, lv, H, R, N, B⟩ := h
  refine (in_any H R reg size).mono ?_
  rintro e w1 ⟨rfl, lv1, H1, K, N1⟩
  refine ⟨rfl, ds, lv1, H1, Dk.room_inS R reg size, fun k hk => ?_, Keeps.toBelow B K B.size fun i hi => N i hi⟩
  rcases hk with hk | hk | hk
  · exact N k (.inl hk)
  · exact N k (.inr (.inl hk))
  · rcases N1 k hk with h | h
    · exact N k (.inr (.inr h))
    · exact Nat.le_trans B.size h
theorem new_at {v : Value} {n : Nat} {d : Nat → Nat} (H : Reads w v (n * 512) d) (hn : n ≤ 64) (hd : ∀ i, d i < 256) :
    Calls Try.prog 11 #[v] w fun e w' => ∃ b, e = .returned (.tuple #[.pointer (some ⟨b, 0, none⟩), .int .i64 0]) ∧ At w w' b (Dk.new n d) := by
  refine (new_yes H hn hd).mono ?_
  rintro e w1 ⟨b, ds, rfl, H1, h1, h2, h3⟩
  refine ⟨b, rfl, ds, _, H1, room_fresh _, fun k hk => ?_, h3⟩
  rcases hk with rfl | hk | hk
  · exact h1
  · exact h2 k hk
  · cases hk
theorem disk_at (h : At w0 w b D) :
    Calls Try.prog 15 #[.pointer (some ⟨b, 0, none⟩)] w fun e w' => ∃ v, e = .returned v ∧ w'.ownsRow w.heap.size 5 1 v (D.n * 512) (bytesL (D.n * 512) D.d) ∧ At w0 w' b D ∧ Below w.heap.size w w' := by
  have h2 := h
  obtain ⟨ds, lv, H, R, N, B⟩ := h
  refine (disk_in H).mono ?_
  rintro e w1 ⟨v, rfl, h1, hb⟩
  exact ⟨v, rfl, h1, h2.move hb, hb⟩
end
end Go.Proofs.Ytebhnfoehgpilaa
