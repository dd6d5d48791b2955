/- uart: the document's port: written, read, pushed. -/
import Derived.Test.YtliiccmpfmgioaaUartR
namespace Go.Proofs.Ytliiccmpfmgioaa
open Go.RowKit Go.Conc
set_option linter.unusedVariables false

section
variable {w w' : World} {b : Nat} {cv ov : Value} {U : Ut}
-- SLICES THAT GROW
section
variable {w1 : World} {o : Obj} {v' : Value}
theorem rblock (H : RfIn w b cv ov U) {x : Option Nat} (hg : (w.alloc o).grownBy w1 x) {k : Nat} (hk : k < w.heap.size) (hn : x ≠ some k) : w1.heap[k]? = w.heap[k]? := by
  rw [hg.block k (by simp; omega) (fun e => hn e.symm), Below.heap_alloc _ _ _ hk]
theorem rgrow_facts (H : RfIn w b cv ov U) {x : Option Nat} (hx : x ≠ some b) (hg : (w.alloc o).grownBy w1 x) :
    w1.cell? ⟨b, 10, none⟩ = some ov ∧ w1.cell? ⟨b, 9, none⟩ = some (.bool U.empty) ∧ w1.cell? ⟨b, 0, none⟩ = some cv ∧ (∀ k, w1.frozen? ⟨b, k, none⟩ = false) ∧ b < w1.heap.size := by
  have h : w1.heap[b]? = some (.cells (U.rcells cv ov).toArray 49) := (rblock H hg (H.lt (.inl rfl)) hx).trans H.obj
  exact ⟨by rw [cell_at h]; rfl, by rw [cell_at h]; rfl, by rw [cell_at h]; rfl, fun k => free_at h, heap_lt h⟩
theorem rsend_end (H : RfIn w b cv ov U) (v : Nat) (hv : v < 256) (hown : w1.ownsRow 0 5 1 v' (U.sent.length + 1) (bytesV U.sent ++ [.int .u8 (v : Nat)])) (hg : (w.alloc o).grownBy w1 ov.ownBlock)
    (hat : v'.ownBlock = ov.ownBlock ∨ v'.ownBlock = some (w.alloc o).heap.size) : RWent w b cv ov (U.send v) ((w1.setCell ⟨b, 10, none⟩ v').setCell ⟨b, 9, none⟩ (.bool true)) := by
  have h : w1.heap[b]? = some (.cells (U.rcells cv ov).toArray 49) := (rblock H hg (H.lt (.inl rfl)) H.bo).trans H.obj
  have hne : ∀ j, j ≠ b → ((w1.setCell ⟨b, 10, none⟩ v').setCell ⟨b, 9, none⟩ (.bool true)).heap[j]? = w1.heap[j]? := fun j h => by rw [heap_set_other _ h, heap_set_other _ h]
  have hbl := H.lt (.inl rfl)
  have hv2 : ∀ k, v'.ownBlock = some k → ov.ownBlock = some k ∨ w.heap.size ≤ k := fun k hk => by
    rcases hat with e | e
    · exact .inl (by rw [← e]; exact hk)
    · right; rw [e] at hk; injection hk with hk; simp at hk; omega
  have hvb : v'.ownBlock ≠ some b := fun e => by
    rcases hv2 b e with h1 | h1
    · exact H.bo h1
    · omega
  have K : Keeps (RHeld b cv ov) w w1 := ((Keeps.refl _ w).alloc o).trans ⟨hg.os, hg.tape, hg.output, hg.size, fun k hk hn => hg.block k hk fun e => hn (.inr (.inr e.symm))⟩
  refine ⟨cv, v', ⟨?_, ?_, ?_, ?_, ?_⟩, (K.setCell (.inl (.inl rfl)) _).setCell (.inl (.inl rfl)) _, fun k hk => ?_⟩
  · rw [heap_set_map, heap_set_map, h]; rfl
  · exact H.came.of_heap fun k hk => (hne k fun e => H.bc (by rw [← e]; exact hk)).trans (rblock H hg (H.came.lt hk) (H.d k hk))
  · have hr : w1.ownsRow 0 5 1 v' (U.send v).sent.length (bytesV (U.send v).sent) := by
      show w1.ownsRow 0 5 1 v' (U.sent ++ [v]).length (bytesV (U.sent ++ [v]))
      rw [List.length_append, bytesV_snoc]; exact hown
    exact row_of_heap hr fun k hk => hne k fun e => hvb (by rw [← e]; exact hk)
  · intro k hk e
    rcases hv2 k e with h1 | h1
    · exact H.d k hk h1
    · have := H.came.lt hk; omega
  · have o := H.ok
    exact ⟨o.c1, o.c2, o.d0, o.d1, o.lcr, o.mcr, o.scr, o.wanted, fun x hx => by
      rcases List.mem_append.1 hx with h | h
      · exact o.s2 x h
      · simp only [List.mem_singleton] at h; omega⟩
  · rcases hk with hk | hk | hk
    · exact .inl (.inl hk)
    · exact .inl (.inr (.inl hk))
    · rcases hv2 k hk with h1 | h1
      · exact .inl (.inr (.inr h1))
      · exact .inr h1
theorem rpush_end (H : RfIn w b cv ov U) (v : Nat) (hv : v < 256) (hl : U.came.length < 16) (hown : RowC w1 5 1 v' (U.came.length + 1) (bytesV U.came ++ [.int .u8 (v : Nat)])) (hg : (w.alloc o).grownBy w1 cv.ownBlock)
    (hat : ∀ k, v'.ownBlock = some k → cv.ownBlock = some k ∨ (w.alloc o).heap.size ≤ k) : RWent w b cv ov (U.take v) (w1.setCell ⟨b, 0, none⟩ v') := by
  have h : w1.heap[b]? = some (.cells (U.rcells cv ov).toArray 49) := (rblock H hg (H.lt (.inl rfl)) H.bc).trans H.obj
  have hne : ∀ j, j ≠ b → (w1.setCell ⟨b, 0, none⟩ v').heap[j]? = w1.heap[j]? := fun j h => heap_set_other _ h
  have hbl := H.lt (.inl rfl)
  have hv2 : ∀ k, v'.ownBlock = some k → cv.ownBlock = some k ∨ w.heap.size ≤ k := fun k hk => (hat k hk).imp id fun h => by simp at h; omega
  have hvb : v'.ownBlock ≠ some b := fun e => by
    rcases hv2 b e with h1 | h1
    · exact H.bc h1
    · omega
  have K : Keeps (RHeld b cv ov) w w1 := ((Keeps.refl _ w).alloc o).trans ⟨hg.os, hg.tape, hg.output, hg.size, fun k hk hn => hg.block k hk fun e => hn (.inr (.inl e.symm))⟩
  refine ⟨v', ov, ⟨?_, ?_, ?_, ?_, ?_⟩, K.setCell (.inl (.inl rfl)) _, fun k hk => ?_⟩
  · rw [heap_set_map, h]; rfl
  · have hr : RowC w1 5 1 v' (U.take v).came.length (bytesV (U.take v).came) := by
      show RowC w1 5 1 v' (U.came ++ [v]).length (bytesV (U.came ++ [v]))
      rw [List.length_append, bytesV_snoc]; exact hown
    exact hr.of_heap fun k hk => hne k fun e => hvb (by rw [← e]; exact hk)
  · exact row_of_heap H.out fun k hk => (hne k fun e => H.bo (by rw [← e]; exact hk)).trans (rblock H hg (World.ownsRow.lt H.out k hk).2 (fun e => H.d k e hk))
  · intro k hk e
    rcases hv2 k hk with h1 | h1
    · exact H.d k h1 e
    · have := (World.ownsRow.lt H.out k e).2; omega
  · have o := H.ok
    refine ⟨?_, fun x hx => ?_, o.d0, o.d1, o.lcr, o.mcr, o.scr, o.wanted, o.s2⟩
    · show (U.came ++ [v]).length ≤ 16; simp; omega
    · rcases List.mem_append.1 hx with h | h
      · exact o.c2 x h
      · simp only [List.mem_singleton] at h; omega
  · rcases hk with hk | hk | hk
    · exact .inl (.inl hk)
    · rcases hv2 k hk with h1 | h1
      · exact .inl (.inr (.inl h1))
      · exact .inr h1
    · exact .inl (.inr (.inr hk))
end
theorem one_new' (w : World) (T : TypeId) (x : Value) : ∀ (j : Nat) (u : Value), [x][j]? = some u → (w.alloc (.cells #[x] T)).cell? ((⟨w.heap.size, 0, none⟩ : Addr).add j) = some u := one_new w T x
theorem push_same (U : Ut) (v : Nat) : U.push v = if U.came.length < (if U.on then 16 else 1) then U.take v else U.lose := by
  unfold Ut.push
  cases h : U.on
  · by_cases h2 : U.came = []
    · rw [if_neg (fun x => x.2 h2), if_pos (by rw [h2]; decide), if_pos (by rw [h2]; decide)]
    · have : 0 < U.came.length := List.length_pos_iff.2 h2
      rw [if_pos ⟨rfl, h2⟩, if_neg (by simp; omega)]
  · rw [if_neg (fun x => by cases x.1)]; rfl
set_option maxHeartbeats 2000000 in
theorem rpush_any (H : RfIn w b cv ov U) (v : Nat) (hv : v < 256) :
    Calls Try.prog 17 #[.pointer (some ⟨b, 0, none⟩), .int .u8 (v : Nat)] w fun e w' => e = .returned (.tuple #[]) ∧ RWent w b cv ov (U.push v) w' := by
  obtain ⟨k0, k1, -, -, -, -, -, -, k8, -, -, kf, kl⟩ := H.facts
  obtain ⟨a, c, rfl⟩ := H.came.len
  obtain ⟨i0, hi, hz0, hz1, hz2⟩ := info_parts info8
  have hc1 := Lib.hid (one_new w 5 (.int .u8 (v : Nat)))
  have HH := Lib.hid H
  have HB := Lib.hid (show ∀ m, (Value.slice a m c).ownBlock ≠ some b from fun m => by have := H.bc; cases a <;> exact this)
  have HCA := Lib.hid H.came
  have HP := Lib.hid (push_same U v)
  have HL := Lib.hid (H.setLost true)
  have hn : ∃ n, n = U.came.length := ⟨_, rfl⟩
  obtain ⟨n, hn⟩ := hn
  have HN := Lib.hid hn
  rw [← hn] at k0 HP HCA
  clear hn
  cases hon : U.on
  · rw [hon] at k8 HP
    by_cases hlt : n < 1
    · have g1 : (n : Int) < 1 := by omega
      have HLT := Lib.hid hlt
      have HPP := Lib.hid (HP.out.trans (if_pos hlt))
      clear HP hon hlt
      go_enter Try.func17, Try.ntmps17
      go_wp2_with (at_builtin; (refine wpList_append_c rfl _ _ 27 rfl i0 (.int .u8 0) 1 1 Try.underlying27 hi hz0 hz1 hz2 rfl (by decide) rfl (HCA.out.alloc _) ⟨w.heap.size, 0, none⟩ 1 [.int .u8 (v : Nat)] rfl rfl hc1.out (fun u hu => by rw [List.mem_singleton.1 hu]; rfl) (by unfold maxLen; have := HLT.out; omega) (by have := HLT.out; omega) ?_); intro a' c' w1' hown1 hgrow1 hat; have HX := Lib.hid (show RowC w1' 5 1 (.slice a' (n + 1) c') (n + 1) (bytesV U.came ++ [.int .u8 (v : Nat)]) ∧ (w.alloc (.cells #[.int .u8 (v : Nat)] 5)).grownBy w1' (Value.slice a n c).ownBlock from ⟨hown1, hgrow1⟩); have HAT := Lib.hid hat; obtain ⟨-, -, f0, ff, fl⟩ := rgrow_facts HH.out (HB.out n) hgrow1; rw [← HN.out] at f0; clear hown1 hgrow1 hat)
      go_end0
      have hl2 : U.came.length < 16 := by have := HLT.out; have := HN.out; omega
      have hx := HX.out
      have ha := HAT.out
      rw [HN.out] at hx ha ⊢
      exact ⟨rfl, by rw [HPP.out]; exact rpush_end HH.out v hv hl2 hx.1 hx.2 ha⟩
    · have g1 : (1 : Int) ≤ n := by omega
      have HPP := Lib.hid (HP.out.trans (if_neg hlt))
      clear HP hon hlt
      go_enter Try.func17, Try.ntmps17
      go_wp2_with fail
      go_returns
      exact ⟨rfl, by rw [HPP.out]; exact RWent.of HL.out (rkeeps w b _ ov _ _)⟩
  · rw [hon] at k8 HP
    by_cases hlt : n < 16
    · have g1 : (n : Int) < 16 := by omega
      have HLT := Lib.hid hlt
      have HPP := Lib.hid (HP.out.trans (if_pos hlt))
      clear HP hon hlt
      go_enter Try.func17, Try.ntmps17
      go_wp2_with (at_builtin; (refine wpList_append_c rfl _ _ 27 rfl i0 (.int .u8 0) 1 1 Try.underlying27 hi hz0 hz1 hz2 rfl (by decide) rfl (HCA.out.alloc _) ⟨w.heap.size, 0, none⟩ 1 [.int .u8 (v : Nat)] rfl rfl hc1.out (fun u hu => by rw [List.mem_singleton.1 hu]; rfl) (by unfold maxLen; have := HLT.out; omega) (by have := HLT.out; omega) ?_); intro a' c' w1' hown1 hgrow1 hat; have HX := Lib.hid (show RowC w1' 5 1 (.slice a' (n + 1) c') (n + 1) (bytesV U.came ++ [.int .u8 (v : Nat)]) ∧ (w.alloc (.cells #[.int .u8 (v : Nat)] 5)).grownBy w1' (Value.slice a n c).ownBlock from ⟨hown1, hgrow1⟩); have HAT := Lib.hid hat; obtain ⟨-, -, f0, ff, fl⟩ := rgrow_facts HH.out (HB.out n) hgrow1; rw [← HN.out] at f0; clear hown1 hgrow1 hat)
      go_end0
      have hl2 : U.came.length < 16 := by have := HLT.out; have := HN.out; omega
      have hx := HX.out
      have ha := HAT.out
      rw [HN.out] at hx ha ⊢
      exact ⟨rfl, by rw [HPP.out]; exact rpush_end HH.out v hv hl2 hx.1 hx.2 ha⟩
    · have g1 : (16 : Int) ≤ n := by omega
      have HPP := Lib.hid (HP.out.trans (if_neg hlt))
      clear HP hon hlt
      go_enter Try.func17, Try.ntmps17
      go_wp2_with fail
      go_returns
      exact ⟨rfl, by rw [HPP.out]; exact RWent.of HL.out (rkeeps w b _ ov _ _)⟩
end
end Go.Proofs.Ytliiccmpfmgioaa
