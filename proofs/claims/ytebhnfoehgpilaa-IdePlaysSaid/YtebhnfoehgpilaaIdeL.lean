/- ide: New, Written, Disk. -/
import Derived.Test.YtebhnfoehgpilaaIdeK
namespace Go.Proofs.Ytebhnfoehgpilaa
open Go.RowKit
set_option linter.unusedVariables false

/-- A disk as it is made. -/
def Dk.made (n : Nat) (d : Nat → Nat) : Dk := ⟨n, d, fun _ => 0, 0, fun _ => 0, 0, 0, false, false, []⟩
theorem Dk.made_ok {n : Nat} {d : Nat → Nat} (hn : n ≤ 64) (hd : ∀ i, d i < 256) : (Dk.made n d).ok :=
  ⟨hn, hd, fun _ => (by show (0 : Nat) < 256; decide), (by show (0 : Nat) < 256; decide), fun _ => (by show (0 : Nat) < 256; decide), (by show (0 : Nat) ≤ 512; decide), (by show (0 : Nat) < 4; decide), fun x hx => by cases hx⟩
def blank : Dk := Dk.made 0 fun _ => 0
theorem made_cells (n : Nat) (d : Nat → Nat) (ds lv : Value) : (Dk.made n d).cells ds lv = blank.cells ds lv := rfl
set_option maxRecDepth 100000 in
theorem built_new (a : Option Addr) (m c : Nat) : Try.prog.built 56 [(0, .slice a m c)] = some (blank.cells (.slice a m c) (.slice none 0 0)) := by kernel_rfl
def Dk.new (n : Nat) (d : Nat → Nat) : Dk := (Dk.made n d).fresh
set_option maxHeartbeats 2000000 in
theorem new_yes {w : World} {v : Value} {n : Nat} {d : Nat → Nat} (H : Reads w v (n * 512) d) (hn : n ≤ 64) (hd : ∀ i, d i < 256) :
    Calls Try.prog 11 #[v] w fun e w' => ∃ b ds, e = .returned (.tuple #[.pointer (some ⟨b, 0, none⟩), .int .i64 0]) ∧ IdeIn 56 w' b ds (.slice none 0 0) (Dk.new n d) ∧ w.heap.size ≤ b ∧ (∀ k, ds.ownBlock = some k → w.heap.size ≤ k) ∧ Below w.heap.size w w' := by
  have HC := Lib.hid (clone_any H (by omega))
  obtain ⟨a, c, rfl, hx⟩ := H
  clear hx
  have q1 : ((n * 512 : Nat) : Int) % 512 = 0 := by omega
  have q2 : ((n * 512 : Nat) : Int) ≤ 32768 := by omega
  obtain ⟨L, hL⟩ : ∃ L, L = n * 512 := ⟨_, rfl⟩
  rw [← hL] at q1 q2 HC ⊢
  have HL := Lib.hid hL
  clear hL hn
  go_enter Try.func11, Try.ntmps11
  go_wp2_with fail
  refine HC.out.mono ?_
  rintro e w1 ⟨ds, rfl, hown, hb⟩
  obtain ⟨a', m', c', rfl⟩ := row_slice hown
  have HW := Lib.hid hown
  clear hown
  go_wp2_with ((refine wpList_build_eq (o := ⟨some 16, _, _, _, _, _⟩) ?hg0 56 ?pt0 ?ho0 (blank.cells (.slice a' m' c') (.slice none 0 0)) ?hb0 ?_); (case ho0 => rfl); (case hg0 => rfl); (case hb0 => (simp only [List.map_toArray, List.map_cons, List.map_nil]; exact built_new a' m' c')))
  have H1 : IdeIn 56 (w1.alloc (.cells (blank.cells (.slice a' m' c') (.slice none 0 0)) 56)) w1.heap.size (.slice a' m' c') (.slice none 0 0) (Dk.made n d) := by
    have hlt := World.ownsRow.lt HW.out
    refine { obj := heap_new w1 _, disk := ?_, log := World.ownsRow_nil _ _ _ _, d1 := fun e => ?_, d2 := (fun e => by cases e), d3 := (fun k _ e => by cases e), ok := Dk.made_ok (by have := HL.out; omega) hd }
    · have hr := row_base HW.out
      rw [HL.out] at hr
      exact hr.alloc _
    · exact Nat.lt_irrefl _ (hlt _ e).2
  have HH1 := Lib.hid H1
  clear H1
  refine (reset_in HH1.out).mono ?_
  rintro e w2 ⟨rfl, H2, K2⟩
  have HH2 := Lib.hid H2
  clear H2
  go_wp2_with fail
  go_ret2
  refine ⟨w1.heap.size, .slice a' m' c', rfl, HH2.out, hb.size, fun k hk => (World.ownsRow.lt HW.out k hk).1, ?_⟩
  exact Keeps.toBelow (hb.alloc hb.size _) K2 (by simp; have := hb.size; omega) (fun i h => by rw [h]; exact hb.size)
theorem new_bad {w : World} (a : Option Addr) (m c : Nat) (h : m % 512 ≠ 0 ∨ 32768 < m) :
    Calls Try.prog 11 #[.slice a m c] w fun e w' => e = .returned (.tuple #[.pointer none, .int .i64 140]) ∧ w = w' := by
  by_cases h1 : m % 512 = 0
  · have h2 : 32768 < m := by omega
    have q1 : ((m : Int) % 512 != 0) = false := by simp; omega
    have q2 : (32768 : Int) < (m : Int) := by omega
    clear h h1 h2
    go_enter Try.func11, Try.ntmps11
    go_wp2_with fail
    go_ret2
    exact ⟨rfl, rfl⟩
  · have q1 : ((m : Int) % 512 != 0) = true := by simp; omega
    clear h h1
    go_enter Try.func11, Try.ntmps11
    go_wp2_with fail
    go_ret2
    exact ⟨rfl, rfl⟩
section
variable {w : World} {b : Nat} {ds lv : Value} {D : Dk}
def Dk.quit (S : Dk) : Dk := { S with log := [] }
theorem Dk.quit_ok {S : Dk} (h : S.ok) : S.quit.ok := { h with log := fun x hx => by cases hx }
set_option maxHeartbeats 1000000 in
theorem written_in (H : IdeIn 56 w b ds lv D) :
    Calls Try.prog 17 #[.pointer (some ⟨b, 0, none⟩)] w fun e w' => e = .returned lv ∧ IdeIn 56 w' b ds (.slice none 0 0) D.quit ∧ Keeps (· = b) w w' := by
  obtain ⟨-, -, -, -, -, -, -, -, -, -, -, -, -, k13, kf, klt⟩ := H.facts
  obtain ⟨a, m, c, rfl⟩ := row_slice H.log
  have HH := Lib.hid H
  clear H
  go_enter Try.func17, Try.ntmps17
  go_wp2_with fail
  go_ret
  have K : Keeps (· = b) w (w.setCell ⟨b, 525, none⟩ (.slice none 0 0)) := (Keeps.refl _ w).setOne _ _
  refine ⟨rfl, ({ obj := ?_, disk := ?_, log := World.ownsRow_nil _ _ _ _, d1 := HH.out.d1, d2 := (fun e => by cases e), d3 := (fun k _ e => by cases e), ok := Dk.quit_ok HH.out.ok } : IdeIn _ _ _ _ _ _), K⟩
  · rw [heap_set_same (.slice none 0 0) HH.out.obj, Dk.put_log D ds (.slice a m c) [] (.slice none 0 0)]; rfl
  · exact HH.out.disk.of_heap fun k hk => K.block k (HH.out.disk.lt hk) (fun e => HH.out.d1 (by rw [← e]; exact hk))
theorem written_nil (w : World) : Calls Try.prog 17 #[.pointer none] w fun e w' => e = .returned (.slice none 0 0) ∧ w = w' := by
  go_enter Try.func17, Try.ntmps17
  go_wp2_with fail
  go_ret
  exact ⟨rfl, rfl⟩
theorem reads_row {w : World} {v : Value} {n : Nat} {d : Nat → Nat} {B : Nat} (h : w.ownsRow B 5 1 v n (bytesL n d)) : Reads w v n d := by
  rcases h.2 with ⟨rfl, rfl⟩ | ⟨g, cap, cur, rfl, _, hg, h1, h2, h3, h4⟩
  · exact ⟨none, 0, rfl, .inl ⟨rfl, fun _ => rfl⟩⟩
  · rw [Nat.mul_one] at h4
    exact ⟨_, _, rfl, .inr ⟨g, 0, rfl, heap_lt hg, fun i hi => by rw [cell_at hg, Nat.zero_add]; exact take_at h4 hi⟩⟩
set_option maxHeartbeats 1000000 in
theorem disk_in (H : IdeIn 56 w b ds lv D) :
    Calls Try.prog 15 #[.pointer (some ⟨b, 0, none⟩)] w fun e w' => ∃ v, e = .returned v ∧ w'.ownsRow w.heap.size 5 1 v (D.n * 512) (bytesL (D.n * 512) D.d) ∧ Below w.heap.size w w' := by
  obtain ⟨k0, -⟩ := H.facts
  have HC := Lib.hid (clone_any (reads_row H.disk) (by have := H.ok.n; omega))
  obtain ⟨a, m, c, rfl⟩ := row_slice H.disk
  clear H
  go_enter Try.func15, Try.ntmps15
  go_wp2_with fail
  refine HC.out.mono ?_
  rintro e w1 ⟨v, rfl, h1, h2⟩
  have H1 := Lib.hid h1
  clear h1
  go_wp2_with fail
  go_ret
  exact ⟨v, rfl, H1.out, h2⟩
theorem disk_nil (w : World) : Calls Try.prog 15 #[.pointer none] w fun e w' => e = .returned (.slice none 0 0) ∧ w = w' := by
  go_enter Try.func15, Try.ntmps15
  go_wp2_with fail
  go_ret
  exact ⟨rfl, rfl⟩
end
end Go.Proofs.Ytebhnfoehgpilaa
