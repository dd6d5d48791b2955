/- ide: the document's disk: New, Written. -/
import Derived.Test.YtebhnfoehgpilaaIdeRa
import Derived.Test.YtebhnfoehgpilaaIdeL
import Derived.Laws.AppendOwnNone
namespace Go.Proofs.Ytebhnfoehgpilaa
open Go.RowKit
set_option linter.unusedVariables false
set_option linter.unusedSimpArgs false

set_option maxRecDepth 100000 in
theorem rbuilt_new (a : Option Addr) (m c : Nat) : Try.prog.built 51 [(0, .slice a m c)] = some (blank.cells (.slice a m c) (.slice none 0 0)) := by kernel_rfl
/-- A slice's cells, appended to an empty slice. -/
theorem reads_news {w : World} {v : Value} {n : Nat} {d : Nat → Nat} (H : Reads w v n d) : (n = 0 ∧ v = .slice none 0 0) ∨ ∃ ad c, v = .slice (some ad) n c ∧ ∀ j u, (bytesL n d)[j]? = some u → w.cell? (ad.add j) = some u := by
  obtain ⟨a, c, rfl, h⟩ := H
  cases a with
  | none =>
    rcases h with ⟨rfl, h⟩ | ⟨b, off, h, _⟩
    · obtain rfl := h rfl; exact .inl ⟨rfl, rfl⟩
    · cases h
  | some a =>
    right
    rcases h with ⟨rfl, h⟩ | ⟨b, off, h, _, hc⟩
    · exact ⟨a, c, rfl, fun j u hj => by rw [bytesL_no 0 d j (Nat.zero_le _)] at hj; cases hj⟩
    · cases h
      exact ⟨_, c, rfl, fun j u hj => by obtain ⟨hj2, rfl⟩ := bytesL_some hj; rw [Go.WideShapes.add_plain]; exact hc j hj2⟩
section
variable {w : World} {b : Nat} {ds lv : Value} {D : Dk}
theorem rmade_in {w1 : World} {L n : Nat} {d : Nat → Nat} {a' : Option Addr} {c' : Nat} (hL : L = n * 512) (hn : n ≤ 64) (hd : ∀ i, d i < 256) (hown : w1.ownsRow w.heap.size 5 1 (.slice a' L c') L (bytesL L d)) :
    IdeIn 51 (w1.alloc (.cells (blank.cells (.slice a' L c') (.slice none 0 0)) 51)) w1.heap.size (.slice a' L c') (.slice none 0 0) (Dk.made n d) := by
  have hlt := World.ownsRow.lt hown
  refine { obj := heap_new w1 _, disk := ?_, log := World.ownsRow_nil _ _ _ _, d1 := fun e => ?_, d2 := (fun e => by cases e), d3 := (fun k _ e => by cases e), ok := Dk.made_ok hn hd }
  · have hr := row_base hown
    rw [hL] at hr ⊢
    exact hr.alloc _
  · exact Nat.lt_irrefl _ (hlt _ e).2
def NewAt (w : World) (n : Nat) (d : Nat → Nat) (e : Ending) (w' : World) : Prop :=
  ∃ b ds, e = .returned (.tuple #[.pointer (some ⟨b, 0, none⟩), .int .i64 0]) ∧ IdeIn 51 w' b ds (.slice none 0 0) (Dk.new n d) ∧ w.heap.size ≤ b ∧ (∀ k, ds.ownBlock = some k → w.heap.size ≤ k) ∧ Below w.heap.size w w'
theorem rrow_len {w : World} {B n : Nat} {E : TypeId} {v : Value} {xs : List Value} (h : w.ownsRow B E 1 v n xs) : ∃ a c, v = .slice a n c := by
  rcases h.2 with ⟨rfl, rfl⟩ | ⟨g, cap, cur, rfl, _⟩
  · exact ⟨_, _, rfl⟩
  · exact ⟨_, _, rfl⟩
set_option maxHeartbeats 2000000 in
theorem rnew_yes {v : Value} {n : Nat} {d : Nat → Nat} (H : Reads w v (n * 512) d) (hn : n ≤ 64) (hd : ∀ i, d i < 256) :
    Calls Try.prog 18 #[v] w (NewAt w n d) := by
  have hown : (w.alloc (.cells #[] 5)).ownsRow w.heap.size 5 1 (.slice (some ⟨w.heap.size, 0, none⟩) 0 0) 0 [] := World.ownsRow_made w #[] 0 (Nat.le_refl _) (by decide) (by simp)
  have HOWN := Lib.hid hown
  clear hown
  obtain ⟨i0, hi, hz0, hz1, hz2⟩ := info_parts info8
  have q1 : ((n * 512 : Nat) : Int) % 512 = 0 := by omega
  have q2 : ((n * 512 : Nat) : Int) ≤ 32768 := by omega
  have q3 : n * 512 ≤ 32768 := by omega
  rcases reads_news H with ⟨h0, rfl⟩ | ⟨ad, c, rfl, hnews⟩
  · have hn0 : n = 0 := by omega
    subst hn0
    clear H h0 q1 q2 q3
    go_enter Try.func18, Try.ntmps18
    go_wp2_with (first | (at_builtin; (refine wpList_append_own_none rfl _ _ 23 rfl w.heap.size 5 i0 1 Try.underlying23 hi _ 0 [] rfl HOWN.out rfl ?_)) | ((refine wpList_build_eq (o := ⟨some 17, _, _, _, _, _⟩) ?hg0 51 ?pt0 ?ho0 (blank.cells (.slice (some ⟨w.heap.size, 0, none⟩) 0 0) (.slice none 0 0)) ?hb0 ?_); (case ho0 => rfl); (case hg0 => rfl); (case hb0 => (simp only [List.map_toArray, List.map_cons, List.map_nil]; exact rbuilt_new _ _ _))))
    have H0 := rmade_in (w := w) (n := 0) (L := 0) (d := d) (by omega) (by omega) hd HOWN.out
    simp only [World.size_alloc] at H0
    have H1 := Lib.hid H0
    clear H0
    refine (rfresh_in H1.out).mono ?_
    rintro e w2 ⟨rfl, H2, K2⟩
    have HX := Lib.hid (And.intro H2 K2)
    clear H2 K2
    go_wp2_with fail
    go_ret2
    refine ⟨_, _, rfl, HX.out.1, by simp, fun k hk => by cases hk; exact Nat.le_refl _, ?_⟩
    exact Keeps.toBelow (((Below.refl _ _).alloc (Nat.le_refl _) _).alloc (by simp) _) HX.out.2 (by simp; omega) (fun i h => by rw [h]; simp)
  · have HNEWS := Lib.hid (show ∀ j u, (bytesL (n * 512) d)[j]? = some u → (w.alloc (.cells #[] 5)).cell? (ad.add j) = some u from fun j u h => by
      have := hnews j u h
      rw [World.cell?_alloc_lt _ _ _ (World.block_lt_of_cell? w _ this)]
      exact this)
    clear hnews H
    obtain ⟨L, hL⟩ : ∃ L, L = n * 512 := ⟨_, rfl⟩
    rw [← hL] at q1 q2 q3 HNEWS ⊢
    have HL := Lib.hid (And.intro hL hn)
    clear hL hn
    go_enter Try.func18, Try.ntmps18
    go_wp2_with (first | (at_builtin; refine wpList_append_own _ rfl _ _ 23 rfl w.heap.size 5 i0 (.int .u8 0) 1 1 Try.underlying23 hi hz0 hz1 hz2 rfl (by decide) _ 0 [] rfl HOWN.out ad L c (bytesL L d) rfl (by rw [bytesL_len]; omega) HNEWS.out (bytesL_one L d) (by unfold maxLen; omega) (by omega) (by simp) ?_; intro v' w1 hown1 hgrow1 _; have HB1 := Lib.hid (((Below.refl w.heap.size w).alloc (Nat.le_refl _) (.cells #[] 5)).grown hgrow1 (by simp) (by intro k hk; cases hk; exact Nat.le_refl _)); have HW1 := Lib.hid (show w1.ownsRow w.heap.size 5 1 v' L (bytesL L d) from by simpa using hown1); obtain ⟨a', c', hvv⟩ := rrow_len HW1.out; clear hown1 hgrow1; obtain rfl := hvv) | ((refine wpList_build_eq (o := ⟨some 17, _, _, _, _, _⟩) ?hg0 51 ?pt0 ?ho0 (blank.cells (.slice a' L c') (.slice none 0 0)) ?hb0 ?_); (case ho0 => rfl); (case hg0 => rfl); (case hb0 => (simp only [List.map_toArray, List.map_cons, List.map_nil]; exact rbuilt_new _ _ _))))
    have H1 := Lib.hid (rmade_in (w := w) HL.out.1 HL.out.2 hd HW1.out)
    refine (rfresh_in H1.out).mono ?_
    rintro e w2 ⟨rfl, H2, K2⟩
    have HX := Lib.hid (And.intro H2 K2)
    clear H2 K2
    go_wp2_with fail
    go_ret2
    refine ⟨_, _, rfl, HX.out.1, HB1.out.size, fun k hk => (World.ownsRow.lt HW1.out k hk).1, ?_⟩
    exact Keeps.toBelow (HB1.out.alloc HB1.out.size _) HX.out.2 (by simp; have := HB1.out.size; omega) (fun i h => by rw [h]; exact HB1.out.size)
set_option maxHeartbeats 1000000 in
theorem rnew_bad (a : Option Addr) (m c : Nat) (h : m % 512 ≠ 0 ∨ 32768 < m) :
    Calls Try.prog 18 #[.slice a m c] w fun e w' => e = .returned (.tuple #[.pointer none, .int .i64 140]) ∧ w = w' := by
  by_cases h1 : m % 512 = 0
  · have q : (32768 : Int) < (m : Int) := by omega
    have q2 : ((m : Int) % 512 != 0) = false := by simp; omega
    clear h h1
    go_enter Try.func18, Try.ntmps18
    go_wp2_with fail
    go_ret2
    exact ⟨rfl, rfl⟩
  · have q2 : ((m : Int) % 512 != 0) = true := by simp; omega
    clear h h1
    go_enter Try.func18, Try.ntmps18
    go_wp2_with fail
    go_ret2
    exact ⟨rfl, rfl⟩
set_option maxHeartbeats 1000000 in
theorem rwritten_in (H : IdeIn 51 w b ds lv D) :
    Calls Try.prog 21 #[.pointer (some ⟨b, 0, none⟩)] w fun e w' => e = .returned lv ∧ IdeIn 51 w' b ds (.slice none 0 0) D.quit ∧ Keeps (· = b) w w' := by
  obtain ⟨-, -, -, -, -, -, -, -, -, -, -, -, -, k13, kf, klt⟩ := H.facts
  obtain ⟨a, m, c, rfl⟩ := row_slice H.log
  have HH := Lib.hid H
  clear H
  go_enter Try.func21, Try.ntmps21
  go_wp2_with fail
  go_ret
  have K : Keeps (· = b) w (w.setCell ⟨b, 525, none⟩ (.slice none 0 0)) := (Keeps.refl _ w).setOne _ _
  refine ⟨rfl, ({ obj := ?_, disk := ?_, log := World.ownsRow_nil _ _ _ _, d1 := HH.out.d1, d2 := (fun e => by cases e), d3 := (fun k _ e => by cases e), ok := Dk.quit_ok HH.out.ok } : IdeIn _ _ _ _ _ _), K⟩
  · rw [heap_set_same (.slice none 0 0) HH.out.obj, Dk.put_log D ds (.slice a m c) [] (.slice none 0 0)]; rfl
  · exact HH.out.disk.of_heap fun k hk => K.block k (HH.out.disk.lt hk) (fun e => HH.out.d1 (by rw [← e]; exact hk))
end
end Go.Proofs.Ytebhnfoehgpilaa
