/- Steps of a proof: ExT0, ExTab, together. -/
import Derived.Test.YtmpcafdgkbpneaaGreatS13
import Derived.Test.YtmpcafdgkbpneaaGreatS27
import Derived.Maps.AppendAt
/- except's laws: the words of their tables. -/
set_option maxHeartbeats 4000000
set_option maxRecDepth 20000
namespace Go.Proofs.YtmpcafdgkbpneaaGreat
open Go.RowKit
def tabHead : List (Nat × Nat) := [(2056, 65535), (2060, 13605376), (2064, 65535), (2068, 13603328), (2072, 65535), (2076, 13629952), (2080, 65535), (2084, 13627904), (2564, 40704), (2568, 16)]
def gate2 (kind i : Nat) : List (Nat × Nat) := [(3072 + 8 * i, 548864 + 16 * i), (3076 + 8 * i, kind)]
def tabW (kind k : Nat) : List (Nat × Nat) := tabHead ++ (List.range k).flatMap (gate2 kind)
def cellsOf (ws : List (Nat × Nat)) : List Value := ws.flatMap fun p => [Value.int .u32 (p.1 : Nat), Value.int .u32 (p.2 : Nat)]
end Go.Proofs.YtmpcafdgkbpneaaGreat

/- except's laws: the tables of descriptors and gates. -/
namespace Go.Proofs.YtmpcafdgkbpneaaGreat
open Go.RowKit Go.MapKept
set_option linter.unusedVariables false
attribute [local go_sem ↓] Go.wp_at_zero Go.wp_at_succ

theorem cellsOf_append (a b : List (Nat × Nat)) : cellsOf (a ++ b) = cellsOf a ++ cellsOf b := List.flatMap_append
theorem cellsOf_get : ∀ (ws : List (Nat × Nat)) (i : Nat) (p : Nat × Nat), ws[i]? = some p → (cellsOf ws)[i * 2]? = some (.int .u32 (p.1 : Nat)) ∧ (cellsOf ws)[i * 2 + 1]? = some (.int .u32 (p.2 : Nat))
 | [], i, p, h => by simp at h
 | q :: ws, 0, p, h => by
  simp at h
  subst h
  exact ⟨rfl, rfl⟩
 | q :: ws, i + 1, p, h => by
  have := cellsOf_get ws i p (by simpa using h)
  rw [show (i + 1) * 2 = i * 2 + 1 + 1 by omega]
  exact this
theorem tabW_succ (kind k : Nat) : tabW kind (k + 1) = tabW kind k ++ gate2 kind k := by
 unfold tabW
 rw [List.range_succ, List.flatMap_append, List.append_assoc]
 simp
theorem tabW_len (kind : Nat) : ∀ k, (tabW kind k).length = 10 + 2 * k
 | 0 => rfl
 | k + 1 => by rw [tabW_succ, List.length_append, tabW_len kind k]; simp [gate2]; omega
theorem infoW : (Tryz.prog.info? 121).map (fun i => (i.zero, i.size, i.bytes)) = some (some (.agg #[.int .u32 0, .int .u32 0]), 2, 8) := by kernel_rfl
theorem cellsOf_one (ws : List (Nat × Nat)) : ∀ u ∈ cellsOf ws, u.oneCell' = true := by
 intro u hu
 obtain ⟨p, _, hp⟩ := List.mem_flatMap.1 hu
 simp at hp
 rcases hp with rfl | rfl <;> rfl
theorem tables_x (kind : Nat) (hkd : kind < 4294967296) (w : World) : Calls Tryz.prog 22 #[.int .u32 (kind : Nat)] w fun e w' =>
    ∃ v, e = .returned v ∧ w'.ownsRow w.heap.size 121 2 v 138 (cellsOf (tabW kind 64)) ∧ Below w.heap.size w w' := by
 obtain ⟨i0, hi, hz0, hz1, hz2⟩ := info_parts infoW
 have HI := Lib.hid (And.intro hi (And.intro hz0 (And.intro hz1 hz2)))
 clear hi hz0 hz1 hz2
 have H0 : (w.alloc (.cells (cellsOf tabHead).toArray 121)).ownsRow w.heap.size 121 2 (.slice (some ⟨w.heap.size, 0, none⟩) 10 10) 10 (cellsOf (tabW kind 0)) := by
  refine ⟨rfl, .inr ⟨w.heap.size, 10, (cellsOf tabHead).toArray, rfl, Nat.le_refl _, heap_new w _, Nat.le_refl _, by unfold maxLen; omega, rfl, rfl⟩⟩
 have HH := Lib.hid (And.intro H0 (below_on (Below.refl _ w) (.cells (cellsOf tabHead).toArray 121)))
 clear H0
 go_enter Tryz.func22, Tryz.ntmps22
 go_wp2_with fail
 change Code.wp _ _ _ _ (w.alloc (.cells (cellsOf tabHead).toArray 121))
 go_loopw [3, 4] (fun v i wr => ∃ (k : Nat) (va : Option Addr) (vc : Nat), k ≤ 64 ∧ i = .int .i64 k ∧ v = .slice va (10 + 2 * k) vc ∧ wr.ownsRow w.heap.size 121 2 (.slice va (10 + 2 * k) vc) (10 + 2 * k) (cellsOf (tabW kind k)) ∧ Below w.heap.size w wr) (fun _ i _ => 64 - (intOf i).toNat)
 case atStart => exact ⟨0, _, _, by omega, rfl, rfl, HH.out.1, HH.out.2⟩
 case round =>
  obtain ⟨k, va, vc, hk, rfl, rfl, ho, hb⟩ := hrel
  have HO := Lib.hid ho
  have HB := Lib.hid hb
  clear ho hb
  by_cases hks : k < 64
  ·have E1 := Lib.hid (show (3072 : Int) + 8 * (k : Int) = ((3072 + 8 * k : Nat) : Int) by omega)
   have E2 := Lib.hid (show (524288 : Int) + (24576 + 16 * (k : Int)) = ((548864 + 16 * k : Nat) : Int) by omega)
   have E3 := Lib.hid (show (3076 : Int) + 8 * (k : Int) = ((3076 + 8 * k : Nat) : Int) by omega)
   obtain ⟨o, hoo⟩ : ∃ o, o = Obj.cells (cellsOf (gate2 kind k)).toArray 121 := ⟨_, rfl⟩
   have hnew := heap_new wr o
   rw [hoo] at hnew
   have HNEWS := Lib.hid (show ∀ j u, (cellsOf (gate2 kind k))[j]? = some u → (wr.alloc (Obj.cells (cellsOf (gate2 kind k)).toArray 121)).cell? ((⟨wr.heap.size, 0, none⟩ : Addr).add j) = some u from fun j u hj => by
    rw [Addr.add_mid, cell_at hnew, Nat.zero_add, List.getElem?_toArray]; exact hj)
   have HOA := Lib.hid (show (wr.alloc (Obj.cells (cellsOf (gate2 kind k)).toArray 121)).ownsRow w.heap.size 121 2 (.slice va (10 + 2 * k) vc) (10 + 2 * k) (cellsOf (tabW kind k)) from HO.out.alloc _)
   have HBA := Lib.hid (below_on HB.out (Obj.cells (cellsOf (gate2 kind k)).toArray 121))
   clear hnew hoo
   go_wp2_with (at_builtin; rw [E1.out, E2.out, E3.out]; refine wpList_append_own_at _ rfl _ _ 51 rfl w.heap.size 121 i0 (.agg #[.int .u32 0, .int .u32 0]) 2 8 Tryz.underlying51 HI.out.1 HI.out.2.1 HI.out.2.2.1 HI.out.2.2.2 rfl (by decide) _ (10 + 2 * k) _ rfl HOA.out ⟨wr.heap.size, 0, none⟩ 2 2 (cellsOf (gate2 kind k)) rfl rfl HNEWS.out (cellsOf_one _) (by unfold maxLen; omega) (by omega) HBA.out.size ?_; intro v' w1 hown1 hgrow1 _ _)
   obtain ⟨a', c', hv⟩ : ∃ a c, v' = .slice a (10 + 2 * (k + 1)) c := by
    rcases hown1.2 with ⟨rfl, h⟩ | ⟨g, cap, cur, rfl, _⟩
    ·omega
    ·exact ⟨_, _, rfl⟩
   subst hv
   refine ⟨⟨k + 1, a', c', by omega, by go_num, rfl, ?_, HBA.out.grown hgrow1 HBA.out.size (fun b hb => (World.ownsRow.lt HOA.out b hb).1)⟩, by show 64 - ((k : Int) + 1).toNat < 64 - ((k : Int)).toNat; omega⟩
   rw [tabW_succ, cellsOf_append]
   exact hown1
  ·have hk64 : k = 64 := by omega
   subst hk64
   go_wp2_with fail
   go_ret
   exact ⟨_, rfl, HO.out, HB.out⟩
theorem words_of {w : World} {base : Nat} {v : Value} {ws : List (Nat × Nat)} (h : w.ownsRow base 121 2 v ws.length (cellsOf ws)) (hw : ∀ i, i < ws.length → (ws.getD i (0, 0)).1 < 4294967296 ∧ (ws.getD i (0, 0)).2 < 4294967296) :
    ∃ a c, v = .slice a ws.length c ∧ WordsIn w a ws.length (fun i => (ws.getD i (0, 0)).1) (fun i => (ws.getD i (0, 0)).2) := by
 rcases h.2 with ⟨rfl, h0⟩ | ⟨g, cap, cur, rfl, _, hg, h1, _, _, h2⟩
 ·exact ⟨none, 0, by rw [h0], .inl h0⟩
 ·refine ⟨_, _, rfl, .inr ⟨g, 0, rfl, ⟨fun i hi => ?_, fun i hi => ?_, fun i hi => (hw i hi).1, fun i hi => (hw i hi).2, heap_lt hg⟩⟩⟩
  ·have e := (cellsOf_get ws i (ws.getD i (0, 0)) (by rw [List.getD_eq_getElem?_getD, List.getElem?_eq_getElem hi]; rfl)).1
   rw [← h2, List.getElem?_take, if_pos (by omega), Array.getElem?_toList] at e
   rw [cell_at hg, Nat.zero_add]
   exact e
  ·have e := (cellsOf_get ws i (ws.getD i (0, 0)) (by rw [List.getD_eq_getElem?_getD, List.getElem?_eq_getElem hi]; rfl)).2
   rw [← h2, List.getElem?_take, if_pos (by omega), Array.getElem?_toList] at e
   rw [cell_at hg, Nat.zero_add]
   exact e
end Go.Proofs.YtmpcafdgkbpneaaGreat

