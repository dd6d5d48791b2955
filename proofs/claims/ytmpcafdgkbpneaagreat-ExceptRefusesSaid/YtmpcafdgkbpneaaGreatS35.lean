/- Steps of a proof: PicK, PicL, PicM, together. -/
import Derived.Test.YtmpcafdgkbpneaaGreatS29
import Derived.BigQuiet
import Derived.Test.YtmpcafdgkbpneaaGreatS6
import Derived.Deep.MidRow
import Derived.Laws.Tables
import Derived.Laws.Rows
import Derived.Laws.CopyOwn
import Derived.Deep.RegionHeld3
/- pic: the order in which lines are told, as a plain law over chips. -/
set_option maxRecDepth 20000
namespace Go.Proofs.YtmpcafdgkbpneaaGreat.Pic
open Go.RowKit
set_option linter.unusedVariables false


-- THE CALLS, THAT TURN NO OTHER BLOCK
end Go.Proofs.YtmpcafdgkbpneaaGreat.Pic

/- pic: the document's chips: a bit, bits as a byte. -/
namespace Go.Proofs.YtmpcafdgkbpneaaGreat.Pic
open Go.RowKit
set_option linter.unusedVariables false

def bt (x n : Nat) : Bool := x.testBit n
def bits8 (x : Nat) : List Value := [.bool (bt x 0), .bool (bt x 1), .bool (bt x 2), .bool (bt x 3), .bool (bt x 4), .bool (bt x 5), .bool (bt x 6), .bool (bt x 7)]
def Chip.wants (c : Chip) : List Nat :=
 if c.stage = 1 then 1 :: ((if c.second then [2] else []) ++ (if c.last then [3] else [])) else if c.stage = 2 then 2 :: (if c.last then [3] else []) else if c.stage = 3 then [3] else []
def numV (L : List Nat) : List Value := L.map (fun (n : Nat) => Value.int .i64 (n : Int))
def Chip.rcells (c : Chip) (v : Value) : List Value := [.bool (bt c.asks 0), .bool (bt c.asks 1), .bool (bt c.asks 2), .bool (bt c.asks 3), .bool (bt c.asks 4), .bool (bt c.asks 5), .bool (bt c.asks 6), .bool (bt c.asks 7), .bool (bt c.served 0), .bool (bt c.served 1), .bool (bt c.served 2), .bool (bt c.served 3), .bool (bt c.served 4), .bool (bt c.served 5), .bool (bt c.served 6), .bool (bt c.served 7), .bool (bt c.masked 0), .bool (bt c.masked 1), .bool (bt c.masked 2), .bool (bt c.masked 3), .bool (bt c.masked 4), .bool (bt c.masked 5), .bool (bt c.masked 6), .bool (bt c.masked 7), .bool (bt c.up 0), .bool (bt c.up 1), .bool (bt c.up 2), .bool (bt c.up 3), .bool (bt c.up 4), .bool (bt c.up 5), .bool (bt c.up 6), .bool (bt c.up 7), .int .i64 (c.base : Nat), .bool c.told, .bool c.ends, v]
structure RP (w : World) (b : Nat) (v u : Value) (c d : Chip) : Prop where
 obj : w.heap[b]? = some (.cells (c.rcells v ++ d.rcells u).toArray 258)
 cw : RowC w 3 1 v c.wants.length (numV c.wants)
 dw : RowC w 3 1 u d.wants.length (numV d.wants)
theorem RP.lt {w : World} {b : Nat} {v u : Value} {c d : Chip} (H : RP w b v u c d) : b < w.heap.size := heap_lt H.obj
theorem RP.below {w w1 : World} {b : Nat} {v u : Value} {c d : Chip} (H : RP w b v u c d) (hb : Below w.heap.size w w1) : RP w1 b v u c d :=
 ⟨heap_below hb H.obj, H.cw.of_heap fun k hk => hb.block _ (H.cw.lt hk), H.dw.of_heap fun k hk => hb.block _ (H.dw.lt hk)⟩
def Chip.part (c : Chip) : Nat → Nat
 | 0 => c.asks
 | 1 => c.served
 | 2 => c.masked
 | _ => c.up
end Go.Proofs.YtmpcafdgkbpneaaGreat.Pic

/- pic: the document's pair: New, Pending, In. -/
namespace Go.Proofs.YtmpcafdgkbpneaaGreat.Pic
open Go.RowKit
set_option linter.unusedVariables false

theorem info36 : (Tryz.prog.info? 255).map (·.size) = some 36 := by kernel_rfl
def zero36 : List Value := chip0.rcells (.slice none 0 0)
set_option maxRecDepth 100000 in
theorem zeroChip (w : World) : (zeroValue 255).run Tryz.prog w = .ok (.agg zero36.toArray) w := by kernel_rfl
theorem rc_one (c : Chip) {v : Value} (hv : v.oneCell' = true) : (c.rcells v).toArray.all (·.oneCell') = true := by
 refine all_oneCell_toArray ?_
 intro x hx
 simp only [Chip.rcells, List.mem_cons, List.not_mem_nil, or_false] at hx
 rcases hx with rfl | rfl | rfl | rfl | rfl | rfl | rfl | rfl | rfl | rfl | rfl | rfl | rfl | rfl | rfl | rfl | rfl | rfl | rfl | rfl | rfl | rfl | rfl | rfl | rfl | rfl | rfl | rfl | rfl | rfl | rfl | rfl | rfl | rfl | rfl | rfl <;> first | rfl | exact hv
theorem RowC.one {w : World} {e : TypeId} {size n : Nat} {v : Value} {xs : List Value} (h : RowC w e size v n xs) : v.oneCell' = true := by
 obtain ⟨a, c, rfl⟩ := h.len; rfl
theorem RP.r0 {w : World} {b : Nat} {v u : Value} {c d : Chip} (H : RP w b v u c d) : w.rangeAt b 0 (c.rcells v) := fun j x hj => by
 have hl : j < 36 := (List.getElem?_eq_some_iff.1 hj).1
 rw [cell_at H.obj, Nat.zero_add, List.getElem?_toArray, List.getElem?_append_left hl]; exact hj
theorem RP.r1 {w : World} {b : Nat} {v u : Value} {c d : Chip} (H : RP w b v u c d) : w.rangeAt b 36 (d.rcells u) := fun j x hj => by
 rw [cell_at H.obj, List.getElem?_toArray, show 36 = (c.rcells v).length from rfl, List.getElem?_append_right (by omega), Nat.add_sub_cancel_left]; exact hj
theorem RP.there {w : World} {b : Nat} {v u : Value} {c d : Chip} (H : RP w b v u c d) (o n : Nat) (h : o + n ≤ 72) : w.there b o n := fun j hj => by
 refine ⟨?_, free_at H.obj⟩
 rw [cell_at H.obj, Array.getElem?_eq_getElem (show o + j < (c.rcells v ++ d.rcells u).toArray.size by show _ < 72; omega)]; rfl
set_option maxRecDepth 100000 in
theorem zero72 (w : World) : (zeroValue 258).run Tryz.prog w = .ok (.agg #[.bool false, .bool false, .bool false, .bool false, .bool false, .bool false, .bool false, .bool false, .bool false, .bool false, .bool false, .bool false, .bool false, .bool false, .bool false, .bool false, .bool false, .bool false, .bool false, .bool false, .bool false, .bool false, .bool false, .bool false, .bool false, .bool false, .bool false, .bool false, .bool false, .bool false, .bool false, .bool false, .int .i64 0, .bool false, .bool false, .slice none 0 0, .bool false, .bool false, .bool false, .bool false, .bool false, .bool false, .bool false, .bool false, .bool false, .bool false, .bool false, .bool false, .bool false, .bool false, .bool false, .bool false, .bool false, .bool false, .bool false, .bool false, .bool false, .bool false, .bool false, .bool false, .bool false, .bool false, .bool false, .bool false, .bool false, .bool false, .bool false, .bool false, .int .i64 0, .bool false, .bool false, .slice none 0 0]) w := by kernel_rfl
theorem RP.new (w : World) : RP (w.alloc (.cells (chip0.rcells (.slice none 0 0) ++ chip0.rcells (.slice none 0 0)).toArray 258)) w.heap.size (.slice none 0 0) (.slice none 0 0) chip0 chip0 :=
 ⟨heap_new w _, RowC.nil _ _ _, RowC.nil _ _ _⟩
theorem rnew_any (w : World) : Calls Tryz.prog 91 #[] w fun e w' => e = .returned (.pointer (some ⟨w.heap.size, 0, none⟩)) ∧ RP w' w.heap.size (.slice none 0 0) (.slice none 0 0) chip0 chip0 ∧ Below w.heap.size w w' := by
 have hz := fun w => zero72 w
 go_enter Tryz.func91, Tryz.ntmps91
 go_wp2_with fail
 go_ret
 exact ⟨rfl, RP.new w, (Below.refl _ _).alloc (Nat.le_refl _) _⟩
section
variable {w : World} {b : Nat} {v u : Value} {c d : Chip}
theorem heap_row {w : World} {g : Nat} {old cs : Array Value} {T : TypeId} (h : w.heap[g]? = some (.cells old T (0, 0))) : (w.setRow g cs).heap[g]? = some (.cells cs T (0, 0)) := setRow_heap w _ _ _ _ _ h

structure ChipAt (w : World) (g : Nat) (c : Chip) (v : Value) : Prop where
 obj : w.heap[g]? = some (.cells (c.rcells v).toArray 255 (0, 0))
theorem ChipAt.lt {w : World} {g : Nat} (h : ChipAt w g c v) : g < w.heap.size := heap_lt h.obj
theorem ChipAt.free {w : World} {g : Nat} (h : ChipAt w g c v) (k : Nat) : w.frozen? ⟨g, k, none⟩ = false := free_at h.obj
theorem ChipAt.row {w : World} {g : Nat} (h : ChipAt w g c v) : w.rangeAt g 0 (c.rcells v) := fun j x hj => by
 rw [cell_at h.obj, Nat.zero_add, List.getElem?_toArray]; exact hj
theorem ChipAt.bits {w : World} {g : Nat} (h : ChipAt w g c v) (f : Nat) (hf : f < 4) : w.rangeAt g (8 * f) (bits8 (c.part f)) := fun j x hj => by
 have hl : j < 8 := (List.getElem?_eq_some_iff.1 hj).1
 rw [cell_at h.obj, ← hj]
 rcases (show f = 0 ∨ f = 1 ∨ f = 2 ∨ f = 3 by omega) with rfl | rfl | rfl | rfl <;>
  rcases (show j = 0 ∨ j = 1 ∨ j = 2 ∨ j = 3 ∨ j = 4 ∨ j = 5 ∨ j = 6 ∨ j = 7 by omega) with rfl | rfl | rfl | rfl | rfl | rfl | rfl | rfl <;> rfl
theorem ChipAt.bit {w : World} {g : Nat} (h : ChipAt w g c v) (f i k : Nat) (hf : f < 4) (hi : i < 8) (hk : k = 8 * f + i) : w.cell? ⟨g, k, none⟩ = some (.bool (bt (c.part f) i)) := by
 rw [hk]
 refine h.bits f hf i _ ?_
 rcases (show i = 0 ∨ i = 1 ∨ i = 2 ∨ i = 3 ∨ i = 4 ∨ i = 5 ∨ i = 6 ∨ i = 7 by omega) with rfl | rfl | rfl | rfl | rfl | rfl | rfl | rfl <;> rfl
theorem chip_copied (w : World) : ChipAt ((w.alloc (.cells zero36.toArray 255)).setRow w.heap.size (c.rcells v).toArray) w.heap.size c v ∧
    Below w.heap.size w ((w.alloc (.cells zero36.toArray 255)).setRow w.heap.size (c.rcells v).toArray) :=
 ⟨⟨heap_row (heap_new w _)⟩, below_setRow ((Below.refl _ _).alloc (Nat.le_refl _) _) (Nat.le_refl _) _⟩
end
end Go.Proofs.YtmpcafdgkbpneaaGreat.Pic

