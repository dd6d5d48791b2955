/- pic: the document's pair: New, Pending, In. -/
import Derived.Test.YtfijohgbgadhiaaPicL
import Derived.Deep.MidRow
import Derived.Laws.Tables
import Derived.Laws.Rows
import Derived.Laws.CopyOwn
import Derived.Deep.RegionHeld3
namespace Go.Proofs.Ytfijohgbgadhiaa
open Go.RowKit
set_option linter.unusedVariables false


theorem info36 : (Try.prog.info? 58).map (·.size) = some 36 := by kernel_rfl
def zero36 : List Value := chip0.rcells (.slice none 0 0)
set_option maxRecDepth 100000 in
theorem zeroChip (w : World) : (zeroValue 58).run Try.prog w = .ok (.agg zero36.toArray) w := by kernel_rfl
theorem zero36_cells : (Value.agg zero36.toArray).cells = zero36.toArray := rfl
theorem rc_one (c : Chip) {v : Value} (hv : v.oneCell' = true) : (c.rcells v).toArray.all (·.oneCell') = true := by
  refine all_oneCell_toArray ?_
  intro x hx
  simp only [Chip.rcells, List.mem_cons, List.not_mem_nil, or_false] at hx
  rcases hx with rfl | rfl | rfl | rfl | rfl | rfl | rfl | rfl | rfl | rfl | rfl | rfl | rfl | rfl | rfl | rfl | rfl | rfl | rfl | rfl | rfl | rfl | rfl | rfl | rfl | rfl | rfl | rfl | rfl | rfl | rfl | rfl | rfl | rfl | rfl | rfl <;> first | rfl | exact hv
theorem RowC.one {w : World} {e : TypeId} {size n : Nat} {v : Value} {xs : List Value} (h : RowC w e size v n xs) : v.oneCell' = true := by
  obtain ⟨a, c, rfl⟩ := h.len; rfl
/-- The first chip's cells, the second one's. -/
theorem RP.r0 {w : World} {b : Nat} {v u : Value} {c d : Chip} (H : RP w b v u c d) : w.rangeAt b 0 (c.rcells v) := fun j x hj => by
  have hl : j < 36 := (List.getElem?_eq_some_iff.1 hj).1
  rw [cell_at H.obj, Nat.zero_add, List.getElem?_toArray, List.getElem?_append_left hl]; exact hj
theorem RP.r1 {w : World} {b : Nat} {v u : Value} {c d : Chip} (H : RP w b v u c d) : w.rangeAt b 36 (d.rcells u) := fun j x hj => by
  rw [cell_at H.obj, List.getElem?_toArray, show 36 = (c.rcells v).length from rfl, List.getElem?_append_right (by omega), Nat.add_sub_cancel_left]; exact hj
theorem RP.there {w : World} {b : Nat} {v u : Value} {c d : Chip} (H : RP w b v u c d) (o n : Nat) (h : o + n ≤ 72) : w.there b o n := fun j hj => by
  refine ⟨?_, free_at H.obj⟩
  rw [cell_at H.obj, Array.getElem?_eq_getElem (show o + j < (c.rcells v ++ d.rcells u).toArray.size by show _ < 72; omega)]; rfl
theorem RP.half {w : World} {b : Nat} {v u : Value} {c d : Chip} (H : RP w b v u c d) (p : Nat) (hp : p < 2) : w.rangeAt b (36 * p) ((if p = 0 then c else d).rcells (if p = 0 then v else u)) := by
  rcases (show p = 0 ∨ p = 1 by omega) with rfl | rfl
  · exact H.r0
  · exact H.r1
set_option maxRecDepth 100000 in
theorem zero72 (w : World) : (zeroValue 61).run Try.prog w = .ok (.agg #[.bool false, .bool false, .bool false, .bool false, .bool false, .bool false, .bool false, .bool false, .bool false, .bool false, .bool false, .bool false, .bool false, .bool false, .bool false, .bool false, .bool false, .bool false, .bool false, .bool false, .bool false, .bool false, .bool false, .bool false, .bool false, .bool false, .bool false, .bool false, .bool false, .bool false, .bool false, .bool false, .int .i64 0, .bool false, .bool false, .slice none 0 0, .bool false, .bool false, .bool false, .bool false, .bool false, .bool false, .bool false, .bool false, .bool false, .bool false, .bool false, .bool false, .bool false, .bool false, .bool false, .bool false, .bool false, .bool false, .bool false, .bool false, .bool false, .bool false, .bool false, .bool false, .bool false, .bool false, .bool false, .bool false, .bool false, .bool false, .bool false, .bool false, .int .i64 0, .bool false, .bool false, .slice none 0 0]) w := by kernel_rfl
theorem RP.new (w : World) : RP (w.alloc (.cells (chip0.rcells (.slice none 0 0) ++ chip0.rcells (.slice none 0 0)).toArray 61)) w.heap.size (.slice none 0 0) (.slice none 0 0) chip0 chip0 :=
  ⟨heap_new w _, RowC.nil _ _ _, RowC.nil _ _ _⟩
theorem rnew_any (w : World) : Calls Try.prog 15 #[] w fun e w' => e = .returned (.pointer (some ⟨w.heap.size, 0, none⟩)) ∧ RP w' w.heap.size (.slice none 0 0) (.slice none 0 0) chip0 chip0 ∧ Below w.heap.size w w' := by
  have hz := fun w => zero72 w
  go_enter Try.func15, Try.ntmps15
  go_wp2_with fail
  go_ret
  exact ⟨rfl, RP.new w, (Below.refl _ _).alloc (Nat.le_refl _) _⟩
section
variable {w : World} {b : Nat} {v u : Value} {c d : Chip}
theorem rpending_any (H : RP w b v u c d) (hc : c.ok) (hd : d.ok) :
    Calls Try.prog 21 #[.pointer (some ⟨b, 0, none⟩)] w fun e w' => e = .returned (.bool (told0 c d)) ∧ Below w.heap.size w w' := by
  have HT := Lib.hid (tellsR_ge (ask0 c d) c.masked c.served)
  go_enter Try.func21, Try.ntmps21
  go_wp2_with fail
  refine (rtells0 H hc hd).mono ?_
  rintro e w1 ⟨rfl, B1⟩
  go_wp2_with fail
  go_ret
  exact ⟨by unfold told0; rw [← HT.out]; rfl, B1⟩

theorem heap_row {w : World} {g : Nat} {old cs : Array Value} {T : TypeId} (h : w.heap[g]? = some (.cells old T (0, 0))) : (w.setRow g cs).heap[g]? = some (.cells cs T (0, 0)) := setRow_heap w _ _ _ _ _ h

/-- What a block that is a chip holds. -/
structure ChipAt (w : World) (g : Nat) (c : Chip) (v : Value) : Prop where
  obj : w.heap[g]? = some (.cells (c.rcells v).toArray 58 (0, 0))
theorem ChipAt.lt {w : World} {g : Nat} (h : ChipAt w g c v) : g < w.heap.size := heap_lt h.obj
theorem ChipAt.free {w : World} {g : Nat} (h : ChipAt w g c v) (k : Nat) : w.frozen? ⟨g, k, none⟩ = false := free_at h.obj
theorem ChipAt.below {w w1 : World} {g B : Nat} (h : ChipAt w g c v) (hb : Below B w w1) (hg : g < B) : ChipAt w1 g c v := ⟨(hb.block g hg).trans h.obj⟩
theorem ChipAt.row {w : World} {g : Nat} (h : ChipAt w g c v) : w.rangeAt g 0 (c.rcells v) := fun j x hj => by
  rw [cell_at h.obj, Nat.zero_add, List.getElem?_toArray]; exact hj
theorem ChipAt.bits {w : World} {g : Nat} (h : ChipAt w g c v) (f : Nat) (hf : f < 4) : w.rangeAt g (8 * f) (bits8 (c.part f)) := fun j x hj => by
  have hl : j < 8 := (List.getElem?_eq_some_iff.1 hj).1
  rw [cell_at h.obj, ← hj]
  rcases (show f = 0 ∨ f = 1 ∨ f = 2 ∨ f = 3 by omega) with rfl | rfl | rfl | rfl <;>
    rcases (show j = 0 ∨ j = 1 ∨ j = 2 ∨ j = 3 ∨ j = 4 ∨ j = 5 ∨ j = 6 ∨ j = 7 by omega) with rfl | rfl | rfl | rfl | rfl | rfl | rfl | rfl <;> rfl
theorem ChipAt.bit {w : World} {g : Nat} (h : ChipAt w g c v) (f i k : Nat) (hf : f < 4) (hi : i < 8) (hk : k = 8 * f + i) : w.cell? ⟨g, k, none⟩ = some (.bool (bt (c.part f) i)) := by
  rw [hk]
  refine h.bits f hf i _ ?_
  rcases (show i = 0 ∨ i = 1 ∨ i = 2 ∨ i = 3 ∨ i = 4 ∨ i = 5 ∨ i = 6 ∨ i = 7 by omega) with rfl | rfl | rfl | rfl | rfl | rfl | rfl | rfl <;> rfl
theorem ChipAt.rest {w : World} {g : Nat} (h : ChipAt w g c v) : w.cell? ⟨g, 32, none⟩ = some (.int .i64 (c.base : Nat)) ∧ w.cell? ⟨g, 33, none⟩ = some (.bool c.told) ∧ w.cell? ⟨g, 34, none⟩ = some (.bool c.ends) ∧ w.cell? ⟨g, 35, none⟩ = some v := by
  refine ⟨?_, ?_, ?_, ?_⟩ <;> (rw [cell_at h.obj]; rfl)
theorem info8 : (Try.prog.info? 56).map (·.size) = some 8 := by kernel_rfl
/-- A chip of a pair in a block of the call's own. -/
theorem chip_copied (w : World) : ChipAt ((w.alloc (.cells zero36.toArray 58)).setRow w.heap.size (c.rcells v).toArray) w.heap.size c v ∧
    Below w.heap.size w ((w.alloc (.cells zero36.toArray 58)).setRow w.heap.size (c.rcells v).toArray) :=
  ⟨⟨heap_row (heap_new w _)⟩, below_setRow ((Below.refl _ _).alloc (Nat.le_refl _) _) (Nat.le_refl _) _⟩
set_option maxHeartbeats 4000000 in
theorem rin_0t (H : RP w b v u c d) (hc : c.ok) (hd : d.ok) (ht : c.told = true) :
    Calls Try.prog 18 #[.pointer (some ⟨b, 0, none⟩), .int .i64 0] w fun e w' => e = .returned (.tuple #[.int .u8 (inv c d 0 : Nat), .int .i64 0]) ∧ Below w.heap.size w w' := by
  have hz := fun w => zeroChip w
  have HR := Lib.hid H.r0
  have HO := Lib.hid (rc_one c H.cw.one)
  have HN := Lib.hid (heap_new w (.cells zero36.toArray 58))
  have HC := Lib.hid (And.intro hc hd)
  have HH := Lib.hid H
  have HX := Lib.hid (chip_copied (c := c) (v := v) w)
  have HT := Lib.hid ht
  clear ht
  clear H hc hd
  go_enter Try.func18, Try.ntmps18
  go_upto_region 4 with (first | (refine wpList_load_mid rfl _ _ rfl b 0 rfl (c.rcells v) _ HR.out Try.underlying58 rfl info36 ?_) | (refine wpList_store_row rfl _ _ _ rfl w.heap.size (c.rcells v).toArray rfl rfl _ _ HN.out info36 rfl HO.out ?_))
  obtain ⟨A, B⟩ := HX.out
  change Code.wp _ _ _ _ ((w.alloc (.cells zero36.toArray 58)).setRow w.heap.size (c.rcells v).toArray)
  have HP := Lib.hid (HH.out.below B)
  clear HX HN HR HO hz
  generalize (w.alloc (.cells zero36.toArray 58)).setRow w.heap.size (c.rcells v).toArray = W at *
  have hq := A.lt
  have HA := Lib.hid A
  have HB := Lib.hid B
  obtain ⟨k32, k33, k34, -⟩ := A.rest
  clear A B
  rw [HT.out] at k33
  go_wp2_with (refine wpList_load_mid rfl _ _ rfl w.heap.size 8 rfl (bits8 (c.part 1)) _ (HA.out.bits 1 (by decide)) Try.underlying56 rfl info8 ?_)
  refine (byteOf_any (c.part 1) HC.out.1.served _).mono ?_
  rintro e w1 ⟨rfl, B1⟩
  have B2 := HB.out.trans (B1.mono HB.out.size)
  clear B1 k32 k33 k34
  go_wp2_with fail
  go_ret2
  exact ⟨by unfold inv inv0; rw [HT.out]; rfl, B2⟩
set_option maxHeartbeats 4000000 in
theorem rin_0f (H : RP w b v u c d) (hc : c.ok) (hd : d.ok) (ht : c.told = false) :
    Calls Try.prog 18 #[.pointer (some ⟨b, 0, none⟩), .int .i64 0] w fun e w' => e = .returned (.tuple #[.int .u8 (inv c d 0 : Nat), .int .i64 0]) ∧ Below w.heap.size w w' := by
  have hz := fun w => zeroChip w
  have HR := Lib.hid H.r0
  have HO := Lib.hid (rc_one c H.cw.one)
  have HN := Lib.hid (heap_new w (.cells zero36.toArray 58))
  have HC := Lib.hid (And.intro hc hd)
  have HH := Lib.hid H
  have HX := Lib.hid (chip_copied (c := c) (v := v) w)
  have HT := Lib.hid ht
  clear ht
  clear H hc hd
  go_enter Try.func18, Try.ntmps18
  go_upto_region 4 with (first | (refine wpList_load_mid rfl _ _ rfl b 0 rfl (c.rcells v) _ HR.out Try.underlying58 rfl info36 ?_) | (refine wpList_store_row rfl _ _ _ rfl w.heap.size (c.rcells v).toArray rfl rfl _ _ HN.out info36 rfl HO.out ?_))
  obtain ⟨A, B⟩ := HX.out
  change Code.wp _ _ _ _ ((w.alloc (.cells zero36.toArray 58)).setRow w.heap.size (c.rcells v).toArray)
  have HP := Lib.hid (HH.out.below B)
  clear HX HN HR HO hz
  generalize (w.alloc (.cells zero36.toArray 58)).setRow w.heap.size (c.rcells v).toArray = W at *
  have hq := A.lt
  have HA := Lib.hid A
  have HB := Lib.hid B
  obtain ⟨k32, k33, k34, -⟩ := A.rest
  clear A B
  rw [HT.out] at k33
  go_wp2_with fail
  refine (rasking0 HP.out HC.out.1 HC.out.2).mono ?_
  rintro e w1 ⟨rfl, B1⟩
  have B2 := HB.out.trans (B1.mono HB.out.size)
  clear B1 k32 k33 k34
  go_wp2_with fail
  refine (byteOf_any (ask0 c d) (ask0_lt c d HC.out.1.asks) _).mono ?_
  rintro e w2 ⟨rfl, B3⟩
  have B4 := B2.trans (B3.mono B2.size)
  clear B2 B3
  go_wp2_with fail
  go_ret2
  exact ⟨by unfold inv inv0; rw [HT.out]; rfl, B4⟩
theorem rin_0 (H : RP w b v u c d) (hc : c.ok) (hd : d.ok) :
    Calls Try.prog 18 #[.pointer (some ⟨b, 0, none⟩), .int .i64 0] w fun e w' => e = .returned (.tuple #[.int .u8 (inv c d 0 : Nat), .int .i64 0]) ∧ Below w.heap.size w w' := by
  cases h : c.told
  · exact rin_0f H hc hd h
  · exact rin_0t H hc hd h
set_option maxHeartbeats 4000000 in
theorem rin_1 (H : RP w b v u c d) (hc : c.ok) (hd : d.ok) :
    Calls Try.prog 18 #[.pointer (some ⟨b, 0, none⟩), .int .i64 1] w fun e w' => e = .returned (.tuple #[.int .u8 (inv c d 1 : Nat), .int .i64 0]) ∧ Below w.heap.size w w' := by
  have hz := fun w => zeroChip w
  have HR := Lib.hid H.r0
  have HO := Lib.hid (rc_one c H.cw.one)
  have HN := Lib.hid (heap_new w (.cells zero36.toArray 58))
  have HC := Lib.hid (And.intro hc hd)
  have HH := Lib.hid H
  have HX := Lib.hid (chip_copied (c := c) (v := v) w)
  clear H hc hd
  go_enter Try.func18, Try.ntmps18
  go_upto_region 4 with (first | (refine wpList_load_mid rfl _ _ rfl b 0 rfl (c.rcells v) _ HR.out Try.underlying58 rfl info36 ?_) | (refine wpList_store_row rfl _ _ _ rfl w.heap.size (c.rcells v).toArray rfl rfl _ _ HN.out info36 rfl HO.out ?_))
  obtain ⟨A, B⟩ := HX.out
  change Code.wp _ _ _ _ ((w.alloc (.cells zero36.toArray 58)).setRow w.heap.size (c.rcells v).toArray)
  have HP := Lib.hid (HH.out.below B)
  clear HX HN HR HO hz
  generalize (w.alloc (.cells zero36.toArray 58)).setRow w.heap.size (c.rcells v).toArray = W at *
  have hq := A.lt
  have HA := Lib.hid A
  have HB := Lib.hid B
  obtain ⟨k32, k33, k34, -⟩ := A.rest
  clear A B
  go_wp2_with (refine wpList_load_mid rfl _ _ rfl w.heap.size 16 rfl (bits8 (c.part 2)) _ (HA.out.bits 2 (by decide)) Try.underlying56 rfl info8 ?_)
  refine (byteOf_any (c.part 2) HC.out.1.masked _).mono ?_
  rintro e w1 ⟨rfl, B1⟩
  have B2 := HB.out.trans (B1.mono HB.out.size)
  clear B1 k32 k33 k34
  go_wp2_with fail
  go_ret2
  exact ⟨rfl, B2⟩
set_option maxHeartbeats 4000000 in
theorem rin_2t (H : RP w b v u c d) (hc : c.ok) (hd : d.ok) (ht : d.told = true) :
    Calls Try.prog 18 #[.pointer (some ⟨b, 0, none⟩), .int .i64 2] w fun e w' => e = .returned (.tuple #[.int .u8 (inv c d 2 : Nat), .int .i64 0]) ∧ Below w.heap.size w w' := by
  have hz := fun w => zeroChip w
  have HR := Lib.hid H.r1
  have HO := Lib.hid (rc_one d H.dw.one)
  have HN := Lib.hid (heap_new w (.cells zero36.toArray 58))
  have HC := Lib.hid (And.intro hc hd)
  have HH := Lib.hid H
  have HX := Lib.hid (chip_copied (c := d) (v := u) w)
  have HT := Lib.hid ht
  clear ht
  clear H hc hd
  go_enter Try.func18, Try.ntmps18
  go_upto_region 4 with (first | (refine wpList_load_mid rfl _ _ rfl b 36 rfl (d.rcells u) _ HR.out Try.underlying58 rfl info36 ?_) | (refine wpList_store_row rfl _ _ _ rfl w.heap.size (d.rcells u).toArray rfl rfl _ _ HN.out info36 rfl HO.out ?_))
  obtain ⟨A, B⟩ := HX.out
  change Code.wp _ _ _ _ ((w.alloc (.cells zero36.toArray 58)).setRow w.heap.size (d.rcells u).toArray)
  have HP := Lib.hid (HH.out.below B)
  clear HX HN HR HO hz
  generalize (w.alloc (.cells zero36.toArray 58)).setRow w.heap.size (d.rcells u).toArray = W at *
  have hq := A.lt
  have HA := Lib.hid A
  have HB := Lib.hid B
  obtain ⟨k32, k33, k34, -⟩ := A.rest
  clear A B
  rw [HT.out] at k33
  go_wp2_with (refine wpList_load_mid rfl _ _ rfl w.heap.size 8 rfl (bits8 (d.part 1)) _ (HA.out.bits 1 (by decide)) Try.underlying56 rfl info8 ?_)
  refine (byteOf_any (d.part 1) HC.out.2.served _).mono ?_
  rintro e w1 ⟨rfl, B1⟩
  have B2 := HB.out.trans (B1.mono HB.out.size)
  clear B1 k32 k33 k34
  go_wp2_with fail
  go_ret2
  exact ⟨by unfold inv inv0; rw [HT.out]; rfl, B2⟩
set_option maxHeartbeats 4000000 in
theorem rin_2f (H : RP w b v u c d) (hc : c.ok) (hd : d.ok) (ht : d.told = false) :
    Calls Try.prog 18 #[.pointer (some ⟨b, 0, none⟩), .int .i64 2] w fun e w' => e = .returned (.tuple #[.int .u8 (inv c d 2 : Nat), .int .i64 0]) ∧ Below w.heap.size w w' := by
  have hz := fun w => zeroChip w
  have HR := Lib.hid H.r1
  have HO := Lib.hid (rc_one d H.dw.one)
  have HN := Lib.hid (heap_new w (.cells zero36.toArray 58))
  have HC := Lib.hid (And.intro hc hd)
  have HH := Lib.hid H
  have HX := Lib.hid (chip_copied (c := d) (v := u) w)
  have HT := Lib.hid ht
  clear ht
  clear H hc hd
  go_enter Try.func18, Try.ntmps18
  go_upto_region 4 with (first | (refine wpList_load_mid rfl _ _ rfl b 36 rfl (d.rcells u) _ HR.out Try.underlying58 rfl info36 ?_) | (refine wpList_store_row rfl _ _ _ rfl w.heap.size (d.rcells u).toArray rfl rfl _ _ HN.out info36 rfl HO.out ?_))
  obtain ⟨A, B⟩ := HX.out
  change Code.wp _ _ _ _ ((w.alloc (.cells zero36.toArray 58)).setRow w.heap.size (d.rcells u).toArray)
  have HP := Lib.hid (HH.out.below B)
  clear HX HN HR HO hz
  generalize (w.alloc (.cells zero36.toArray 58)).setRow w.heap.size (d.rcells u).toArray = W at *
  have hq := A.lt
  have HA := Lib.hid A
  have HB := Lib.hid B
  obtain ⟨k32, k33, k34, -⟩ := A.rest
  clear A B
  rw [HT.out] at k33
  go_wp2_with fail
  refine (rasking1 HP.out).mono ?_
  rintro e w1 ⟨rfl, B1⟩
  have B2 := HB.out.trans (B1.mono HB.out.size)
  clear B1 k32 k33 k34
  go_wp2_with fail
  refine (byteOf_any d.asks HC.out.2.asks _).mono ?_
  rintro e w2 ⟨rfl, B3⟩
  have B4 := B2.trans (B3.mono B2.size)
  clear B2 B3
  go_wp2_with fail
  go_ret2
  exact ⟨by unfold inv inv0; rw [HT.out]; rfl, B4⟩
theorem rin_2 (H : RP w b v u c d) (hc : c.ok) (hd : d.ok) :
    Calls Try.prog 18 #[.pointer (some ⟨b, 0, none⟩), .int .i64 2] w fun e w' => e = .returned (.tuple #[.int .u8 (inv c d 2 : Nat), .int .i64 0]) ∧ Below w.heap.size w w' := by
  cases h : d.told
  · exact rin_2f H hc hd h
  · exact rin_2t H hc hd h
set_option maxHeartbeats 4000000 in
theorem rin_3 (H : RP w b v u c d) (hc : c.ok) (hd : d.ok) :
    Calls Try.prog 18 #[.pointer (some ⟨b, 0, none⟩), .int .i64 3] w fun e w' => e = .returned (.tuple #[.int .u8 (inv c d 3 : Nat), .int .i64 0]) ∧ Below w.heap.size w w' := by
  have hz := fun w => zeroChip w
  have HR := Lib.hid H.r1
  have HO := Lib.hid (rc_one d H.dw.one)
  have HN := Lib.hid (heap_new w (.cells zero36.toArray 58))
  have HC := Lib.hid (And.intro hc hd)
  have HH := Lib.hid H
  have HX := Lib.hid (chip_copied (c := d) (v := u) w)
  clear H hc hd
  go_enter Try.func18, Try.ntmps18
  go_upto_region 4 with (first | (refine wpList_load_mid rfl _ _ rfl b 36 rfl (d.rcells u) _ HR.out Try.underlying58 rfl info36 ?_) | (refine wpList_store_row rfl _ _ _ rfl w.heap.size (d.rcells u).toArray rfl rfl _ _ HN.out info36 rfl HO.out ?_))
  obtain ⟨A, B⟩ := HX.out
  change Code.wp _ _ _ _ ((w.alloc (.cells zero36.toArray 58)).setRow w.heap.size (d.rcells u).toArray)
  have HP := Lib.hid (HH.out.below B)
  clear HX HN HR HO hz
  generalize (w.alloc (.cells zero36.toArray 58)).setRow w.heap.size (d.rcells u).toArray = W at *
  have hq := A.lt
  have HA := Lib.hid A
  have HB := Lib.hid B
  obtain ⟨k32, k33, k34, -⟩ := A.rest
  clear A B
  go_wp2_with (refine wpList_load_mid rfl _ _ rfl w.heap.size 16 rfl (bits8 (d.part 2)) _ (HA.out.bits 2 (by decide)) Try.underlying56 rfl info8 ?_)
  refine (byteOf_any (d.part 2) HC.out.2.masked _).mono ?_
  rintro e w1 ⟨rfl, B1⟩
  have B2 := HB.out.trans (B1.mono HB.out.size)
  clear B1 k32 k33 k34
  go_wp2_with fail
  go_ret2
  exact ⟨rfl, B2⟩
set_option maxHeartbeats 1000000 in
theorem rin_bad (n : Int) (hn : n < 0 ∨ 3 < n) :
    Calls Try.prog 18 #[.pointer (some ⟨b, 0, none⟩), .int .i64 n] w fun e w' => e = .returned (.tuple #[.int .u8 0, .int .i64 1]) ∧ Below w.heap.size w w' := by
  rcases hn with h | h
  all_goals
    go_enter Try.func18, Try.ntmps18
    go_wp2_with fail
    go_ret2
    exact ⟨rfl, Below.refl _ _⟩
theorem rin_any (H : RP w b v u c d) (hc : c.ok) (hd : d.ok) (n : Int) :
    Calls Try.prog 18 #[.pointer (some ⟨b, 0, none⟩), .int .i64 n] w fun e w' => e = .returned (.tuple #[.int .u8 (inv c d n : Nat), .int .i64 (perr n)]) ∧ Below w.heap.size w w' := by
  by_cases hn : 0 ≤ n ∧ n ≤ 3
  · obtain rfl | rfl | rfl | rfl : n = 0 ∨ n = 1 ∨ n = 2 ∨ n = 3 := by omega
    · exact rin_0 H hc hd
    · exact rin_1 H hc hd
    · exact rin_2 H hc hd
    · exact rin_3 H hc hd
  · have h0 : portGood n = false := by
      unfold portGood
      rw [← Bool.decide_and]
      exact decide_eq_false hn
    rw [perr_bad h0, show inv c d n = 0 by unfold inv; rw [if_neg (by omega), if_neg (by omega), if_neg (by omega), if_neg (by omega)]]
    exact rin_bad n (by omega)
end
end Go.Proofs.Ytfijohgbgadhiaa
