/- tlb: Find, the parts. -/
import Derived.Test.YthogfhejfnmdkaaTlbP
import Derived.Test.YthogfhejfnmdkaaSpine
import Derived.Deep.RegionLaw
import Derived.Deep.LoopGhost
import Derived.Deep.RegionHeld3
import Derived.Deep.RegionWith
import Derived.Deep.Cut
import Derived.Deep.CutRange
import Derived.StillTailTactics
namespace Go.Proofs.Ythogfhejfnmdkaa
open Go.RowKit Go.MapKept
set_option linter.unusedVariables false

/-- What Find leaves. -/
def TEnd (w : World) (t rb mb : Nat) (S : Nat → Prop) (ov : Value) (places : Nat) (n : Nat) (R' : RS) (w' : World) : Prop :=
  ∃ S' ov' cnt' all' order', TlbIn w' t rb mb S' ov' places cnt' all' order' R' ∧ order'.length ≤ n ∧ Keeps (THeld t mb S ov) w w' ∧ ∀ k, THeld t mb S' ov' k → THeld t mb S ov k ∨ w.heap.size ≤ k
/-- Find's own blocks. -/
structure Loc (w : World) (gw gr gk : Nat) (K : PKey) : Prop where
  way : w.heap[gw]? = some (.cells #[.bool K.wr, .bool K.us, .bool K.wp] 42)
  res : w.heap[gr]? = some (.cells #[.int .u32 0, .int .u32 0, .int .u32 0, .bool false, .bool false] 38)
  key : w.heap[gk]? = some (.cells #[.int .u32 (K.c : Nat), .int .u32 (K.p : Nat), .bool K.wr, .bool K.us, .bool K.wp] 72)
theorem Loc.facts {w : World} {gw gr gk : Nat} {K : PKey} (h : Loc w gw gr gk K) :
    (w.cell? ⟨gk, 0, none⟩ = some (.int .u32 (K.c : Nat)) ∧ w.cell? ⟨gk, 1, none⟩ = some (.int .u32 (K.p : Nat)) ∧ w.cell? ⟨gk, 2, none⟩ = some (.bool K.wr) ∧ w.cell? ⟨gk, 3, none⟩ = some (.bool K.us) ∧ w.cell? ⟨gk, 4, none⟩ = some (.bool K.wp)) ∧
    (w.cell? ⟨gw, 0, none⟩ = some (.bool K.wr) ∧ w.cell? ⟨gw, 1, none⟩ = some (.bool K.us) ∧ w.cell? ⟨gw, 2, none⟩ = some (.bool K.wp)) ∧
    (w.cell? ⟨gr, 0, none⟩ = some (.int .u32 0) ∧ w.cell? ⟨gr, 1, none⟩ = some (.int .u32 0) ∧ w.cell? ⟨gr, 2, none⟩ = some (.int .u32 0) ∧ w.cell? ⟨gr, 3, none⟩ = some (.bool false) ∧ w.cell? ⟨gr, 4, none⟩ = some (.bool false)) ∧
    (∀ k, w.frozen? ⟨gr, k, none⟩ = false) ∧ gw < w.heap.size ∧ gr < w.heap.size ∧ gk < w.heap.size := by
  have h1 := h.way
  have h2 := h.res
  have h3 := h.key
  refine ⟨⟨?_, ?_, ?_, ?_, ?_⟩, ⟨?_, ?_, ?_⟩, ⟨?_, ?_, ?_, ?_, ?_⟩, fun k => free_at h2, heap_lt h1, heap_lt h2, heap_lt h3⟩
  all_goals first | (rw [cell_at h1]; rfl) | (rw [cell_at h2]; rfl) | (rw [cell_at h3]; rfl)
theorem Loc.of_heap {w w' : World} {gw gr gk : Nat} {K : PKey} (h : Loc w gw gr gk K) (e : ∀ k, k = gw ∨ k = gr ∨ k = gk → w'.heap[k]? = w.heap[k]?) : Loc w' gw gr gk K :=
  ⟨by rw [e gw (.inl rfl)]; exact h.way, by rw [e gr (.inr (.inl rfl))]; exact h.res, by rw [e gk (.inr (.inr rfl))]; exact h.key⟩
def entCells : Option Ent → Array Value
  | none => #[.int .u32 0, .int .u32 0, .int .u32 0, .bool false, .bool false, .int .u32 0, .int .u32 0]
  | some e => #[.int .u32 (e.x.frame : Nat), .int .u32 (e.x.pde : Nat), .int .u32 (e.x.pte : Nat), .bool e.x.w, .bool e.x.u, .int .u32 (e.a : Nat), .int .u32 (e.b : Nat)]
section
variable {w w' : World} {t rb mb places cnt : Nat} {S : Nat → Prop} {ov : Value} {all : PKey → Option Ent} {order : List PKey} {R : RS}
theorem keeps_sets5 (w : World) (g : Nat) (v0 v1 v2 v3 v4 : Value) : Keeps (fun k => k = g) w (sets5 w g v0 v1 v2 v3 v4) :=
  (((((Keeps.refl (fun k => k = g) w).setCell (.inl rfl) _).setCell (.inl rfl) _).setCell (.inl rfl) _).setCell (.inl rfl) _).setCell (.inl rfl) _
theorem keeps_own {Q : Nat → Prop} {w w1 : World} (h : Keeps Q w w1) {g : Nat} (hg : w.heap.size ≤ g) (v0 v1 v2 v3 v4 : Value) : Keeps Q w (sets5 w1 g v0 v1 v2 v3 v4) :=
  ((((h.setCell (.inr hg) _).setCell (.inr hg) _).setCell (.inr hg) _).setCell (.inr hg) _).setCell (.inr hg) _
/-- One key less. -/
theorem TlbIn.less (H : TlbIn w t rb mb S ov places cnt all order R) {K : PKey} {n' : Nat} (M : MapK w' mb PKey.val (fun m => if m = K then none else (all m).map Ent.val) n') (hn : n' ≤ places) (hk : Keeps (fun k => k = mb) w w') :
    TlbIn w' t rb mb S ov places n' (fun m => if m = K then none else all m) order R := by
  have h : ∀ k, THeld t mb S ov k → k ≠ mb → w'.heap[k]? = w.heap[k]? := fun k hk' hne => hk.block k (H.lt hk') hne
  have e : (fun m => if m = K then none else (all m).map Ent.val) = fun m => (if m = K then none else all m).map Ent.val := by funext m; split <;> rfl
  refine ⟨by rw [h t (.inl rfl) H.t_m]; exact H.obj, H.ram.of_heap fun k hs => h k (.inr (.inr (.inr hs))) fun e => H.d2 (by rw [← e]; exact hs), by rw [← e]; exact M,
    H.ord.of_heap fun k ho => h k (.inr (.inr (.inl ho))) fun e => H.m_o (by rw [← e]; exact ho), fun L e hL => ?_, fun L e hL => ?_, hn, H.c2, H.wide, H.d1, H.d2, H.d3⟩
  · split at hL
    · cases hL
    · exact H.sub L e hL
  · split at hL
    · cases hL
    · exact H.good L e hL
/-- Behind the search in the map. -/
def Got (w wc : World) (t rb mb places cnt : Nat) (S : Nat → Prop) (ov : Value) (all : PKey → Option Ent) (order : List PKey) (R : RS) (gw gr gk : Nat) (K : PKey) (o : Option Ent) (x y : Value) : Prop :=
  ∃ gx, x = .pointer (some ⟨gx, 0, none⟩) ∧ y = .bool o.isSome ∧ w.heap.size ≤ gx ∧ wc.heap[gx]? = some (.cells (entCells o) 75) ∧ TlbIn wc t rb mb S ov places cnt all order R ∧ Loc wc gw gr gk K ∧ Below w.heap.size w wc
theorem got_of {w W : World} {gw gr gk : Nat} {K : PKey} (HT : TlbIn W t rb mb S ov places cnt all order R) (HL : Loc W gw gr gk K) (HB : Below w.heap.size w W) (o : Option Ent) :
    Got w (W.alloc (.cells (entCells o) 75)).drew t rb mb places cnt S ov all order R gw gr gk K o (.pointer (some ⟨W.heap.size, 0, none⟩)) (.bool o.isSome) := by
  obtain ⟨-, -, -, -, l1, l2, l3⟩ := HL.facts
  refine ⟨W.heap.size, rfl, rfl, HB.size, ?_, ?_, ?_, ?_⟩
  · exact heap_new W _
  · exact (HT.alloc _).drewN 1
  · refine HL.of_heap fun k hk => ?_
    show (W.alloc _).heap[k]? = _
    exact Below.heap_alloc _ _ _ (by rcases hk with rfl | rfl | rfl <;> assumption)
  · exact below_dn (HB.alloc HB.size _) 1
def walkCells (x : WalkR) : Array Value := #[.int .u32 (x.frame : Nat), .int .u32 (x.pde : Nat), .int .u32 (x.pte : Nat), .bool x.w, .bool x.u]
/-- Behind the walk through memory. -/
structure Mid (w we : World) (t rb mb : Nat) (S : Nat → Prop) (ov : Value) (places n gw gr gk gx : Nat) (K : PKey) (x : WalkR) (S' : Nat → Prop) (ov' : Value) (cnt' : Nat) (all' : PKey → Option Ent) (order' : List PKey) (R' : RS) : Prop where
  T : TlbIn we t rb mb S' ov' places cnt' all' order' R'
  L : Loc we gw gr gk K
  X : we.heap[gx]? = some (.cells (walkCells x) 38)
  K : Keeps (THeld t mb S ov) w we
  N : ∀ k, THeld t mb S' ov' k → THeld t mb S ov k ∨ w.heap.size ≤ k
  g : ∀ k, k = gw ∨ k = gr ∨ k = gk ∨ k = gx → ¬ THeld t mb S' ov' k
  glo : w.heap.size ≤ gr
  len : order'.length ≤ n
section
variable {we wf : World} {n gw gr gk gx : Nat} {K : PKey} {x : WalkR} {S' : Nat → Prop} {ov' : Value} {cnt' : Nat} {all' : PKey → Option Ent} {order' : List PKey} {R' : RS}
theorem Mid.below (H : Mid w we t rb mb S ov places n gw gr gk gx K x S' ov' cnt' all' order' R') (hb : Below we.heap.size we wf) : Mid w wf t rb mb S ov places n gw gr gk gx K x S' ov' cnt' all' order' R' :=
  ⟨H.T.below hb, H.L.of_heap fun k hk => hb.block k (by obtain ⟨-, -, -, -, l1, l2, l3⟩ := H.L.facts; rcases hk with rfl | rfl | rfl <;> assumption), by rw [hb.block gx (heap_lt H.X)]; exact H.X, H.K.trans (Keeps.ofBelow hb), H.N, H.g, H.glo, H.len⟩
theorem Mid.drewN (H : Mid w we t rb mb S ov places n gw gr gk gx K x S' ov' cnt' all' order' R') (m : Nat) : Mid w (we.drewN m) t rb mb S ov places n gw gr gk gx K x S' ov' cnt' all' order' R' :=
  H.below (below_dn (Below.refl _ _) m)
theorem Mid.xf (H : Mid w we t rb mb S ov places n gw gr gk gx K x S' ov' cnt' all' order' R') :
    we.cell? ⟨gx, 0, none⟩ = some (.int .u32 (x.frame : Nat)) ∧ we.cell? ⟨gx, 1, none⟩ = some (.int .u32 (x.pde : Nat)) ∧ we.cell? ⟨gx, 2, none⟩ = some (.int .u32 (x.pte : Nat)) ∧ we.cell? ⟨gx, 3, none⟩ = some (.bool x.w) ∧ we.cell? ⟨gx, 4, none⟩ = some (.bool x.u) ∧ gx < we.heap.size := by
  have h := H.X
  refine ⟨?_, ?_, ?_, ?_, ?_, heap_lt h⟩ <;> (rw [cell_at h]; rfl)
theorem Mid.fin (H : Mid w we t rb mb S ov places n gw gr gk gx K x S' ov' cnt' all' order' R') {n' : Nat} (hn : n ≤ n') (v0 v1 v2 v3 v4 : Value) : TEnd w t rb mb S ov places n' R' (sets5 we gr v0 v1 v2 v3 v4) :=
  ⟨S', ov', _, _, _, H.T.keeps (keeps_sets5 we gr v0 v1 v2 v3 v4) (fun k hk e => H.g k (.inr (.inl e)) hk), Nat.le_trans H.len hn, keeps_own H.K H.glo v0 v1 v2 v3 v4, H.N⟩
theorem mid_a {wd W' : World} (hT : TlbIn wd t rb mb S ov places cnt all order R) (hLo : Loc wd gw gr gk K) (hK : Keeps (THeld t mb S ov) w wd) (hg : w.heap.size ≤ gw ∧ w.heap.size ≤ gr ∧ w.heap.size ≤ gk) (hlt : ∀ k, THeld t mb S ov k → k < w.heap.size)
    (hn : order.length ≤ n) (hw : Wide R') (m : Nat) (hR : Ram W' rb S' R') (hM : Moves S S' (wd.drewN m) W') (x : WalkR) :
    Mid w (W'.alloc (.cells (walkCells x) 38)) t rb mb S ov places n gw gr gk W'.heap.size K x S' ov cnt all order R' := by
  have T2 := (hT.drewN m).found hR hM hw
  obtain ⟨-, -, -, -, l1, l2, l3⟩ := hLo.facts
  have hsz : w.heap.size ≤ wd.heap.size := hK.size
  have hM1 : wd.heap.size ≤ W'.heap.size := hM.1.size
  have hnS : ∀ k, w.heap.size ≤ k → ¬ S k := fun k hk h => by have := hlt k (.inr (.inr (.inr h))); omega
  have hbl : ∀ k, k < wd.heap.size → ¬ S k → W'.heap[k]? = wd.heap[k]? := fun k hk hs => hM.1.block k hk hs
  refine ⟨T2.alloc _, hLo.of_heap fun k hk => ?_, heap_new _ _, ((hK.drewN m).trans (hM.1.mono fun k _ h => .inr (.inr (.inr h)))).alloc _, fun k hk => ?_, fun k he hk => ?_, hg.2.1, hn⟩
  · rw [Below.heap_alloc _ _ _ (by rcases hk with rfl | rfl | rfl <;> omega)]
    rcases hk with rfl | rfl | rfl
    · exact hbl _ l1 (hnS _ hg.1)
    · exact hbl _ l2 (hnS _ hg.2.1)
    · exact hbl _ l3 (hnS _ hg.2.2)
  · rcases hk with h | h | h | h
    · exact .inl (.inl h)
    · exact .inl (.inr (.inl h))
    · exact .inl (.inr (.inr (.inl h)))
    · rcases hM.2 k h with h | h
      · exact .inl (.inr (.inr (.inr h)))
      · exact .inr (Nat.le_trans hsz h)
  · rcases hk with h | h | h | h
    · have := hlt t (.inl rfl); rcases he with rfl | rfl | rfl | rfl <;> omega
    · have := hlt mb (.inr (.inl rfl)); rcases he with rfl | rfl | rfl | rfl <;> omega
    · have := hlt _ (.inr (.inr (.inl h))); rcases he with rfl | rfl | rfl | rfl <;> omega
    · have hS := T2.ram.lt h
      rcases hM.2 _ h with h | h
      · have := hlt _ (.inr (.inr (.inr h))); rcases he with rfl | rfl | rfl | rfl <;> omega
      · have : wd.heap.size ≤ k := h
        rcases he with rfl | rfl | rfl | rfl <;> omega
theorem mid_b {wd W' : World} (hT : TlbIn wd t rb mb S ov places cnt all order R) (hLo : Loc wd gw gr gk K) (hK : Keeps (THeld t mb S ov) w wd) (hg : w.heap.size ≤ gw ∧ w.heap.size ≤ gr ∧ w.heap.size ≤ gk) (hlt : ∀ k, THeld t mb S ov k → k < w.heap.size)
    (hn : order.length ≤ n) (hw : Wide R') (m : Nat) (a0 a1 a2 a3 a4 : Value) (hR : Ram W' rb S' R') (hM : Moves S S' ((wd.alloc (.cells #[a0, a1, a2, a3, a4] 38)).drewN m) W') (x : WalkR) :
    Mid w (sets5 W' wd.heap.size (.int .u32 (x.frame : Nat)) (.int .u32 (x.pde : Nat)) (.int .u32 (x.pte : Nat)) (.bool x.w) (.bool x.u)) t rb mb S ov places n gw gr gk wd.heap.size K x S' ov cnt all order R' := by
  have T2 := ((hT.alloc _).drewN m).found hR hM hw
  obtain ⟨-, -, -, -, l1, l2, l3⟩ := hLo.facts
  have hsz : w.heap.size ≤ wd.heap.size := hK.size
  have hsz2 : (wd.alloc (.cells #[a0, a1, a2, a3, a4] 38)).heap.size = wd.heap.size + 1 := by simp
  have hM1 : (wd.alloc (.cells #[a0, a1, a2, a3, a4] 38)).heap.size ≤ W'.heap.size := hM.1.size
  have hnS : ∀ k, w.heap.size ≤ k → ¬ S k := fun k hk h => by have := hlt k (.inr (.inr (.inr h))); omega
  have hbl : ∀ k, k < wd.heap.size → ¬ S k → W'.heap[k]? = wd.heap[k]? := fun k hk hs => (hM.1.block k (by rw [heap_drewN', hsz2]; omega) hs).trans (Below.heap_alloc _ _ _ hk)
  have hx0 : W'.heap[wd.heap.size]? = some (.cells #[a0, a1, a2, a3, a4] 38) := (hM.1.block _ (by rw [heap_drewN', hsz2]; omega) (hnS _ hsz)).trans (heap_new _ _)
  have hNN : ∀ k, THeld t mb S' ov k → THeld t mb S ov k ∨ wd.heap.size + 1 ≤ k := fun k hk => by
    rcases hk with h | h | h | h
    · exact .inl (.inl h)
    · exact .inl (.inr (.inl h))
    · exact .inl (.inr (.inr (.inl h)))
    · rcases hM.2 k h with h | h
      · exact .inl (.inr (.inr (.inr h)))
      · exact .inr (by rw [← hsz2]; exact h)
  have hne : ∀ k, THeld t mb S' ov k → k ≠ wd.heap.size := fun k hk e => by
    rcases hNN k hk with h | h
    · have := hlt k h; omega
    · omega
  refine ⟨T2.keeps (keeps_sets5 W' _ _ _ _ _ _) hne, hLo.of_heap fun k hk => ?_, ?_, ?_, fun k hk => (hNN k hk).imp id (by omega), fun k he hk => ?_, hg.2.1, hn⟩
  · have : k < wd.heap.size := by rcases hk with rfl | rfl | rfl <;> assumption
    rw [(keeps_sets5 W' wd.heap.size _ _ _ _ _).block k (by omega) (by omega)]
    exact hbl k this (hnS _ (by rcases hk with rfl | rfl | rfl <;> omega))
  · unfold sets5
    rw [heap_set_map, heap_set_map, heap_set_map, heap_set_map, heap_set_map, hx0]; rfl
  · exact keeps_own (((hK.alloc _).drewN m).trans (hM.1.mono fun k _ h => .inr (.inr (.inr h)))) hsz _ _ _ _ _
  · rcases hNN k hk with h | h
    · have := hlt k h; rcases he with rfl | rfl | rfl | rfl <;> omega
    · rcases he with rfl | rfl | rfl | rfl <;> omega
end
theorem held_b {wd W' : World} {S S' : Nat → Prop} {a0 a1 a2 a3 a4 : Value} {m : Nat} (hS : ∀ k, S k → k < wd.heap.size) (hM : Moves S S' ((wd.alloc (.cells #[a0, a1, a2, a3, a4] 38)).drewN m) W') :
    (W'.cell? ⟨wd.heap.size, 0, none⟩ = some a0 ∧ W'.cell? ⟨wd.heap.size, 1, none⟩ = some a1 ∧ W'.cell? ⟨wd.heap.size, 2, none⟩ = some a2 ∧ W'.cell? ⟨wd.heap.size, 3, none⟩ = some a3 ∧ W'.cell? ⟨wd.heap.size, 4, none⟩ = some a4) ∧ (∀ k, W'.frozen? ⟨wd.heap.size, k, none⟩ = false) ∧ wd.heap.size < W'.heap.size := by
  have hsz2 : (wd.alloc (.cells #[a0, a1, a2, a3, a4] 38)).heap.size = wd.heap.size + 1 := by simp
  have h : W'.heap[wd.heap.size]? = some (.cells #[a0, a1, a2, a3, a4] 38) := (hM.1.block _ (by rw [heap_drewN', hsz2]; omega) (fun h => by have := hS _ h; omega)).trans (heap_new _ _)
  refine ⟨⟨?_, ?_, ?_, ?_, ?_⟩, fun k => free_at h, heap_lt h⟩ <;> (rw [cell_at h]; rfl)
theorem tfind_r {W : World} {b : Nat} {S : Nat → Prop} {R : RS} (H : Ram W b S R) (K : PKey) (lin : Nat) (hl : lin < 4294967296) {fr pd pt : Nat} {xw xu : Bool} {cd : Int} {R' : RS}
    (hr : find R K.c lin K.wr K.us K.wp = (⟨fr, pd, pt, xw, xu⟩, cd, R')) :
    Calls Try.prog 14 #[.pointer (some ⟨b, 0, .none⟩), .int .u32 (K.c : Nat), .int .u32 (lin : Nat), .agg #[.bool K.wr, .bool K.us, .bool K.wp]] W fun e w' =>
      e = .returned (.tuple #[.agg #[.int .u32 (fr : Nat), .int .u32 (pd : Nat), .int .u32 (pt : Nat), .bool xw, .bool xu], .int .i64 cd, .int .i64 0]) ∧ ∃ S', Ram w' b S' R' ∧ Moves S S' W w' := by
  refine (find_any H K.c lin K.hc hl K.wr K.us K.wp).mono ?_
  rintro e w' ⟨he, S', H', M'⟩
  rw [hr] at he H'
  exact ⟨he, S', H', M'⟩
/-- One step on: the map and the row have turned. -/
theorem Mid.step {we w7 : World} {n n7 gw gr gk gx : Nat} {K : PKey} {x : WalkR} {S' : Nat → Prop} {ov' ov7 : Value} {cnt' cnt7 : Nat} {all' all7 : PKey → Option Ent} {order' order7 : List PKey} {R' : RS} (H : Mid w we t rb mb S ov places n gw gr gk gx K x S' ov' cnt' all' order' R')
    (T : TlbIn w7 t rb mb S' ov7 places cnt7 all7 order7 R') (hk : Keeps (THeld t mb S' ov') we w7) (hov : ∀ k, ov7.ownBlock = some k → ov'.ownBlock = some k ∨ we.heap.size ≤ k) (hl : order7.length ≤ n7) :
    Mid w w7 t rb mb S ov places n7 gw gr gk gx K x S' ov7 cnt7 all7 order7 R' := by
  obtain ⟨-, -, -, -, l1, l2, l3⟩ := H.L.facts
  have lx := heap_lt H.X
  have hsz : w.heap.size ≤ we.heap.size := H.K.size
  have hN : ∀ k, THeld t mb S' ov7 k → THeld t mb S' ov' k ∨ we.heap.size ≤ k := fun k h => by
    rcases h with h | h | h | h
    · exact .inl (.inl h)
    · exact .inl (.inr (.inl h))
    · exact (hov k h).imp (fun h => .inr (.inr (.inl h))) id
    · exact .inl (.inr (.inr (.inr h)))
  refine ⟨T, H.L.of_heap fun k he => hk.block k (by rcases he with rfl | rfl | rfl <;> assumption) (H.g k (by rcases he with h | h | h; exact .inl h; exact .inr (.inl h); exact .inr (.inr (.inl h)))), by rw [hk.block gx lx (H.g gx (.inr (.inr (.inr rfl))))]; exact H.X,
    H.K.andThen hk fun i hi h => ?_, fun k h => ?_, fun k he h => ?_, H.glo, hl⟩
  · rcases H.N i h with h | h
    · exact h
    · omega
  · rcases hN k h with h | h
    · exact H.N k h
    · exact .inr (Nat.le_trans hsz h)
  · rcases hN k h with h | h
    · exact H.g k he h
    · rcases he with rfl | rfl | rfl | rfl <;> omega
def needOf (x : Bool) : Nat := if x then 96 else 32
def keptZero : Value := .agg #[.int .u32 0, .int .u32 0, .int .u32 0, .bool false, .bool false, .int .u32 0, .int .u32 0]
theorem kept_zero (w : World) : (zeroValue 75).run Try.prog w = .ok keptZero w := by kernel_rfl
/-- What Find answers and leaves. -/
def FindPost (w : World) (t rb mb : Nat) (S : Nat → Prop) (ov : Value) (places n : Nat) (r : WalkR × Int × RS) (e : Ending) (w' : World) : Prop :=
  e = .returned (.tuple #[r.1.val, .int .i64 r.2.1, .int .i64 0]) ∧ TEnd w t rb mb S ov places n r.2.2 w'
/-- Ahead of the walk through memory. -/
structure FBase (w W : World) (t rb mb : Nat) (S : Nat → Prop) (ov : Value) (places cnt : Nat) (all : PKey → Option Ent) (order : List PKey) (R : RS) (gw gr gk : Nat) (K : PKey) (lin : Nat) : Prop where
  T : TlbIn W t rb mb S ov places cnt all order R
  L : Loc W gw gr gk K
  kp : Keeps (THeld t mb S ov) w W
  lt : ∀ k, THeld t mb S ov k → k < w.heap.size
  g : w.heap.size ≤ gw ∧ w.heap.size ≤ gr ∧ w.heap.size ≤ gk
  p : lin / 4096 = K.p
  l : lin < 4294967296
end
end Go.Proofs.Ythogfhejfnmdkaa
