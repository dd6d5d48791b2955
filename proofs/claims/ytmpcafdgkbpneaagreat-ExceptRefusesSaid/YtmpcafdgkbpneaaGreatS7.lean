/- Steps of a proof: TlbC, together. -/
import Derived.Test.YtmpcafdgkbpneaaGreatS6
import Derived.Deep.RegionLaw
import Derived.Deep.LoopGhost
import Derived.Deep.RegionHeld3
import Derived.Deep.RegionWith
import Derived.Deep.Cut
import Derived.Deep.CutRange
import Derived.StillTailTactics
import Derived.Laws.BitsAll
/- TlbC1, TlbC2, TlbC3, TlbC4, TlbC5, TlbC6, TlbC7, TlbC7b, TlbC8, together. -/
/- tlb: Find, the parts. -/
set_option maxHeartbeats 4000000
set_option maxRecDepth 20000
namespace Go.Proofs.YtmpcafdgkbpneaaGreat
open Go.RowKit Go.MapKept
set_option linter.unusedVariables false

def TEnd (w : World) (t rb mb : Nat) (S : Nat → Prop) (ov : Value) (places : Nat) (n : Nat) (R' : RS) (w' : World) : Prop :=
 ∃ S' ov' cnt' all' order', TlbIn w' t rb mb S' ov' places cnt' all' order' R' ∧ order'.length ≤ n ∧ Keeps (THeld t mb S ov) w w' ∧ ∀ k, THeld t mb S' ov' k → THeld t mb S ov k ∨ w.heap.size ≤ k
structure Loc (w : World) (gw gr gk : Nat) (K : PKey) : Prop where
 way : w.heap[gw]? = some (.cells #[.bool K.wr, .bool K.us, .bool K.wp] 223)
 res : w.heap[gr]? = some (.cells #[.int .u32 0, .int .u32 0, .int .u32 0, .bool false, .bool false] 287)
 key : w.heap[gk]? = some (.cells #[.int .u32 (K.c : Nat), .int .u32 (K.p : Nat), .bool K.wr, .bool K.us, .bool K.wp] 312)
theorem Loc.facts {w : World} {gw gr gk : Nat} {K : PKey} (h : Loc w gw gr gk K) :
    (w.cell? ⟨gk, 0, none⟩ = some (.int .u32 (K.c : Nat)) ∧ w.cell? ⟨gk, 1, none⟩ = some (.int .u32 (K.p : Nat)) ∧ w.cell? ⟨gk, 2, none⟩ = some (.bool K.wr) ∧ w.cell? ⟨gk, 3, none⟩ = some (.bool K.us) ∧ w.cell? ⟨gk, 4, none⟩ = some (.bool K.wp)) ∧
    (w.cell? ⟨gw, 0, none⟩ = some (.bool K.wr) ∧ w.cell? ⟨gw, 1, none⟩ = some (.bool K.us) ∧ w.cell? ⟨gw, 2, none⟩ = some (.bool K.wp)) ∧
    (w.cell? ⟨gr, 0, none⟩ = some (.int .u32 0) ∧ w.cell? ⟨gr, 1, none⟩ = some (.int .u32 0) ∧ w.cell? ⟨gr, 2, none⟩ = some (.int .u32 0) ∧ w.cell? ⟨gr, 3, none⟩ = some (.bool false) ∧ w.cell? ⟨gr, 4, none⟩ = some (.bool false)) ∧
    (∀ k, w.frozen? ⟨gr, k, none⟩ = false) ∧ gw < w.heap.size ∧ gr < w.heap.size ∧ gk < w.heap.size := by
 have h1 := h.way
 have h2 := h.res
 have h3 := h.key
 refine ⟨⟨?_, ?_, ?_, ?_, ?_⟩, ⟨?_, ?_, ?_⟩, ⟨?_, ?_, ?_, ?_, ?_⟩, fun k => free_at h2, heap_lt h1, heap_lt h2, heap_lt h3⟩
 all_goals first | (rw [cell_at h1]; rfl) | (rw [cell_at h2]; rfl) | (rw [cell_at h3]; rfl)
theorem Loc.of_heap {w w' : World} {gw gr gk : Nat} {K : PKey} (h : Loc w gw gr gk K) (e : ∀ k, k = gw ∨ k = gr ∨ k = gk → w'.heap[k]? = w.heap[k]?) : Loc w' gw gr gk K :=
 ⟨by rw [e gw (.inl rfl)]; exact h.way, by rw [e gr (.inr (.inl rfl))]; exact h.res, by rw [e gk (.inr (.inr rfl))]; exact h.key⟩
def entCells : Option Ent → Array Value
 | none => #[.int .u32 0, .int .u32 0, .int .u32 0, .bool false, .bool false, .int .u32 0, .int .u32 0]
 | some e => #[.int .u32 (e.x.frame : Nat), .int .u32 (e.x.pde : Nat), .int .u32 (e.x.pte : Nat), .bool e.x.w, .bool e.x.u, .int .u32 (e.a : Nat), .int .u32 (e.b : Nat)]
section
variable {w w' : World} {t rb mb places cnt : Nat} {S : Nat → Prop} {ov : Value} {all : PKey → Option Ent} {order : List PKey} {R : RS}
theorem keeps_sets5 (w : World) (g : Nat) (v0 v1 v2 v3 v4 : Value) : Keeps (fun k => k = g) w (sets5 w g v0 v1 v2 v3 v4) :=
 (((((Keeps.refl (fun k => k = g) w).setCell (.inl rfl) _).setCell (.inl rfl) _).setCell (.inl rfl) _).setCell (.inl rfl) _).setCell (.inl rfl) _
theorem keeps_own {Q : Nat → Prop} {w w1 : World} (h : Keeps Q w w1) {g : Nat} (hg : w.heap.size ≤ g) (v0 v1 v2 v3 v4 : Value) : Keeps Q w (sets5 w1 g v0 v1 v2 v3 v4) :=
 ((((h.setCell (.inr hg) _).setCell (.inr hg) _).setCell (.inr hg) _).setCell (.inr hg) _).setCell (.inr hg) _
theorem TlbIn.less (H : TlbIn w t rb mb S ov places cnt all order R) {K : PKey} {n' : Nat} (M : MapK w' mb PKey.val (fun m => if m = K then none else (all m).map Ent.val) n') (hn : n' ≤ places) (hk : Keeps (fun k => k = mb) w w') :
    TlbIn w' t rb mb S ov places n' (fun m => if m = K then none else all m) order R := by
 have h : ∀ k, THeld t mb S ov k → k ≠ mb → w'.heap[k]? = w.heap[k]? := fun k hk' hne => hk.block k (H.lt hk') hne
 have e : (fun m => if m = K then none else (all m).map Ent.val) = fun m => (if m = K then none else all m).map Ent.val := by funext m; split <;> rfl
 refine ⟨by rw [h t (.inl rfl) H.t_m]; exact H.obj, H.ram.of_heap fun k hs => h k (.inr (.inr (.inr hs))) fun e => H.d2 (by rw [← e]; exact hs), by rw [← e]; exact M,
  H.ord.of_heap fun k ho => h k (.inr (.inr (.inl ho))) fun e => H.m_o (by rw [← e]; exact ho), fun L e hL => ?_, fun L e hL => ?_, hn, H.c2, H.wide, H.d1, H.d2, H.d3⟩
 ·split at hL
  ·cases hL
  ·exact H.sub L e hL
 ·split at hL
  ·cases hL
  ·exact H.good L e hL
def walkCells (x : WalkR) : Array Value := #[.int .u32 (x.frame : Nat), .int .u32 (x.pde : Nat), .int .u32 (x.pte : Nat), .bool x.w, .bool x.u]
structure Mid (w we : World) (t rb mb : Nat) (S : Nat → Prop) (ov : Value) (places n gw gr gk gx : Nat) (K : PKey) (x : WalkR) (S' : Nat → Prop) (ov' : Value) (cnt' : Nat) (all' : PKey → Option Ent) (order' : List PKey) (R' : RS) : Prop where
 T : TlbIn we t rb mb S' ov' places cnt' all' order' R'
 L : Loc we gw gr gk K
 X : we.heap[gx]? = some (.cells (walkCells x) 287)
 K : Keeps (THeld t mb S ov) w we
 N : ∀ k, THeld t mb S' ov' k → THeld t mb S ov k ∨ w.heap.size ≤ k
 g : ∀ k, k = gw ∨ k = gr ∨ k = gk ∨ k = gx → ¬ THeld t mb S' ov' k
 glo : w.heap.size ≤ gr
 len : order'.length ≤ n
section
variable {we wf : World} {n gw gr gk gx : Nat} {K : PKey} {x : WalkR} {S' : Nat → Prop} {ov' : Value} {cnt' : Nat} {all' : PKey → Option Ent} {order' : List PKey} {R' : RS}
theorem Mid.below (H : Mid w we t rb mb S ov places n gw gr gk gx K x S' ov' cnt' all' order' R') (hb : Below we.heap.size we wf) : Mid w wf t rb mb S ov places n gw gr gk gx K x S' ov' cnt' all' order' R' :=
 ⟨H.T.below hb, H.L.of_heap fun k hk => hb.block k (by obtain ⟨-, -, -, -, l1, l2, l3⟩ := H.L.facts; rcases hk with rfl | rfl | rfl <;> assumption), by rw [hb.block gx (heap_lt H.X)]; exact H.X, H.K.trans (Keeps.ofBelow hb), H.N, H.g, H.glo, H.len⟩
theorem Mid.drewN (H : Mid w we t rb mb S ov places n gw gr gk gx K x S' ov' cnt' all' order' R') (m : Nat) : Mid w (we.drewN m) t rb mb S ov places n gw gr gk gx K x S' ov' cnt' all' order' R' :=
 H.below (below_dn (Below.refl _ _) m)
theorem Mid.xf (H : Mid w we t rb mb S ov places n gw gr gk gx K x S' ov' cnt' all' order' R') :
    we.cell? ⟨gx, 0, none⟩ = some (.int .u32 (x.frame : Nat)) ∧ we.cell? ⟨gx, 1, none⟩ = some (.int .u32 (x.pde : Nat)) ∧ we.cell? ⟨gx, 2, none⟩ = some (.int .u32 (x.pte : Nat)) ∧ we.cell? ⟨gx, 3, none⟩ = some (.bool x.w) ∧ we.cell? ⟨gx, 4, none⟩ = some (.bool x.u) ∧ gx < we.heap.size := by
 have h := H.X
 refine ⟨?_, ?_, ?_, ?_, ?_, heap_lt h⟩ <;> (rw [cell_at h]; rfl)
theorem Mid.fin (H : Mid w we t rb mb S ov places n gw gr gk gx K x S' ov' cnt' all' order' R') {n' : Nat} (hn : n ≤ n') (v0 v1 v2 v3 v4 : Value) : TEnd w t rb mb S ov places n' R' (sets5 we gr v0 v1 v2 v3 v4) :=
 ⟨S', ov', _, _, _, H.T.keeps (keeps_sets5 we gr v0 v1 v2 v3 v4) (fun k hk e => H.g k (.inr (.inl e)) hk), Nat.le_trans H.len hn, keeps_own H.K H.glo v0 v1 v2 v3 v4, H.N⟩
theorem mid_a {wd W' : World} (hT : TlbIn wd t rb mb S ov places cnt all order R) (hLo : Loc wd gw gr gk K) (hK : Keeps (THeld t mb S ov) w wd) (hg : w.heap.size ≤ gw ∧ w.heap.size ≤ gr ∧ w.heap.size ≤ gk) (hlt : ∀ k, THeld t mb S ov k → k < w.heap.size)
    (hn : order.length ≤ n) (hw : Wide R') (m : Nat) (hR : Ram W' rb S' R') (hM : Moves S S' (wd.drewN m) W') (x : WalkR) :
    Mid w (W'.alloc (.cells (walkCells x) 287)) t rb mb S ov places n gw gr gk W'.heap.size K x S' ov cnt all order R' := by
 have T2 := (hT.drewN m).found hR hM hw
 obtain ⟨-, -, -, -, l1, l2, l3⟩ := hLo.facts
 have hsz : w.heap.size ≤ wd.heap.size := hK.size
 have hM1 : wd.heap.size ≤ W'.heap.size := hM.1.size
 have hnS : ∀ k, w.heap.size ≤ k → ¬ S k := fun k hk h => by have := hlt k (.inr (.inr (.inr h))); omega
 have hbl : ∀ k, k < wd.heap.size → ¬ S k → W'.heap[k]? = wd.heap[k]? := fun k hk hs => hM.1.block k hk hs
 refine ⟨T2.alloc _, hLo.of_heap fun k hk => ?_, heap_new _ _, ((hK.drewN m).trans (hM.1.mono fun k _ h => .inr (.inr (.inr h)))).alloc _, fun k hk => ?_, fun k he hk => ?_, hg.2.1, hn⟩
 ·rw [Below.heap_alloc _ _ _ (by rcases hk with rfl | rfl | rfl <;> omega)]
  rcases hk with rfl | rfl | rfl
  ·exact hbl _ l1 (hnS _ hg.1)
  ·exact hbl _ l2 (hnS _ hg.2.1)
  ·exact hbl _ l3 (hnS _ hg.2.2)
 ·rcases hk with h | h | h | h
  ·exact .inl (.inl h)
  ·exact .inl (.inr (.inl h))
  ·exact .inl (.inr (.inr (.inl h)))
  ·rcases hM.2 k h with h | h
   ·exact .inl (.inr (.inr (.inr h)))
   ·exact .inr (Nat.le_trans hsz h)
 ·rcases hk with h | h | h | h
  ·have := hlt t (.inl rfl); rcases he with rfl | rfl | rfl | rfl <;> omega
  ·have := hlt mb (.inr (.inl rfl)); rcases he with rfl | rfl | rfl | rfl <;> omega
  ·have := hlt _ (.inr (.inr (.inl h))); rcases he with rfl | rfl | rfl | rfl <;> omega
  ·have hS := T2.ram.lt h
   rcases hM.2 _ h with h | h
   ·have := hlt _ (.inr (.inr (.inr h))); rcases he with rfl | rfl | rfl | rfl <;> omega
   ·have : wd.heap.size ≤ k := h
    rcases he with rfl | rfl | rfl | rfl <;> omega
theorem mid_b {wd W' : World} (hT : TlbIn wd t rb mb S ov places cnt all order R) (hLo : Loc wd gw gr gk K) (hK : Keeps (THeld t mb S ov) w wd) (hg : w.heap.size ≤ gw ∧ w.heap.size ≤ gr ∧ w.heap.size ≤ gk) (hlt : ∀ k, THeld t mb S ov k → k < w.heap.size)
    (hn : order.length ≤ n) (hw : Wide R') (m : Nat) (a0 a1 a2 a3 a4 : Value) (hR : Ram W' rb S' R') (hM : Moves S S' ((wd.alloc (.cells #[a0, a1, a2, a3, a4] 287)).drewN m) W') (x : WalkR) :
    Mid w (sets5 W' wd.heap.size (.int .u32 (x.frame : Nat)) (.int .u32 (x.pde : Nat)) (.int .u32 (x.pte : Nat)) (.bool x.w) (.bool x.u)) t rb mb S ov places n gw gr gk wd.heap.size K x S' ov cnt all order R' := by
 have T2 := ((hT.alloc _).drewN m).found hR hM hw
 obtain ⟨-, -, -, -, l1, l2, l3⟩ := hLo.facts
 have hsz : w.heap.size ≤ wd.heap.size := hK.size
 have hsz2 : (wd.alloc (.cells #[a0, a1, a2, a3, a4] 287)).heap.size = wd.heap.size + 1 := by simp
 have hM1 : (wd.alloc (.cells #[a0, a1, a2, a3, a4] 287)).heap.size ≤ W'.heap.size := hM.1.size
 have hnS : ∀ k, w.heap.size ≤ k → ¬ S k := fun k hk h => by have := hlt k (.inr (.inr (.inr h))); omega
 have hbl : ∀ k, k < wd.heap.size → ¬ S k → W'.heap[k]? = wd.heap[k]? := fun k hk hs => (hM.1.block k (by rw [heap_drewN', hsz2]; omega) hs).trans (Below.heap_alloc _ _ _ hk)
 have hx0 : W'.heap[wd.heap.size]? = some (.cells #[a0, a1, a2, a3, a4] 287) := (hM.1.block _ (by rw [heap_drewN', hsz2]; omega) (hnS _ hsz)).trans (heap_new _ _)
 have hNN : ∀ k, THeld t mb S' ov k → THeld t mb S ov k ∨ wd.heap.size + 1 ≤ k := fun k hk => by
  rcases hk with h | h | h | h
  ·exact .inl (.inl h)
  ·exact .inl (.inr (.inl h))
  ·exact .inl (.inr (.inr (.inl h)))
  ·rcases hM.2 k h with h | h
   ·exact .inl (.inr (.inr (.inr h)))
   ·exact .inr (by rw [← hsz2]; exact h)
 have hne : ∀ k, THeld t mb S' ov k → k ≠ wd.heap.size := fun k hk e => by
  rcases hNN k hk with h | h
  ·have := hlt k h; omega
  ·omega
 refine ⟨T2.keeps (keeps_sets5 W' _ _ _ _ _ _) hne, hLo.of_heap fun k hk => ?_, ?_, ?_, fun k hk => (hNN k hk).imp id (by omega), fun k he hk => ?_, hg.2.1, hn⟩
 ·have : k < wd.heap.size := by rcases hk with rfl | rfl | rfl <;> assumption
  rw [(keeps_sets5 W' wd.heap.size _ _ _ _ _).block k (by omega) (by omega)]
  exact hbl k this (hnS _ (by rcases hk with rfl | rfl | rfl <;> omega))
 ·unfold sets5
  rw [heap_set_map, heap_set_map, heap_set_map, heap_set_map, heap_set_map, hx0]; rfl
 ·exact keeps_own (((hK.alloc _).drewN m).trans (hM.1.mono fun k _ h => .inr (.inr (.inr h)))) hsz _ _ _ _ _
 ·rcases hNN k hk with h | h
  ·have := hlt k h; rcases he with rfl | rfl | rfl | rfl <;> omega
  ·rcases he with rfl | rfl | rfl | rfl <;> omega
end
theorem held_b {wd W' : World} {S S' : Nat → Prop} {a0 a1 a2 a3 a4 : Value} {m : Nat} (hS : ∀ k, S k → k < wd.heap.size) (hM : Moves S S' ((wd.alloc (.cells #[a0, a1, a2, a3, a4] 287)).drewN m) W') :
    (W'.cell? ⟨wd.heap.size, 0, none⟩ = some a0 ∧ W'.cell? ⟨wd.heap.size, 1, none⟩ = some a1 ∧ W'.cell? ⟨wd.heap.size, 2, none⟩ = some a2 ∧ W'.cell? ⟨wd.heap.size, 3, none⟩ = some a3 ∧ W'.cell? ⟨wd.heap.size, 4, none⟩ = some a4) ∧ (∀ k, W'.frozen? ⟨wd.heap.size, k, none⟩ = false) ∧ wd.heap.size < W'.heap.size := by
 have hsz2 : (wd.alloc (.cells #[a0, a1, a2, a3, a4] 287)).heap.size = wd.heap.size + 1 := by simp
 have h : W'.heap[wd.heap.size]? = some (.cells #[a0, a1, a2, a3, a4] 287) := (hM.1.block _ (by rw [heap_drewN', hsz2]; omega) (fun h => by have := hS _ h; omega)).trans (heap_new _ _)
 refine ⟨⟨?_, ?_, ?_, ?_, ?_⟩, fun k => free_at h, heap_lt h⟩ <;> (rw [cell_at h]; rfl)
theorem tfind_r {W : World} {b : Nat} {S : Nat → Prop} {R : RS} (H : Ram W b S R) (K : PKey) (lin : Nat) (hl : lin < 4294967296) {fr pd pt : Nat} {xw xu : Bool} {cd : Int} {R' : RS}
    (hr : find R K.c lin K.wr K.us K.wp = (⟨fr, pd, pt, xw, xu⟩, cd, R')) :
    Calls Tryz.prog 202 #[.pointer (some ⟨b, 0, .none⟩), .int .u32 (K.c : Nat), .int .u32 (lin : Nat), .agg #[.bool K.wr, .bool K.us, .bool K.wp]] W fun e w' =>
     e = .returned (.tuple #[.agg #[.int .u32 (fr : Nat), .int .u32 (pd : Nat), .int .u32 (pt : Nat), .bool xw, .bool xu], .int .i64 cd, .int .i64 0]) ∧ ∃ S', Ram w' b S' R' ∧ Moves S S' W w' := by
 refine (find_any H K.c lin K.hc hl K.wr K.us K.wp).mono ?_
 rintro e w' ⟨he, S', H', M'⟩
 rw [hr] at he H'
 exact ⟨he, S', H', M'⟩
theorem Mid.step {we w7 : World} {n n7 gw gr gk gx : Nat} {K : PKey} {x : WalkR} {S' : Nat → Prop} {ov' ov7 : Value} {cnt' cnt7 : Nat} {all' all7 : PKey → Option Ent} {order' order7 : List PKey} {R' : RS} (H : Mid w we t rb mb S ov places n gw gr gk gx K x S' ov' cnt' all' order' R')
    (T : TlbIn w7 t rb mb S' ov7 places cnt7 all7 order7 R') (hk : Keeps (THeld t mb S' ov') we w7) (hov : ∀ k, ov7.ownBlock = some k → ov'.ownBlock = some k ∨ we.heap.size ≤ k) (hl : order7.length ≤ n7) :
    Mid w w7 t rb mb S ov places n7 gw gr gk gx K x S' ov7 cnt7 all7 order7 R' := by
 obtain ⟨-, -, -, -, l1, l2, l3⟩ := H.L.facts
 have lx := heap_lt H.X
 have hsz : w.heap.size ≤ we.heap.size := H.K.size
 have hN : ∀ k, THeld t mb S' ov7 k → THeld t mb S' ov' k ∨ we.heap.size ≤ k := fun k h => by
  rcases h with h | h | h | h
  ·exact .inl (.inl h)
  ·exact .inl (.inr (.inl h))
  ·exact (hov k h).imp (fun h => .inr (.inr (.inl h))) id
  ·exact .inl (.inr (.inr (.inr h)))
 refine ⟨T, H.L.of_heap fun k he => hk.block k (by rcases he with rfl | rfl | rfl <;> assumption) (H.g k (by rcases he with h | h | h; exact .inl h; exact .inr (.inl h); exact .inr (.inr (.inl h)))), by rw [hk.block gx lx (H.g gx (.inr (.inr (.inr rfl))))]; exact H.X,
  H.K.andThen hk fun i hi h => ?_, fun k h => ?_, fun k he h => ?_, H.glo, hl⟩
 ·rcases H.N i h with h | h
  ·exact h
  ·omega
 ·rcases hN k h with h | h
  ·exact H.N k h
  ·exact .inr (Nat.le_trans hsz h)
 ·rcases hN k h with h | h
  ·exact H.g k he h
  ·rcases he with rfl | rfl | rfl | rfl <;> omega
def needOf (x : Bool) : Nat := if x then 96 else 32
def keptZero : Value := .agg #[.int .u32 0, .int .u32 0, .int .u32 0, .bool false, .bool false, .int .u32 0, .int .u32 0]
theorem kept_zero (w : World) : (zeroValue 314).run Tryz.prog w = .ok keptZero w := by kernel_rfl
def FindPost (w : World) (t rb mb : Nat) (S : Nat → Prop) (ov : Value) (places n : Nat) (r : WalkR × Int × RS) (e : Ending) (w' : World) : Prop :=
 e = .returned (.tuple #[r.1.val, .int .i64 r.2.1, .int .i64 0]) ∧ TEnd w t rb mb S ov places n r.2.2 w'
structure FBase (w W : World) (t rb mb : Nat) (S : Nat → Prop) (ov : Value) (places cnt : Nat) (all : PKey → Option Ent) (order : List PKey) (R : RS) (gw gr gk : Nat) (K : PKey) (lin : Nat) : Prop where
 T : TlbIn W t rb mb S ov places cnt all order R
 L : Loc W gw gr gk K
 kp : Keeps (THeld t mb S ov) w W
 lt : ∀ k, THeld t mb S ov k → k < w.heap.size
 g : w.heap.size ≤ gw ∧ w.heap.size ≤ gr ∧ w.heap.size ≤ gk
 p : lin / 4096 = K.p
 l : lin < 4294967296
end
end Go.Proofs.YtmpcafdgkbpneaaGreat

/- tlb: Find, its end. -/
namespace Go.Proofs.YtmpcafdgkbpneaaGreat
open Go.RowKit Go.MapKept
set_option linter.unusedVariables false
section
variable {w we : World} {t rb mb places n n' gw gr gk gx : Nat} {S S' : Nat → Prop} {ov ov' : Value} {cnt' : Nat} {all' : PKey → Option Ent} {order' : List PKey} {R' : RS} {K : PKey}
theorem find_p23 {fr pd pt : Nat} {xw xu : Bool} {cd : Int} (hM : Mid w we t rb mb S ov places n gw gr gk gx K ⟨fr, pd, pt, xw, xu⟩ S' ov' cnt' all' order' R') (hn : n ≤ n') {q4 p6 p8 p7 p9 q0 q1 q2 q3 g9 h0 h1 h2 h3 h4 h6 h7 h8 h9 i0 i1 i2 i3 i4 i5 i6 i7 i8 h5 i9 j0 j1 j2 j3 j4 j5 j6 j7 j8 j9 k0 k1 k2 k3 k4 k5 k6 k7 k8 k9 l0 l1 l2 l3 l4 l5 l6 l7 l8 l9 m0 m1 m2 m3 m4 m5 m6 m7 m8 m9 n0 n1 n2 n3 n4 n5 n6 n7 n8 n9 o0 o1 o2 o3 o4 o5 o6 o7 o8 o9 p0 p1 p2 p3 p4 p5 a0 a1 a2 a3 a4 a5 a6 a7 a8 a9 b0 b1 b2 b3 b4 b5 b6 b7 b8 b9 c0 c1 c2 c3 c4 c5 c6 c7 c8 c9 d0 d1 d2 d3 d4 d5 d6 d7 d8 d9 e0 e1 e2 e3 e4 e5 e6 e7 e8 e9 f0 f1 f2 f3 f4 f5 f6 f7 f8 f9 g0 g1 g2 g3 g4 g5 g6 g7 g8 : Value} {KK : Act → World → Prop}
    (hK : ∀ a w1, Code.wp Tryz.prog (tl Tryz.f176 23) (bodyPost Tryz.prog Tryz.f176 (FindPost w t rb mb S ov places n' (⟨fr, pd, pt, xw, xu⟩, cd, R'))) a w1 → KK a w1) :
    Code.wp Tryz.prog (rg Tryz.f176 23) (Exit.then KK (bodyPost Tryz.prog Tryz.f176 (FindPost w t rb mb S ov places n' (⟨fr, pd, pt, xw, xu⟩, cd, R'))))
     ⟨#[q4, p6, p8, p7, p9, q0, q1, q2, .pointer (some ⟨gr, 0, none⟩), q3, g9, h0, h1, h2, h3, h4, .pointer (some ⟨gx, 0, none⟩), .int .i64 cd, .int .i64 0, h6, h7, h8, h9, i0, i1, i2, i3, i4, i5, i6, i7, i8, h5, i9, j0, j1, j2, j3, j4, j5, j6, j7, j8, j9, k0, k1, k2, k3, k4, k5, k6, k7, k8, k9, l0, l1, l2, l3, l4, l5, l6, l7, l8, l9, m0, m1, m2, m3, m4, m5, m6, m7, m8, m9, n0, n1, n2, n3, n4, n5, n6, n7, n8, n9, o0, o1, o2, o3, o4, o5, o6, o7, o8, o9, p0, p1, p2, p3, p4, p5, a0, a1, a2, a3, a4, a5, a6, a7, a8, a9, b0, b1, b2, b3, b4, b5, b6, b7, b8, b9, c0, c1, c2, c3, c4, c5, c6, c7, c8, c9, d0, d1, d2, d3, d4, d5, d6, d7, d8, d9, e0, e1, e2, e3, e4, e5, e6, e7, e8, e9, f0, f1, f2, f3, f4, f5, f6, f7, f8, f9, g0, g1, g2, g3, g4, g5, g6, g7, g8], []⟩ we := by
 have HCS := Lib.hid (cell_sets hM.L.res (.int .u32 (fr : Nat)) (.int .u32 (pd : Nat)) (.int .u32 (pt : Nat)) (.bool xw) (.bool xu))
 have HFin := Lib.hid (hM.fin hn (.int .u32 (fr : Nat)) (.int .u32 (pd : Nat)) (.int .u32 (pt : Nat)) (.bool xw) (.bool xu))
 obtain ⟨-, -, ⟨x0, x1, x2, x3, x4⟩, xf, -, xl, -⟩ := hM.L.facts
 obtain ⟨v0, v1, v2, v3, v4, vl⟩ := hM.xf
 clear hM
 conv => arg 2; whnf
 conv at hK => enter [a, w1, 1, 2]; whnf
 go_wp2_with fail
 change bodyPost _ _ _ _ _ (sets5 we gr (.int .u32 (fr : Nat)) (.int .u32 (pd : Nat)) (.int .u32 (pt : Nat)) (.bool xw) (.bool xu))
 obtain ⟨r0, r1, r2, r3, r4⟩ := HCS.out
 clear x0 x1 x2 x3 x4 v0 v1 v2 v3 v4 xf xl vl HCS
 generalize sets5 we gr (.int .u32 (fr : Nat)) (.int .u32 (pd : Nat)) (.int .u32 (pt : Nat)) (.bool xw) (.bool xu) = Wf at *
 refine bodyPost_ret (v := .tuple #[.agg #[.int .u32 (fr : Nat), .int .u32 (pd : Nat), .int .u32 (pt : Nat), .bool xw, .bool xu], .int .i64 cd, .int .i64 0]) (by simp [results, Tryz.results176, go_sem, r0, r1, r2, r3, r4]) rfl ?_
 exact ⟨rfl, HFin.out⟩
end
end Go.Proofs.YtmpcafdgkbpneaaGreat

/- tlb: Find, what is kept. -/
namespace Go.Proofs.YtmpcafdgkbpneaaGreat
open Go.RowKit Go.MapKept
set_option linter.unusedVariables false
section
variable {w we : World} {t rb mb places n n' gw gr gk gx : Nat} {S S' : Nat → Prop} {ov ov' : Value} {cnt' : Nat} {all' : PKey → Option Ent} {order' : List PKey} {R' : RS} {K : PKey}
theorem need_lt (x : Bool) : needOf x < 4294967296 := by cases x <;> decide
theorem and_32 (a : Nat) : a &&& 32 = 0 ∨ a &&& 32 = 32 := by
 have hz : ∀ j, j ≠ 5 → (32 : Nat).testBit j = false := fun j hj => by
  rw [show (32 : Nat) = 2 ^ 5 from rfl, Nat.testBit_two_pow]; simp; omega
 cases h : a.testBit 5
 ·left
  refine Nat.eq_of_testBit_eq fun j => ?_
  rw [Nat.testBit_and, Nat.zero_testBit]
  by_cases e : j = 5
  ·subst e; rw [h]; rfl
  ·rw [hz j e]; simp
 ·right
  refine Nat.eq_of_testBit_eq fun j => ?_
  rw [Nat.testBit_and]
  by_cases e : j = 5
  ·subst e; rw [h]; rfl
  ·rw [hz j e]; simp
theorem map_some {κ : Type} {W : World} {r n : Nat} {val : κ → Value} {f : κ → Option Value} (h : MapK W r val f n) (hn : 0 < n) : ∃ K v, f K = some v := by
 obtain ⟨es, clock, hb, h1, h2, h3, h4⟩ := h
 have hx : es[0]'(by omega) ∈ es.toList := by simp
 obtain ⟨K, hK⟩ := h2 _ hx
 exact ⟨K, _, (h3 K _).2 ⟨_, hx, hK, rfl⟩⟩
theorem find_p17_no {fr pd pt a b : Nat} {xw xu : Bool} {cd : Int} (hM : Mid w we t rb mb S ov places n gw gr gk gx K ⟨fr, pd, pt, xw, xu⟩ S' ov' cnt' all' order' R') (hn : n ≤ n') (ha : a < 4294967296) (hb : b < 4294967296)
    (hno : ¬ (a &&& 32 = 32 ∧ b &&& needOf K.wr = needOf K.wr ∧ b / 4096 * 4096 = fr)) {q1 q7 q2 q3 q4 q5 q6 h8 h9 i0 i1 i2 i4 i5 i6 i7 i8 i9 j0 j1 j2 j3 i3 j4 j5 j6 j7 j8 j9 k0 k1 k2 k3 k4 k5 k6 k7 k8 k9 l0 l1 l2 l3 l4 l5 l6 l7 l8 l9 m0 m1 m2 m3 m4 m5 m6 m7 m8 m9 n0 n1 n2 n3 n4 n5 n6 n7 n8 n9 o0 o1 o2 o3 o4 o5 o6 o7 o8 o9 p0 p1 p2 p3 p4 p5 p6 p7 p8 p9 q0 a0 a1 a2 a3 a4 a5 a6 a7 a8 a9 b0 b1 b2 b3 b4 b5 b6 b7 b8 b9 c0 c1 c2 c3 c4 c5 c6 c7 c8 c9 d0 d1 d2 d3 d4 d5 d6 d7 d8 d9 e0 e4 e5 e6 e7 e8 e9 f0 f1 f2 f3 f4 f5 f6 f7 f8 f9 g0 g4 g5 g6 g7 g8 g9 h0 h4 h5 h6 h7 : Value} {nd : Int} (hnd : nd = ((needOf K.wr : Nat) : Int)) {K1 K2 : Act → World → Prop}
    (h1 : ∀ a w1, Code.wp Tryz.prog (tl Tryz.f176 17) (Exit.then K2 (bodyPost Tryz.prog Tryz.f176 (FindPost w t rb mb S ov places n' (⟨fr, pd, pt, xw, xu⟩, cd, R')))) a w1 → K1 a w1) (h2 : ∀ a w1, Code.wp Tryz.prog (.seq (rg Tryz.f176 23) (tl Tryz.f176 23)) (bodyPost Tryz.prog Tryz.f176 (FindPost w t rb mb S ov places n' (⟨fr, pd, pt, xw, xu⟩, cd, R'))) a w1 → K2 a w1) :
    Code.wp Tryz.prog (rg Tryz.f176 17) (Exit.then K1 (Exit.then K2 (bodyPost Tryz.prog Tryz.f176 (FindPost w t rb mb S ov places n' (⟨fr, pd, pt, xw, xu⟩, cd, R')))))
     ⟨#[.pointer (some ⟨t, 0, none⟩), q1, q7, q2, q3, q4, q5, .pointer (some ⟨gw, 0, none⟩), .pointer (some ⟨gr, 0, none⟩), q6, h8, .pointer (some ⟨gk, 0, none⟩), h9, i0, i1, i2, .pointer (some ⟨gx, 0, none⟩), .int .i64 cd, .int .i64 0, .int .u32 (a : Nat), .int .u32 (b : Nat), .int .u32 nd, i4, i5, i6, i7, i8, i9, j0, j1, j2, j3, i3, j4, j5, j6, j7, j8, j9, k0, k1, k2, k3, k4, k5, k6, k7, k8, k9, l0, l1, l2, l3, l4, l5, l6, l7, l8, l9, m0, m1, m2, m3, m4, m5, m6, m7, m8, m9, n0, n1, n2, n3, n4, n5, n6, n7, n8, n9, o0, o1, o2, o3, o4, o5, o6, o7, o8, o9, p0, p1, p2, p3, p4, p5, p6, p7, p8, p9, q0, a0, a1, a2, a3, a4, a5, a6, a7, a8, a9, b0, b1, b2, b3, b4, b5, b6, b7, b8, b9, c0, c1, c2, c3, c4, c5, c6, c7, c8, c9, d0, d1, d2, d3, d4, d5, d6, d7, d8, d9, e0, e4, e5, e6, e7, e8, e9, f0, f1, f2, f3, f4, f5, f6, f7, f8, f9, g0, g4, g5, g6, g7, g8, g9, h0, h4, h5, h6, h7], []⟩ we := by
 subst hnd
 have HM := Lib.hid hM
 have HN := Lib.hid hn
 obtain ⟨-, -, -, xf, -, xl, -⟩ := hM.L.facts
 obtain ⟨v0, v1, v2, v3, v4, vl⟩ := hM.xf
 have e3 := a4095 b hb
 have e1 : bits .and .u32 (a : Int) 32 = ((a &&& 32 : Nat) : Int) := u32_and_nat a 32 ha (by decide)
 have e2 := u32_and_nat b (needOf K.wr) hb (need_lt _)
 clear hM hn
 conv => arg 2; whnf
 conv at h1 => enter [a, w1, 1, 2]; whnf
 conv at h2 => enter [a, w1, 1, 2, 1]; whnf
 conv at h2 => enter [a, w1, 1, 2, 2]; whnf
 rcases and_32 a with hA | hA
 ·rw [hA] at e1
  have g1 : (bits .and .u32 (a : Int) 32 != 0) = false := by rw [e1]; rfl
  have e1' : bits .and .u32 (a : Int) 32 = 0 := e1
  have HX := Lib.hid e2
  clear hno hA e1 e2
  go_upto_region 23 with (fail)
  exact find_p23 HM.out HN.out (by assumption)
 ·rw [hA] at e1
  have g1 : (bits .and .u32 (a : Int) 32 != 0) = true := by rw [e1]; rfl
  have e1' : ¬ bits .and .u32 (a : Int) 32 = 0 := by rw [e1]; decide
  by_cases hB : b &&& needOf K.wr = needOf K.wr
  ·have h3 : ¬ b / 4096 * 4096 = fr := fun h => hno ⟨hA, hB, h⟩
   rw [hB] at e2
   have g2 : (bits .and .u32 (b : Int) (needOf K.wr : Nat) == ((needOf K.wr : Nat) : Int)) = true := by rw [e2]; simp
   have g3 : ((b : Int) / 4096 * 4096 == (fr : Int)) = false := by simp; omega
   have h3' : ¬ (b : Int) / 4096 * 4096 = (fr : Int) := by omega
   clear hno hA hB e1 h3
   go_upto_region 23 with (fail)
   exact find_p23 HM.out HN.out (by assumption)
  ·have g2 : (bits .and .u32 (b : Int) (needOf K.wr : Nat) == ((needOf K.wr : Nat) : Int)) = false := by rw [e2]; simp; omega
   have g2' : ¬ bits .and .u32 (b : Int) (needOf K.wr : Nat) = ((needOf K.wr : Nat) : Int) := by rw [e2]; omega
   clear hno hA hB e1 e2
   go_upto_region 23 with (fail)
   exact find_p23 HM.out HN.out (by assumption)
end
end Go.Proofs.YtmpcafdgkbpneaaGreat

/- tlb: Find, what is kept. -/
namespace Go.Proofs.YtmpcafdgkbpneaaGreat
open Go.RowKit Go.MapKept
set_option linter.unusedVariables false
theorem size_key (w : World) : (sizeOf 312).run Tryz.prog w = .ok 5 w := by kernel_rfl
section
variable {w we : World} {t rb mb places n n' gw gr gq gx : Nat} {S S' : Nat → Prop} {ov ov' : Value} {cnt' : Nat} {all' : PKey → Option Ent} {order' : List PKey} {R' : RS} {K : PKey}
theorem find_p17_yes {fr pd pt a b : Nat} {xw xu : Bool} {cd : Int} (hM : Mid w we t rb mb S ov places n gw gr gq gx K ⟨fr, pd, pt, xw, xu⟩ S' ov' cnt' all' order' R') (hn : n + 1 ≤ n') (hL : n' * 12 ≤ 140737488355328) (hpl : 0 < places) (ha : a < 4294967296) (hb : b < 4294967296)
    (hyes : a &&& 32 = 32 ∧ b &&& needOf K.wr = needOf K.wr ∧ b / 4096 * 4096 = fr)
    (hG : pd < 4294967296 ∧ pt < 4294967296 ∧ Good K.c K.p K.wr K.us K.wp ⟨fr, pd, pt, xw, xu⟩ a b) {s4 t0 s5 s6 s7 s8 s9 i8 i9 j0 j1 j2 j4 j5 j6 j7 j8 j9 k4 k5 k6 k7 j3 k8 k9 l0 l1 l2 l3 l4 l5 l7 l8 l9 m0 m1 m2 m3 m4 m5 m6 m7 m8 m9 n0 n1 n2 n3 n4 n5 n7 n8 n9 o0 o1 o2 o3 o4 o5 o6 o7 o8 o9 p5 p6 p7 p8 p9 q0 q1 q2 q4 q5 q7 q8 q9 r0 r1 r2 r3 r4 r5 r6 r7 r8 r9 s0 s1 s2 s3 a0 a1 a2 a3 a4 a5 a8 a9 b0 b1 b2 b3 b4 b5 b6 b7 b8 b9 c0 c3 c4 c5 c8 c9 d0 d1 d2 d3 d4 d5 d6 d7 d8 d9 e0 e4 e5 e6 e7 e8 e9 f0 f1 f2 f3 f4 f5 f7 f8 f9 g0 g4 g5 g6 g7 g8 g9 h6 h7 h8 h9 i0 i1 i2 i3 i4 i5 i6 i7 : Value} {nd : Int} (hnd : nd = ((needOf K.wr : Nat) : Int)) {K1 K2 : Act → World → Prop}
    (h1 : ∀ a w1, Code.wp Tryz.prog (tl Tryz.f176 17) (Exit.then K2 (bodyPost Tryz.prog Tryz.f176 (FindPost w t rb mb S ov places n' (⟨fr, pd, pt, xw, xu⟩, cd, R')))) a w1 → K1 a w1) (h2 : ∀ a w1, Code.wp Tryz.prog (.seq (rg Tryz.f176 23) (tl Tryz.f176 23)) (bodyPost Tryz.prog Tryz.f176 (FindPost w t rb mb S ov places n' (⟨fr, pd, pt, xw, xu⟩, cd, R'))) a w1 → K2 a w1) :
    Code.wp Tryz.prog (rg Tryz.f176 17) (Exit.then K1 (Exit.then K2 (bodyPost Tryz.prog Tryz.f176 (FindPost w t rb mb S ov places n' (⟨fr, pd, pt, xw, xu⟩, cd, R')))))
     ⟨#[.pointer (some ⟨t, 0, none⟩), s4, t0, s5, s6, s7, s8, .pointer (some ⟨gw, 0, none⟩), .pointer (some ⟨gr, 0, none⟩), s9, i8, .pointer (some ⟨gq, 0, none⟩), i9, j0, j1, j2, .pointer (some ⟨gx, 0, none⟩), .int .i64 cd, .int .i64 0, .int .u32 (a : Nat), .int .u32 (b : Nat), .int .u32 nd, j4, j5, j6, j7, j8, j9, k4, k5, k6, k7, j3, k8, k9, l0, l1, l2, l3, l4, l5, l7, l8, l9, m0, m1, m2, m3, m4, m5, m6, m7, m8, m9, n0, n1, n2, n3, n4, n5, n7, n8, n9, o0, o1, o2, o3, o4, o5, o6, o7, o8, o9, p5, p6, p7, p8, p9, q0, q1, q2, q4, q5, q7, q8, q9, r0, r1, r2, r3, r4, r5, r6, r7, r8, r9, s0, s1, s2, s3, a0, a1, a2, a3, a4, a5, a8, a9, b0, b1, b2, b3, b4, b5, b6, b7, b8, b9, c0, c3, c4, c5, c8, c9, d0, d1, d2, d3, d4, d5, d6, d7, d8, d9, e0, e4, e5, e6, e7, e8, e9, f0, f1, f2, f3, f4, f5, f7, f8, f9, g0, g4, g5, g6, g7, g8, g9, h6, h7, h8, h9, i0, i1, i2, i3, i4, i5, i6, i7], []⟩ we := by
 subst hnd
 have HM := Lib.hid hM
 have HN := Lib.hid hn
 have HL := Lib.hid hL
 have HPL := Lib.hid hpl
 have HGD := Lib.hid hG
 obtain ⟨-, -, -, xf, -, xl, -⟩ := hM.L.facts
 obtain ⟨v0, v1, v2, v3, v4, vl⟩ := hM.xf
 have e3 := a4095 b hb
 have e1 : bits .and .u32 (a : Int) 32 = ((a &&& 32 : Nat) : Int) := u32_and_nat a 32 ha (by decide)
 have e2 := u32_and_nat b (needOf K.wr) hb (need_lt _)
 obtain ⟨hA, hB, hC⟩ := hyes
 rw [hA] at e1
 rw [hB] at e2
 have g1 : (bits .and .u32 (a : Int) 32 != 0) = true := by rw [e1]; rfl
 have e1' : ¬ bits .and .u32 (a : Int) 32 = 0 := by rw [e1]; decide
 have g2 : (bits .and .u32 (b : Int) (needOf K.wr : Nat) == ((needOf K.wr : Nat) : Int)) = true := by rw [e2]; simp
 have g3 : ((b : Int) / 4096 * 4096 == (fr : Int)) = true := by simp; omega
 have g3' : (b : Int) / 4096 * 4096 = (fr : Int) := by omega
 have HW : Hid (Mid w we t rb mb S ov places n gw gr gq gx K ⟨fr, pd, pt, xw, xu⟩ S' ov' cnt' all' order' R') := HM
 clear hM hn hL hpl hG hA hB hC e1
 conv => arg 2; whnf
 conv at h1 => enter [a, w1, 1, 2]; whnf
 conv at h2 => enter [a, w1, 1, 2, 1]; whnf
 conv at h2 => enter [a, w1, 1, 2, 2]; whnf
 go_wp2_with fail
 clear xf xl v0 v1 v2 v3 v4 vl e3 e1' e2 g1 g2 g3 g3'
 go_loopg [119] order'.length (fun k s wr => ∃ ov2 cnt2 all2 order2, order2.length = k ∧ Mid w wr t rb mb S ov places n gw gr gq gx K ⟨fr, pd, pt, xw, xu⟩ S' ov2 cnt2 all2 order2 R')
 case atStart => exact ⟨_, _, _, _, rfl, HM.out⟩
 case round =>
  obtain ⟨ov2, cnt2, all2, order2, hlen, hM⟩ := hrel
  have HM2 := Lib.hid hM
  have HLN := Lib.hid hlen
  obtain ⟨k0, k1, k2, k3, kf, kl⟩ := hM.T.facts
  obtain ⟨es, clock, hm, hc⟩ := hM.T.map.size
  have hlm := fun ty m => run_len_map (P := Tryz.prog) (w := wr.drewN m) 228 ty mb es clock (by kernel_rfl) hm
  rw [hc] at hlm
  have hc1 := hM.T.c1
  have hc2 := hM.T.c2
  have hlm0 := fun ty => run_len_map (P := Tryz.prog) (w := wr) 228 ty mb es clock (by kernel_rfl) hm
  rw [hc] at hlm0
  clear hM hlen hm hc
  by_cases hfull : cnt2 < places
  ·go_wp2_with fail
   go_quiet (fail)
   go_wp2_with fail
   have HM3 := Lib.hid (HM2.out.drewN nq)
   generalize wr.drewN nq = wq at *
   clear k0 k1 k2 k3 kf kl hlm hlm0 hc1 hc2
   obtain ⟨k0, k1, k2, k3, kf, kl⟩ := HM3.out.T.facts
   obtain ⟨⟨z0, z1, z2, z3, z4⟩, -, -, -, -, -, zl⟩ := HM3.out.L.facts
   obtain ⟨v0, v1, v2, v3, v4, vl⟩ := HM3.out.xf
   obtain ⟨w4, hup, M4, K4⟩ := (HM3.out.T.map.drewN 1).update (P := Tryz.prog) PK Tryz.underlying228 K (Ent.val ⟨⟨fr, pd, pt, xw, xu⟩, a, b⟩)
   have hup : (Instr.mapUpdate 228 (.map (some mb)) (.agg #[.int .u32 (K.c : Nat), .int .u32 (K.p : Nat), .bool K.wr, .bool K.us, .bool K.wp]) (.agg #[.int .u32 (fr : Nat), .int .u32 (pd : Nat), .int .u32 (pt : Nat), .bool xw, .bool xu, .int .u32 (a : Nat), .int .u32 (b : Nat)])).run Tryz.prog wq.drew = .ok () w4 := hup
   have HPRE := Lib.hid ((HM3.out.T.drewN 1).put hfull M4 (by split <;> omega) K4 HGD.out)
   have HK4 := Lib.hid K4
   clear M4 K4 hfull
   go_still_tail 9, (by kernel_rfl)
   change wpList _ _ _ _ _ wq.drew
   go_wp2_with fail
   clear k0 k1 k2 k3 kf kl hup
   have hz : ∀ j, w4.cell? ⟨gq, j, none⟩ = wq.cell? ⟨gq, j, none⟩ := fun j => World.cell?_of_block (HK4.out.block gq zl (fun e => HM3.out.g gq (.inr (.inr (.inl rfl))) (.inr (.inl e))))
   replace z0 := (hz 0).trans z0
   replace z1 := (hz 1).trans z1
   replace z2 := (hz 2).trans z2
   replace z3 := (hz 3).trans z3
   replace z4 := (hz 4).trans z4
   replace zl := World.block_lt_of_cell? w4 _ z0
   clear hz v0 v1 v2 v3 v4 vl
   obtain ⟨k0, k1, k2, k3, kf, kl⟩ := HPRE.out.facts
   have hol : (order2.length + 1) * 12 ≤ 140737488355328 := by have := HM3.out.len; have := HN.out; have := HL.out; omega
   have HOL := Lib.hid hol
   clear hol
   have HP1 := Lib.hid (show TlbPre w4.drew t rb mb S' ov2 places _ _ order2 R' K from HPRE.out.drewN 1)
   go_region_law (refine step_append_key (w := w4.drew) HP1.out HOL.out (by rfl) _ _ (by rfl) (by rfl) (by rfl) ?_; intro a6 n6 q6 w6 c6 f6 l6 H6 X6)
   all_goals
    have HM5 := Lib.hid (HM3.out.step H6.out (((((Keeps.refl _ wq).drewN 1).andThen HK4.out fun i _ e => .inr (.inl e)).drewN 1).trans X6.out.1) (fun k hk => (X6.out.2 k hk).imp id (fun h => Nat.le_trans HK4.out.size h)) (show (order2 ++ [K]).length ≤ n + 1 by rw [List.length_append]; exact Nat.succ_le_succ HM3.out.len))
    clear k0 k1 k2 k3 kf kl z0 z1 z2 z3 z4 zl c6 f6 l6 H6 X6 HPRE HP1 HK4 HM3 HM2
    generalize w6.setCell ⟨t, 3, none⟩ (.slice a6 n6 q6) = w7 at *
    go_upto_region 23 with (fail)
    exact find_p23 HM5.out HN.out (by assumption)
  ·have hpos : 0 < cnt2 := by have := HPL.out; omega
   obtain ⟨Kx, vx, hx⟩ := map_some HM2.out.T.map hpos
   obtain ⟨K0, rest, rfl⟩ : ∃ K0 rest, order2 = K0 :: rest := by
    cases hA : all2 Kx with
    | none => rw [hA] at hx; cases hx
    | some e =>
     have := HM2.out.T.sub Kx e hA
     cases order2 with
     | nil => cases this
     | cons K0 rest => exact ⟨K0, rest, rfl⟩
   clear hx
   rcases HM2.out.T.ord.2 with ⟨_, h0⟩ | ⟨g, o, cap, cur, hv, hg, h2, h3, h4, h5⟩
   ·simp at h0
   ·subst hv
    have hcell : ∀ j u, j < 5 → K0.cells[j]? = some u → wr.cell? ⟨g, o + j, none⟩ = some u := fun j u hj hu => by
     have hj2 : j < (K0 :: rest).length * 5 := by simp only [List.length_cons]; omega
     have e : (keysV (K0 :: rest))[j]? = K0.cells[j]? := by
      have : keysV (K0 :: rest) = K0.cells ++ keysV rest := rfl
      rw [this, List.getElem?_append_left (by exact hj)]
     rw [cell_at hg, h5 j hj2, e]; exact hu
    have p0 := hcell 0 _ (by decide) rfl
    have p1 := hcell 1 _ (by decide) rfl
    have p2 := hcell 2 _ (by decide) rfl
    have p3 := hcell 3 _ (by decide) rfl
    have p4 := hcell 4 _ (by decide) rfl
    have pl := heap_lt hg
    have hlen2 : (K0 :: rest).length = rest.length + 1 := rfl
    rw [hlen2] at k3
    have hmx : rest.length + 1 ≤ 1000000000000000 := by have := HM2.out.len; have := HN.out; have := HL.out; omega
    rw [Nat.add_zero] at p0
    have hge : places ≤ cnt2 := by omega
    clear hcell hg h2 h3 h4 h5 hfull
    go_wp2_with fail
    go_quiet (fail)
    go_wp2_with fail
    have HM3 := Lib.hid (HM2.out.drewN nq)
    have hz : ∀ j, (wr.drewN nq).cell? ⟨g, j, none⟩ = wr.cell? ⟨g, j, none⟩ := fun j => World.cell?_of_block rfl
    replace p0 := (hz _).trans p0
    replace p1 := (hz _).trans p1
    replace p2 := (hz _).trans p2
    replace p3 := (hz _).trans p3
    replace p4 := (hz _).trans p4
    have hgl : g < (wr.drewN nq).heap.size := pl
    clear hz pl
    generalize wr.drewN nq = wq at *
    clear k0 k1 k2 k3 kf kl hlm hlm0
    obtain ⟨k0, k1, k2, k3, kf, kl⟩ := HM3.out.T.facts
    rw [hlen2] at k3
    obtain ⟨w4, hdel, M4, K4⟩ := (HM3.out.T.map.drewN 1).delete (P := Tryz.prog) PK Tryz.underlying228 K0 312 0
    have hdel : (Builtin.delete_ #[228, 312] 0 #[.map (some mb), .agg #[.int .u32 (K0.c : Nat), .int .u32 (K0.p : Nat), .bool K0.wr, .bool K0.us, .bool K0.wp]]).run Tryz.prog wq.drew = .ok (.tuple #[]) w4 := hdel
    have hord4 : RowC w4 312 5 (.slice (some ⟨g, o, none⟩) (rest.length + 1) cap) (rest.length + 1) (keysV (K0 :: rest)) :=
     HM3.out.T.ord.of_heap fun k hk => K4.block k (HM3.out.T.ord.lt hk) fun e => HM3.out.T.m_o (by rw [← e]; exact hk)
    obtain ⟨ov7, htl, hord7, hsub⟩ := run_tail_c (P := Tryz.prog) 229 5 Tryz.underlying229 (size_key w4) hord4
    obtain ⟨a7, c7, rfl⟩ := hord7.len
    have hT7 := (HM3.out.T.drewN 1).pop M4 (by split <;> omega) K4 hord7 hsub
    have hobj4 : w4.heap[t]? = _ := (K4.block t kl HM3.out.T.t_m).trans HM3.out.T.obj
    have q3 : w4.cell? ⟨t, 3, none⟩ = some (.slice (some ⟨g, o, none⟩) (rest.length + 1) cap) := by rw [cell_at hobj4]; rfl
    have qf : ∀ k, w4.frozen? ⟨t, k, none⟩ = false := fun k => free_at hobj4
    have ql := heap_lt hobj4
    have hM5 := HM3.out.step hT7 ((((Keeps.refl _ wq).drewN 1).andThen K4 fun i _ e => .inr (.inl e)).setCell (.inl (.inl rfl)) _) (fun k hk => .inl (hsub k hk)) (show rest.length ≤ n by have := HM3.out.len; simp only [List.length_cons] at this; omega)
    have HM5 := Lib.hid hM5
    clear M4 K4 hord4 hord7 hsub hT7 hobj4 hM5
    go_still_tail 10, (by kernel_rfl)
    change wpList _ _ _ _ _ wq.drew
    go_wp2_with fail
    go_roundg rest.length
    case rel => exact ⟨_, _, _, _, rfl, HM5.out⟩
    case measure => have := HLN.out; simp only [List.length_cons] at this; omega
end
end Go.Proofs.YtmpcafdgkbpneaaGreat

/- tlb: Find, from the walk through memory on. -/
namespace Go.Proofs.YtmpcafdgkbpneaaGreat
open Go.RowKit Go.MapKept
set_option linter.unusedVariables false
section
variable {w we : World} {t rb mb places n gw gr gk gx cnt : Nat} {S S' : Nat → Prop} {ov : Value} {all : PKey → Option Ent} {order : List PKey} {R R' : RS} {K : PKey} {lin : Nat}
theorem find_p11 {fr pd pt : Nat} {xw xu : Bool} {cd : Int} (hM : Mid w we t rb mb S ov places n gw gr gk gx K ⟨fr, pd, pt, xw, xu⟩ S' ov cnt all order R') (hL : (n + 1) * 12 ≤ 140737488355328) (hW : Wide R) (hl : lin < 4294967296) (hp : lin / 4096 = K.p)
    (hr : find R K.c lin K.wr K.us K.wp = (⟨fr, pd, pt, xw, xu⟩, cd, R')) {q2 q3 q4 q5 h0 h4 h5 h6 h7 h8 h9 i0 i1 i2 i3 i4 i5 i6 i7 i8 i9 j0 g9 j1 j2 j3 j4 j5 j6 j7 j8 j9 k4 k5 k6 k7 k8 k9 l0 l1 l2 l3 l4 l5 l6 l7 l8 l9 m0 m1 m2 m3 m4 m5 m6 m7 m8 m9 n0 n1 n2 n3 n4 n5 n6 n7 n8 n9 o0 o1 o2 o3 o4 o5 o6 o7 o8 o9 p0 p1 p2 p3 p4 p5 p6 p7 p8 p9 q0 q1 a0 a1 a2 a3 a4 a5 a6 a7 a8 a9 b0 b1 b2 b3 b4 b5 b6 b7 b8 b9 c0 c1 c2 c3 c4 c5 c6 c7 c8 c9 d0 d1 d2 d3 d4 d5 d6 d7 d8 d9 e0 e1 e2 e3 e4 e5 e6 e7 e8 e9 f0 f1 f2 f3 f4 f5 f6 f7 f8 f9 g0 g1 g2 g3 g4 g5 g6 g7 g8 : Value} {K1 K2 : Act → World → Prop}
    (h1 : ∀ a w1, Code.wp Tryz.prog (tl Tryz.f176 11) (Exit.then K2 (bodyPost Tryz.prog Tryz.f176 (FindPost w t rb mb S ov places (n + 1) (⟨fr, pd, pt, xw, xu⟩, cd, R')))) a w1 → K1 a w1) (h2 : ∀ a w1, Code.wp Tryz.prog (.seq (rg Tryz.f176 13) (tl Tryz.f176 13)) (bodyPost Tryz.prog Tryz.f176 (FindPost w t rb mb S ov places (n + 1) (⟨fr, pd, pt, xw, xu⟩, cd, R'))) a w1 → K2 a w1) :
    Code.wp Tryz.prog (rg Tryz.f176 11) (Exit.then K1 (Exit.then K2 (bodyPost Tryz.prog Tryz.f176 (FindPost w t rb mb S ov places (n + 1) (⟨fr, pd, pt, xw, xu⟩, cd, R')))))
     ⟨#[.pointer (some ⟨t, 0, none⟩), .int .u32 (K.c : Nat), .int .u32 (lin : Nat), .agg #[.bool K.wr, .bool K.us, .bool K.wp], q2, q3, q4, .pointer (some ⟨gw, 0, none⟩), .pointer (some ⟨gr, 0, none⟩), q5, h0, .pointer (some ⟨gk, 0, none⟩), h4, h5, h6, h7, .pointer (some ⟨gx, 0, none⟩), .int .i64 cd, .int .i64 0, h8, h9, i0, i1, i2, i3, i4, i5, i6, i7, i8, i9, j0, g9, j1, j2, j3, j4, j5, j6, j7, j8, j9, k4, k5, k6, k7, k8, k9, l0, l1, l2, l3, l4, l5, l6, l7, l8, l9, m0, m1, m2, m3, m4, m5, m6, m7, m8, m9, n0, n1, n2, n3, n4, n5, n6, n7, n8, n9, o0, o1, o2, o3, o4, o5, o6, o7, o8, o9, p0, p1, p2, p3, p4, p5, p6, p7, p8, p9, q0, q1, a0, a1, a2, a3, a4, a5, a6, a7, a8, a9, b0, b1, b2, b3, b4, b5, b6, b7, b8, b9, c0, c1, c2, c3, c4, c5, c6, c7, c8, c9, d0, d1, d2, d3, d4, d5, d6, d7, d8, d9, e0, e1, e2, e3, e4, e5, e6, e7, e8, e9, f0, f1, f2, f3, f4, f5, f6, f7, f8, f9, g0, g1, g2, g3, g4, g5, g6, g7, g8], []⟩ we := by
 have HM := Lib.hid hM
 have HL := Lib.hid hL
 have HR := Lib.hid hr
 have HW := Lib.hid hW
 have HP := Lib.hid hp
 obtain ⟨hwR, hpd, hpt, hcd⟩ := find_parts hW K.hc hl hr
 have HWR := Lib.hid hwR
 obtain ⟨k0, k1, k2, k3, kf, kl⟩ := hM.T.facts
 obtain ⟨-, ⟨y0, y1, y2⟩, ⟨x0, x1, x2, x3, x4⟩, xf, yl, xl, -⟩ := hM.L.facts
 obtain ⟨v0, v1, v2, v3, v4, vl⟩ := hM.xf
 clear hM hL hW hr hwR hp
 conv => arg 2; whnf
 conv at h1 => enter [a, w1, 1, 2]; whnf
 conv at h2 => enter [a, w1, 1, 2, 1]; whnf
 conv at h2 => enter [a, w1, 1, 2, 2]; whnf
 by_cases hback : 0 ≤ cd ∨ places = 0
 ·have HCS := Lib.hid (cell_sets HM.out.L.res (.int .u32 (fr : Nat)) (.int .u32 (pd : Nat)) (.int .u32 (pt : Nat)) (.bool xw) (.bool xu))
  have HFin := Lib.hid (HM.out.fin (Nat.le_succ _) (.int .u32 (fr : Nat)) (.int .u32 (pd : Nat)) (.int .u32 (pt : Nat)) (.bool xw) (.bool xu))
  have hway : 0 ≤ cd ∨ (cd = -1 ∧ places = 0) := by omega
  clear hback hcd k0 k2 k3 kf y0 y1 y2 yl hpd hpt hl
  rcases hway with hcd | ⟨rfl, hp0⟩
  ·go_wp2_with fail
   change bodyPost _ _ _ _ _ (sets5 we gr (.int .u32 (fr : Nat)) (.int .u32 (pd : Nat)) (.int .u32 (pt : Nat)) (.bool xw) (.bool xu))
   obtain ⟨r0, r1, r2, r3, r4⟩ := HCS.out
   clear x0 x1 x2 x3 x4 v0 v1 v2 v3 v4 k1 kl xf xl vl HCS
   generalize sets5 we gr (.int .u32 (fr : Nat)) (.int .u32 (pd : Nat)) (.int .u32 (pt : Nat)) (.bool xw) (.bool xu) = Wf at *
   refine bodyPost_ret (v := .tuple #[.agg #[.int .u32 (fr : Nat), .int .u32 (pd : Nat), .int .u32 (pt : Nat), .bool xw, .bool xu], .int .i64 cd, .int .i64 0]) (by simp [results, Tryz.results176, go_sem, r0, r1, r2, r3, r4]) rfl ?_
   exact ⟨rfl, HFin.out⟩
  ·have hpz : ((places : Int) == 0) = true := by rw [hp0]; rfl
   have HP0 := Lib.hid hp0
   clear hp0
   go_wp2_with fail
   change bodyPost _ _ _ _ _ (sets5 we gr (.int .u32 (fr : Nat)) (.int .u32 (pd : Nat)) (.int .u32 (pt : Nat)) (.bool xw) (.bool xu))
   obtain ⟨r0, r1, r2, r3, r4⟩ := HCS.out
   clear x0 x1 x2 x3 x4 v0 v1 v2 v3 v4 k1 kl xf xl vl HCS
   generalize sets5 we gr (.int .u32 (fr : Nat)) (.int .u32 (pd : Nat)) (.int .u32 (pt : Nat)) (.bool xw) (.bool xu) = Wf at *
   refine bodyPost_ret (v := .tuple #[.agg #[.int .u32 (fr : Nat), .int .u32 (pd : Nat), .int .u32 (pt : Nat), .bool xw, .bool xu], .int .i64 (-1), .int .i64 0]) (by simp [results, Tryz.results176, go_sem, r0, r1, r2, r3, r4]) rfl ?_
   exact ⟨rfl, HFin.out⟩
 ·obtain rfl : cd = -1 := by omega
  have hpl : 0 < places := by omega
  have hpz : ((places : Int) == 0) = false := by simp; omega
  have HPL := Lib.hid hpl
  clear hback hcd x0 x1 x2 x3 x4 xf xl
  go_wp2_with fail
  refine (words_any HM.out.T ⟨fr, pd, pt, xw, xu⟩ hpd hpt).mono ?_
  rintro e' w2 ⟨rfl, hB2⟩
  have HM2 := Lib.hid (HM.out.below hB2)
  clear HM k0 k1 k2 k3 kf kl y0 y1 y2 yl v0 v1 v2 v3 v4 vl hB2 hpz hpl
  obtain ⟨-, ⟨y0, -, -⟩, -, -, yl, -, -⟩ := HM2.out.L.facts
  have ha := RS.read_lt HWR.out.ok pd 4
  have hb := RS.read_lt HWR.out.ok pt 4
  have hgood := fun h1 h2 h3 => (good_of HW.out K.c lin K.hc hl K.wr K.us K.wp ⟨fr, pd, pt, xw, xu⟩ R' HR.out h1 h2 h3).2
  have HGG := Lib.hid hgood
  clear hgood
  generalize hav : R'.read pd 4 = a at *
  generalize hbv : R'.read pt 4 = b at *
  have ha' : a < 4294967296 := ha
  have hb' : b < 4294967296 := hb
  have HAV := Lib.hid hav
  have HBV := Lib.hid hbv
  have HPD := Lib.hid hpd
  have HPT := Lib.hid hpt
  clear ha hb hav hbv hpd hpt
  by_cases hall : a &&& 32 = 32 ∧ b &&& needOf K.wr = needOf K.wr ∧ b / 4096 * 4096 = fr
  ·have HALL := Lib.hid hall
   clear hall
   cases hwr : K.wr
   all_goals
    have HWW := Lib.hid hwr
    rw [hwr] at y0
    clear hwr
    go_upto_region 17 with (fail)
    exact find_p17_yes HM2.out (Nat.le_refl _) HL.out HPL.out ha' hb' HALL.out ⟨HPD.out, HPT.out, by have := HGG.out; rw [HP.out] at this; exact this HALL.out.1 HALL.out.2.1 HALL.out.2.2⟩ (by rw [HWW.out]; rfl) (by assumption) (by assumption)
  ·have HALL := Lib.hid hall
   clear hall
   cases hwr : K.wr
   all_goals
    have HWW := Lib.hid hwr
    rw [hwr] at y0
    clear hwr
    go_upto_region 17 with (fail)
    exact find_p17_no HM2.out (Nat.le_succ _) ha' hb' HALL.out (by rw [HWW.out]; rfl) (by assumption) (by assumption)
end
end Go.Proofs.YtmpcafdgkbpneaaGreat

/- tlb: Find, the walk through memory. -/
namespace Go.Proofs.YtmpcafdgkbpneaaGreat
open Go.RowKit Go.MapKept
set_option linter.unusedVariables false
section
variable {w W : World} {t rb mb places gw gr gk cnt cnt0 : Nat} {S : Nat → Prop} {ov : Value} {all all0 : PKey → Option Ent} {order : List PKey} {R : RS} {K : PKey} {lin : Nat}
theorem find_p10 (H : FBase w W t rb mb S ov places cnt all order R gw gr gk K lin) (hL : (order.length + 1) * 12 ≤ 140737488355328) {q8 q9 r0 r1 h5 h6 h7 h8 h9 i0 i2 i3 i4 i5 i6 i7 i8 i9 j0 j1 j2 j3 j4 j5 j6 i1 j7 j8 j9 k4 k5 k6 k7 k8 k9 l0 l1 l2 l3 l4 l5 l6 l7 l8 l9 m0 m1 m2 m3 m4 m5 m6 m7 m8 m9 n0 n1 n2 n3 n4 n5 n6 n7 n8 n9 o0 o1 o2 o3 o4 o5 o6 o7 o8 o9 p0 p1 p2 p3 p4 p5 p6 p7 p8 p9 q0 q1 q2 q3 q4 q5 q6 q7 a0 a1 a2 a3 a4 a5 a6 a7 a8 a9 b5 b6 b7 b8 b9 c0 c1 c2 c3 c4 c5 c6 c7 c8 c9 d0 d1 d2 d3 d4 d5 d6 d7 d8 d9 e0 e1 e2 e3 e4 e5 e6 e7 e8 e9 f0 f1 f2 f3 f4 f5 f6 f7 f8 f9 g0 g1 g2 g3 g4 g5 g6 g7 g8 g9 h0 h2 h3 h4 : Value} {K1 : Act → World → Prop}
    (h1 : ∀ a w1, Code.wp Tryz.prog (tl Tryz.f176 10) (bodyPost Tryz.prog Tryz.f176 (FindPost w t rb mb S ov places (order.length + 1) (find R K.c lin K.wr K.us K.wp))) a w1 → K1 a w1) :
    Code.wp Tryz.prog (rg Tryz.f176 10) (Exit.then K1 (bodyPost Tryz.prog Tryz.f176 (FindPost w t rb mb S ov places (order.length + 1) (find R K.c lin K.wr K.us K.wp))))
     ⟨#[.pointer (some ⟨t, 0, none⟩), .int .u32 (K.c : Nat), .int .u32 (lin : Nat), .agg #[.bool K.wr, .bool K.us, .bool K.wp], q8, q9, r0, .pointer (some ⟨gw, 0, none⟩), .pointer (some ⟨gr, 0, none⟩), r1, h5, .pointer (some ⟨gk, 0, none⟩), h6, h7, h8, h9, i0, i2, i3, i4, i5, i6, i7, i8, i9, j0, j1, j2, j3, j4, j5, j6, i1, j7, j8, j9, k4, k5, k6, k7, k8, k9, l0, l1, l2, l3, l4, l5, l6, l7, l8, l9, m0, m1, m2, m3, m4, m5, m6, m7, m8, m9, n0, n1, n2, n3, n4, n5, n6, n7, n8, n9, o0, o1, o2, o3, o4, o5, o6, o7, o8, o9, p0, p1, p2, p3, p4, p5, p6, p7, p8, p9, q0, q1, q2, q3, q4, q5, q6, q7, a0, a1, a2, a3, a4, a5, a6, a7, a8, a9, b5, b6, b7, b8, b9, c0, c1, c2, c3, c4, c5, c6, c7, c8, c9, d0, d1, d2, d3, d4, d5, d6, d7, d8, d9, e0, e1, e2, e3, e4, e5, e6, e7, e8, e9, f0, f1, f2, f3, f4, f5, f6, f7, f8, f9, g0, g1, g2, g3, g4, g5, g6, g7, g8, g9, h0, h2, h3, h4], []⟩ W := by
 obtain ⟨⟨⟨fr, pd, pt, xw, xu⟩, cd, R'⟩, hr⟩ : ∃ r, find R K.c lin K.wr K.us K.wp = r := ⟨_, rfl⟩
 rw [hr] at h1 ⊢
 have HWR := Lib.hid (find_parts H.T.wide K.hc H.l hr).1
 have HH := Lib.hid H
 have HL := Lib.hid hL
 have HR := Lib.hid hr
 obtain ⟨k0, k1, k2, k3, kf, kl⟩ := H.T.facts
 obtain ⟨-, ⟨y0, y1, y2⟩, -, -, yl, -, -⟩ := H.L.facts
 have cA := Lib.hid (tfind_r (W := W.drew) (H.T.ram.drewN 1) K lin H.l hr)
 have cB := Lib.hid (tfind_r (W := (W.alloc (.cells #[.int .u32 0, .int .u32 0, .int .u32 0, .bool false, .bool false] 287)).drew) ((H.T.ram.alloc (.cells #[.int .u32 0, .int .u32 0, .int .u32 0, .bool false, .bool false] 287)).drewN 1) K lin H.l hr)
 clear H hL hr
 conv => arg 2; whnf
 conv at h1 => enter [a, w1, 1, 2]; whnf
 go_region_with (first
  | ((with_reducible refine (cA.out).mono ?_); rintro e W' ⟨rfl, S', hR', hM'⟩; have HM := Lib.hid (mid_a HH.out.T HH.out.L HH.out.kp HH.out.g HH.out.lt (Nat.le_refl _) HWR.out 1 hR' hM' ⟨fr, pd, pt, xw, xu⟩); clear hR' hM')
  | ((with_reducible refine (cB.out).mono ?_); rintro e W' ⟨rfl, S', hR', hM'⟩; obtain ⟨⟨b0, b1, b2, b3, b4⟩, bf, bl⟩ := held_b (fun k hk => HH.out.T.ram.lt hk) hM'; have HM := Lib.hid (mid_b HH.out.T HH.out.L HH.out.kp HH.out.g HH.out.lt (Nat.le_refl _) HWR.out 1 _ _ _ _ _ hR' hM' ⟨fr, pd, pt, xw, xu⟩); clear hR' hM'))
 all_goals
  go_upto_region 11 with (fail)
  exact find_p11 HM.out HL.out HH.out.T.wide HH.out.l HH.out.p HR.out (by assumption) (by assumption)
end
end Go.Proofs.YtmpcafdgkbpneaaGreat

/- tlb: Find, the search in the map. -/
namespace Go.Proofs.YtmpcafdgkbpneaaGreat
open Go.RowKit Go.MapKept
set_option linter.unusedVariables false
section
variable {w W : World} {t rb mb places gw gr gk cnt cnt0 : Nat} {S : Nat → Prop} {ov : Value} {all all0 : PKey → Option Ent} {order : List PKey} {R : RS} {K : PKey} {lin : Nat}
theorem FBase.less {w' : World} {n' : Nat} (H : FBase w W t rb mb S ov places cnt all order R gw gr gk K lin) {L : PKey} (M : MapK w' mb PKey.val (fun m => if m = L then none else (all m).map Ent.val) n') (hn : n' ≤ places) (hk : Keeps (fun k => k = mb) (W.drewN 1) w') :
    FBase w w' t rb mb S ov places n' (fun m => if m = L then none else all m) order R gw gr gk K lin := by
 obtain ⟨-, -, -, -, l1, l2, l3⟩ := H.L.facts
 have hm := H.lt mb (.inr (.inl rfl))
 have hg := H.g
 exact ⟨(H.T.drewN 1).less M hn hk, H.L.of_heap fun k he => hk.block k (by rcases he with rfl | rfl | rfl <;> assumption) (by rcases he with rfl | rfl | rfl <;> omega), (H.kp.drewN 1).andThen hk fun i _ e => .inr (.inl e), H.lt, H.g, H.p, H.l⟩
theorem FBase.below {w' : World} (H : FBase w W t rb mb S ov places cnt all order R gw gr gk K lin) (hb : Below W.heap.size W w') : FBase w w' t rb mb S ov places cnt all order R gw gr gk K lin := by
 obtain ⟨-, -, -, -, l1, l2, l3⟩ := H.L.facts
 exact ⟨H.T.below hb, H.L.of_heap fun k he => hb.block k (by rcases he with rfl | rfl | rfl <;> assumption), H.kp.trans (Keeps.ofBelow hb), H.lt, H.g, H.p, H.l⟩
theorem FBase.fin (H : FBase w W t rb mb S ov places cnt all order R gw gr gk K lin) (v0 v1 v2 v3 v4 : Value) : TEnd w t rb mb S ov places (order.length + 1) R (sets5 W gr v0 v1 v2 v3 v4) :=
 ⟨S, ov, _, _, _, H.T.keeps (keeps_sets5 W gr v0 v1 v2 v3 v4) (fun k hk e => by have h1 := H.lt k hk; have h2 := H.g.2.1; omega), Nat.le_succ _, keeps_own H.kp H.g.2.1 v0 v1 v2 v3 v4, fun k h => .inl h⟩
structure FGot (w W : World) (t rb mb : Nat) (S : Nat → Prop) (ov : Value) (places cnt : Nat) (all : PKey → Option Ent) (order : List PKey) (R : RS) (gw gr gk gx : Nat) (K : PKey) (lin : Nat) (o : Option Ent) : Prop where
 b : FBase w W t rb mb S ov places cnt all order R gw gr gk K lin
 O : W.heap[gx]? = some (.cells (entCells o) 314)
theorem fgot_of {o : Option Ent} (H : FBase w W t rb mb S ov places cnt all order R gw gr gk K lin) : FGot w (W.alloc (.cells (entCells o) 314)).drew t rb mb S ov places cnt all order R gw gr gk W.heap.size K lin o := by
 obtain ⟨-, -, -, -, l1, l2, l3⟩ := H.L.facts
 exact ⟨⟨(H.T.alloc _).drewN 1, H.L.of_heap fun k hk => Below.heap_alloc _ _ _ (by rcases hk with rfl | rfl | rfl <;> assumption), (H.kp.alloc _).drewN 1, H.lt, H.g, H.p, H.l⟩, heap_new W _⟩
theorem find_p9 (H : FBase w W t rb mb S ov places cnt all order R gw gr gk K lin) (hL : (order.length + 1) * 12 ≤ 140737488355328) {q4 q5 q6 q7 h0 h1 h3 h4 h5 h6 h8 h9 i0 i1 i2 i3 i4 i5 i6 i7 i8 i9 j0 j1 j2 h7 j3 j4 j5 j6 j7 j8 j9 k4 k5 k6 k7 k8 k9 l0 l1 l2 l3 l4 l5 l6 l7 l8 l9 m0 m1 m2 m3 m4 m5 m6 m7 m8 m9 n0 n1 n2 n3 n4 n5 n6 n7 n8 n9 o0 o1 o2 o3 o4 o5 o6 o7 o8 o9 p0 p1 p2 p3 p4 p5 p6 p7 p8 p9 q0 q1 q2 q3 a0 a1 a2 a3 a4 a5 a6 a7 a8 a9 b0 b1 b2 b3 b4 b5 b6 b7 b8 b9 c0 c2 c3 c4 c5 c6 c7 c8 c9 d0 d1 d2 d3 d4 d5 d6 d7 d8 d9 e0 e1 e2 e3 e4 e5 e6 e7 e8 e9 f0 f1 f2 f3 f4 f5 f6 f7 f8 f9 g0 g1 g2 g3 g4 g5 g6 g7 g8 g9 : Value} {K2 : Act → World → Prop}
    (h2 : ∀ a w1, Code.wp Tryz.prog (.seq (rg Tryz.f176 10) (tl Tryz.f176 10)) (bodyPost Tryz.prog Tryz.f176 (FindPost w t rb mb S ov places (order.length + 1) (find R K.c lin K.wr K.us K.wp))) a w1 → K2 a w1) :
    Code.wp Tryz.prog (rg Tryz.f176 9) (Exit.then K2 (bodyPost Tryz.prog Tryz.f176 (FindPost w t rb mb S ov places (order.length + 1) (find R K.c lin K.wr K.us K.wp))))
     ⟨#[.pointer (some ⟨t, 0, none⟩), .int .u32 (K.c : Nat), .int .u32 (lin : Nat), .agg #[.bool K.wr, .bool K.us, .bool K.wp], q4, q5, q6, .pointer (some ⟨gw, 0, none⟩), .pointer (some ⟨gr, 0, none⟩), q7, h0, .pointer (some ⟨gk, 0, none⟩), h1, h3, h4, h5, h6, h8, h9, i0, i1, i2, i3, i4, i5, i6, i7, i8, i9, j0, j1, j2, h7, j3, j4, j5, j6, j7, j8, j9, k4, k5, k6, k7, k8, k9, l0, l1, l2, l3, l4, l5, l6, l7, l8, l9, m0, m1, m2, m3, m4, m5, m6, m7, m8, m9, n0, n1, n2, n3, n4, n5, n6, n7, n8, n9, o0, o1, o2, o3, o4, o5, o6, o7, o8, o9, p0, p1, p2, p3, p4, p5, p6, p7, p8, p9, q0, q1, q2, q3, a0, a1, a2, a3, a4, a5, a6, a7, a8, a9, b0, b1, b2, b3, b4, b5, b6, b7, b8, b9, c0, c2, c3, c4, c5, c6, c7, c8, c9, d0, d1, d2, d3, d4, d5, d6, d7, d8, d9, e0, e1, e2, e3, e4, e5, e6, e7, e8, e9, f0, f1, f2, f3, f4, f5, f6, f7, f8, f9, g0, g1, g2, g3, g4, g5, g6, g7, g8, g9], []⟩ W := by
 have HL := Lib.hid hL
 obtain ⟨k0, k1, k2, k3, kf, kl⟩ := H.T.facts
 obtain ⟨⟨z0, z1, z2, z3, z4⟩, -, -, -, -, -, zl⟩ := H.L.facts
 obtain ⟨w3, hdel, M3, K3⟩ := (H.T.map.drewN 1).delete (P := Tryz.prog) PK Tryz.underlying228 K 312 0
 have hdel : (Builtin.delete_ #[228, 312] 0 #[.map (some mb), .agg #[.int .u32 (K.c : Nat), .int .u32 (K.p : Nat), .bool K.wr, .bool K.us, .bool K.wp]]).run Tryz.prog W.drew = .ok (.tuple #[]) w3 := hdel
 have HB3 := Lib.hid (H.less M3 (by have := H.T.c1; split <;> omega) K3)
 clear M3 K3 H hL
 conv => arg 2; whnf
 conv at h2 => enter [a, w1, 1, 2, 1]; whnf
 conv at h2 => enter [a, w1, 1, 2, 2]; whnf
 go_wp2_with fail
 go_still_tail 5, (by kernel_rfl)
 change wpList _ _ _ _ _ W.drew
 go_upto_region 10 with (fail)
 exact find_p10 HB3.out HL.out (by assumption)
theorem find_p7_hit {gx : Nat} {e : Ent} (H : FGot w W t rb mb S ov places cnt all order R gw gr gk gx K lin (some e)) (hs : R.read e.x.pde 4 = e.a ∧ R.read e.x.pte 4 = e.b) (hg : Good K.c K.p K.wr K.us K.wp e.x e.a e.b) (hL : (order.length + 1) * 12 ≤ 140737488355328) {p8 p9 q0 q1 g9 h0 h4 h5 h6 h8 h9 i0 i1 i2 i3 i4 i5 i6 i7 i8 i9 j0 h3 j1 j2 j3 j4 j5 j6 j7 j8 j9 k0 k1 k2 k3 k4 k5 k6 k7 k8 k9 l0 l1 l2 l3 l4 l5 l6 l7 l8 l9 m0 m1 m2 m3 m4 m5 m6 m7 m8 m9 n0 n1 n2 n3 n4 n5 n6 n7 n8 n9 o0 o1 o2 o3 o4 o5 o6 o7 o8 o9 p0 p1 p2 p3 p4 p5 p6 p7 a0 a1 a2 a3 a4 a5 a6 a7 a8 a9 b0 b1 b2 b3 b4 b5 b6 b7 b8 b9 c0 c1 c2 c3 c4 c5 c6 c7 c8 c9 d0 d1 d2 d3 d4 d5 d6 d7 d8 d9 e0 e1 e2 e3 e4 e5 e6 e7 e8 e9 f0 f1 f2 f3 f4 f5 f6 f7 f8 f9 g0 g1 g2 g3 g4 g5 g6 g7 g8 : Value} {K1 K7 K2 : Act → World → Prop}
    (h1 : ∀ a w1, Code.wp Tryz.prog (tl Tryz.f176 7) (Exit.then K7 (Exit.then K2 (bodyPost Tryz.prog Tryz.f176 (FindPost w t rb mb S ov places (order.length + 1) (find R K.c lin K.wr K.us K.wp))))) a w1 → K1 a w1) (h7 : ∀ a w1, Code.wp Tryz.prog (rg Tryz.f176 9) (Exit.then K2 (bodyPost Tryz.prog Tryz.f176 (FindPost w t rb mb S ov places (order.length + 1) (find R K.c lin K.wr K.us K.wp)))) a w1 → K7 a w1)
    (h2 : ∀ a w1, Code.wp Tryz.prog (.seq (rg Tryz.f176 10) (tl Tryz.f176 10)) (bodyPost Tryz.prog Tryz.f176 (FindPost w t rb mb S ov places (order.length + 1) (find R K.c lin K.wr K.us K.wp))) a w1 → K2 a w1) :
    Code.wp Tryz.prog (rg Tryz.f176 7) (Exit.then K1 (Exit.then K7 (Exit.then K2 (bodyPost Tryz.prog Tryz.f176 (FindPost w t rb mb S ov places (order.length + 1) (find R K.c lin K.wr K.us K.wp))))))
     ⟨#[.pointer (some ⟨t, 0, none⟩), .int .u32 (K.c : Nat), .int .u32 (lin : Nat), .agg #[.bool K.wr, .bool K.us, .bool K.wp], p8, p9, q0, .pointer (some ⟨gw, 0, none⟩), .pointer (some ⟨gr, 0, none⟩), q1, g9, .pointer (some ⟨gk, 0, none⟩), .pointer (some ⟨gx, 0, none⟩), h0, .int .u32 (R.read e.x.pde 4 : Nat), .int .u32 (R.read e.x.pte 4 : Nat), h4, h5, h6, h8, h9, i0, i1, i2, i3, i4, i5, i6, i7, i8, i9, j0, h3, j1, j2, j3, j4, j5, j6, j7, j8, j9, k0, k1, k2, k3, k4, k5, k6, k7, k8, k9, l0, l1, l2, l3, l4, l5, l6, l7, l8, l9, m0, m1, m2, m3, m4, m5, m6, m7, m8, m9, n0, n1, n2, n3, n4, n5, n6, n7, n8, n9, o0, o1, o2, o3, o4, o5, o6, o7, o8, o9, p0, p1, p2, p3, p4, p5, p6, p7, a0, a1, a2, a3, a4, a5, a6, a7, a8, a9, b0, b1, b2, b3, b4, b5, b6, b7, b8, b9, c0, c1, c2, c3, c4, c5, c6, c7, c8, c9, d0, d1, d2, d3, d4, d5, d6, d7, d8, d9, e0, e1, e2, e3, e4, e5, e6, e7, e8, e9, f0, f1, f2, f3, f4, f5, f6, f7, f8, f9, g0, g1, g2, g3, g4, g5, g6, g7, g8], []⟩ W := by
 have HL := Lib.hid hL
 have hO := H.O
 have v0 := cell_at (k := 0) hO
 have v1 := cell_at (k := 1) hO
 have v2 := cell_at (k := 2) hO
 have v3 := cell_at (k := 3) hO
 have v4 := cell_at (k := 4) hO
 have v5 := cell_at (k := 5) hO
 have v6 := cell_at (k := 6) hO
 have vl := heap_lt hO
 simp [entCells] at v0 v1 v2 v3 v4 v5 v6
 obtain ⟨-, -, ⟨x0, x1, x2, x3, x4⟩, xf, -, xl, -⟩ := H.b.L.facts
 have HB := Lib.hid H.b
 clear hL hO H
 conv => arg 2; whnf
 conv at h1 => enter [a, w1, 1, 2]; whnf
 conv at h7 => enter [a, w1, 1, 2]; whnf
 conv at h2 => enter [a, w1, 1, 2, 1]; whnf
 conv at h2 => enter [a, w1, 1, 2, 2]; whnf
 obtain ⟨ha, hb⟩ := hs
 rw [ha, hb]
 have HCS := Lib.hid (cell_sets HB.out.L.res (.int .u32 (e.x.frame : Nat)) (.int .u32 (e.x.pde : Nat)) (.int .u32 (e.x.pte : Nat)) (.bool e.x.w) (.bool e.x.u))
 have HFin := Lib.hid (HB.out.fin (.int .u32 (e.x.frame : Nat)) (.int .u32 (e.x.pde : Nat)) (.int .u32 (e.x.pte : Nat)) (.bool e.x.w) (.bool e.x.u))
 have HFF := Lib.hid (hg R lin HB.out.p ha hb)
 clear ha hb hg
 go_wp2_with fail
 change bodyPost _ _ _ _ _ (sets5 W gr (.int .u32 (e.x.frame : Nat)) (.int .u32 (e.x.pde : Nat)) (.int .u32 (e.x.pte : Nat)) (.bool e.x.w) (.bool e.x.u))
 obtain ⟨r0, r1, r2, r3, r4⟩ := HCS.out
 clear HCS x0 x1 x2 x3 x4 v0 v1 v2 v3 v4 v5 v6 xf xl vl
 generalize sets5 W gr (.int .u32 (e.x.frame : Nat)) (.int .u32 (e.x.pde : Nat)) (.int .u32 (e.x.pte : Nat)) (.bool e.x.w) (.bool e.x.u) = Wf at *
 refine bodyPost_ret (v := .tuple #[.agg #[.int .u32 (e.x.frame : Nat), .int .u32 (e.x.pde : Nat), .int .u32 (e.x.pte : Nat), .bool e.x.w, .bool e.x.u], .int .i64 (-1), .int .i64 0]) (by simp [results, Tryz.results176, go_sem, r0, r1, r2, r3, r4]) rfl ?_
 rw [HFF.out]
 exact ⟨rfl, HFin.out⟩
theorem find_p7_missa {gx : Nat} {e : Ent} (H : FGot w W t rb mb S ov places cnt all order R gw gr gk gx K lin (some e)) (hs : ¬ R.read e.x.pde 4 = e.a) (hL : (order.length + 1) * 12 ≤ 140737488355328) {p8 p9 q0 q1 g9 h0 h3 h5 h6 h8 h9 i0 i1 i2 i3 i4 i5 i6 i7 i8 i9 j0 h4 j1 j2 j3 j4 j5 j6 j7 j8 j9 k0 k1 k2 k3 k4 k5 k6 k7 k8 k9 l0 l1 l2 l3 l4 l5 l6 l7 l8 l9 m0 m1 m2 m3 m4 m5 m6 m7 m8 m9 n0 n1 n2 n3 n4 n5 n6 n7 n8 n9 o0 o1 o2 o3 o4 o5 o6 o7 o8 o9 p0 p1 p2 p3 p4 p5 p6 p7 a0 a1 a2 a3 a4 a5 a6 a7 a8 a9 b0 b1 b2 b3 b4 b5 b6 b7 b8 b9 c0 c1 c2 c3 c4 c5 c6 c7 c8 c9 d0 d1 d2 d3 d4 d5 d6 d7 d8 d9 e0 e1 e2 e3 e4 e5 e6 e7 e8 e9 f0 f1 f2 f3 f4 f5 f6 f7 f8 f9 g0 g1 g2 g3 g4 g5 g6 g7 g8 : Value} {K1 K7 K2 : Act → World → Prop}
    (h1 : ∀ a w1, Code.wp Tryz.prog (tl Tryz.f176 7) (Exit.then K7 (Exit.then K2 (bodyPost Tryz.prog Tryz.f176 (FindPost w t rb mb S ov places (order.length + 1) (find R K.c lin K.wr K.us K.wp))))) a w1 → K1 a w1) (h7 : ∀ a w1, Code.wp Tryz.prog (rg Tryz.f176 9) (Exit.then K2 (bodyPost Tryz.prog Tryz.f176 (FindPost w t rb mb S ov places (order.length + 1) (find R K.c lin K.wr K.us K.wp)))) a w1 → K7 a w1)
    (h2 : ∀ a w1, Code.wp Tryz.prog (.seq (rg Tryz.f176 10) (tl Tryz.f176 10)) (bodyPost Tryz.prog Tryz.f176 (FindPost w t rb mb S ov places (order.length + 1) (find R K.c lin K.wr K.us K.wp))) a w1 → K2 a w1) :
    Code.wp Tryz.prog (rg Tryz.f176 7) (Exit.then K1 (Exit.then K7 (Exit.then K2 (bodyPost Tryz.prog Tryz.f176 (FindPost w t rb mb S ov places (order.length + 1) (find R K.c lin K.wr K.us K.wp))))))
     ⟨#[.pointer (some ⟨t, 0, none⟩), .int .u32 (K.c : Nat), .int .u32 (lin : Nat), .agg #[.bool K.wr, .bool K.us, .bool K.wp], p8, p9, q0, .pointer (some ⟨gw, 0, none⟩), .pointer (some ⟨gr, 0, none⟩), q1, g9, .pointer (some ⟨gk, 0, none⟩), .pointer (some ⟨gx, 0, none⟩), h0, .int .u32 (R.read e.x.pde 4 : Nat), .int .u32 (R.read e.x.pte 4 : Nat), h3, h5, h6, h8, h9, i0, i1, i2, i3, i4, i5, i6, i7, i8, i9, j0, h4, j1, j2, j3, j4, j5, j6, j7, j8, j9, k0, k1, k2, k3, k4, k5, k6, k7, k8, k9, l0, l1, l2, l3, l4, l5, l6, l7, l8, l9, m0, m1, m2, m3, m4, m5, m6, m7, m8, m9, n0, n1, n2, n3, n4, n5, n6, n7, n8, n9, o0, o1, o2, o3, o4, o5, o6, o7, o8, o9, p0, p1, p2, p3, p4, p5, p6, p7, a0, a1, a2, a3, a4, a5, a6, a7, a8, a9, b0, b1, b2, b3, b4, b5, b6, b7, b8, b9, c0, c1, c2, c3, c4, c5, c6, c7, c8, c9, d0, d1, d2, d3, d4, d5, d6, d7, d8, d9, e0, e1, e2, e3, e4, e5, e6, e7, e8, e9, f0, f1, f2, f3, f4, f5, f6, f7, f8, f9, g0, g1, g2, g3, g4, g5, g6, g7, g8], []⟩ W := by
 have HL := Lib.hid hL
 have hO := H.O
 have v0 := cell_at (k := 0) hO
 have v1 := cell_at (k := 1) hO
 have v2 := cell_at (k := 2) hO
 have v3 := cell_at (k := 3) hO
 have v4 := cell_at (k := 4) hO
 have v5 := cell_at (k := 5) hO
 have v6 := cell_at (k := 6) hO
 have vl := heap_lt hO
 simp [entCells] at v0 v1 v2 v3 v4 v5 v6
 obtain ⟨-, -, ⟨x0, x1, x2, x3, x4⟩, xf, -, xl, -⟩ := H.b.L.facts
 have HB := Lib.hid H.b
 clear hL hO H
 conv => arg 2; whnf
 conv at h1 => enter [a, w1, 1, 2]; whnf
 conv at h7 => enter [a, w1, 1, 2]; whnf
 conv at h2 => enter [a, w1, 1, 2, 1]; whnf
 conv at h2 => enter [a, w1, 1, 2, 2]; whnf
 have hg : ¬ ((R.read e.x.pde 4 : Nat) : Int) = (e.a : Nat) := by omega
 have hgb : (((R.read e.x.pde 4 : Nat) : Int) == (e.a : Nat)) = false := by simp; omega
 clear x0 x1 x2 x3 x4 xf xl hs
 go_upto_region 9 with (fail)
 exact find_p9 HB.out HL.out (by assumption)
theorem find_p7_missb {gx : Nat} {e : Ent} (H : FGot w W t rb mb S ov places cnt all order R gw gr gk gx K lin (some e)) (hs : R.read e.x.pde 4 = e.a ∧ ¬ R.read e.x.pte 4 = e.b) (hL : (order.length + 1) * 12 ≤ 140737488355328) {p8 p9 q0 q1 g9 h0 h3 h5 h6 h8 h9 i0 i1 i2 i3 i4 i5 i6 i7 i8 i9 j0 h4 j1 j2 j3 j4 j5 j6 j7 j8 j9 k0 k1 k2 k3 k4 k5 k6 k7 k8 k9 l0 l1 l2 l3 l4 l5 l6 l7 l8 l9 m0 m1 m2 m3 m4 m5 m6 m7 m8 m9 n0 n1 n2 n3 n4 n5 n6 n7 n8 n9 o0 o1 o2 o3 o4 o5 o6 o7 o8 o9 p0 p1 p2 p3 p4 p5 p6 p7 a0 a1 a2 a3 a4 a5 a6 a7 a8 a9 b0 b1 b2 b3 b4 b5 b6 b7 b8 b9 c0 c1 c2 c3 c4 c5 c6 c7 c8 c9 d0 d1 d2 d3 d4 d5 d6 d7 d8 d9 e0 e1 e2 e3 e4 e5 e6 e7 e8 e9 f0 f1 f2 f3 f4 f5 f6 f7 f8 f9 g0 g1 g2 g3 g4 g5 g6 g7 g8 : Value} {K1 K7 K2 : Act → World → Prop}
    (h1 : ∀ a w1, Code.wp Tryz.prog (tl Tryz.f176 7) (Exit.then K7 (Exit.then K2 (bodyPost Tryz.prog Tryz.f176 (FindPost w t rb mb S ov places (order.length + 1) (find R K.c lin K.wr K.us K.wp))))) a w1 → K1 a w1) (h7 : ∀ a w1, Code.wp Tryz.prog (rg Tryz.f176 9) (Exit.then K2 (bodyPost Tryz.prog Tryz.f176 (FindPost w t rb mb S ov places (order.length + 1) (find R K.c lin K.wr K.us K.wp)))) a w1 → K7 a w1)
    (h2 : ∀ a w1, Code.wp Tryz.prog (.seq (rg Tryz.f176 10) (tl Tryz.f176 10)) (bodyPost Tryz.prog Tryz.f176 (FindPost w t rb mb S ov places (order.length + 1) (find R K.c lin K.wr K.us K.wp))) a w1 → K2 a w1) :
    Code.wp Tryz.prog (rg Tryz.f176 7) (Exit.then K1 (Exit.then K7 (Exit.then K2 (bodyPost Tryz.prog Tryz.f176 (FindPost w t rb mb S ov places (order.length + 1) (find R K.c lin K.wr K.us K.wp))))))
     ⟨#[.pointer (some ⟨t, 0, none⟩), .int .u32 (K.c : Nat), .int .u32 (lin : Nat), .agg #[.bool K.wr, .bool K.us, .bool K.wp], p8, p9, q0, .pointer (some ⟨gw, 0, none⟩), .pointer (some ⟨gr, 0, none⟩), q1, g9, .pointer (some ⟨gk, 0, none⟩), .pointer (some ⟨gx, 0, none⟩), h0, .int .u32 (R.read e.x.pde 4 : Nat), .int .u32 (R.read e.x.pte 4 : Nat), h3, h5, h6, h8, h9, i0, i1, i2, i3, i4, i5, i6, i7, i8, i9, j0, h4, j1, j2, j3, j4, j5, j6, j7, j8, j9, k0, k1, k2, k3, k4, k5, k6, k7, k8, k9, l0, l1, l2, l3, l4, l5, l6, l7, l8, l9, m0, m1, m2, m3, m4, m5, m6, m7, m8, m9, n0, n1, n2, n3, n4, n5, n6, n7, n8, n9, o0, o1, o2, o3, o4, o5, o6, o7, o8, o9, p0, p1, p2, p3, p4, p5, p6, p7, a0, a1, a2, a3, a4, a5, a6, a7, a8, a9, b0, b1, b2, b3, b4, b5, b6, b7, b8, b9, c0, c1, c2, c3, c4, c5, c6, c7, c8, c9, d0, d1, d2, d3, d4, d5, d6, d7, d8, d9, e0, e1, e2, e3, e4, e5, e6, e7, e8, e9, f0, f1, f2, f3, f4, f5, f6, f7, f8, f9, g0, g1, g2, g3, g4, g5, g6, g7, g8], []⟩ W := by
 have HL := Lib.hid hL
 have hO := H.O
 have v0 := cell_at (k := 0) hO
 have v1 := cell_at (k := 1) hO
 have v2 := cell_at (k := 2) hO
 have v3 := cell_at (k := 3) hO
 have v4 := cell_at (k := 4) hO
 have v5 := cell_at (k := 5) hO
 have v6 := cell_at (k := 6) hO
 have vl := heap_lt hO
 simp [entCells] at v0 v1 v2 v3 v4 v5 v6
 obtain ⟨-, -, ⟨x0, x1, x2, x3, x4⟩, xf, -, xl, -⟩ := H.b.L.facts
 have HB := Lib.hid H.b
 clear hL hO H
 conv => arg 2; whnf
 conv at h1 => enter [a, w1, 1, 2]; whnf
 conv at h7 => enter [a, w1, 1, 2]; whnf
 conv at h2 => enter [a, w1, 1, 2, 1]; whnf
 conv at h2 => enter [a, w1, 1, 2, 2]; whnf
 have hg1 : ((R.read e.x.pde 4 : Nat) : Int) = (e.a : Nat) := by omega
 have hg2 : ¬ ((R.read e.x.pte 4 : Nat) : Int) = (e.b : Nat) := by omega
 have hgb1 : (((R.read e.x.pde 4 : Nat) : Int) == (e.a : Nat)) = true := by simp; omega
 have hgb2 : (((R.read e.x.pte 4 : Nat) : Int) == (e.b : Nat)) = false := by simp; omega
 have HG1 := Lib.hid hg1
 clear hg1
 clear x0 x1 x2 x3 x4 xf xl hs
 go_upto_region 9 with (fail)
 exact find_p9 HB.out HL.out (by assumption)
end
end Go.Proofs.YtmpcafdgkbpneaaGreat

/- tlb: Find, the search in the map. -/
namespace Go.Proofs.YtmpcafdgkbpneaaGreat
open Go.RowKit Go.MapKept
set_option linter.unusedVariables false
section
variable {w W : World} {t rb mb places gw gr gk cnt cnt0 : Nat} {S : Nat → Prop} {ov : Value} {all all0 : PKey → Option Ent} {order : List PKey} {R : RS} {K : PKey} {lin : Nat}
theorem find_p5_none {gx : Nat} (H : FGot w W t rb mb S ov places cnt all order R gw gr gk gx K lin none) (hL : (order.length + 1) * 12 ≤ 140737488355328) {p8 p9 q0 q1 g9 h0 h3 h4 h6 h7 h8 h9 i0 i1 i2 i3 i4 i5 i6 i7 i8 i9 j0 h5 j1 j2 j3 j4 j5 j6 j7 j8 j9 k0 k1 k2 k3 k4 k5 k6 k7 k8 k9 l0 l1 l2 l3 l4 l5 l6 l7 l8 l9 m0 m1 m2 m3 m4 m5 m6 m7 m8 m9 n0 n1 n2 n3 n4 n5 n6 n7 n8 n9 o0 o1 o2 o3 o4 o5 o6 o7 o8 o9 p0 p1 p2 p3 p4 p5 p6 p7 a0 a1 a2 a3 a4 a5 a6 a7 a8 a9 b0 b1 b2 b3 b4 b5 b6 b7 b8 b9 c0 c1 c2 c3 c4 c5 c6 c7 c8 c9 d0 d1 d2 d3 d4 d5 d6 d7 d8 d9 e0 e1 e2 e3 e4 e5 e6 e7 e8 e9 f0 f1 f2 f3 f4 f5 f6 f7 f8 f9 g0 g1 g2 g3 g4 g5 g6 g7 g8 : Value} {K1 K2 : Act → World → Prop}
    (h1 : ∀ a w1, Code.wp Tryz.prog (tl Tryz.f176 5) (Exit.then K2 (bodyPost Tryz.prog Tryz.f176 (FindPost w t rb mb S ov places (order.length + 1) (find R K.c lin K.wr K.us K.wp)))) a w1 → K1 a w1) (h2 : ∀ a w1, Code.wp Tryz.prog (.seq (rg Tryz.f176 10) (tl Tryz.f176 10)) (bodyPost Tryz.prog Tryz.f176 (FindPost w t rb mb S ov places (order.length + 1) (find R K.c lin K.wr K.us K.wp))) a w1 → K2 a w1) :
    Code.wp Tryz.prog (rg Tryz.f176 5) (Exit.then K1 (Exit.then K2 (bodyPost Tryz.prog Tryz.f176 (FindPost w t rb mb S ov places (order.length + 1) (find R K.c lin K.wr K.us K.wp)))))
     ⟨#[.pointer (some ⟨t, 0, none⟩), .int .u32 (K.c : Nat), .int .u32 (lin : Nat), .agg #[.bool K.wr, .bool K.us, .bool K.wp], p8, p9, q0, .pointer (some ⟨gw, 0, none⟩), .pointer (some ⟨gr, 0, none⟩), q1, g9, .pointer (some ⟨gk, 0, none⟩), .pointer (some ⟨gx, 0, none⟩), .bool false, h0, h3, h4, h6, h7, h8, h9, i0, i1, i2, i3, i4, i5, i6, i7, i8, i9, j0, h5, j1, j2, j3, j4, j5, j6, j7, j8, j9, k0, k1, k2, k3, k4, k5, k6, k7, k8, k9, l0, l1, l2, l3, l4, l5, l6, l7, l8, l9, m0, m1, m2, m3, m4, m5, m6, m7, m8, m9, n0, n1, n2, n3, n4, n5, n6, n7, n8, n9, o0, o1, o2, o3, o4, o5, o6, o7, o8, o9, p0, p1, p2, p3, p4, p5, p6, p7, a0, a1, a2, a3, a4, a5, a6, a7, a8, a9, b0, b1, b2, b3, b4, b5, b6, b7, b8, b9, c0, c1, c2, c3, c4, c5, c6, c7, c8, c9, d0, d1, d2, d3, d4, d5, d6, d7, d8, d9, e0, e1, e2, e3, e4, e5, e6, e7, e8, e9, f0, f1, f2, f3, f4, f5, f6, f7, f8, f9, g0, g1, g2, g3, g4, g5, g6, g7, g8], []⟩ W := by
 have HL := Lib.hid hL
 have HB := Lib.hid H.b
 clear hL H
 conv => arg 2; whnf
 conv at h1 => enter [a, w1, 1, 2]; whnf
 conv at h2 => enter [a, w1, 1, 2, 1]; whnf
 conv at h2 => enter [a, w1, 1, 2, 2]; whnf
 go_upto_region 10 with (fail)
 exact find_p10 HB.out HL.out (by assumption)
theorem find_p5_some {gx : Nat} {e : Ent} (H : FGot w W t rb mb S ov places cnt all order R gw gr gk gx K lin (some e)) (hA : all K = some e) (hL : (order.length + 1) * 12 ≤ 140737488355328) {p8 p9 q0 q1 g9 h0 h3 h4 h6 h7 h8 h9 i0 i1 i2 i3 i4 i5 i6 i7 i8 i9 j0 h5 j1 j2 j3 j4 j5 j6 j7 j8 j9 k0 k1 k2 k3 k4 k5 k6 k7 k8 k9 l0 l1 l2 l3 l4 l5 l6 l7 l8 l9 m0 m1 m2 m3 m4 m5 m6 m7 m8 m9 n0 n1 n2 n3 n4 n5 n6 n7 n8 n9 o0 o1 o2 o3 o4 o5 o6 o7 o8 o9 p0 p1 p2 p3 p4 p5 p6 p7 a0 a1 a2 a3 a4 a5 a6 a7 a8 a9 b0 b1 b2 b3 b4 b5 b6 b7 b8 b9 c0 c1 c2 c3 c4 c5 c6 c7 c8 c9 d0 d1 d2 d3 d4 d5 d6 d7 d8 d9 e0 e1 e2 e3 e4 e5 e6 e7 e8 e9 f0 f1 f2 f3 f4 f5 f6 f7 f8 f9 g0 g1 g2 g3 g4 g5 g6 g7 g8 : Value} {K1 K2 : Act → World → Prop}
    (h1 : ∀ a w1, Code.wp Tryz.prog (tl Tryz.f176 5) (Exit.then K2 (bodyPost Tryz.prog Tryz.f176 (FindPost w t rb mb S ov places (order.length + 1) (find R K.c lin K.wr K.us K.wp)))) a w1 → K1 a w1) (h2 : ∀ a w1, Code.wp Tryz.prog (.seq (rg Tryz.f176 10) (tl Tryz.f176 10)) (bodyPost Tryz.prog Tryz.f176 (FindPost w t rb mb S ov places (order.length + 1) (find R K.c lin K.wr K.us K.wp))) a w1 → K2 a w1) :
    Code.wp Tryz.prog (rg Tryz.f176 5) (Exit.then K1 (Exit.then K2 (bodyPost Tryz.prog Tryz.f176 (FindPost w t rb mb S ov places (order.length + 1) (find R K.c lin K.wr K.us K.wp)))))
     ⟨#[.pointer (some ⟨t, 0, none⟩), .int .u32 (K.c : Nat), .int .u32 (lin : Nat), .agg #[.bool K.wr, .bool K.us, .bool K.wp], p8, p9, q0, .pointer (some ⟨gw, 0, none⟩), .pointer (some ⟨gr, 0, none⟩), q1, g9, .pointer (some ⟨gk, 0, none⟩), .pointer (some ⟨gx, 0, none⟩), .bool true, h0, h3, h4, h6, h7, h8, h9, i0, i1, i2, i3, i4, i5, i6, i7, i8, i9, j0, h5, j1, j2, j3, j4, j5, j6, j7, j8, j9, k0, k1, k2, k3, k4, k5, k6, k7, k8, k9, l0, l1, l2, l3, l4, l5, l6, l7, l8, l9, m0, m1, m2, m3, m4, m5, m6, m7, m8, m9, n0, n1, n2, n3, n4, n5, n6, n7, n8, n9, o0, o1, o2, o3, o4, o5, o6, o7, o8, o9, p0, p1, p2, p3, p4, p5, p6, p7, a0, a1, a2, a3, a4, a5, a6, a7, a8, a9, b0, b1, b2, b3, b4, b5, b6, b7, b8, b9, c0, c1, c2, c3, c4, c5, c6, c7, c8, c9, d0, d1, d2, d3, d4, d5, d6, d7, d8, d9, e0, e1, e2, e3, e4, e5, e6, e7, e8, e9, f0, f1, f2, f3, f4, f5, f6, f7, f8, f9, g0, g1, g2, g3, g4, g5, g6, g7, g8], []⟩ W := by
 have HL := Lib.hid hL
 have HF := Lib.hid H
 have hO := H.O
 have v0 := cell_at (k := 0) hO
 have v1 := cell_at (k := 1) hO
 have v2 := cell_at (k := 2) hO
 have v3 := cell_at (k := 3) hO
 have v4 := cell_at (k := 4) hO
 have vl := heap_lt hO
 simp [entCells] at v0 v1 v2 v3 v4
 obtain ⟨hp, ht, hg⟩ := H.b.T.good K e hA
 have HGd := Lib.hid hg
 clear hO hg hL H hA
 conv => arg 2; whnf
 conv at h1 => enter [a, w1, 1, 2]; whnf
 conv at h2 => enter [a, w1, 1, 2, 1]; whnf
 conv at h2 => enter [a, w1, 1, 2, 2]; whnf
 go_wp2_with fail
 refine (words_any HF.out.b.T e.x hp ht).mono ?_
 rintro e' w2 ⟨rfl, hB2⟩
 have HF2 := Lib.hid (show FGot w w2 t rb mb S ov places cnt all order R gw gr gk gx K lin (some e) from ⟨HF.out.b.below hB2, by rw [hB2.block gx vl]; exact HF.out.O⟩)
 clear hB2 HF hp ht v0 v1 v2 v3 v4 vl
 go_upto_region 7 with (fail)
 by_cases hs : R.read e.x.pde 4 = e.a ∧ R.read e.x.pte 4 = e.b
 ·exact find_p7_hit HF2.out hs HGd.out HL.out (by assumption) (by assumption) (by assumption)
 ·by_cases h1 : R.read e.x.pde 4 = e.a
  ·exact find_p7_missb HF2.out ⟨h1, fun h2 => hs ⟨h1, h2⟩⟩ HL.out (by assumption) (by assumption) (by assumption)
  ·exact find_p7_missa HF2.out h1 HL.out (by assumption) (by assumption) (by assumption)
theorem find_p4_none (H : FBase w W t rb mb S ov places cnt all order R gw gr gk K lin) (hA : all K = none) (hL : (order.length + 1) * 12 ≤ 140737488355328) {q4 q5 q6 q7 h0 h3 h4 h5 h6 h7 h8 h9 i0 i1 i2 i3 i4 i5 i6 i7 i8 i9 j0 j1 j2 g9 j3 j4 j5 j6 j7 j8 j9 k4 k5 k6 k7 k8 k9 l0 l1 l2 l3 l4 l5 l6 l7 l8 l9 m0 m1 m2 m3 m4 m5 m6 m7 m8 m9 n0 n1 n2 n3 n4 n5 n6 n7 n8 n9 o0 o1 o2 o3 o4 o5 o6 o7 o8 o9 p0 p1 p2 p3 p4 p5 p6 p7 p8 p9 q0 q1 q2 q3 a0 a1 a2 a3 a4 a5 a6 a7 a8 a9 b0 b1 b2 b3 b4 b5 b6 b7 b8 b9 c0 c1 c2 c3 c4 c5 c6 c7 c8 c9 d0 d1 d2 d3 d4 d5 d6 d7 d8 d9 e0 e1 e2 e3 e4 e5 e6 e7 e8 e9 f0 f1 f2 f3 f4 f5 f6 f7 f8 f9 g0 g1 g2 g3 g4 g5 g6 g7 g8 : Value} {K1 K2 : Act → World → Prop}
    (h1 : ∀ a w1, Code.wp Tryz.prog (tl Tryz.f176 4) (Exit.then K2 (bodyPost Tryz.prog Tryz.f176 (FindPost w t rb mb S ov places (order.length + 1) (find R K.c lin K.wr K.us K.wp)))) a w1 → K1 a w1) (h2 : ∀ a w1, Code.wp Tryz.prog (.seq (rg Tryz.f176 10) (tl Tryz.f176 10)) (bodyPost Tryz.prog Tryz.f176 (FindPost w t rb mb S ov places (order.length + 1) (find R K.c lin K.wr K.us K.wp))) a w1 → K2 a w1) :
    Code.wp Tryz.prog (rg Tryz.f176 4) (Exit.then K1 (Exit.then K2 (bodyPost Tryz.prog Tryz.f176 (FindPost w t rb mb S ov places (order.length + 1) (find R K.c lin K.wr K.us K.wp)))))
     ⟨#[.pointer (some ⟨t, 0, none⟩), .int .u32 (K.c : Nat), .int .u32 (lin : Nat), .agg #[.bool K.wr, .bool K.us, .bool K.wp], q4, q5, q6, .pointer (some ⟨gw, 0, none⟩), .pointer (some ⟨gr, 0, none⟩), q7, h0, .pointer (some ⟨gk, 0, none⟩), h3, h4, h5, h6, h7, h8, h9, i0, i1, i2, i3, i4, i5, i6, i7, i8, i9, j0, j1, j2, g9, j3, j4, j5, j6, j7, j8, j9, k4, k5, k6, k7, k8, k9, l0, l1, l2, l3, l4, l5, l6, l7, l8, l9, m0, m1, m2, m3, m4, m5, m6, m7, m8, m9, n0, n1, n2, n3, n4, n5, n6, n7, n8, n9, o0, o1, o2, o3, o4, o5, o6, o7, o8, o9, p0, p1, p2, p3, p4, p5, p6, p7, p8, p9, q0, q1, q2, q3, a0, a1, a2, a3, a4, a5, a6, a7, a8, a9, b0, b1, b2, b3, b4, b5, b6, b7, b8, b9, c0, c1, c2, c3, c4, c5, c6, c7, c8, c9, d0, d1, d2, d3, d4, d5, d6, d7, d8, d9, e0, e1, e2, e3, e4, e5, e6, e7, e8, e9, f0, f1, f2, f3, f4, f5, f6, f7, f8, f9, g0, g1, g2, g3, g4, g5, g6, g7, g8], []⟩ W := by
 have HL := Lib.hid hL
 have HA := Lib.hid hA
 obtain ⟨k0, k1, k2, k3, kf, kl⟩ := H.T.facts
 obtain ⟨⟨z0, z1, z2, z3, z4⟩, -, -, -, -, -, zl⟩ := H.L.facts
 have hlk : (Instr.lookup 228 (.map (some mb)) (.agg #[.int .u32 (K.c : Nat), .int .u32 (K.p : Nat), .bool K.wr, .bool K.us, .bool K.wp]) true).run Tryz.prog W.drew = .ok (.tuple #[((all K).map Ent.val).getD keptZero, .bool ((all K).map Ent.val).isSome]) W.drew :=
  (H.T.map.drewN 1).lookupOk PK Tryz.underlying228 (kept_zero _) K
 have hlkA : (Instr.lookup 228 (.map (some mb)) (.agg #[.int .u32 (K.c : Nat), .int .u32 (K.p : Nat), .bool K.wr, .bool K.us, .bool K.wp]) true).run Tryz.prog (W.alloc (.cells #[.int .u32 0, .int .u32 0, .int .u32 0, .bool false, .bool false, .int .u32 0, .int .u32 0] 314)).drew = .ok (.tuple #[((all K).map Ent.val).getD keptZero, .bool ((all K).map Ent.val).isSome]) (W.alloc (.cells #[.int .u32 0, .int .u32 0, .int .u32 0, .bool false, .bool false, .int .u32 0, .int .u32 0] 314)).drew :=
  ((H.T.map.alloc _).drewN 1).lookupOk PK Tryz.underlying228 (kept_zero _) K
 rw [hA] at hlk hlkA
 have hlk2 : (Instr.lookup 228 (.map (some mb)) (.agg #[.int .u32 (K.c : Nat), .int .u32 (K.p : Nat), .bool K.wr, .bool K.us, .bool K.wp]) true).run Tryz.prog W.drew = .ok (.tuple #[.agg #[.int .u32 0, .int .u32 0, .int .u32 0, .bool false, .bool false, .int .u32 0, .int .u32 0], .bool false]) W.drew := hlk
 have hlk3 : (Instr.lookup 228 (.map (some mb)) (.agg #[.int .u32 (K.c : Nat), .int .u32 (K.p : Nat), .bool K.wr, .bool K.us, .bool K.wp]) true).run Tryz.prog (W.alloc (.cells #[.int .u32 0, .int .u32 0, .int .u32 0, .bool false, .bool false, .int .u32 0, .int .u32 0] 314)).drew = .ok (.tuple #[.agg #[.int .u32 0, .int .u32 0, .int .u32 0, .bool false, .bool false, .int .u32 0, .int .u32 0], .bool false]) (W.alloc (.cells #[.int .u32 0, .int .u32 0, .int .u32 0, .bool false, .bool false, .int .u32 0, .int .u32 0] 314)).drew := hlkA
 have HF := Lib.hid (fgot_of (o := none) H)
 clear hlk hlkA hA H hL
 conv => arg 2; whnf
 conv at h1 => enter [a, w1, 1, 2]; whnf
 conv at h2 => enter [a, w1, 1, 2, 1]; whnf
 conv at h2 => enter [a, w1, 1, 2, 2]; whnf
 go_region_with (fail)
 all_goals
  go_upto_region 5 with (fail)
  exact find_p5_none HF.out HL.out (by assumption) (by assumption)
theorem find_p4_some (H : FBase w W t rb mb S ov places cnt all order R gw gr gk K lin) {e : Ent} (hA : all K = some e) (hL : (order.length + 1) * 12 ≤ 140737488355328) {q4 q5 q6 q7 h0 h3 h4 h5 h6 h7 h8 h9 i0 i1 i2 i3 i4 i5 i6 i7 i8 i9 j0 j1 j2 g9 j3 j4 j5 j6 j7 j8 j9 k4 k5 k6 k7 k8 k9 l0 l1 l2 l3 l4 l5 l6 l7 l8 l9 m0 m1 m2 m3 m4 m5 m6 m7 m8 m9 n0 n1 n2 n3 n4 n5 n6 n7 n8 n9 o0 o1 o2 o3 o4 o5 o6 o7 o8 o9 p0 p1 p2 p3 p4 p5 p6 p7 p8 p9 q0 q1 q2 q3 a0 a1 a2 a3 a4 a5 a6 a7 a8 a9 b0 b1 b2 b3 b4 b5 b6 b7 b8 b9 c0 c1 c2 c3 c4 c5 c6 c7 c8 c9 d0 d1 d2 d3 d4 d5 d6 d7 d8 d9 e0 e1 e2 e3 e4 e5 e6 e7 e8 e9 f0 f1 f2 f3 f4 f5 f6 f7 f8 f9 g0 g1 g2 g3 g4 g5 g6 g7 g8 : Value} {K1 K2 : Act → World → Prop}
    (h1 : ∀ a w1, Code.wp Tryz.prog (tl Tryz.f176 4) (Exit.then K2 (bodyPost Tryz.prog Tryz.f176 (FindPost w t rb mb S ov places (order.length + 1) (find R K.c lin K.wr K.us K.wp)))) a w1 → K1 a w1) (h2 : ∀ a w1, Code.wp Tryz.prog (.seq (rg Tryz.f176 10) (tl Tryz.f176 10)) (bodyPost Tryz.prog Tryz.f176 (FindPost w t rb mb S ov places (order.length + 1) (find R K.c lin K.wr K.us K.wp))) a w1 → K2 a w1) :
    Code.wp Tryz.prog (rg Tryz.f176 4) (Exit.then K1 (Exit.then K2 (bodyPost Tryz.prog Tryz.f176 (FindPost w t rb mb S ov places (order.length + 1) (find R K.c lin K.wr K.us K.wp)))))
     ⟨#[.pointer (some ⟨t, 0, none⟩), .int .u32 (K.c : Nat), .int .u32 (lin : Nat), .agg #[.bool K.wr, .bool K.us, .bool K.wp], q4, q5, q6, .pointer (some ⟨gw, 0, none⟩), .pointer (some ⟨gr, 0, none⟩), q7, h0, .pointer (some ⟨gk, 0, none⟩), h3, h4, h5, h6, h7, h8, h9, i0, i1, i2, i3, i4, i5, i6, i7, i8, i9, j0, j1, j2, g9, j3, j4, j5, j6, j7, j8, j9, k4, k5, k6, k7, k8, k9, l0, l1, l2, l3, l4, l5, l6, l7, l8, l9, m0, m1, m2, m3, m4, m5, m6, m7, m8, m9, n0, n1, n2, n3, n4, n5, n6, n7, n8, n9, o0, o1, o2, o3, o4, o5, o6, o7, o8, o9, p0, p1, p2, p3, p4, p5, p6, p7, p8, p9, q0, q1, q2, q3, a0, a1, a2, a3, a4, a5, a6, a7, a8, a9, b0, b1, b2, b3, b4, b5, b6, b7, b8, b9, c0, c1, c2, c3, c4, c5, c6, c7, c8, c9, d0, d1, d2, d3, d4, d5, d6, d7, d8, d9, e0, e1, e2, e3, e4, e5, e6, e7, e8, e9, f0, f1, f2, f3, f4, f5, f6, f7, f8, f9, g0, g1, g2, g3, g4, g5, g6, g7, g8], []⟩ W := by
 have HL := Lib.hid hL
 have HA := Lib.hid hA
 obtain ⟨k0, k1, k2, k3, kf, kl⟩ := H.T.facts
 obtain ⟨⟨z0, z1, z2, z3, z4⟩, -, -, -, -, -, zl⟩ := H.L.facts
 have hlk : (Instr.lookup 228 (.map (some mb)) (.agg #[.int .u32 (K.c : Nat), .int .u32 (K.p : Nat), .bool K.wr, .bool K.us, .bool K.wp]) true).run Tryz.prog W.drew = .ok (.tuple #[((all K).map Ent.val).getD keptZero, .bool ((all K).map Ent.val).isSome]) W.drew :=
  (H.T.map.drewN 1).lookupOk PK Tryz.underlying228 (kept_zero _) K
 have hlkA : (Instr.lookup 228 (.map (some mb)) (.agg #[.int .u32 (K.c : Nat), .int .u32 (K.p : Nat), .bool K.wr, .bool K.us, .bool K.wp]) true).run Tryz.prog (W.alloc (.cells #[.int .u32 0, .int .u32 0, .int .u32 0, .bool false, .bool false, .int .u32 0, .int .u32 0] 314)).drew = .ok (.tuple #[((all K).map Ent.val).getD keptZero, .bool ((all K).map Ent.val).isSome]) (W.alloc (.cells #[.int .u32 0, .int .u32 0, .int .u32 0, .bool false, .bool false, .int .u32 0, .int .u32 0] 314)).drew :=
  ((H.T.map.alloc _).drewN 1).lookupOk PK Tryz.underlying228 (kept_zero _) K
 rw [hA] at hlk hlkA
 have hlk2 : (Instr.lookup 228 (.map (some mb)) (.agg #[.int .u32 (K.c : Nat), .int .u32 (K.p : Nat), .bool K.wr, .bool K.us, .bool K.wp]) true).run Tryz.prog W.drew = .ok (.tuple #[.agg #[.int .u32 (e.x.frame : Nat), .int .u32 (e.x.pde : Nat), .int .u32 (e.x.pte : Nat), .bool e.x.w, .bool e.x.u, .int .u32 (e.a : Nat), .int .u32 (e.b : Nat)], .bool true]) W.drew := hlk
 have hlk3 : (Instr.lookup 228 (.map (some mb)) (.agg #[.int .u32 (K.c : Nat), .int .u32 (K.p : Nat), .bool K.wr, .bool K.us, .bool K.wp]) true).run Tryz.prog (W.alloc (.cells #[.int .u32 0, .int .u32 0, .int .u32 0, .bool false, .bool false, .int .u32 0, .int .u32 0] 314)).drew = .ok (.tuple #[.agg #[.int .u32 (e.x.frame : Nat), .int .u32 (e.x.pde : Nat), .int .u32 (e.x.pte : Nat), .bool e.x.w, .bool e.x.u, .int .u32 (e.a : Nat), .int .u32 (e.b : Nat)], .bool true]) (W.alloc (.cells #[.int .u32 0, .int .u32 0, .int .u32 0, .bool false, .bool false, .int .u32 0, .int .u32 0] 314)).drew := hlkA
 have HF := Lib.hid (fgot_of (o := some e) H)
 clear hlk hlkA hA H hL
 conv => arg 2; whnf
 conv at h1 => enter [a, w1, 1, 2]; whnf
 conv at h2 => enter [a, w1, 1, 2, 1]; whnf
 conv at h2 => enter [a, w1, 1, 2, 2]; whnf
 go_region_with (fail)
 all_goals
  go_upto_region 5 with (fail)
  exact find_p5_some HF.out HA.out HL.out (by assumption) (by assumption)
end
end Go.Proofs.YtmpcafdgkbpneaaGreat

/- tlb: Find, the whole. -/
namespace Go.Proofs.YtmpcafdgkbpneaaGreat
open Go.RowKit Go.MapKept
set_option linter.unusedVariables false
section
variable {w W : World} {t rb mb places gw gr gk cnt cnt0 : Nat} {S : Nat → Prop} {ov : Value} {all all0 : PKey → Option Ent} {order : List PKey} {R : RS} {K : PKey} {lin : Nat}
theorem tfind (H : TlbIn w t rb mb S ov places cnt all order R) (c lin : Nat) (hc : c < 4294967296) (hl : lin < 4294967296) (wr us wp : Bool) (hL : (order.length + 1) * 12 ≤ 140737488355328) :
    Calls Tryz.prog 176 #[.pointer (some ⟨t, 0, none⟩), .int .u32 (c : Nat), .int .u32 (lin : Nat), .agg #[.bool wr, .bool us, .bool wp]] w (FindPost w t rb mb S ov places (order.length + 1) (find R c lin wr us wp)) := by
 obtain ⟨K, hK⟩ : ∃ K : PKey, K = ⟨c, lin / 4096, wr, us, wp, hc, by omega⟩ := ⟨_, rfl⟩
 have e0 : K.c = c := by rw [hK]
 have e1 : K.p = lin / 4096 := by rw [hK]
 have e2 : K.wr = wr := by rw [hK]
 have e3 : K.us = us := by rw [hK]
 have e4 : K.wp = wp := by rw [hK]
 rw [← e0, ← e2, ← e3, ← e4]
 clear e0 e2 e3 e4 hK
 clear hc wr us wp c
 have HH := Lib.hid H
 have HL := Lib.hid hL
 have hlt : ∀ k, THeld t mb S ov k → k < w.heap.size := fun k hk => H.lt hk
 have HLT := Lib.hid hlt
 obtain ⟨W, hW⟩ : ∃ W, W = ((w.alloc (.cells #[.bool K.wr, .bool K.us, .bool K.wp] 223)).alloc (.cells #[.int .u32 0, .int .u32 0, .int .u32 0, .bool false, .bool false] 287)).alloc (.cells #[.int .u32 (K.c : Nat), .int .u32 (K.p : Nat), .bool K.wr, .bool K.us, .bool K.wp] 312) := ⟨_, rfl⟩
 have hT : TlbIn W t rb mb S ov places cnt all order R := by rw [hW]; exact ((H.alloc _).alloc _).alloc _
 have hB : Below w.heap.size w W := by rw [hW]; exact (((Below.refl _ _).alloc (Nat.le_refl _) _).alloc (by simp) _).alloc (by simp; omega) _
 have hLo : Loc W w.heap.size (w.heap.size + 1) (w.heap.size + 1 + 1) K := by
  rw [hW]
  refine ⟨?_, ?_, ?_⟩
  ·exact heap_alloc_lt (heap_alloc_lt (heap_new w _))
  ·exact heap_alloc_lt (by rw [show w.heap.size + 1 = (w.alloc (.cells #[.bool K.wr, .bool K.us, .bool K.wp] 223)).heap.size by simp]; exact heap_new _ _)
  ·rw [show w.heap.size + 1 + 1 = ((w.alloc (.cells #[.bool K.wr, .bool K.us, .bool K.wp] 223)).alloc (.cells #[.int .u32 0, .int .u32 0, .int .u32 0, .bool false, .bool false] 287)).heap.size by simp]; exact heap_new _ _
 have HFB := Lib.hid (show FBase w W t rb mb S ov places cnt all order R w.heap.size (w.heap.size + 1) (w.heap.size + 1 + 1) K lin from ⟨hT, hLo, Keeps.ofBelow hB, hlt, ⟨by omega, by omega, by omega⟩, e1.symm, hl⟩)
 have HW := Lib.hid hW
 have HE1 := Lib.hid e1
 obtain ⟨k0, k1, k2, k3, kf, kl⟩ := H.facts
 clear hW hT hB hLo H hL hlt e1 k0 k1 k2 k3 kf
 go_enter Tryz.func176, Tryz.ntmps176
 go_upto_region 4 with (fail)
 have hdiv : (lin : Int) / 4096 = ((lin / 4096 : Nat) : Int) := by omega
 rw [hdiv, ← HE1.out, ← HW.out]
 clear hdiv HW HE1 HLT
 cases hA : all K with
 | none => exact find_p4_none HFB.out hA HL.out (by assumption) (by assumption)
 | some e => exact find_p4_some HFB.out hA HL.out (by assumption) (by assumption)
end
end Go.Proofs.YtmpcafdgkbpneaaGreat

