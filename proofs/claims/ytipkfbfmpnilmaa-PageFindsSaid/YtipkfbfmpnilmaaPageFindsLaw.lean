/- 'drawloom/drawloomlaw09.PageFinds' answers true for every input. Conditions: none. -/
import Derived.Test.YtipkfbfmpnilmaaFrame
import Derived.Test.YtipkfbfmpnilmaaPMore
import Derived.Test.YtipkfbfmpnilmaaPFArgs
import Derived.Test.YtipkfbfmpnilmaaAlike
import Derived.Test.YtipkfbfmpnilmaaRFindZ
import Derived.Deep.CutRange
namespace Go.Proofs.Ytipkfbfmpnilmaa.pageFinds
open Go.ChangeShapes Go.WideShapes Go.ChangeAt Go.RowKit
set_option linter.unusedVariables false

open Go.MapKept
def third (p : WalkR × Int × RS) : RS := p.2.2
def findTo (R : RS) (cr lin : Nat) (wr us wp : Bool) : RS := third (find R cr lin wr us wp)
theorem third_eq {p : WalkR × Int × RS} {R' : RS} {x : WalkR} {cd : Int} (h : p = (x, cd, R')) : third p = R' := by rw [h]; rfl
theorem findTo_eq {R R' : RS} {cr lin : Nat} {wr us wp : Bool} {x : WalkR} {cd : Int} (h : find R cr lin wr us wp = (x, cd, R')) : findTo R cr lin wr us wp = R' := third_eq h
def iter (f : Nat → RS → RS) (R : RS) : Nat → RS
  | 0 => R
  | k + 1 => f k (iter f R k)
theorem iter_succ (f : Nat → RS → RS) (R : RS) (k : Nat) : iter f R (k + 1) = f k (iter f R k) := rfl
/-- The memory after so many asks. -/
def finds (R : RS) (cr lin : Nat → Nat) (wr us wp : Nat → Bool) (k : Nat) : RS := iter (fun k R => findTo R (cr k) (lin k) (wr k) (us k) (wp k)) R k
theorem finds_succ (R : RS) (cr lin : Nat → Nat) (wr us wp : Nat → Bool) (k : Nat) : finds R cr lin wr us wp (k + 1) = findTo (finds R cr lin wr us wp k) (cr k) (lin k) (wr k) (us k) (wp k) := iter_succ _ _ _
def FindsRel (w : World) (b b' : Nat) (R : RS) (wr : World) : Prop := ∃ S S', Two w wr b S R b' S' R
def Found (w1 : World) (b b' : Nat) (R R' : RS) (fr pd pt : Nat) (xw xu : Bool) (p : Value) (wc : World) : Prop :=
  ∃ g S S', p = .pointer (some ⟨g, 0, none⟩) ∧ Two w1 wc b S R' b' S' R ∧ wc.heap[g]? = some (.cells #[.int .u32 fr, .int .u32 pd, .int .u32 pt, .bool xw, .bool xu] 29) ∧ ¬ S g ∧ ¬ S' g ∧ w1.heap.size ≤ g
def Found2 (w1 : World) (b b' : Nat) (R' : RS) (fr pd pt : Nat) (xw xu : Bool) (g : Nat) (p : Value) (wc : World) : Prop :=
  ∃ g2 S S', p = .pointer (some ⟨g2, 0, none⟩) ∧ Two w1 wc b S R' b' S' R' ∧ wc.heap[g2]? = some (.cells #[.int .u32 fr, .int .u32 pd, .int .u32 pt, .bool xw, .bool xu] 29) ∧ wc.heap[g]? = some (.cells #[.int .u32 fr, .int .u32 pd, .int .u32 pt, .bool xw, .bool xu] 29)
theorem two_set {w0 w w1 : World} {b : Nat} {S : Nat → Prop} {R : RS} {b' : Nat} {S' : Nat → Prop} {R' : RS} (T : Two w0 w b S R b' S' R') {g : Nat} (h1 : ¬ S g) (h2 : ¬ S' g) (h3 : w0.heap.size ≤ g) (K : Keeps (· = g) w w1) : Two w0 w1 b S R b' S' R' :=
  ⟨T.m.keeps K fun k hk e => h1 (by rw [← e]; exact hk), T.r.keeps K fun k hk e => h2 (by rw [← e]; exact hk), T.d, T.l1, T.l2, Keeps.toBelow T.B K T.B.size fun i h => by rw [h]; exact h3⟩
theorem set5 {w3 : World} {g : Nat} (h : w3.heap[g]? = some (.cells #[.int .u32 0, .int .u32 0, .int .u32 0, .bool false, .bool false] 29)) (fr pd pt : Nat) (xw xu : Bool) :
    ((((((w3.setCell ⟨g, 0, none⟩ (.int .u32 fr)).setCell ⟨g, 1, none⟩ (.int .u32 pd)).setCell ⟨g, 2, none⟩ (.int .u32 pt)).setCell ⟨g, 3, none⟩ (.bool xw)).setCell ⟨g, 4, none⟩ (.bool xu)).heap[g]? = some (.cells #[.int .u32 fr, .int .u32 pd, .int .u32 pt, .bool xw, .bool xu] 29)) ∧
    Keeps (· = g) w3 (((((w3.setCell ⟨g, 0, none⟩ (.int .u32 fr)).setCell ⟨g, 1, none⟩ (.int .u32 pd)).setCell ⟨g, 2, none⟩ (.int .u32 pt)).setCell ⟨g, 3, none⟩ (.bool xw)).setCell ⟨g, 4, none⟩ (.bool xu)) :=
  ⟨by simp only [heap_set_map, putObj_cells, h, Option.map_some, List.set_cons_succ, List.set_cons_zero], (((((Keeps.refl _ _).setOne _ _).setOne _ _).setOne _ _).setOne _ _).setOne _ _⟩
theorem not_new {w1 wr w3 : World} {o : Obj} {bm bm' : Nat} {S1 S2 S3 : Nat → Prop} {R R5 : RS} (T : Two w1 wr bm S1 R bm' S2 R5) (M : Moves S1 S3 ((wr.alloc o).drew) w3) : ¬ S3 wr.heap.size := fun h => by
  rcases M.2 _ h with h | h
  · exact Nat.lt_irrefl _ (T.m.lt h)
  · have : (wr.alloc o).drew.heap.size = wr.heap.size + 1 := by show (wr.alloc o).heap.size = _; simp
    omega
theorem found_new {w1 w3 : World} {bm bm' : Nat} {S3 S2 : Nat → Prop} {R5 Rr : RS} (T3 : Two w1 w3 bm S3 Rr bm' S2 R5) (fr pd pt : Nat) (xw xu : Bool) : Found w1 bm bm' R5 Rr fr pd pt xw xu (.pointer (some ⟨w3.heap.size, 0, none⟩)) (w3.alloc (.cells #[.int .u32 fr, .int .u32 pd, .int .u32 pt, .bool xw, .bool xu] 29)) :=
  ⟨_, _, _, rfl, T3.alloc _, heap_new _ _, fun h => Nat.lt_irrefl _ (T3.m.lt h), fun h => Nat.lt_irrefl _ (T3.r.lt h), T3.B.size⟩
theorem found_set {w1 w3 : World} {bm bm' g : Nat} {S3 S2 : Nat → Prop} {R5 Rr : RS} (T3 : Two w1 w3 bm S3 Rr bm' S2 R5) (fr pd pt : Nat) (xw xu : Bool) (h : w3.heap[g]? = some (.cells #[.int .u32 0, .int .u32 0, .int .u32 0, .bool false, .bool false] 29)) (n1 : ¬ S3 g) (n2 : ¬ S2 g) (hg : w1.heap.size ≤ g) :
    Found w1 bm bm' R5 Rr fr pd pt xw xu (.pointer (some ⟨g, 0, none⟩)) (((((w3.setCell ⟨g, 0, none⟩ (.int .u32 fr)).setCell ⟨g, 1, none⟩ (.int .u32 pd)).setCell ⟨g, 2, none⟩ (.int .u32 pt)).setCell ⟨g, 3, none⟩ (.bool xw)).setCell ⟨g, 4, none⟩ (.bool xu)) :=
  ⟨_, _, _, rfl, two_set T3 n1 n2 hg (set5 h fr pd pt xw xu).2, (set5 h fr pd pt xw xu).1, n1, n2, hg⟩
theorem found2_new {w1 w3 : World} {bm bm' g : Nat} {S3 S2 : Nat → Prop} {Rr : RS} (T3 : Two w1 w3 bm S3 Rr bm' S2 Rr) (fr pd pt : Nat) (xw xu : Bool) (hg : w3.heap[g]? = some (.cells #[.int .u32 fr, .int .u32 pd, .int .u32 pt, .bool xw, .bool xu] 29)) : Found2 w1 bm bm' Rr fr pd pt xw xu g (.pointer (some ⟨w3.heap.size, 0, none⟩)) (w3.alloc (.cells #[.int .u32 fr, .int .u32 pd, .int .u32 pt, .bool xw, .bool xu] 29)) :=
  ⟨_, _, _, rfl, T3.alloc _, heap_new _ _, heap_alloc_lt hg⟩
theorem found2_set {w1 w3 : World} {bm bm' g q : Nat} {S3 S2 : Nat → Prop} {Rr : RS} (T3 : Two w1 w3 bm S3 Rr bm' S2 Rr) (fr pd pt : Nat) (xw xu : Bool) (h : w3.heap[q]? = some (.cells #[.int .u32 0, .int .u32 0, .int .u32 0, .bool false, .bool false] 29)) (n1 : ¬ S3 q) (n2 : ¬ S2 q) (hq : w1.heap.size ≤ q) (hg : w3.heap[g]? = some (.cells #[.int .u32 fr, .int .u32 pd, .int .u32 pt, .bool xw, .bool xu] 29)) (hne : g ≠ q) :
    Found2 w1 bm bm' Rr fr pd pt xw xu g (.pointer (some ⟨q, 0, none⟩)) (((((w3.setCell ⟨q, 0, none⟩ (.int .u32 fr)).setCell ⟨q, 1, none⟩ (.int .u32 pd)).setCell ⟨q, 2, none⟩ (.int .u32 pt)).setCell ⟨q, 3, none⟩ (.bool xw)).setCell ⟨q, 4, none⟩ (.bool xu)) :=
  ⟨_, _, _, rfl, two_set T3 n1 n2 hq (set5 h fr pd pt xw xu).2, (set5 h fr pd pt xw xu).1, heap_keeps (set5 h fr pd pt xw xu).2 hne hg⟩
theorem asks_five {w : World} {b off len : Nat} {cr lin : Nat → Nat} {wr us wp : Nat → Bool} (A : AsksAt w b off len cr lin wr us wp) (k : Nat) (hk : k < len) :
    w.cell? ⟨b, off + k * 5, none⟩ = some (.int .u32 (cr k : Nat)) ∧ w.cell? ⟨b, off + k * 5 + 1, none⟩ = some (.int .u32 (lin k : Nat)) ∧ w.cell? ⟨b, off + k * 5 + 2, none⟩ = some (.bool (wr k)) ∧ w.cell? ⟨b, off + k * 5 + 3, none⟩ = some (.bool (us k)) ∧ w.cell? ⟨b, off + k * 5 + 4, none⟩ = some (.bool (wp k)) :=
  ⟨A.c0 k hk, A.c1 k hk, A.c2 k hk, A.c3 k hk, A.c4 k hk⟩
theorem arg_ints' {w : World} {a : Option Addr} {len : Nat} {z : Nat → Int} (h : IntsIn .i64 w a len z) : IntsOf w a len z := by
  rcases h with h | ⟨b, off, e, hb, h⟩
  · exact .inl h
  · exact .inr ⟨b, off, e, fun i hi => (h i hi).1, fun i hi => ⟨(h i hi).2.1, (h i hi).2.2⟩, hb⟩

set_option maxRecDepth 100000 in
set_option maxHeartbeats 2000000 in
theorem walk (w : World) (ad : Option Addr) (len cap : Nat) (at_ x : Nat → Nat) (hlen : len ≤ 9223372036854775807) (J : WordsIn w ad len at_ x)
    (od : Option Addr) (ol oc : Nat) (o : Nat → Int) (hol : ol ≤ 9223372036854775807) (I0 : IntsIn .i64 w od ol o)
    (kd : Option Addr) (kl kc : Nat) (cr lin : Nat → Nat) (fw fu fp : Nat → Bool) (hkl : kl ≤ 9223372036854775807) (A : AsksIn w kd kl cr lin fw fu fp) :
    Calls Try.prog 5 #[.slice ad len cap, .slice od ol oc, .slice kd kl kc] w fun e w' => e = .returned (.bool true) ∧ Below w.heap.size w w' := by
  have I := arg_ints' I0
  go_enter Try.func5, Try.ntmps5
  go_wp2_with fail
  refine (awake_any _).mono ?_
  rintro e w1 ⟨rfl, B1⟩
  have J1 := words_below J B1
  have I1 : IntsOf w1 od ol o := by
    rcases I with h | ⟨b, off, e, h⟩
    · exact .inl h
    · exact .inr ⟨b, off, e, h.below B1⟩
  go_wp2_with fail
  refine (both_any w1 16 ad len cap at_ x J1 od ol oc o I1 hlen hol).mono ?_
  rintro e w2 ⟨bm, S, bm', S', rfl, T⟩
  have A1 := A.below B1
  clear J1 I1 J I I0 A
  generalize bothR 16 at_ x len o ol = R0 at *
  go_wp2_with fail
  go_loopw [10] (fun i wc => ∃ k : Nat, k ≤ kl ∧ i = .int .i64 k ∧ FindsRel w1 bm bm' (finds R0 cr lin fw fu fp k) wc) (fun i _ => kl - (intOf i).toNat)
  case atStart => exact ⟨0, by omega, rfl, S, S', T⟩
  case round =>
    clear T
    obtain ⟨k, hk, rfl, S1, S2, T⟩ := hrel
    by_cases hlt : k < kl
    · rcases hr : find (finds R0 cr lin fw fu fp k) (cr k) (lin k) (fw k) (fu k) (fp k) with ⟨⟨fr, pd, pt, xw, xu⟩, cd, Rr⟩
      have hR : finds R0 cr lin fw fu fp (k + 1) = Rr := by rw [finds_succ]; exact findTo_eq hr
      have HR := Lib.hid hR
      have HFR := Lib.hid hr
      clear hR hr
      generalize finds R0 cr lin fw fu fp k = R5 at *
      obtain ⟨kb, ko, rfl, A2⟩ : ∃ b off, kd = some ⟨b, off, none⟩ ∧ AsksAt w1 b off kl cr lin fw fu fp := by
        rcases A1 with h | h
        · omega
        · exact h
      have AT := A2.below T.B
      have c0 := AT.c0 k hlt
      have c1 := AT.c1 k hlt
      have c2 := AT.c2 k hlt
      have c3 := AT.c3 k hlt
      have c4 := AT.c4 k hlt
      have q1 : (0 : Int) ≤ (k : Int) := by omega
      have q2 : (k : Int) < (kl : Int) := by omega
      have u0 := A2.u0 k hlt
      have u1 := A2.u1 k hlt
      have HA := Lib.hid A2
      clear A2 AT
      go_upto_region 8 with (fail)
      go_cut [11, 12, 13] from 35 to 55 (fun p c e wc => Found w1 bm bm' R5 Rr fr pd pt xw xu p wc ∧ c = .int .i64 cd ∧ e = .int .i64 0)
      case first =>
        go_region_held3 (fun w' => w'.cell? ⟨kb, ko + k * 5, none⟩ = some (.int .u32 (cr k : Nat)) ∧ w'.cell? ⟨kb, ko + k * 5 + 1, none⟩ = some (.int .u32 (lin k : Nat)) ∧ w'.cell? ⟨kb, ko + k * 5 + 2, none⟩ = some (.bool (fw k)) ∧ w'.cell? ⟨kb, ko + k * 5 + 3, none⟩ = some (.bool (fu k)) ∧ w'.cell? ⟨kb, ko + k * 5 + 4, none⟩ = some (.bool (fp k)))
          (exact asks_five (HA.out.below (by repeat' (first | (with_reducible exact T3.B) | (with_reducible exact T.B) | (with_reducible refine Below.setCell ?_ (by first | exact T.B.size | exact T3.B.size) _) | (with_reducible refine below_dn ?_ _) | (with_reducible refine Below.drew ?_) | (with_reducible refine Below.alloc ?_ (by first | exact T3.B.size | exact T.B.size) _)))) k hlt)
          (first
          | (go_at_call 8; refine (find_r (w := wr.drew) (T.drewN 1).m (cr k) (lin k) u0 u1 (fw k) (fu k) (fp k) _ _ rfl rfl HFR.out).mono ?_; rintro e w3 ⟨rfl, S3, H3, M3⟩; have T3 := (T.drewN 1).moveM H3 M3; have q3 := asks_five (HA.out.below T3.B) k hlt; have Hk := Lib.hid (found_new T3 fr pd pt xw xu))
          | (go_at_call 8; refine (find_r (w := (wr.alloc (.cells #[.int .u32 0, .int .u32 0, .int .u32 0, .bool false, .bool false] 29)).drew) ((T.alloc (.cells #[.int .u32 0, .int .u32 0, .int .u32 0, .bool false, .bool false] 29)).drewN 1).m (cr k) (lin k) u0 u1 (fw k) (fu k) (fp k) _ _ rfl rfl HFR.out).mono ?_; rintro e w3 ⟨rfl, S3, H3, M3⟩; have T3 := ((T.alloc (.cells #[.int .u32 0, .int .u32 0, .int .u32 0, .bool false, .bool false] 29)).drewN 1).moveM H3 M3; have q3 := asks_five (HA.out.below T3.B) k hlt; have hx3 := heap_keeps M3.1 (fun h => Nat.lt_irrefl _ (T.m.lt h)) (heap_new wr (.cells #[.int .u32 0, .int .u32 0, .int .u32 0, .bool false, .bool false] 29)); have hf3 : ∀ j, w3.frozen? ⟨wr.heap.size, j, none⟩ = false := fun j => free_at hx3; have z0 : w3.cell? ⟨wr.heap.size, 0, .none⟩ = some (.int .u32 0) := (by rw [cell_at hx3]; rfl); have z1 : w3.cell? ⟨wr.heap.size, 1, .none⟩ = some (.int .u32 0) := (by rw [cell_at hx3]; rfl); have z2 : w3.cell? ⟨wr.heap.size, 2, .none⟩ = some (.int .u32 0) := (by rw [cell_at hx3]; rfl); have z3 : w3.cell? ⟨wr.heap.size, 3, .none⟩ = some (.bool false) := (by rw [cell_at hx3]; rfl); have z4 : w3.cell? ⟨wr.heap.size, 4, .none⟩ = some (.bool false) := (by rw [cell_at hx3]; rfl); have hl3 := heap_lt hx3; have Hk := Lib.hid (found_set T3 fr pd pt xw xu hx3 (not_new T M3) (fun h => Nat.lt_irrefl _ (T.r.lt h)) T.B.size); clear hx3))
        all_goals
          go_wp2_with fail
          go_meet
          exact ⟨Hk.out, rfl, rfl⟩
      case rest =>
        obtain ⟨⟨g, S3, S4, rfl, T3, hx, n1, n2, hg⟩, rfl, rfl⟩ := hcut
        clear T c0 c1 c2 c3 c4
        obtain ⟨c0, c1, c2, c3, c4⟩ := asks_five (HA.out.below T3.B) k hlt
        have HX := Lib.hid hx
        clear hx
        go_upto_region 9 with (fail)
        go_cut [14, 15] from 56 to 75 (fun p c wd => Found2 w1 bm bm' Rr fr pd pt xw xu g p wd ∧ c = .int .i64 cd)
        case first =>
          go_region_held3 (fun w' => w'.cell? ⟨kb, ko + k * 5, none⟩ = some (.int .u32 (cr k : Nat)) ∧ w'.cell? ⟨kb, ko + k * 5 + 1, none⟩ = some (.int .u32 (lin k : Nat)) ∧ w'.cell? ⟨kb, ko + k * 5 + 2, none⟩ = some (.bool (fw k)) ∧ w'.cell? ⟨kb, ko + k * 5 + 3, none⟩ = some (.bool (fu k)) ∧ w'.cell? ⟨kb, ko + k * 5 + 4, none⟩ = some (.bool (fp k)))
            (exact asks_five (HA.out.below (by repeat' (first | (with_reducible exact T4.B) | (with_reducible exact T3.B) | (with_reducible refine Below.setCell ?_ (by first | exact T3.B.size | exact T4.B.size) _) | (with_reducible refine below_dn ?_ _) | (with_reducible refine Below.drew ?_) | (with_reducible refine Below.alloc ?_ (by first | exact T4.B.size | exact T3.B.size) _)))) k hlt)
          (first
            | (go_at_call 11; refine (rfind_r (w := wc.drew) (T3.drewN 1).r (cr k) (lin k) u0 u1 (fw k) (fu k) (fp k) HFR.out).mono ?_; rintro e w4 ⟨rfl, H4, K4⟩; have T4 := (T3.drewN 1).moveR H4 K4; have q4 := asks_five (HA.out.below T4.B) k hlt; have hg4 := heap_keeps K4 n2 HX.out; have Hk := Lib.hid (found2_new T4 fr pd pt xw xu hg4); clear hg4)
            | (go_at_call 11; refine (rfind_r (w := (wc.alloc (.cells #[.int .u32 0, .int .u32 0, .int .u32 0, .bool false, .bool false] 29)).drew) ((T3.alloc (.cells #[.int .u32 0, .int .u32 0, .int .u32 0, .bool false, .bool false] 29)).drewN 1).r (cr k) (lin k) u0 u1 (fw k) (fu k) (fp k) HFR.out).mono ?_; rintro e w4 ⟨rfl, H4, K4⟩; have T4 := ((T3.alloc (.cells #[.int .u32 0, .int .u32 0, .int .u32 0, .bool false, .bool false] 29)).drewN 1).moveR H4 K4; have q4 := asks_five (HA.out.below T4.B) k hlt; have hx3 := heap_keeps K4 (fun h => Nat.lt_irrefl _ (T3.r.lt h)) (heap_new wc (.cells #[.int .u32 0, .int .u32 0, .int .u32 0, .bool false, .bool false] 29)); have hf3 : ∀ j, w4.frozen? ⟨wc.heap.size, j, none⟩ = false := fun j => free_at hx3; have z0 : w4.cell? ⟨wc.heap.size, 0, .none⟩ = some (.int .u32 0) := (by rw [cell_at hx3]; rfl); have z1 : w4.cell? ⟨wc.heap.size, 1, .none⟩ = some (.int .u32 0) := (by rw [cell_at hx3]; rfl); have z2 : w4.cell? ⟨wc.heap.size, 2, .none⟩ = some (.int .u32 0) := (by rw [cell_at hx3]; rfl); have z3 : w4.cell? ⟨wc.heap.size, 3, .none⟩ = some (.bool false) := (by rw [cell_at hx3]; rfl); have z4 : w4.cell? ⟨wc.heap.size, 4, .none⟩ = some (.bool false) := (by rw [cell_at hx3]; rfl); have hl3 := heap_lt hx3; have hg4 := heap_keeps K4 n2 (heap_alloc_lt (o' := (.cells #[.int .u32 0, .int .u32 0, .int .u32 0, .bool false, .bool false] 29)) HX.out); have Hk := Lib.hid (found2_set T4 fr pd pt xw xu hx3 (fun h => Nat.lt_irrefl _ (T3.m.lt h)) (fun h => Nat.lt_irrefl _ (T3.r.lt h)) T3.B.size hg4 (Nat.ne_of_lt (heap_lt HX.out))); clear hx3 hg4))
          all_goals
            go_wp2_with fail
            go_meet
            exact ⟨Hk.out, rfl⟩
        case rest =>
          obtain ⟨⟨g2, S5, S6, rfl, T5, hz, hy⟩, rfl⟩ := hcut
          obtain ⟨y0, y1, y2, y3, y4⟩ := cells5 hy
          obtain ⟨z0, z1, z2, z3, z4⟩ := cells5 hz
          have yl := heap_lt hy
          have zl := heap_lt hz
          clear hz hy T3 HX c0 c1 c2 c3 c4 HFR
          go_wp2_with fail
          go_roundw
          case rel => exact ⟨k + 1, by omega, by go_num, _, _, by rw [HR.out]; exact T5⟩
          case measure => (simp [intOf]) <;> omega
    · have hk2 : k = kl := by omega
      have HK := Lib.hid hk2
      clear hk2
      rw [HK.out] at T
      go_wp2_with fail
      refine (alike_any T.m T.r).mono ?_
      rintro e w5 ⟨rfl, b5⟩
      go_wp2_with fail
      go_returns
      exact ⟨rfl, step_below B1 (step_below T.B b5 (Nat.le_refl _)) (Nat.le_refl _)⟩

set_option maxRecDepth 100000 in
theorem lifted (os : Os) (started : os.Started) (H : Type) (enc : TypeId × Value → H) :
    ReturnsInHanded {} Try.checked os 5 .any (Rows.pageFindsSpec.pre6 enc Try.prog Try.f5 Rows.pageFindsRow.domain false) (Rows.pageFindsSpec.post enc Try.prog Try.f5 false true false false) := by
  refine returnsInHanded_of_change (C := Try.checked) own started (by kernel_rfl) Try.func5
    (ChangeSpec.witness6 (enc := enc) (C := Try.checked) false ⟨#[], #[.slice none 0 0, .slice none 0 0, .slice none 0 0], []⟩ 8 (by kernel_rfl) (by kernel_rfl) (by kernel_rfl) (by kernel_rfl)) ?_
  intro W base args ds gs before hval0 hW hcnd _
  have hval : ∀ (j : Nat) t v, Try.f5.params[j]? = some t → args[j]? = some v → Value.okWide Try.prog W .any base t v := hval0
  have hW' := hW
  obtain ⟨p, q, hA0, hV, rfl, hfz, hnd⟩ := hW
  have hA : DataW.TrodAll enc Try.prog W 0 (fun _ => true) true Try.f5.params.toList args.toList ds p := hA0
  rw [Try.params5] at hA hval
  obtain ⟨v0, vs0, d0, ds0, p0, q0, hargs, rfl, rfl, h0, r0⟩ := trodAll_cons hA
  obtain ⟨v1, vs1, d1, ds1, p1, q1, rfl, rfl, rfl, h1, r1⟩ := trodAll_cons r0
  obtain ⟨v2, vs2, d2, ds2, p2, q2, rfl, rfl, rfl, h2, r2⟩ := trodAll_cons r1
  obtain ⟨rfl, rfl, rfl⟩ := trodAll_nil r2
  obtain rfl : args = #[v0, v1, v2] := by cases args; simp_all
  clear hA0 hval0
  obtain ⟨a0, n0, c0, t0, x0, rfl, m0, J0⟩ := arg_words (hval 0 34 v0 rfl rfl) h0
  obtain ⟨a1, n1, c1, z1, rfl, m1, J1⟩ := arg_ints Try.underlying43 Try.underlying3 (by kernel_rfl) (hval 1 43 v1 rfl rfl) h1
  obtain ⟨a2, n2, c2, cr2, ln2, wr2, us2, wp2, rfl, m2, J2⟩ := arg_asks (hval 2 44 v2 rfl rfl) h2
  exact law_end (by kernel_rfl) hW' rfl (by kernel_rfl) Try.underlying4 rfl rfl (walk W a0 n0 c0 t0 x0 m0 J0 a1 n1 c1 z1 m1 J1 a2 n2 c2 cr2 ln2 wr2 us2 wp2 m2 J2)

theorem proved : Rows.PageFindsSaid :=
  OpenClaim.holds_of_wide 5 Try.f5 rfl rfl rfl rfl rfl rfl rfl ⟨rfl, rfl, rfl, rfl, rfl⟩ rfl rfl rfl rfl rfl (by kernel_rfl) Try.func5 (by kernel_rfl)
    (of_decide_eq_true (by kernel_rfl)) (by unfold Func.isWrapper; first | (rw [if_pos (by decide +kernel)]; kernel_rfl) | (rw [if_neg (by decide +kernel)]; exact ⟨rfl, rfl⟩))
    (fun os started H enc _ => lifted os started H enc)
#print axioms proved
end Go.Proofs.Ytipkfbfmpnilmaa.pageFinds
