/- Steps of a proof: TlbA, Row, TlbB, TlbP, Spine, together. -/
import Derived.Test.YtmpcafdgkbpneaaGreatS5
import Derived.Test.YtmpcafdgkbpneaaGreatS0
import Derived.ArgAppend
import Derived.Maps.AppendAt
import Derived.Deep.QuietTactic
import Derived.BigQuiet
import Derived.Lib.Hide
import Derived.WalkKit
/- tlb, in plain words: what a walk marks, where some pages are read alone; an entry that is kept is what a walk finds. -/
namespace Go.Proofs.YtmpcafdgkbpneaaGreat
open Go.RowKit
set_option linter.unusedVariables false

structure Wide (R : RS) : Prop where
 ok : R.ok
 c : R.closed = false
theorem Wide.place {R : RS} (h : Wide R) (a : Nat) : R.place a = a := by unfold RS.place; rw [h.c]; rfl
theorem Wide.get {R : RS} (h : Wide R) (a : Nat) : R.get a = if a < R.size then R.byte a else 255 := by unfold RS.get; rw [h.place]
theorem Wide.wr {R : RS} (h : Wide R) (a v : Nat) (hv : v < 256) : Wide (R.wr a v) ∧ (R.wr a v).size = R.size ∧ (R.wr a v).only = R.only ∧ ∀ c, (R.wr a v).get c = if c = a ∧ a < R.size ∧ R.only (a / 4096) = false then v else R.get c := by
 unfold RS.wr
 rw [h.place]
 by_cases hs : a < R.size ∧ R.only (a / 4096) = false
 ·rw [if_pos hs]
  have hp : Wide (R.lay a v) := ⟨RS.lay_ok h.ok a v hv, h.c⟩
  refine ⟨hp, rfl, rfl, fun c => ?_⟩
  rw [hp.get, h.get]
  show (if c < R.size then (if c = a then v else R.byte c) else 255) = _
  by_cases e : c = a
  ·subst e; rw [if_pos hs.1, if_pos rfl, if_pos ⟨rfl, hs⟩]
  ·simp [e]
 ·rw [if_neg hs]
  exact ⟨h, rfl, rfl, fun c => by rw [if_neg (fun x => hs x.2)]⟩
theorem Wide.write4 {R : RS} (h : Wide R) (a v : Nat) (ha : a < 4294967296) (h4 : a % 4 = 0) :
    Wide (R.write a v 4) ∧ (R.write a v 4).size = R.size ∧ ∀ c, (R.write a v 4).get c = if a ≤ c ∧ c < a + 4 ∧ a < R.size ∧ R.only (a / 4096) = false then v / 256 ^ (c - a) % 256 else R.get c := by
 have hsz : R.size % 4 = 0 := by unfold RS.size; omega
 have key : ∀ k, k ≤ 4 → Wide (R.write a v k) ∧ (R.write a v k).size = R.size ∧ (R.write a v k).only = R.only ∧ ∀ c, (R.write a v k).get c = if a ≤ c ∧ c < a + k ∧ a < R.size ∧ R.only (a / 4096) = false then v / 256 ^ (c - a) % 256 else R.get c := by
  intro k hk
  induction k with
  | zero =>
   refine ⟨h, rfl, rfl, fun c => ?_⟩
   rw [if_neg (by omega)]; rfl
  | succ k ih =>
   obtain ⟨i1, i2, i4, i3⟩ := ih (by omega)
   obtain ⟨j1, j2, j4, j3⟩ := i1.wr (at32 a k) (v / 256 ^ k % 256) (Nat.mod_lt _ (by decide))
   refine ⟨j1, j2.trans i2, j4.trans i4, fun c => ?_⟩
   show ((R.write a v k).wr (at32 a k) (v / 256 ^ k % 256)).get c = _
   have hpg : (a + k) / 4096 = a / 4096 := by omega
   rw [j3, i2, i3, i4, at32_of ha h4 (by omega), hpg]
   by_cases e : c = a + k
   ·subst e
    by_cases hs : a < R.size ∧ R.only (a / 4096) = false
    ·rw [if_pos ⟨rfl, by omega, hs.2⟩, if_pos ⟨by omega, by omega, hs⟩, show a + k - a = k by omega]
    ·rw [if_neg (fun x => hs ⟨by omega, x.2.2⟩), if_neg (fun x => hs x.2.2), if_neg (fun x => hs x.2.2)]
   ·rw [if_neg (fun x => e x.1)]
    by_cases hin : a ≤ c ∧ c < a + k ∧ a < R.size ∧ R.only (a / 4096) = false
    ·rw [if_pos hin, if_pos ⟨hin.1, by omega, hin.2.2⟩]
    ·rw [if_neg hin, if_neg (fun x => hin ⟨x.1, by omega, x.2.2⟩)]
 obtain ⟨k1, k2, _, k3⟩ := key 4 (Nat.le_refl _)
 exact ⟨k1, k2, k3⟩
theorem Wide.read_write {R : RS} (h : Wide R) (a b v : Nat) (ha : a < 4294967296) (h4 : a % 4 = 0) (hb : b < 4294967296) (hb4 : b % 4 = 0) (hv : v < 4294967296) :
    (R.write a v 4).read b 4 = R.read b 4 ∨ (b = a ∧ (R.write a v 4).read b 4 = v) := by
 obtain ⟨_, _, g⟩ := h.write4 a v ha h4
 by_cases e : b = a ∧ a < R.size ∧ R.only (a / 4096) = false
 ·right
  obtain ⟨rfl, e⟩ := e
  refine ⟨rfl, ?_⟩
  rw [read4 _ b hb hb4, g, g, g, g, if_pos ⟨by omega, by omega, e⟩, if_pos ⟨by omega, by omega, e⟩, if_pos ⟨by omega, by omega, e⟩, if_pos ⟨by omega, by omega, e⟩,
   show b - b = 0 by omega, show b + 1 - b = 1 by omega, show b + 2 - b = 2 by omega, show b + 3 - b = 3 by omega]
  simp only [Nat.pow_zero, Nat.pow_one, Nat.div_one]
  rw [show (256 : Nat) ^ 2 = 65536 from rfl, show (256 : Nat) ^ 3 = 16777216 from rfl]
  omega
 ·left
  have hn : ∀ i, i < 4 → ¬ (a ≤ b + i ∧ b + i < a + 4 ∧ a < R.size ∧ R.only (a / 4096) = false) := fun i hi x => e ⟨by omega, x.2.2⟩
  rw [read4 _ b hb hb4, read4 _ b hb hb4, g, g, g, g, if_neg (by simpa using hn 0 (by decide)), if_neg (hn 1 (by decide)), if_neg (hn 2 (by decide)), if_neg (hn 3 (by decide))]
theorem Wide.mark {R : RS} (h : Wide R) (a m : Nat) (ha : a < 4294967296) (h4 : a % 4 = 0) (hm : m < 4294967296) :
    Wide (R.mark a m) ∧ ∀ b, b < 4294967296 → b % 4 = 0 → ((R.mark a m).read b 4 = R.read b 4 ∨ (R.mark a m).read b 4 = R.read b 4 ||| m) := by
 by_cases hsame : R.read a 4 ||| m = R.read a 4
 ·rw [mark_same R a m hsame]
  exact ⟨h, fun b _ _ => .inl rfl⟩
 ·rw [mark_new R a m hsame]
  have hlt : R.read a 4 ||| m < 4294967296 := Nat.or_lt_two_pow (n := 32) (RS.read_lt h.ok a 4) hm
  refine ⟨(h.write4 a _ ha h4).1, fun b hb hb4 => ?_⟩
  rcases h.read_write a b (R.read a 4 ||| m) ha h4 hb hb4 hlt with e | ⟨rfl, e⟩
  ·exact .inl e
  ·exact .inr e
def Same (a b : Nat) : Prop := a / 4096 = b / 4096 ∧ a % 8 = b % 8
theorem Same.refl (a : Nat) : Same a a := ⟨rfl, rfl⟩
theorem Same.trans {a b c : Nat} (h : Same a b) (k : Same b c) : Same a c := ⟨h.1.trans k.1, h.2.trans k.2⟩
theorem or_low (n m : Nat) (hm : m % 8 = 0) : (n ||| m) % 8 = n % 8 := by
 have h := Nat.or_mod_two_pow (a := n) (b := m) (n := 3)
 rw [show (2 : Nat) ^ 3 = 8 from rfl, hm] at h
 rw [h]; simp
theorem same_or (n m : Nat) (h1 : m < 4096) (h2 : m % 8 = 0) : Same (n ||| m) n := ⟨or_page n m h1, or_low n m h2⟩
theorem Wide.marks_same {R : RS} (h : Wide R) (P T : Nat) (hP : P < 4294967296) (hP4 : P % 4 = 0) (hT : T < 4294967296) (hT4 : T % 4 = 0) (m : Nat) (h1 : m < 4096) (h2 : m % 8 = 0) :
    Wide ((R.mark P 32).mark T m) ∧ ∀ b, b < 4294967296 → b % 4 = 0 → Same (((R.mark P 32).mark T m).read b 4) (R.read b 4) := by
 obtain ⟨g1, g2⟩ := h.mark P 32 hP hP4 (by decide)
 obtain ⟨k1, k2⟩ := g1.mark T m hT hT4 (by omega)
 refine ⟨k1, fun b hb hb4 => ?_⟩
 have e1 : Same ((R.mark P 32).read b 4) (R.read b 4) := by
  rcases g2 b hb hb4 with e | e <;> rw [e]
  ·exact Same.refl _
  ·exact same_or _ _ (by decide) (by decide)
 refine Same.trans ?_ e1
 rcases k2 b hb hb4 with e | e <;> rw [e]
 ·exact Same.refl _
 ·exact same_or _ _ h1 h2
def Good (c p : Nat) (wr us wp : Bool) (x : WalkR) (a b : Nat) : Prop :=
 ∀ (R : RS) (lin : Nat), lin / 4096 = p → R.read x.pde 4 = a → R.read x.pte 4 = b → find R c lin wr us wp = (x, -1, R)
theorem mark_none {R : RS} (a m : Nat) (h : R.read a 4 ||| m = R.read a 4) : R.mark a m = R := mark_same R a m h
theorem or_of_and {n m : Nat} (h : n &&& m = m) : n ||| m = n := by
 refine Nat.eq_of_testBit_eq fun i => ?_
 have := congrArg (fun x => x.testBit i) h
 simp only [Nat.testBit_and] at this
 rw [Nat.testBit_or]
 cases e1 : n.testBit i <;> cases e2 : m.testBit i <;> simp_all
theorem pde_same (c : Nat) {l m : Nat} (h : m / 4096 = l / 4096) : pdeOf c m = pdeOf c l := by unfold pdeOf; omega
theorem good_of {R : RS} (h : Wide R) (c lin : Nat) (hc : c < 4294967296) (hl : lin < 4294967296) (wr us wp : Bool) (x : WalkR) (R' : RS) (hf : find R c lin wr us wp = (x, -1, R'))
    (ha : R'.read x.pde 4 &&& 32 = 32) (hb : R'.read x.pte 4 &&& (if wr then 96 else 32) = (if wr then 96 else 32)) (hx : R'.read x.pte 4 / 4096 * 4096 = x.frame) :
    Wide R' ∧ Good c (lin / 4096) wr us wp x (R'.read x.pde 4) (R'.read x.pte 4) := by
 have hcode : 0 ≤ codeOf wr us := by unfold codeOf; (repeat' split) <;> decide
 unfold find at hf
 split at hf
 ·have := congrArg (fun r => r.2.1) hf; simp only at this; omega
 ·rename_i h1
  split at hf
  ·have := congrArg (fun r => r.2.1) hf; simp only at this; omega
  ·rename_i h2
   simp only at hf
   split at hf
   ·have := congrArg (fun r => r.2.1) hf; simp only at this; omega
   ·rename_i h3
    obtain ⟨a0, ha0⟩ : ∃ a0, a0 = R.read (pdeOf c lin) 4 := ⟨_, rfl⟩
    rw [← ha0] at hf h1 h2 h3
    obtain ⟨b0, hb0⟩ : ∃ b0, b0 = R.read (pteOf a0 lin) 4 := ⟨_, rfl⟩
    rw [← hb0] at hf h2 h3
    have ha0l : a0 < 4294967296 := by rw [ha0]; exact RS.read_lt h.ok _ 4
    have hP := pde_lt c lin hc hl
    have hT := pte_lt a0 lin ha0l
    simp only [Prod.mk.injEq, true_and] at hf
    obtain ⟨hx1, hR⟩ := hf
    subst hx1
    obtain ⟨w1, w2⟩ := h.marks_same (pdeOf c lin) (pteOf a0 lin) hP (pde_4 _ _) hT (pte_4 _ _) (if wr then 96 else 32) (by split <;> decide) (by split <;> decide)
    rw [hR] at w1 w2
    have sa := w2 (pdeOf c lin) hP (pde_4 _ _)
    have sb := w2 (pteOf a0 lin) hT (pte_4 _ _)
    rw [← ha0] at sa
    rw [← hb0] at sb
    simp only at ha hb hx
    refine ⟨w1, ?_⟩
    show Good c (lin / 4096) wr us wp _ (R'.read (pdeOf c lin) 4) (R'.read (pteOf a0 lin) 4)
    generalize R'.read (pdeOf c lin) 4 = a at *
    generalize R'.read (pteOf a0 lin) 4 = b at *
    intro Q lin' hlin hqa hqb
    simp only at hqa hqb
    have eP : pdeOf c lin' = pdeOf c lin := pde_same c hlin
    have eT : pteOf a lin' = pteOf a0 lin := by unfold pteOf; rw [hlin, sa.1]
    have a2 : a % 2 = a0 % 2 := by have := sa.2; omega
    have b2 : b % 2 = b0 % 2 := by have := sb.2; omega
    have aw : a / 2 % 2 = a0 / 2 % 2 := by have := sa.2; omega
    have bw : b / 2 % 2 = b0 / 2 % 2 := by have := sb.2; omega
    have au : a / 4 % 2 = a0 / 4 % 2 := by have := sa.2; omega
    have bu : b / 4 % 2 = b0 / 4 % 2 := by have := sb.2; omega
    unfold find
    simp only [eP, hqa, eT, hqb]
    rw [if_neg (by rw [a2]; exact h1), if_neg (by rw [b2]; exact h2)]
    rw [aw, bw, au, bu, if_neg h3, hx]
    have m1 : Q.mark (pdeOf c lin) 32 = Q := mark_none _ _ (by rw [hqa]; exact or_of_and ha)
    rw [m1]
    have m2 : Q.mark (pteOf a0 lin) (if wr = true then 96 else 32) = Q := mark_none _ _ (by rw [hqb]; exact or_of_and hb)
    rw [m2]
end Go.Proofs.YtmpcafdgkbpneaaGreat

/- A slice that starts anywhere in a block of the call's own: appended to, resliced. -/
namespace Go.Proofs.YtmpcafdgkbpneaaGreat
open Go.RowKit
set_option linter.unusedVariables false

def puts (cur : Array Value) : Nat → List Value → Array Value
 | _, [] => cur
 | k, v :: vs => puts (cur.setIfInBounds k v) (k + 1) vs
theorem puts_size (vs : List Value) : ∀ (k : Nat) (cur : Array Value), (puts cur k vs).size = cur.size := by
 induction vs with
 | nil => intro k cur; rfl
 | cons v vs ih => intro k cur; show (puts _ _ vs).size = _; rw [ih]; simp
theorem puts_at (vs : List Value) : ∀ (k : Nat) (cur : Array Value), k + vs.length ≤ cur.size → ∀ i, (puts cur k vs)[i]? = if k ≤ i ∧ i < k + vs.length then vs[i - k]? else cur[i]? := by
 induction vs with
 | nil => intro k cur _ i; rw [if_neg (by simp only [List.length_nil]; omega)]; rfl
 | cons v vs ih =>
  intro k cur h i
  have hl : (v :: vs).length = vs.length + 1 := rfl
  show (puts (cur.setIfInBounds k v) (k + 1) vs)[i]? = _
  rw [ih (k + 1) _ (by simp; omega) i, Array.getElem?_setIfInBounds]
  by_cases e : i = k
  ·subst e
   rw [if_neg (by omega), if_pos rfl, if_pos (by omega), if_pos (by omega), Nat.sub_self]; rfl
  ·by_cases e2 : k + 1 ≤ i ∧ i < k + 1 + vs.length
   ·rw [if_pos e2, if_pos (by omega), show i - k = (i - (k + 1)) + 1 by omega, List.getElem?_cons_succ]
   ·rw [if_neg e2, if_neg (fun x => e x.symm), if_neg (by omega)]
theorem setCells_heap (b : Nat) {T : TypeId} {fz : Nat × Nat} (vs : List Value) : ∀ (k : Nat) (w : World) (cur : Array Value), w.heap[b]? = some (.cells cur T fz) → (w.setCells b k vs).heap[b]? = some (.cells (puts cur k vs) T fz) := by
 induction vs with
 | nil => intro k w cur h; exact h
 | cons v vs ih => intro k w cur h; exact ih (k + 1) _ _ (heap_set_same v h)
theorem setCells_keeps (b : Nat) (vs : List Value) : ∀ (k : Nat) (w : World), Keeps (· = b) w (w.setCells b k vs) := by
 induction vs with
 | nil => intro k w; exact Keeps.refl _ _
 | cons v vs ih => intro k w; exact ((Keeps.refl (· = b) w).setOne k v).trans (ih (k + 1) _)

def RowC (w : World) (e : TypeId) (size : Nat) (v : Value) (n : Nat) (xs : List Value) : Prop :=
 xs.length = n * size ∧ ((v = .slice none 0 0 ∧ n = 0) ∨ ∃ g o cap cur, v = .slice (some ⟨g, o, none⟩) n cap ∧ w.heap[g]? = some (.cells cur e (0, 0)) ∧ n ≤ cap ∧ cap ≤ maxLen ∧ o + cap * size ≤ cur.size ∧ ∀ j, j < n * size → cur[o + j]? = xs[j]?)
section
variable {w w' : World} {e : TypeId} {size : Nat} {v : Value} {n : Nat} {xs : List Value}
theorem RowC.nil (w : World) (e : TypeId) (size : Nat) : RowC w e size (.slice none 0 0) 0 [] := ⟨by simp, .inl ⟨rfl, rfl⟩⟩
theorem RowC.own {B : Nat} (h : w.ownsRow B e size v n xs) : RowC w e size v n xs := by
 refine ⟨h.1, h.2.imp id ?_⟩
 rintro ⟨g, cap, cur, rfl, hb, hg, h1, h2, h3, h4⟩
 refine ⟨g, 0, cap, cur, rfl, hg, h1, h2, by omega, fun j hj => ?_⟩
 rw [Nat.zero_add, ← h4, List.getElem?_take, if_pos hj, Array.getElem?_toList]
theorem RowC.len (h : RowC w e size v n xs) : ∃ a c, v = .slice a n c := by
 rcases h.2 with ⟨rfl, rfl⟩ | ⟨g, o, cap, cur, rfl, _⟩
 ·exact ⟨_, _, rfl⟩
 ·exact ⟨_, _, rfl⟩
theorem RowC.lt (h : RowC w e size v n xs) {k : Nat} (hk : v.ownBlock = some k) : k < w.heap.size := by
 rcases h.2 with ⟨rfl, rfl⟩ | ⟨g, o, cap, cur, rfl, hg, _⟩
 ·cases hk
 ·injection hk with hk; subst hk; exact heap_lt hg
theorem RowC.block (h : RowC w e size v n xs) {k : Nat} (hk : v.ownBlock = some k) : ∃ cur, w.heap[k]? = some (.cells cur e (0, 0)) := by
 rcases h.2 with ⟨rfl, rfl⟩ | ⟨g, o, cap, cur, rfl, hg, _⟩
 ·cases hk
 ·injection hk with hk; subst hk; exact ⟨_, hg⟩
theorem RowC.of_heap (h : RowC w e size v n xs) (hh : ∀ k, v.ownBlock = some k → w'.heap[k]? = w.heap[k]?) : RowC w' e size v n xs := by
 refine ⟨h.1, h.2.imp id ?_⟩
 rintro ⟨g, o, cap, cur, rfl, hg, r⟩
 exact ⟨g, o, cap, cur, rfl, by rw [hh g rfl]; exact hg, r⟩
theorem RowC.alloc (h : RowC w e size v n xs) (o : Obj) : RowC (w.alloc o) e size v n xs := h.of_heap fun k hk => Below.heap_alloc _ _ _ (h.lt hk)
end
section
variable {P : Program} {w : World} {e : TypeId} {v : Value} {n : Nat} {xs : List Value}
theorem run_append_c (t ty : TypeId) (i : TypeInfo) (z : Value) (size bytes : Nat) (ht : P.underlying t = some (.slice e)) (hi : P.info? e = some i) (hz : i.zero = some z) (hsize : i.size = size) (hby : i.bytes = bytes) (hzs : z.cells.size = size) (hsz : 0 < size)
    (h : RowC w e size v n xs) (a : Addr) (c : Nat) (news : List Value) (hl : news.length = 1 * size) (hnews : ∀ j u, news[j]? = some u → w.cell? (a.add j) = some u) (h1 : ∀ u ∈ news, u.oneCell' = true) (hm : n + 1 ≤ maxLen) (hb : (n + 1) * bytes ≤ 140737488355328) :
    ∃ v' w', (Builtin.append_ #[t, t] ty #[v, .slice (some a) 1 c]).run P w = .ok v' w' ∧ RowC w' e size v' (n + 1) (xs ++ news) ∧ w.grownBy w' v.ownBlock ∧ ∀ k, v'.ownBlock = some k → v.ownBlock = some k ∨ w.heap.size ≤ k := by
 rcases h.2 with ⟨rfl, rfl⟩ | ⟨g, o, cap, cur, rfl, hg, h2, h3, h4, h5⟩
 ·have hx : xs = [] := List.eq_nil_of_length_eq_zero (by rw [h.1]; simp)
  subst hx
  obtain ⟨v', w', hr, r1, r2, r3, r4⟩ := run_append_own_at (P := P) w w.heap.size t ty e i z size bytes ht hi hz hsize hby hzs hsz _ 0 [] (World.ownsRow_nil w w.heap.size e size) a 1 c news hl hnews h1 hm hb (Nat.le_refl _)
  exact ⟨v', w', hr, RowC.own r1, r2, fun k hk => .inr (World.ownsRow.lt r1 k hk).1⟩
 ·by_cases hroom : n + 1 ≤ cap
  ·have hnl : news.length = size := by omega
   have hle : (n + 1) * size ≤ cap * size := Nat.mul_le_mul_right _ hroom
   rw [Nat.add_mul, Nat.one_mul] at hle
   have hfree : ∀ j, w.frozen? ⟨g, j, none⟩ = false := fun j => free_at hg
   subst hsize
   have hrun := run_append_room_cells (P := P) w t ty e i ht hi g o n cap a 1 c news hl hnews h1 hroom
    (fun j hj => by rw [cell_at hg, Array.getElem?_eq_getElem (by omega)]; rfl) (fun j _ => hfree _)
   refine ⟨_, _, hrun, ⟨by rw [List.length_append, h.1, hl, Nat.add_mul], .inr ⟨g, o, cap, _, rfl, setCells_heap g news _ w cur hg, hroom, h3, by rw [puts_size]; exact h4, fun j hj => ?_⟩⟩, ?_, fun k hk => .inl hk⟩
   ·rw [puts_at _ _ _ (by omega)]
    rw [Nat.add_mul, Nat.one_mul] at hj
    by_cases e1 : j < n * i.size
    ·rw [if_neg (by omega), List.getElem?_append_left (by rw [h.1]; exact e1)]; exact h5 j e1
    ·rw [if_pos (by omega), List.getElem?_append_right (by rw [h.1]; omega), h.1]
     congr 1; omega
   ·have K := setCells_keeps g news (o + n * i.size) w
    exact ⟨K.os, K.tape, K.output, K.size, fun k hk hne => K.block k hk fun e => hne (by rw [e]; rfl)⟩
  ·have holds : ∀ j u, xs[j]? = some u → w.cell? ((⟨g, o, none⟩ : Addr).add j) = some u := fun j u hj => by
     have hlt : j < n * size := by rw [← h.1]; exact (List.getElem?_eq_some_iff.1 hj).1
     rw [Go.WideShapes.add_plain, cell_at hg, h5 j hlt]; exact hj
   obtain ⟨v', w', hr, r1, r2⟩ := run_append_arg_grows (P := P) w t ty e i z size bytes ht hi hz hsize hby hzs hsz ⟨g, o, none⟩ n cap xs h.1 holds a 1 c news hl hnews (by omega) hm hb
   exact ⟨v', w', hr, RowC.own r1, ⟨r2.os, r2.tape, r2.output, r2.size, fun k hk _ => r2.block k hk (by simp)⟩, fun k hk => .inr (World.ownsRow.lt r1 k hk).1⟩
theorem run_tail_c (t : TypeId) (size : Nat) (ht : P.underlying t = some (.slice e)) (hs : (sizeOf e).run P w = .ok size w) (h : RowC w e size v (n + 1) xs) :
    ∃ v', (Instr.slice t v (some (.int .i64 1)) none none).run P w = .ok v' w ∧ RowC w e size v' n (xs.drop size) ∧ ∀ k, v'.ownBlock = some k → v.ownBlock = some k := by
 rcases h.2 with ⟨rfl, h0⟩ | ⟨g, o, cap, cur, rfl, hg, h2, h3, h4, h5⟩
 ·cases h0
 ·have hl : (xs.drop size).length = n * size := by rw [List.length_drop, h.1, Nat.add_mul, Nat.one_mul]; omega
  have hdrop : ∀ j, j < n * size → cur[o + size + j]? = (xs.drop size)[j]? := fun j hj => by
   rw [List.getElem?_drop, Nat.add_assoc]
   exact h5 (size + j) (by rw [Nat.add_mul, Nat.one_mul]; omega)
  by_cases hc : cap = 1
  ·subst hc
   have hn : n = 0 := by omega
   subst hn
   refine ⟨.slice (some ⟨g, o, none⟩) 0 0, ?_, ⟨hl, .inr ⟨g, o, 0, cur, rfl, hg, Nat.le_refl _, Nat.zero_le _, by omega, fun j hj => by omega⟩⟩, fun k hk => hk⟩
   simp [Instr.slice, run_underlying ht, Result.andThen, Instr.sliceBounds, Instr.sliceBound, asIntOf, hs]
  ·have hle : (1 : Int) ≤ (n : Int) + 1 := by omega
   have hne : ¬ cap = 1 := hc
   refine ⟨.slice (some ⟨g, o + size, none⟩) n (cap - 1), ?_, ⟨hl, .inr ⟨g, o + size, cap - 1, cur, rfl, hg, by omega, by omega, ?_, fun j hj => hdrop j hj⟩⟩, fun k hk => hk⟩
   ·have ha : (⟨g, o, none⟩ : Addr).add size = ⟨g, o + size, none⟩ := Go.WideShapes.add_plain _ _ _
    simp [Instr.slice, run_underlying ht, Result.andThen, Instr.sliceBounds, Instr.sliceBound, asIntOf, hs, hne, ha, hle]
   ·obtain ⟨c, rfl⟩ : ∃ c, cap = c + 1 := ⟨cap - 1, by omega⟩
    rw [Nat.add_mul, Nat.one_mul] at h4
    rw [Nat.add_sub_cancel]; omega
end
end Go.Proofs.YtmpcafdgkbpneaaGreat

/- tlb: the keeper's object; the words of a walk; New, Kept, Flush. -/
namespace Go.Proofs.YtmpcafdgkbpneaaGreat
open Go.RowKit Go.MapKept
set_option linter.unusedVariables false

theorem Ram.of_heap {w w' : World} {b : Nat} {S : Nat → Prop} {R : RS} (H : Ram w b S R) (h : ∀ k, S k → w'.heap[k]? = w.heap[k]?) : Ram w' b S R := by
 obtain ⟨bp, bo, bw, bn, pg, HI, hs⟩ := H
 exact ⟨bp, bo, bw, bn, pg, HI.of_heap fun k hk => h k ((hs k).2 hk), hs⟩
structure Ent where
 x : WalkR
 a : Nat
 b : Nat
def Ent.val (e : Ent) : Value := .agg #[.int .u32 (e.x.frame : Nat), .int .u32 (e.x.pde : Nat), .int .u32 (e.x.pte : Nat), .bool e.x.w, .bool e.x.u, .int .u32 (e.a : Nat), .int .u32 (e.b : Nat)]
def PKey.cells (K : PKey) : List Value := [.int .u32 (K.c : Nat), .int .u32 (K.p : Nat), .bool K.wr, .bool K.us, .bool K.wp]
def keysV (L : List PKey) : List Value := L.flatMap PKey.cells
theorem keysV_len (L : List PKey) : (keysV L).length = L.length * 5 := by
 induction L with
 | nil => rfl
 | cons K L ih =>
  have : keysV (K :: L) = K.cells ++ keysV L := rfl
  rw [this, List.length_append, ih]
  show 5 + _ = (L.length + 1) * 5
  omega
theorem keysV_snoc (L : List PKey) (K : PKey) : keysV (L ++ [K]) = keysV L ++ K.cells := by unfold keysV; simp
structure TlbIn (w : World) (t rb mb : Nat) (S : Nat → Prop) (ov : Value) (places cnt : Nat) (all : PKey → Option Ent) (order : List PKey) (R : RS) : Prop where
 obj : w.heap[t]? = some (.cells #[.pointer (some ⟨rb, 0, none⟩), .int .i64 (places : Nat), .map (some mb), ov] 231)
 ram : Ram w rb S R
 map : MapK w mb PKey.val (fun K => (all K).map Ent.val) cnt
 ord : RowC w 312 5 ov order.length (keysV order)
 sub : ∀ K e, all K = some e → K ∈ order
 good : ∀ K e, all K = some e → e.x.pde < 4294967296 ∧ e.x.pte < 4294967296 ∧ Good K.c K.p K.wr K.us K.wp e.x e.a e.b
 c1 : cnt ≤ places
 c2 : places ≤ 64
 wide : Wide R
 d1 : ¬ S t
 d2 : ¬ S mb
 d3 : ∀ k, ov.ownBlock = some k → ¬ S k
def THeld (t mb : Nat) (S : Nat → Prop) (ov : Value) (k : Nat) : Prop := k = t ∨ k = mb ∨ ov.ownBlock = some k ∨ S k
section
variable {w w' : World} {t rb mb places cnt : Nat} {S : Nat → Prop} {ov : Value} {all : PKey → Option Ent} {order : List PKey} {R : RS}
theorem TlbIn.t_m (H : TlbIn w t rb mb S ov places cnt all order R) : t ≠ mb := by
 rintro rfl
 obtain ⟨es, clock, hb, _⟩ := H.map
 rw [H.obj] at hb; cases hb
theorem TlbIn.t_o (H : TlbIn w t rb mb S ov places cnt all order R) : ov.ownBlock ≠ some t := by
 intro h
 obtain ⟨cur, hc⟩ := H.ord.block h
 rw [H.obj] at hc
 simp at hc
theorem TlbIn.m_o (H : TlbIn w t rb mb S ov places cnt all order R) : ov.ownBlock ≠ some mb := by
 intro h
 obtain ⟨cur, hc⟩ := H.ord.block h
 obtain ⟨es, clock, hb, _⟩ := H.map
 rw [hb] at hc; cases hc
theorem TlbIn.lt (H : TlbIn w t rb mb S ov places cnt all order R) {k : Nat} (h : THeld t mb S ov k) : k < w.heap.size := by
 rcases h with rfl | rfl | h | h
 ·exact heap_lt H.obj
 ·exact H.map.lt
 ·exact H.ord.lt h
 ·exact H.ram.lt h
theorem TlbIn.of_heap (H : TlbIn w t rb mb S ov places cnt all order R) (h : ∀ k, THeld t mb S ov k → w'.heap[k]? = w.heap[k]?) : TlbIn w' t rb mb S ov places cnt all order R :=
 ⟨by rw [h t (.inl rfl)]; exact H.obj, H.ram.of_heap fun k hk => h k (.inr (.inr (.inr hk))), H.map.of_heap (h mb (.inr (.inl rfl))), H.ord.of_heap fun k hk => h k (.inr (.inr (.inl hk))), H.sub, H.good, H.c1, H.c2, H.wide, H.d1, H.d2, H.d3⟩
theorem TlbIn.keeps {Q : Nat → Prop} (H : TlbIn w t rb mb S ov places cnt all order R) (hk : Keeps Q w w') (hn : ∀ k, THeld t mb S ov k → ¬ Q k) : TlbIn w' t rb mb S ov places cnt all order R :=
 H.of_heap fun k h => hk.block k (H.lt h) (hn k h)
theorem TlbIn.alloc (H : TlbIn w t rb mb S ov places cnt all order R) (o : Obj) : TlbIn (w.alloc o) t rb mb S ov places cnt all order R := H.of_heap fun k hk => Below.heap_alloc _ _ _ (H.lt hk)
theorem TlbIn.drewN (H : TlbIn w t rb mb S ov places cnt all order R) (n : Nat) : TlbIn (w.drewN n) t rb mb S ov places cnt all order R := H.of_heap fun _ _ => rfl
theorem TlbIn.below (H : TlbIn w t rb mb S ov places cnt all order R) (hb : Below w.heap.size w w') : TlbIn w' t rb mb S ov places cnt all order R := H.of_heap fun k hk => hb.block k (H.lt hk)
theorem TlbIn.facts (H : TlbIn w t rb mb S ov places cnt all order R) :
    w.cell? ⟨t, 0, none⟩ = some (.pointer (some ⟨rb, 0, none⟩)) ∧ w.cell? ⟨t, 1, none⟩ = some (.int .i64 (places : Nat)) ∧ w.cell? ⟨t, 2, none⟩ = some (.map (some mb)) ∧ w.cell? ⟨t, 3, none⟩ = some ov ∧ (∀ k, w.frozen? ⟨t, k, none⟩ = false) ∧ t < w.heap.size := by
 have h := H.obj
 refine ⟨?_, ?_, ?_, ?_, fun k => free_at h, heap_lt h⟩ <;> (rw [cell_at h]; rfl)
theorem words_any (H : TlbIn w t rb mb S ov places cnt all order R) (x : WalkR) (hp : x.pde < 4294967296) (ht : x.pte < 4294967296) :
    Calls Tryz.prog 201 #[.pointer (some ⟨t, 0, none⟩), x.val] w fun e w' => e = .returned (.tuple #[.int .u32 (R.read x.pde 4 : Nat), .int .u32 (R.read x.pte 4 : Nat)]) ∧ Below w.heap.size w w' := by
 obtain ⟨k0, -, -, -, kf, kl⟩ := H.facts
 obtain ⟨o, ho⟩ : ∃ o, o = Obj.cells #[.int .u32 (x.frame : Nat), .int .u32 (x.pde : Nat), .int .u32 (x.pte : Nat), .bool x.w, .bool x.u] 287 := ⟨_, rfl⟩
 have HO := Lib.hid (heap_new w o)
 have HT := Lib.hid (H.alloc o)
 have HB := Lib.hid ((Below.refl w.heap.size w).alloc (Nat.le_refl _) o)
 clear H
 unfold WalkR.val
 go_enter Tryz.func201, Tryz.ntmps201
 go_wp2_with fail
 rw [← ho]
 generalize w.alloc o = w1 at *
 generalize hg : w.heap.size = g at *
 have HG := Lib.hid hg
 clear k0 kf kl hg
 obtain ⟨k0, -, -, -, kf, kl⟩ := HT.out.facts
 have hO := HO.out
 rw [ho] at hO
 have z1 := cell_at (k := 1) hO
 have z2 := cell_at (k := 2) hO
 have zl := heap_lt hO
 simp at z1 z2
 clear hO
 go_quiet ((go_at_call 13; exact Calls.quiet_of (read_4 (HT.out.ram.drewN _) x.pde hp)))
 have HT2 := Lib.hid (HT.out.drewN nq)
 have HB2 := Lib.hid (below_dn HB.out nq)
 have y2 : (w1.drewN nq).cell? ⟨g, 2, none⟩ = _ := z2
 have yl : g < (w1.drewN nq).heap.size := zl
 generalize w1.drewN nq = w2 at *
 clear k0 kf kl z1 z2 zl
 obtain ⟨k0, -, -, -, kf, kl⟩ := HT2.out.facts
 go_wp2_with fail
 go_quiet ((go_at_call 13; exact Calls.quiet_of (read_4 (HT2.out.ram.drewN _) x.pte ht)))
 go_wp2_with fail
 go_ret2
 exact ⟨rfl, by rw [HG.out]; exact below_dn HB2.out nq⟩
theorem tnew_any {b : Nat} (H : Ram w b S R) (hw : Wide R) (n : Nat) (hn : n ≤ 64) : Calls Tryz.prog 73 #[.pointer (some ⟨b, 0, none⟩), .int .i64 (n : Nat)] w fun e w' => e = .returned (.tuple #[.pointer (some ⟨w.heap.size + 1, 0, none⟩), .int .i64 0]) ∧
    TlbIn w' (w.heap.size + 1) b w.heap.size S (.slice none 0 0) n 0 (fun _ => none) [] R ∧ Below w.heap.size w w' := by
 have hs : ∀ k, S k → k < w.heap.size := fun k hk => H.lt hk
 have hmm : ∀ (t : TypeId) (w : World), (Instr.makeMap t none).run Tryz.prog w = .ok (.map (some w.heap.size)) (w.alloc (.map #[] 0)) := fun t w => by simp [Instr.makeMap, Result.andThen]
 have h0 : ¬ (n : Int) < 0 := by omega
 have h1 : ¬ 64 < (n : Int) := by omega
 go_enter Tryz.func73, Tryz.ntmps73
 go_wp2_with fail
 go_ret2
 refine ⟨rfl, ⟨by rw [show w.heap.size + 1 = (w.alloc (.map #[] 0)).heap.size by simp]; exact heap_new _ _, (H.alloc _).alloc _, (MapK.new w PKey.val).alloc _, RowC.nil _ _ _, (fun K e h => by cases h), (fun K e h => by cases h), Nat.zero_le _, hn, hw, fun h => ?_, fun h => ?_, (fun k h => by cases h)⟩, ((Below.refl _ _).alloc (Nat.le_refl _) _).alloc (by simp) _⟩
 ·have := hs _ h; omega
 ·have := hs _ h; omega
end
end Go.Proofs.YtmpcafdgkbpneaaGreat

/- tlb, in plain words: what a walk leaves; a keeper between its map and its row of keys. -/
namespace Go.Proofs.YtmpcafdgkbpneaaGreat
open Go.RowKit Go.MapKept
set_option linter.unusedVariables false

theorem find_parts {R : RS} (h : Wide R) {c lin : Nat} (hc : c < 4294967296) (hl : lin < 4294967296) {wr us wp : Bool} {x : WalkR} {cd : Int} {R' : RS} (hf : find R c lin wr us wp = (x, cd, R')) :
    Wide R' ∧ x.pde < 4294967296 ∧ x.pte < 4294967296 ∧ (cd = -1 ∨ 0 ≤ cd) := by
 have hcode : 0 ≤ codeOf wr us := by unfold codeOf; (repeat' split) <;> decide
 unfold find at hf
 split at hf
 ·obtain ⟨rfl, hf2⟩ := Prod.mk.inj hf
  obtain ⟨rfl, rfl⟩ := Prod.mk.inj hf2
  exact ⟨h, by decide, by decide, .inr hcode⟩
 ·split at hf
  ·obtain ⟨rfl, hf2⟩ := Prod.mk.inj hf
   obtain ⟨rfl, rfl⟩ := Prod.mk.inj hf2
   exact ⟨h, by decide, by decide, .inr hcode⟩
  ·simp only at hf
   split at hf
   ·obtain ⟨rfl, hf2⟩ := Prod.mk.inj hf
    obtain ⟨rfl, rfl⟩ := Prod.mk.inj hf2
    exact ⟨h, by decide, by decide, .inr (by omega)⟩
   ·have ha0l : R.read (pdeOf c lin) 4 < 4294967296 := RS.read_lt h.ok _ 4
    generalize R.read (pdeOf c lin) 4 = a0 at *
    have hP := pde_lt c lin hc hl
    have hT := pte_lt a0 lin ha0l
    have w1 := (h.marks_same (pdeOf c lin) (pteOf a0 lin) hP (pde_4 _ _) hT (pte_4 _ _) (if wr then 96 else 32) (by split <;> decide) (by split <;> decide)).1
    obtain ⟨rfl, hf2⟩ := Prod.mk.inj hf
    obtain ⟨rfl, rfl⟩ := Prod.mk.inj hf2
    exact ⟨w1, hP, hT, .inl rfl⟩
section
variable {w w' : World} {t rb mb places cnt : Nat} {S S' : Nat → Prop} {ov : Value} {all : PKey → Option Ent} {order : List PKey} {R R' : RS}
theorem TlbIn.found (H : TlbIn w t rb mb S ov places cnt all order R) (hR : Ram w' rb S' R') (hM : Moves S S' w w') (hw : Wide R') : TlbIn w' t rb mb S' ov places cnt all order R' := by
 have hlt : ∀ k, THeld t mb S ov k → k < w.heap.size := fun k hk => H.lt hk
 have hn : ∀ k, k < w.heap.size → ¬ S k → ¬ S' k := fun k hk hs h => by
  rcases hM.2 k h with h | h
  ·exact hs h
  ·omega
 have hb : ∀ k, k < w.heap.size → ¬ S k → w'.heap[k]? = w.heap[k]? := fun k hk hs => hM.1.block k hk hs
 have ht := hlt t (.inl rfl)
 have hm := hlt mb (.inr (.inl rfl))
 exact ⟨by rw [hb t ht H.d1]; exact H.obj, hR, H.map.of_heap (hb mb hm H.d2), H.ord.of_heap fun k hk => hb k (H.ord.lt hk) (H.d3 k hk), H.sub, H.good, H.c1, H.c2, hw,
  hn t ht H.d1, hn mb hm H.d2, fun k hk => hn k (H.ord.lt hk) (H.d3 k hk)⟩
structure TlbPre (w : World) (t rb mb : Nat) (S : Nat → Prop) (ov : Value) (places cnt : Nat) (all : PKey → Option Ent) (order : List PKey) (R : RS) (K : PKey) : Prop where
 obj : w.heap[t]? = some (.cells #[.pointer (some ⟨rb, 0, none⟩), .int .i64 (places : Nat), .map (some mb), ov] 231)
 ram : Ram w rb S R
 map : MapK w mb PKey.val (fun K => (all K).map Ent.val) cnt
 ord : RowC w 312 5 ov order.length (keysV order)
 sub : ∀ L e, all L = some e → L ∈ order ++ [K]
 good : ∀ K e, all K = some e → e.x.pde < 4294967296 ∧ e.x.pte < 4294967296 ∧ Good K.c K.p K.wr K.us K.wp e.x e.a e.b
 c1 : cnt ≤ places
 c2 : places ≤ 64
 wide : Wide R
 d1 : ¬ S t
 d2 : ¬ S mb
 d3 : ∀ k, ov.ownBlock = some k → ¬ S k
 tm : t ≠ mb
 to : ov.ownBlock ≠ some t
 mo : ov.ownBlock ≠ some mb
theorem TlbIn.put (H : TlbIn w t rb mb S ov places cnt all order R) (hlt : cnt < places) {K : PKey} {e : Ent} {n' : Nat} (M : MapK w' mb PKey.val (fun m => if m = K then some e.val else (all m).map Ent.val) n') (hn : n' ≤ cnt + 1) (hk : Keeps (fun k => k = mb) w w')
    (hg : e.x.pde < 4294967296 ∧ e.x.pte < 4294967296 ∧ Good K.c K.p K.wr K.us K.wp e.x e.a e.b) :
    TlbPre w' t rb mb S ov places n' (fun m => if m = K then some e else all m) order R K := by
 have h : ∀ k, THeld t mb S ov k → k ≠ mb → w'.heap[k]? = w.heap[k]? := fun k hk' hne => hk.block k (H.lt hk') hne
 have e1 : (fun m => if m = K then some e.val else (all m).map Ent.val) = fun m => (if m = K then some e else all m).map Ent.val := by funext m; split <;> rfl
 refine ⟨by rw [h t (.inl rfl) H.t_m]; exact H.obj, H.ram.of_heap fun k hs => h k (.inr (.inr (.inr hs))) fun e => H.d2 (by rw [← e]; exact hs), by rw [← e1]; exact M,
  H.ord.of_heap fun k ho => h k (.inr (.inr (.inl ho))) fun e => H.m_o (by rw [← e]; exact ho), fun L e hL => ?_, fun L e hL => ?_, by omega, H.c2, H.wide, H.d1, H.d2, H.d3, H.t_m, H.t_o, H.m_o⟩
 ·split at hL
  ·rename_i e; subst e; simp
  ·exact List.mem_append_left _ (H.sub L e hL)
 ·split at hL
  ·rename_i e2; subst e2
   cases hL; exact hg
  ·exact H.good L e hL
theorem TlbPre.drewN {K : PKey} (H : TlbPre w t rb mb S ov places cnt all order R K) (n : Nat) : TlbPre (w.drewN n) t rb mb S ov places cnt all order R K :=
 ⟨H.obj, H.ram.drewN n, H.map.drewN n, H.ord.of_heap fun _ _ => rfl, H.sub, H.good, H.c1, H.c2, H.wide, H.d1, H.d2, H.d3, H.tm, H.to, H.mo⟩
theorem TlbPre.facts {K : PKey} (H : TlbPre w t rb mb S ov places cnt all order R K) :
    w.cell? ⟨t, 0, none⟩ = some (.pointer (some ⟨rb, 0, none⟩)) ∧ w.cell? ⟨t, 1, none⟩ = some (.int .i64 (places : Nat)) ∧ w.cell? ⟨t, 2, none⟩ = some (.map (some mb)) ∧ w.cell? ⟨t, 3, none⟩ = some ov ∧ (∀ k, w.frozen? ⟨t, k, none⟩ = false) ∧ t < w.heap.size := by
 have h := H.obj
 refine ⟨?_, ?_, ?_, ?_, fun k => free_at h, heap_lt h⟩ <;> (rw [cell_at h]; rfl)
theorem TlbIn.pop {K0 : PKey} (H : TlbIn w t rb mb S ov places cnt all (K0 :: order) R) {n' : Nat} {ov' : Value} (M : MapK w' mb PKey.val (fun m => if m = K0 then none else (all m).map Ent.val) n') (hn : n' ≤ places) (hk : Keeps (fun k => k = mb) w w')
    (ho : RowC w' 312 5 ov' order.length (keysV order)) (hsub : ∀ k, ov'.ownBlock = some k → ov.ownBlock = some k) :
    TlbIn (w'.setCell ⟨t, 3, none⟩ ov') t rb mb S ov' places n' (fun m => if m = K0 then none else all m) order R := by
 have h : ∀ k, THeld t mb S ov k → k ≠ mb → w'.heap[k]? = w.heap[k]? := fun k hk' hne => hk.block k (H.lt hk') hne
 have hne : ∀ j, j ≠ t → (w'.setCell ⟨t, 3, none⟩ ov').heap[j]? = w'.heap[j]? := fun j h => heap_set_other _ h
 have e1 : (fun m => if m = K0 then none else (all m).map Ent.val) = fun m => (if m = K0 then none else all m).map Ent.val := by funext m; split <;> rfl
 have hobj : w'.heap[t]? = _ := (h t (.inl rfl) H.t_m).trans H.obj
 refine ⟨by rw [heap_set_map, hobj]; rfl, H.ram.of_heap fun k hs => (hne k fun e => H.d1 (by rw [← e]; exact hs)).trans (h k (.inr (.inr (.inr hs))) fun e => H.d2 (by rw [← e]; exact hs)), by rw [← e1]; exact M.of_heap (hne mb H.t_m.symm),
  ho.of_heap fun k hk' => hne k fun e => H.t_o (by rw [← e]; exact hsub k hk'), fun L e hL => ?_, fun L e hL => ?_, hn, H.c2, H.wide, H.d1, H.d2, fun k hk' => H.d3 k (hsub k hk')⟩
 ·split at hL
  ·cases hL
  ·rename_i e2
   rcases List.mem_cons.1 (H.sub L e hL) with h | h
   ·exact absurd h e2
   ·exact h
 ·split at hL
  ·cases hL
  ·exact H.good L e hL
theorem infoKey : (Tryz.prog.info? 312).map (fun i => (i.zero, i.size, i.bytes)) = some (some (.agg #[.int .u32 0, .int .u32 0, .bool false, .bool false, .bool false]), 5, 12) := by kernel_rfl
theorem key_new (w : World) (T : TypeId) (K : PKey) : ∀ j u, K.cells[j]? = some u → (w.alloc (.cells K.cells.toArray T)).cell? ((⟨w.heap.size, 0, none⟩ : Addr).add j) = some u := fun j u h => by
 rw [Go.WideShapes.add_plain, cell_at (heap_new w _)]
 simpa using h
theorem key_one (K : PKey) : ∀ u ∈ K.cells, u.oneCell' = true := fun u h => by
 simp only [PKey.cells, List.mem_cons, List.not_mem_nil, or_false] at h
 rcases h with rfl | rfl | rfl | rfl | rfl <;> rfl
theorem append_key {K : PKey} (H : TlbPre w t rb mb S ov places cnt all order R K) (hL : (order.length + 1) * 12 ≤ 140737488355328) (ty : TypeId) :
    ∃ v6 w6, (Builtin.append_ #[229, 229] ty #[ov, .slice (some ⟨w.heap.size, 0, none⟩) 1 1]).run Tryz.prog (w.alloc (.cells K.cells.toArray 312)) = .ok v6 w6 ∧ w6.cell? ⟨t, 3, none⟩ = some ov ∧
     (∀ k, w6.frozen? ⟨t, k, none⟩ = false) ∧ t < w6.heap.size ∧ (∃ a n c, v6 = .slice a n c) ∧ Hid (TlbIn (w6.setCell ⟨t, 3, none⟩ v6) t rb mb S v6 places cnt all (order ++ [K]) R) ∧ Hid (Keeps (THeld t mb S ov) w (w6.setCell ⟨t, 3, none⟩ v6) ∧ ∀ k, (v6 : Value).ownBlock = some k → ov.ownBlock = some k ∨ w.heap.size ≤ k) := by
 obtain ⟨i0, hi, hz0, hz1, hz2⟩ := info_parts infoKey
 have hlenT := keysV_len order
 obtain ⟨v6, w6, hrun, hown, hgrow, hat⟩ := run_append_c (P := Tryz.prog) (w := w.alloc (.cells K.cells.toArray 312)) 229 ty i0 _ 5 12 Tryz.underlying229 hi hz0 hz1 hz2 (by rfl) (by decide)
  (H.ord.alloc _) ⟨w.heap.size, 0, none⟩ 1 K.cells (by rfl) (key_new w _ K) (key_one K) (by unfold maxLen; omega) (by omega)
 have hsz : (w.alloc (.cells K.cells.toArray 312)).heap.size = w.heap.size + 1 := by simp
 have htl := heap_lt H.obj
 have hml := H.map.lt
 have hold : ∀ k, k < w.heap.size → ov.ownBlock ≠ some k → w6.heap[k]? = w.heap[k]? := fun k hk hn => (hgrow.block k (by omega) (fun e => hn e.symm)).trans (Below.heap_alloc _ _ _ hk)
 have hob := hold t htl H.to
 have h6 : w6.heap[t]? = some (.cells #[.pointer (some ⟨rb, 0, none⟩), .int .i64 (places : Nat), .map (some mb), ov] 231) := hob.trans H.obj
 have hv : ∀ k, v6.ownBlock = some k → ov.ownBlock = some k ∨ w.heap.size ≤ k := fun k hk => (hat k hk).imp id (by omega)
 have hv3 : ∀ k, v6.ownBlock = some k → ¬ S k := fun k hk hs => by
  rcases hv k hk with h | h
  ·exact H.d3 k h hs
  ·have := H.ram.lt hs; omega
 have hvt : v6.ownBlock ≠ some t := fun e => by
  rcases hv t e with h | h
  ·exact H.to h
  ·omega
 have hne : ∀ j, j ≠ t → (w6.setCell ⟨t, 3, none⟩ v6).heap[j]? = w6.heap[j]? := fun j h => heap_set_other _ h
 have hkeep : Keeps (THeld t mb S ov) w (w6.setCell ⟨t, 3, none⟩ v6) := by
  refine Keeps.setCell (S := THeld t mb S ov) (p := ⟨t, 3, none⟩) (show Keeps (THeld t mb S ov) w w6 from ⟨hgrow.os, hgrow.tape, hgrow.output, by have := hgrow.size; omega, fun k hk hn => ?_⟩) (Or.inl (Or.inl rfl)) _
  exact hold k hk fun e => hn (.inr (.inr (.inl e)))
 refine ⟨v6, w6, hrun, by rw [cell_at h6]; rfl, fun k => free_at h6, heap_lt h6, hown.len.imp fun a h => ⟨order.length + 1, h⟩, Lib.hid ⟨by rw [heap_set_map, h6]; rfl, ?_, ?_, ?_, H.sub, H.good, H.c1, H.c2, H.wide, H.d1, H.d2, hv3⟩, Lib.hid ⟨hkeep, hv⟩⟩
 ·exact H.ram.of_heap fun k hs => (hne k fun e => H.d1 (by rw [← e]; exact hs)).trans (hold k (H.ram.lt hs) fun e => H.d3 k e hs)
 ·exact H.map.of_heap ((hne mb H.tm.symm).trans (hold mb hml H.mo))
 ·rw [List.length_append, keysV_snoc]
  exact hown.of_heap fun k hk => hne k fun e => hvt (by rw [← e]; exact hk)
theorem step_append_key {ops : Array Oper} {o : Oper} {a : Act} {KK : Act → World → Prop} {Q : Exit → Act → World → Prop} {E : Prop} {K : PKey} (H : TlbPre w t rb mb S ov places cnt all order R K) (hL : (order.length + 1) * 12 ≤ 140737488355328)
    (hgd : o.guard = none) (s x : Operand) (ho : o.op = .call { callee := .builtin .append, args := #[s, x], argTypes := #[229, 229] }) (hs : a.eval s = ov) (hx : a.eval x = .slice (some ⟨w.heap.size, 0, none⟩) 1 1)
    (h : ∀ a6 n6 q6 w6, w6.cell? ⟨t, 3, none⟩ = some ov → (∀ k, w6.frozen? ⟨t, k, none⟩ = false) → t < w6.heap.size → Hid (TlbIn (w6.setCell ⟨t, 3, none⟩ (.slice a6 n6 q6)) t rb mb S (.slice a6 n6 q6) places cnt all (order ++ [K]) R) → Hid (Keeps (THeld t mb S ov) w (w6.setCell ⟨t, 3, none⟩ (.slice a6 n6 q6)) ∧ ∀ k, (.slice a6 n6 q6 : Value).ownBlock = some k → ov.ownBlock = some k ∨ w.heap.size ≤ k) → KK (a.put o.dst (.slice a6 n6 q6)) w6) :
    if Region.wanted o (yielded ops a.tmps) = true then Oper.wp Tryz.prog o a (w.alloc (.cells K.cells.toArray 312)) KK Q else E := by
 have hw : Region.wanted o (yielded ops a.tmps) = true := by simp [Region.wanted, hgd]
 rw [if_pos hw]
 obtain ⟨v6, w6, hr, h1, h2, h3, ⟨a6, n6, q6, rfl⟩, h4, h5⟩ := append_key H hL o.type
 unfold Oper.wp execOp
 simp only [ho, resolve, invoke, builtin, Sem.run_bind, Sem.run_pure, Result.andThen_ok, List.map_toArray, List.map_cons, List.map_nil, hs, hx, hr]
 exact h a6 n6 q6 w6 h1 h2 h3 h4 h5
end
end Go.Proofs.YtmpcafdgkbpneaaGreat

/- A region of a function's code, and what stands behind it in its sequence. -/
namespace Go.Proofs.YtmpcafdgkbpneaaGreat
open Go

def rgOf (n : Nat) : Code → Option Code
 | .region i o d => if i = n then some (.region i o d) else none
 | .seq a b => match rgOf n a with
  | some c => some c
  | none => rgOf n b
 | .cond _ a b => match rgOf n a with
  | some c => some c
  | none => rgOf n b
 | .block _ c => rgOf n c
 | .loop c => rgOf n c
 | .scope c => rgOf n c
 | _ => none
def isReg (n : Nat) : Code → Bool
 | .region i _ _ => i == n
 | _ => false
def tlOf (n : Nat) : Code → Option Code
 | .seq a b => if isReg n a then some b else
  match tlOf n a with
  | some c => some c
  | none => tlOf n b
 | .cond _ a b => match tlOf n a with
  | some c => some c
  | none => tlOf n b
 | .block _ c => tlOf n c
 | .loop c => tlOf n c
 | .scope c => tlOf n c
 | _ => none
noncomputable def rg (f : Func) (n : Nat) : Code := ((f.body.bind (rgOf n))).getD .skip
noncomputable def tl (f : Func) (n : Nat) : Code := ((f.body.bind (tlOf n))).getD .skip
end Go.Proofs.YtmpcafdgkbpneaaGreat

