/- Small general lemmas: a region that draws its order, walked by an invariant over what has come up. -/
import Derived.WalkKit
import Derived.WalkSpells
import Derived.WalkLawsBesides
import Derived.Handy
import Derived.BigQuiet
import Derived.Deep.QuietTactic
namespace Go.Proofs.Ytknokiadbkgmaaa
open Go.RowKit

section
variable {P : Program} {ops : Array Oper} {Q : Exit → Act → World → Prop}

/-- What one operation of the region owes to the invariant. -/
def StepInv (P : Program) (ops : Array Oper) (Q : Exit → Act → World → Prop) (I : Array Bool → Act → World → Prop) (i : Nat) : Prop :=
  ∀ (l : Array Bool) (a : Act) (w : World), l.size = ops.size → l.getD i true = false →
    (∀ o, ops[i]? = some o → ∀ e ∈ o.after.toList, l.getD e.on false = true) → I l a w → wpOp P ops Q i (I (l.setIfInBounds i true)) a w

def allBind (ops : Array Oper) : Bool := ops.toList.zipIdx.all fun (o, i) => o.after.toList.all fun e => Region.binds .any e && decide (e.on < i)

theorem allBind_spec (h : allBind ops = true) {i : Nat} {o : Oper} (ho : ops[i]? = some o) : ∀ e ∈ o.after.toList, Region.binds .any e = true ∧ e.on < i := by
  intro e he
  unfold allBind at h
  rw [List.all_eq_true] at h
  have := h (o, i) (by
    rw [List.mem_zipIdx_iff_getElem?]
    simpa using ho)
  simp only [List.all_eq_true] at this
  simpa using this e he

theorem ready_mem {l : Array Bool} {i : Nat} (h : i ∈ Region.ready .any ops l) : i < ops.size ∧ l.getD i true = false ∧
    ∀ o, ops[i]? = some o → ∀ e ∈ o.after.toList, Region.binds .any e = true → l.getD e.on false = true := by
  unfold Region.ready at h
  simp only [List.mem_filter, List.mem_range, Bool.and_eq_true, Bool.not_eq_true'] at h
  refine ⟨h.1, h.2.1, fun o ho e he hb => ?_⟩
  have h2 := h.2.2
  simp only [ho, Option.map_some, Option.getD_some, Array.all_eq_true] at h2
  obtain ⟨k, hk, hke⟩ := List.getElem_of_mem he
  have := h2 k (by simpa using hk)
  have e' : o.after[k]'(by simpa using hk) = e := by simpa using hke
  rw [e'] at this
  simpa [hb] using this

theorem getD_mk (l : Array Bool) (i : Nat) (d : Bool) : l.getD i d = (l[i]?).getD d := by
  simp [Array.getD_eq_getD_getElem?]

theorem ready_all (hb : allBind ops = true) {l : Array Bool} (hl : l.size = ops.size) (h : Region.ready .any ops l = []) : ∀ i, i < ops.size → l.getD i false = true := by
  intro i
  induction i using Nat.strongRecOn with
  | ind i ih =>
    intro hi
    cases hc : l.getD i false with
    | true => rfl
    | false =>
      exfalso
      have hm : i ∈ Region.ready .any ops l := by
        unfold Region.ready
        simp only [List.mem_filter, List.mem_range, Bool.and_eq_true, Bool.not_eq_true']
        have ht : l.getD i true = false := by
          rw [getD_mk] at hc ⊢
          have : i < l.size := by omega
          simp [this] at hc ⊢
          exact hc
        refine ⟨hi, ht, ?_⟩
        have ho : ops[i]? = some ops[i] := by simp [hi]
        simp only [ho, Option.map_some, Option.getD_some, Array.all_eq_true]
        intro k hk
        have hsp := allBind_spec hb ho (ops[i].after[k]) (by simp)
        have := ih _ hsp.2 (by omega)
        simp [this]
      rw [h] at hm
      cases hm

theorem set_size (l : Array Bool) (i : Nat) : (l.setIfInBounds i true).size = l.size := by simp

theorem wpAny_inv (hb : allBind ops = true) {I : Array Bool → Act → World → Prop} (hs : ∀ i, i < ops.size → StepInv P ops Q I i)
    (hf : ∀ l a w, (∀ i, i < ops.size → l.getD i false = true) → I l a w → Q .normal a w) :
    ∀ (fuel : Nat) (l : Array Bool) (a : Act) (w : World), l.size = ops.size → (l.toList.countP (· == false)) ≤ fuel → I l a w → wpAny P .any ops Q fuel l a w := by
  intro fuel
  induction fuel with
  | zero =>
    intro l a w hl hc hI
    have hall : ∀ i, i < ops.size → l.getD i false = true := by
      intro i hi
      have : ∀ x ∈ l.toList, x = true := by
        intro x hx
        cases x with
        | true => rfl
        | false =>
          exfalso
          have := List.countP_pos_iff (p := (· == false)) (l := l.toList) |>.2 ⟨false, hx, rfl⟩
          omega
      have hi' : i < l.size := by omega
      rw [getD_mk]; simp [hi']
      exact this _ (by simp)
    refine ⟨?_, hf l a w hall hI⟩
    cases hr : Region.ready .any ops l with
    | nil => rfl
    | cons i rs =>
      exfalso
      have hm := ready_mem (ops := ops) (l := l) (i := i) (by rw [hr]; simp)
      have h1 := hall i hm.1
      have h2 := hm.2.1
      rw [getD_mk] at h1 h2
      have : i < l.size := by omega
      simp [this] at h1 h2
      rw [h1] at h2; cases h2
  | succ fuel ih =>
    intro l a w hl hc hI
    refine ⟨fun hr => hf l a w (ready_all hb hl hr) hI, fun i hi => ?_⟩
    obtain ⟨h1, h2, h3⟩ := ready_mem hi
    have hstep := hs i h1 l a w hl h2 (fun o ho e he => h3 o ho e he (allBind_spec hb ho e he).1) hI
    refine wpOp_mono (fun a' w' hI' => ih _ a' w' (by simp [hl]) ?_ hI') hstep
    have hlt : i < l.size := by omega
    have hli : l.toList[i]'(by simpa using hlt) = false := by
      rw [getD_mk] at h2
      simp [hlt] at h2
      simpa using h2
    have : (l.setIfInBounds i true).toList = l.toList.set i true := by simp
    rw [this]
    have hcount : (l.toList.set i true).countP (· == false) + 1 = l.toList.countP (· == false) := by
      rw [List.countP_set (h := by simpa using hlt)]
      simp only [hli, beq_self_eq_true, if_true]
      have : 0 < l.toList.countP (· == false) := List.countP_pos_iff.2 ⟨false, by rw [← hli]; simp, rfl⟩
      have h0 : (if (true == false) = true then 1 else 0) = 0 := rfl
      rw [h0]
      omega
    omega

/-- A REGION THAT DRAWS ITS ORDER, BY AN INVARIANT: each operation, whenever its turn comes, keeps it. -/
theorem wp_region_inv {id : Nat} {a : Act} {w : World} (hm : P.follows .mixedOrders = true) (hb : allBind ops = true) (I : Array Bool → Act → World → Prop)
    (h0 : I (Array.replicate ops.size false) a w.drew) (hs : ∀ i, i < ops.size → StepInv P ops Q I i)
    (hf : ∀ l a w, (∀ i, i < ops.size → l.getD i false = true) → I l a w → Q .normal a w) : (Code.region id ops true).wp P Q a w := by
  refine wp_region_any hm (wpAny_inv hb hs hf _ _ _ _ (by simp) ?_ h0)
  have : (Array.replicate ops.size false).toList.countP (· == false) ≤ (Array.replicate ops.size false).toList.length := List.countP_le_length
  simpa using this
end
end Go.Proofs.Ytknokiadbkgmaaa
