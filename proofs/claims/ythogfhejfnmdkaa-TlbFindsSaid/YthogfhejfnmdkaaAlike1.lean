/- The law's Alike. -/
import Derived.Test.YthogfhejfnmdkaaAlike0
namespace Go.Proofs.Ythogfhejfnmdkaa
open Go.RowKit
set_option linter.unusedVariables false

set_option maxRecDepth 100000 in
set_option maxHeartbeats 8000000 in
theorem alike_any {w : World} {b b' : Nat} {S S' : Nat → Prop} {R : RS} (H : Ram w b S R) (H' : Ref w b' S' R) :
    Calls Try.prog 21 #[.pointer (some ⟨b, 0, .none⟩), .pointer (some ⟨b', 0, .none⟩)] w fun e w' => e = .returned (.bool true) ∧ Below w.heap.size w w' := by
  obtain ⟨g0, g1, g2, g3, I, hS⟩ := H'
  have k0 := I.facts.1
  have r0 := I.r0
  have hs := RS.size_pos H.isok
  have hs2 := RS.size_le H.isok
  have HC : Hid (∀ w' : World, Below w.heap.size w w' → w'.cell? ⟨b', 0, .none⟩ = some (.slice (some ⟨g0, 0, .none⟩) R.size R.size) ∧ (convert 54 9 (.slice (some ⟨g0, 0, .none⟩) R.size R.size)).run Try.prog w' = .ok (.string (strOf R.size R.byte)) w') := fun w' hb => by
    have hb1 := (bcell hb).1 b' 0 (heap_lt I.obj)
    exact ⟨by rw [hb1]; exact k0, conv_bytes (heap_below hb r0)⟩
  have HD := Lib.hid (fun w' g (h : w'.heap[g]? = some (.cells (Array.ofFn (n := R.size) fun i => .int .u8 (R.get (at32 0 i.val) : Nat)) 5)) => conv_bytes (w := w') (g := g) (n := R.size) (cap := R.size) (f := fun i => R.get (at32 0 i)) h)
  have HE := Lib.hid (strOf_congr (fun i hi => get_byte H.isok i hi))
  clear k0 r0
  go_enter Try.func21, Try.ntmps21
  go_wp2_with fail
  obtain ⟨k0, cv⟩ := HC.out w (Below.refl _ _)
  have cvd := (HC.out w.drew (Below.refl _ _).drew).2
  go_region_with (first | (go_at_call 18; refine (len_any (H.heapEq (w' := w.drew) rfl)).mono ?_; rintro e w' ⟨rfl, rfl⟩) | (go_at_call 17; refine (dump_any (H.heapEq (w' := w.drew) rfl) 0 R.size (by decide) (by omega) (by omega)).mono ?_; rintro e w' ⟨g, rfl, hg, hcl, hb⟩; have hcv := HD.out _ _ hcl; have hB : Below w.heap.size w w' := ((Below.refl w.heap.size w).drew).trans hb; obtain ⟨k1, cv1⟩ := HC.out w' hB; clear hcl))
  all_goals
    have he : ((strOf R.size fun i => R.get (at32 0 i)).toList == (strOf R.size R.byte).toList) = true := by rw [HE.out]; simp
    simp only [he]
    clear HC HD HE cv cvd hcv cv1 k0 k1
    go_wp2_with fail
    go_returns
    exact ⟨rfl, hB⟩
end Go.Proofs.Ythogfhejfnmdkaa
