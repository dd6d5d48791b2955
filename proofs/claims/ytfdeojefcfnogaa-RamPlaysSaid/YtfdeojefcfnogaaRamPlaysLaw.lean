/- 'drawloom/drawloomlaw05.RamPlays' answers true for every input. Conditions: none. -/
import Derived.Test.YtfdeojefcfnogaaFrame
import Derived.Test.YtfdeojefcfnogaaRamR
import Derived.Deep.RegionWith
namespace Go.Proofs.Ytfdeojefcfnogaa.ramPlays
open Go.ChangeShapes Go.WideShapes Go.ChangeAt Go.RowKit
set_option linter.unusedVariables false

theorem bytes_below {w w1 : World} {a : Option Addr} {n : Nat} {f : Nat → Nat} {B : Nat} (h : BytesIn w a n f) (hb : Below w.heap.size w w1) : BytesIn w1 a n f := by
  rcases h with h | ⟨b, off, e, hl, hc⟩
  · exact .inl h
  · exact .inr ⟨b, off, e, Nat.lt_of_lt_of_le hl hb.size, fun i hi => ⟨(hb.cell hl).trans (hc i hi).1, (hc i hi).2⟩⟩
theorem docB {w0 w : World} {A0 : Nat → Prop} {os : List Ob} {c : Nat} {R : RS} (T : Hp w0 A0 w os) (i : Nat) (hi : os[i]? = some (oDoc c R)) : ∃ g0, w.cell? ⟨c, 0, none⟩ = some (.slice (some ⟨g0, 0, none⟩) R.size R.size) := by
  obtain ⟨A, g0, g1, g2, g3, I, hS⟩ := T.get i hi
  exact ⟨g0, I.facts.1⟩
set_option maxRecDepth 20000 in
set_option maxHeartbeats 8000000 in
theorem walk_bad (w : World) (n : Int) (hn : n < 1 ∨ 256 < n) (kv : Value) :
    Calls Try.prog 6 #[.int .i64 n, kv] w fun e w' => e = .returned (.bool true) ∧ Below w.heap.size w w' := by
  go_enter Try.func6, Try.ntmps6
  go_wp2_with fail
  refine (awake_any _).mono ?_
  rintro e w1 ⟨rfl, hb1⟩
  have HB := Lib.hid hb1
  clear hb1
  go_wp2_with fail
  refine (new_bad w1 n hn).mono ?_
  rintro e w2 ⟨rfl, rfl⟩
  go_wp2_with fail
  refine (rnew_bad w1 n hn).mono ?_
  rintro e w3 ⟨rfl, rfl⟩
  go_wp2_with fail
  go_ret
  exact ⟨rfl, HB.out⟩
set_option maxRecDepth 20000 in
set_option maxHeartbeats 8000000 in
theorem walk_good (w : World) (n : Nat) (hn1 : 1 ≤ n) (hn2 : n ≤ 256) (sa : Option Addr) (sl sc : Nat) (hsl : sl ≤ 9223372036854775807) (J : ScriptIn w sa sl) :
    Calls Try.prog 6 #[.int .i64 n, .slice sa sl sc] w fun e w' => e = .returned (.bool true) ∧ Below w.heap.size w w' := by
  go_enter Try.func6, Try.ntmps6
  go_wp2_with fail
  refine (awake_any _).mono ?_
  rintro e w1 ⟨rfl, hb1⟩
  have HB := Lib.hid hb1
  clear hb1
  go_wp2_with fail
  refine (new_any w1 n hn1 hn2).mono ?_
  rintro e w2 ⟨b, S, rfl, M1, N1, hb⟩
  have HT1 := Lib.hid (show Hp w1 (fun _ => False) w2 [oMem b (RS.new n)] from (Hp.zero w1).new hb (o := oMem b (RS.new n)) M1 N1)
  clear M1 N1 hb
  go_wp2_with fail
  refine (rnew_any w2 n hn1 hn2).mono ?_
  rintro e w3 ⟨c, S2, rfl, M2, N2, hb⟩
  have HT2 := Lib.hid (show Hp w1 (fun _ => False) w3 [oMem b (RS.new n), oDoc c (RS.new n)] from HT1.out.new hb (o := oDoc c (RS.new n)) M2 N2)
  clear M2 N2 hb HT1
  go_wp2_with fail
  go_loopw [10] (fun i wc => ∃ (k : Nat) (R : RS), k ≤ sl ∧ i = .int .i64 k ∧ Nd R ∧ Hp w1 (fun _ => False) wc [oMem b R, oDoc c R]) (fun i _ => sl - (intOf i).toNat)
  case atStart => exact ⟨0, _, by omega, rfl, nd_new n, HT2.out⟩
  case round =>
    rename_i wr
    clear HT2
    obtain ⟨k, R, hk, rfl, N, T⟩ := hrel
    have HT := Lib.hid T
    have HN := Lib.hid N
    have HL := Lib.hid (step_below HB.out T.below (Nat.le_refl _))
    clear T N
    by_cases hlt : k < sl
    · obtain ⟨kb, ko, rfl, hkl, A2⟩ : ∃ b off, sa = some ⟨b, off, none⟩ ∧ b < w.heap.size ∧ ∀ i, i < sl → ∃ k at_ s v da n c f x, OpAt w b (off + i * 6) k at_ s v da n c f x := by
        rcases J with h | h
        · omega
        · exact h
      obtain ⟨kk, pp, ss, vv, da, dn, dc, f, x, AT⟩ := A2 k hlt
      have c0 := (HL.out.cell hkl).trans AT.c0
      have c1 := (HL.out.cell hkl).trans AT.c1
      have c2 := (HL.out.cell hkl).trans AT.c2
      have c3 := (HL.out.cell hkl).trans AT.c3
      have c4 := (HL.out.cell hkl).trans AT.c4
      have c5 := (HL.out.cell hkl).trans AT.c5
      have HU := Lib.hid (And.intro AT.ua (And.intro AT.uv (And.intro (bytes_below (B := 0) AT.bs HB.out) AT.un)))
      have p1 : (0 : Int) ≤ (k : Int) := by omega
      have p2 : (k : Int) < sl := by omega
      clear A2 AT
      go_wp2_with fail
      refine (asked_any HT.out HN.out kk pp ss vv da dn dc f x HU.out.1 HU.out.2.1 HU.out.2.2.1 HU.out.2.2.2).mono ?_
      rintro e w7 ⟨rfl, R2, N2, T2⟩
      have HT2 := Lib.hid T2
      have HN2 := Lib.hid N2
      clear c0 c1 c2 c3 c4 c5 T2 N2
      go_wp2_with fail
      go_roundw
      case rel => exact ⟨k + 1, R2, by omega, by go_num, HN2.out, HT2.out⟩
      case measure => (simp [intOf]) <;> omega
    · have p2 : ¬ ((k : Int) < sl) := by omega
      have HOK := Lib.hid (HT.out.docok 1 rfl)
      have HLN := Lib.hid (show (gl R).length < 17592186044416 from by
        have h1 := want_len (fun g => R.noted (g * 64)) (R.pages * 64)
        have h2 := HOK.out.p2
        unfold gl; omega)
      obtain ⟨g0, d0⟩ := docB HT.out 1 rfl
      have dl := cell_block_lt d0
      go_upto_region 14 with (fail)
      have TA := Lib.hid HT.out.drew
      obtain ⟨A, HA⟩ := TA.out.get 0 rfl
      have HLEN := Lib.hid (len_any (show Ram wr.drew b A R from HA))
      clear HA
      go_region_with
        (first
          | (go_at_call 20; refine HLEN.out.mono ?_; rintro e w5 ⟨rfl, rfl⟩)
          | (go_at_call 16; refine (TA.out.told 0 rfl (nd_len HN.out HOK.out) (nd_32 HN.out HOK.out)).mono ?_; rintro e w5 ⟨v5, L, rfl, hL1, hL2, T5⟩)
          | (go_at_call 21; refine (d_told T5 1 rfl HN.out).mono ?_; rintro e w6 ⟨v6, rfl, T6⟩)
          | (go_at_call 17; refine (same32_any (L := gl R) (by rw [← gl_of HN.out hL1 hL2]; exact nums32_of (T6.row 2 rfl)) (nums32_ofC (T6.rowC 3 rfl)) HLN.out).mono ?_; rintro e w7 ⟨rfl, n7, rfl⟩; have T7 := T6.drewN n7))
      all_goals
        go_wp2_with fail
        go_ret
        exact ⟨by first | rfl | (simp; done), step_below HB.out T7.below (Nat.le_refl _)⟩
theorem walk {p q : Prop} {w : World} (n : Int) (l0 : p) (u0 : q) (sa : Option Addr) (sl sc : Nat) (hsl : sl ≤ 9223372036854775807) (J : ScriptIn w sa sl) (_ : World) :
    Calls Try.prog 6 #[.int .i64 n, .slice sa sl sc] w fun e w' => e = .returned (.bool true) ∧ Below w.heap.size w w' := by
  by_cases hn : n < 1 ∨ 256 < n
  · exact walk_bad w n hn _
  · obtain ⟨m, rfl⟩ : ∃ m : Nat, n = m := ⟨n.toNat, by omega⟩
    exact walk_good w m (by omega) (by omega) sa sl sc hsl J

set_option maxRecDepth 100000 in
theorem lifted (os : Os) (started : os.Started) (H : Type) (enc : TypeId × Value → H) :
    ReturnsInHanded {} Try.checked os 6 .any (Rows.ramPlaysSpec.pre6 enc Try.prog Try.f6 Rows.ramPlaysRow.domain false) (Rows.ramPlaysSpec.post enc Try.prog Try.f6 false true false false) := by
  refine returnsInHanded_of_change_sized (C := Try.checked) own started (by kernel_rfl) Try.func6
    (ChangeSpec.witness6 (enc := enc) (C := Try.checked) false ⟨#[], #[.int .i64 0, .slice none 0 0], []⟩ 8 (by kernel_rfl) (by kernel_rfl) (by kernel_rfl) (by kernel_rfl)) ?_
  intro W base args ds gs before hval0 hW hcnd hsz _
  have hval : ∀ (j : Nat) t v, Try.f6.params[j]? = some t → args[j]? = some v → Value.okWide Try.prog W .any base t v := hval0
  have hW' := hW
  obtain ⟨p, q, hA0, hV, rfl, hfz, hnd⟩ := hW
  have hA : DataW.TrodAll enc Try.prog W 0 (fun _ => true) true Try.f6.params.toList args.toList ds p := hA0
  rw [Try.params6] at hA hval
  obtain ⟨v0, vs0, d0, ds0, p0, q0, hargs, rfl, rfl, h0, r0⟩ := trodAll_cons hA
  obtain ⟨v1, vs1, d1, ds1, p1, q1, rfl, rfl, rfl, h1, r1⟩ := trodAll_cons r0
  obtain ⟨rfl, rfl, rfl⟩ := trodAll_nil r1
  obtain rfl : args = #[v0, v1] := by cases args; simp_all
  clear hA0 hval0
  obtain ⟨a0, rfl, l0, u0⟩ := arg_int Try.underlying3 (hval 0 3 v0 rfl rfl)
  obtain ⟨a1, n1, c1, rfl, m1, J1⟩ := arg_script (j := 1) hsz rfl rfl (hval 1 42 v1 rfl rfl) h1
  exact law_end (by kernel_rfl) hW' rfl (by kernel_rfl) Try.underlying4 rfl rfl (walk a0 l0 u0 a1 n1 c1 m1 J1 W)

theorem proved : Rows.RamPlaysSaid :=
  OpenClaim.holds_of_wide 6 Try.f6 rfl rfl rfl rfl rfl rfl rfl ⟨rfl, rfl, rfl, rfl, rfl⟩ rfl rfl rfl rfl rfl (by kernel_rfl) Try.func6 (by kernel_rfl)
    (of_decide_eq_true (by kernel_rfl)) (by unfold Func.isWrapper; first | (rw [if_pos (by decide +kernel)]; kernel_rfl) | (rw [if_neg (by decide +kernel)]; exact ⟨rfl, rfl⟩))
    (fun os started H enc _ => lifted os started H enc)
#print axioms proved
end Go.Proofs.Ytfdeojefcfnogaa.ramPlays
