/- 'drawloom/drawloomlaw14.IdePlays' answers true for every input. Conditions: none. -/
import Derived.Test.YtebhnfoehgpilaaFrame
import Derived.Test.YtebhnfoehgpilaaIdeRd
import Derived.Deep.RegionWith
import Derived.Deep.RegionHeld3
import Derived.Deep.CutRange
namespace Go.Proofs.Ytebhnfoehgpilaa.idePlays
open Go.ChangeShapes Go.WideShapes Go.ChangeAt Go.RowKit
set_option linter.unusedVariables false

/-- A length within the reach. -/
structure Upto (n : Nat) : Prop where
  out : n * 40 ≤ 140737488351232
/-- Both disks behind some calls. -/
def Rel (w1 : World) (b rb m : Nat) (wc : World) : Prop := ∃ U wF, Two w1 wc b rb U U (fun _ => False) wF ∧ U.much ≤ m
/-- What the law's own copy of a call holds. -/
def OwnO (w : World) (g : Nat) (kk rr ss : Int) (xx : Nat) (tt : Int) : Prop :=
  w.cell? ⟨g, 0, none⟩ = some (.int .i64 kk) ∧ w.cell? ⟨g, 1, none⟩ = some (.int .i64 rr) ∧ w.cell? ⟨g, 2, none⟩ = some (.int .i64 ss) ∧ w.cell? ⟨g, 3, none⟩ = some (.int .u32 (xx : Nat)) ∧ w.cell? ⟨g, 4, none⟩ = some (.int .i64 tt) ∧ g < w.heap.size
theorem own_of {w0 w wF : World} {b rb g : Nat} {U V : Dk} {F : Nat → Prop} {kk rr ss tt : Int} {xx : Nat} (h : Two w0 w b rb U V F wF) (hF : F g) (ho : OwnO wF g kk rr ss xx tt) : OwnO w g kk rr ss xx tt := by
  obtain ⟨a, c, d, e, f, l⟩ := ho
  have h0 := (h.cell hF 0).trans a
  exact ⟨h0, (h.cell hF 1).trans c, (h.cell hF 2).trans d, (h.cell hF 3).trans e, (h.cell hF 4).trans f, cell_block_lt h0⟩
/-- Behind calls of a round, the copy as it was. -/
def Mid (w1 : World) (b rb g m : Nat) (kk rr ss : Int) (xx : Nat) (tt : Int) (wc : World) : Prop := ∃ U wF, Two w1 wc b rb U U (fun k => k = g) wF ∧ OwnO wF g kk rr ss xx tt ∧ U.much ≤ m
theorem own_heap {w w' : World} {g : Nat} {kk rr ss tt : Int} {xx : Nat} (h : OwnO w g kk rr ss xx tt) (hh : w'.heap[g]? = w.heap[g]?) : OwnO w' g kk rr ss xx tt := by
  obtain ⟨a, c, d, e, f, l⟩ := h
  have hc : ∀ j, w'.cell? ⟨g, j, none⟩ = w.cell? ⟨g, j, none⟩ := fun j => World.cell?_of_block hh
  have h0 := (hc 0).trans a
  exact ⟨h0, (hc 1).trans c, (hc 2).trans d, (hc 3).trans e, (hc 4).trans f, cell_block_lt h0⟩
/-- A block of the law's own, all of whose bytes may be turned. -/
def Lent (w : World) (a : Option Addr) (n : Nat) : Prop := n = 0 ∨ ∃ gb cur, a = some ⟨gb, 0, none⟩ ∧ w.heap[gb]? = some (.cells cur 5 (0, 0)) ∧ n ≤ cur.size
theorem lent_row {w : World} {B n : Nat} {a : Option Addr} {c : Nat} {xs : List Value} (h : w.ownsRow B 5 1 (.slice a n c) n xs) : Lent w a n := by
  rcases h.2 with ⟨_, rfl⟩ | ⟨g, cap, cur, e, _, hg, h1, h2, h3, h4⟩
  · exact .inl rfl
  · injection e with e1 e2 e3
    subst e1
    exact .inr ⟨g, cur, rfl, hg, by omega⟩
/-- Both disks, a block of the law's own. -/
def Half (w1 : World) (b rb : Nat) (a : Option Addr) (n m : Nat) (dd : Nat) (f : Nat → Nat) (wc : World) : Prop :=
  ∃ U wF, Two w1 wc b rb U U (fun k => a.map (·.block) = some k) wF ∧ Lent wc a n ∧ U.much ≤ m ∧ U.n = dd ∧ U.d = f
theorem Half.store {w1 wc : World} {b rb n m j dd : Nat} {a : Option Addr} {f : Nat → Nat} (h : Half w1 b rb a n m dd f wc) (hj : j < n) :
    ∃ gb, a = some ⟨gb, 0, none⟩ ∧ ∃ u, wc.cell? ⟨gb, j, none⟩ = some u ∧ wc.frozen? ⟨gb, j, none⟩ = false ∧ gb < wc.heap.size ∧ Half w1 b rb (some ⟨gb, 0, none⟩) n m dd f (wc.setCell ⟨gb, j, none⟩ (.int .u8 99)) := by
  obtain ⟨U, wF, A, h0 | ⟨gb, cur, rfl, hg, hc⟩, hm⟩ := h
  · omega
  · refine ⟨gb, rfl, cur[j]'(by omega), ?_, free_at hg, heap_lt hg, U, wc.setCell ⟨gb, j, none⟩ (.int .u8 99), A.touch (S := fun k => k = gb) ((Keeps.refl _ _).setOne _ _) (fun k hk => by rw [hk]; rfl), .inr ⟨gb, cur.setIfInBounds j (.int .u8 99), rfl, ?_, by simpa using hc⟩, hm⟩
    · rw [cell_at hg]; exact Array.getElem?_eq_getElem (by omega)
    · rw [heap_set_map, hg]; rfl
/-- A block of the law's own alone (no disk was made). -/
theorem lent_store {w : World} {n j : Nat} {a : Option Addr} (h : Lent w a n) (hj : j < n) :
    ∃ gb, a = some ⟨gb, 0, none⟩ ∧ ∃ u, w.cell? ⟨gb, j, none⟩ = some u ∧ w.frozen? ⟨gb, j, none⟩ = false ∧ gb < w.heap.size ∧ Lent (w.setCell ⟨gb, j, none⟩ (.int .u8 99)) (some ⟨gb, 0, none⟩) n := by
  rcases h with h0 | ⟨gb, cur, rfl, hg, hc⟩
  · omega
  · refine ⟨gb, rfl, cur[j]'(by omega), ?_, free_at hg, heap_lt hg, .inr ⟨gb, cur.setIfInBounds j (.int .u8 99), rfl, ?_, by simpa using hc⟩⟩
    · rw [cell_at hg]; exact Array.getElem?_eq_getElem (by omega)
    · rw [heap_set_map, hg]; rfl
set_option maxRecDepth 20000 in
set_option maxHeartbeats 8000000 in
theorem walk_bad (w : World) (da : Option Addr) (dl dc : Nat) (df : Nat → Nat) (HD : Reads w (.slice da dl dc) dl df) (hd1 : dl ≤ 140737488351232) (kd : Option Addr) (kl kc : Nat) (hbad : dl % 512 ≠ 0 ∨ 32768 < dl) :
    Calls Try.prog 7 #[.slice da dl dc, .slice kd kl kc] w fun e w' => e = .returned (.bool true) ∧ Below w.heap.size w w' := by
  have HDD := Lib.hid HD
  have HB := Lib.hid hbad
  have HL := Lib.hid hd1
  clear HD hbad hd1
  go_enter Try.func7, Try.ntmps7
  go_wp2_with fail
  refine (awake_any _).mono ?_
  rintro e w1 ⟨rfl, B1⟩
  have HB1 := Lib.hid B1
  clear B1
  have hown : (w1.alloc (.cells #[] 5)).ownsRow w1.heap.size 5 1 (.slice (some ⟨w1.heap.size, 0, none⟩) 0 0) 0 [] := World.ownsRow_made w1 #[] 0 (Nat.le_refl _) (by decide) (by simp)
  have HOWN := Lib.hid hown
  have HR := Lib.hid (HDD.out.below' (HB1.out.alloc HB1.out.size (.cells #[] 5)))
  clear hown
  go_upto_region 3 with (at_builtin; (refine wpList_append_bytes rfl _ _ rfl rfl HOWN.out rfl HR.out HL.out (by simp) ?_); intro la lc w2 hrow hgrow; have HX := Lib.hid (And.intro hrow hgrow); clear hrow hgrow)
  have HB2 := Lib.hid (show Below w.heap.size w w2 from (HB1.out.alloc HB1.out.size _).grown HX.out.2 (by simp; exact Nat.le_succ_of_le HB1.out.size) (by intro k hk; cases hk; exact HB1.out.size))
  have HLE := Lib.hid (lent_row HX.out.1)
  have HLO := Lib.hid (fun k (hk : (Value.slice la dl lc).ownBlock = some k) => (World.ownsRow.lt HX.out.1 k hk).1)
  clear HX HOWN HR
  go_wp2_with fail
  refine (new_bad la dl lc HB.out).mono ?_
  rintro e w3 ⟨rfl, rfl⟩
  go_wp2_with fail
  refine (rnew_bad da dl dc HB.out).mono ?_
  rintro e w3 ⟨rfl, rfl⟩
  go_wp2_with fail
  go_loopw [11] (fun i wc => ∃ k : Nat, k ≤ dl ∧ i = .int .i64 k ∧ Lent wc la dl ∧ Below w.heap.size w wc) (fun i _ => dl - (intOf i).toNat)
  case atStart => exact ⟨0, by omega, rfl, HLE.out, HB2.out⟩
  case round =>
    obtain ⟨k, hk, rfl, P, Bk⟩ := hrel
    have hd := HL.out
    have HBk := Lib.hid Bk
    clear Bk
    by_cases hlt : k < dl
    · obtain ⟨gb, rfl, u, hu, hf, hlb, hset⟩ := lent_store P hlt
      have q1 : (0 : Int) ≤ (k : Int) := by omega
      have q2 : (k : Int) < dl := by omega
      have HP := Lib.hid hset
      have hge : w.heap.size ≤ gb := Nat.le_trans HB1.out.size (HLO.out gb rfl)
      have HGE := Lib.hid hge
      clear P hset hge
      go_wp2_with fail
      go_roundw
      case rel => exact ⟨k + 1, by omega, by go_num, HP.out, HBk.out.setCell HGE.out _⟩
      case measure => (simp [intOf]) <;> omega
    · have q2 : (dl : Int) ≤ k := by omega
      clear P
      go_wp2_with fail
      go_ret
      exact ⟨rfl, HBk.out⟩
set_option maxRecDepth 20000 in
set_option maxHeartbeats 16000000 in
theorem walk_good (w : World) (da : Option Addr) (m dc : Nat) (df : Nat → Nat) (HD : Reads w (.slice da (m * 512) dc) (m * 512) df) (hdf : ∀ i, df i < 256) (hm : m ≤ 64) (kd : Option Addr) (kl kc : Nat) (ki rg sz : Nat → Int) (x : Nat → Nat) (ti : Nat → Int) (J : OpsIn w kd kl ki rg sz x ti) (hr : kl * 40 ≤ 140737488351232) :
    Calls Try.prog 7 #[.slice da (m * 512) dc, .slice kd kl kc] w fun e w' => e = .returned (.bool true) ∧ Below w.heap.size w w' := by
  have HDD := Lib.hid HD
  have HDF := Lib.hid (And.intro hdf hm)
  have HN := Lib.hid (Upto.mk hr)
  have HJ := Lib.hid J
  obtain ⟨L, hL⟩ : ∃ L, L = m * 512 := ⟨_, rfl⟩
  have HLL := Lib.hid hL
  have hL2 : L ≤ 32768 := by omega
  rw [← hL] at HDD ⊢
  clear HD hdf hm hr J hL
  go_enter Try.func7, Try.ntmps7
  go_wp2_with fail
  refine (awake_any _).mono ?_
  rintro e w1 ⟨rfl, B1⟩
  have HB1 := Lib.hid B1
  clear B1
  have hown : (w1.alloc (.cells #[] 5)).ownsRow w1.heap.size 5 1 (.slice (some ⟨w1.heap.size, 0, none⟩) 0 0) 0 [] := World.ownsRow_made w1 #[] 0 (Nat.le_refl _) (by decide) (by simp)
  have HOWN := Lib.hid hown
  have HR := Lib.hid (HDD.out.below' (HB1.out.alloc HB1.out.size (.cells #[] 5)))
  clear hown
  go_upto_region 3 with (at_builtin; (refine wpList_append_bytes rfl _ _ rfl rfl HOWN.out rfl HR.out (by omega) (by simp) ?_); intro la lc w2 hrow hgrow; have HX := Lib.hid (And.intro hrow hgrow); clear hrow hgrow)
  have HB2 := Lib.hid (show Below w1.heap.size w1 w2 from ((Below.refl _ _).alloc (Nat.le_refl _) _).grown HX.out.2 (by simp) (by intro k hk; cases hk; exact Nat.le_refl _))
  have HRW := Lib.hid HX.out.1
  clear HX HOWN HR
  go_wp2_with fail
  have HNW := Lib.hid (show Calls Try.prog 11 #[.slice la L lc] w2 _ from new_yes (n := m) (d := df) (by rw [← HLL.out]; exact reads_row HRW.out) HDF.out.2 HDF.out.1)
  refine HNW.out.mono ?_
  rintro e w3 ⟨b, ds, rfl, H3, hb3, hd3, Bl3⟩
  have HX3 := Lib.hid (And.intro H3 (And.intro hb3 (And.intro hd3 Bl3)))
  clear H3 hb3 hd3 Bl3 HNW
  have HLT := Lib.hid (World.ownsRow.lt HRW.out)
  have HF := Lib.hid (show ∀ k, la.map (·.block) = some k → w1.heap.size ≤ k ∧ k < w3.heap.size ∧ ¬ Held b ds (.slice none 0 0) k from fun k hk => by
    have hk' : (Value.slice la L lc).ownBlock = some k := by cases la <;> exact hk
    have h := HLT.out k hk'
    refine ⟨h.1, Nat.lt_of_lt_of_le h.2 HX3.out.2.2.2.size, fun hh => ?_⟩
    rcases hh with e | e | e
    · have := HX3.out.2.1; omega
    · have := HX3.out.2.2.1 k e; omega
    · cases e)
  have HB3 := Lib.hid (HB2.out.trans (HX3.out.2.2.2.mono HB2.out.size))
  have HRD := Lib.hid (show Reads w3 (.slice da L dc) L df from (HDD.out.below' HB1.out).below' (HB3.out.mono (Nat.le_refl _)))
  have HNT := Lib.hid (new_two (W0 := w1) (n := m) (d := df) HX3.out.1 (Nat.le_trans HB2.out.size HX3.out.2.1) (fun k hk => Nat.le_trans HB2.out.size (HX3.out.2.2.1 k hk)) HB3.out (fun k => la.map (·.block) = some k) HF.out (by rw [← HLL.out]; exact HRD.out) HDF.out.2 HDF.out.1)
  clear HF HRD
  go_wp2_with fail
  refine HNT.out.mono ?_
  rintro e w4 ⟨rb, rfl, A4, B4⟩
  have P0 : Half w1 b rb la L 0 (Dk.new m df).n (Dk.new m df).d w4 := by
    refine ⟨_, _, A4, ?_, by rw [much_new]; exact Nat.le_refl _, rfl, rfl⟩
    have h2 := lent_row HRW.out
    refine h2.imp id ?_
    rintro ⟨gb, cur, rfl, hg, hc⟩
    refine ⟨gb, cur, rfl, ?_, hc⟩
    have hlt2 := heap_lt hg
    exact (B4.block gb (Nat.lt_of_lt_of_le hlt2 HX3.out.2.2.2.size)).trans ((HX3.out.2.2.2.block gb hlt2).trans hg)
  clear B4 A4 HNT HLT HRW HX3
  go_wp2_with fail
  go_loopw [11] (fun i wc => ∃ k : Nat, k ≤ L ∧ i = .int .i64 k ∧ Half w1 b rb la L 0 (Dk.new m df).n (Dk.new m df).d wc) (fun i _ => L - (intOf i).toNat)
  case atStart => exact ⟨0, by omega, rfl, P0⟩
  case round =>
    clear P0
    obtain ⟨k, hk, rfl, P⟩ := hrel
    by_cases hlt : k < L
    · obtain ⟨gb, rfl, u, hu, hf, hlb, hset⟩ := P.store hlt
      have q1 : (0 : Int) ≤ (k : Int) := by omega
      have q2 : (k : Int) < L := by omega
      have HP := Lib.hid hset
      clear P hset
      go_wp2_with fail
      go_roundw
      case rel => exact ⟨k + 1, by omega, by go_num, HP.out⟩
      case measure => (simp [intOf]) <;> omega
    · have q2 : (L : Int) ≤ k := by omega
      have R0 : Rel w1 b rb 0 wr := by
        obtain ⟨U, wF, A, -, hmu, -, -⟩ := P
        exact ⟨U, _, A.fewer (fun k h => h.elim), hmu⟩
      have hdk : decide (k < L) = false := decide_eq_false hlt
      clear P hlt hk
      have hkl := HN.out.out
      go_wp2_with fail
      go_loopw [12] (fun i wc => ∃ j : Nat, j ≤ kl ∧ i = .int .i64 j ∧ Rel w1 b rb (j * 2400) wc) (fun i _ => kl - (intOf i).toNat)
      case atStart => exact ⟨0, by omega, rfl, by rw [Nat.zero_mul]; exact R0⟩
      case round =>
        clear R0
        obtain ⟨j, hj, rfl, RR⟩ := hrel
        by_cases hjl : j < kl
        · obtain ⟨kb, ko, rfl, A2⟩ : ∃ b off, kd = some ⟨b, off, none⟩ ∧ OpsAt w b off kl ki rg sz x ti := by
            rcases HJ.out with h | h
            · omega
            · exact h
          obtain ⟨U0, wF0, A0, hmu0⟩ := RR
          have AT := A2.below (HB1.out.trans (A0.below.mono HB1.out.size)) A2.hb
          have c0 := AT.c0 j hjl
          have c1 := AT.c1 j hjl
          have c2 := AT.c2 j hjl
          have c3 := AT.c3 j hjl
          have c4 := AT.c4 j hjl
          have HU3 := Lib.hid (AT.u3 j hjl)
          have HU4 := Lib.hid (AT.u4 j hjl)
          have p1 : (0 : Int) ≤ (j : Int) := by omega
          have p2 : (j : Int) < kl := by omega
          have hl := AT.hb
          have HM0 := Lib.hid hmu0
          clear A2 AT hmu0
          generalize ki j = kk at *
          generalize rg j = rr at *
          generalize sz j = ss at *
          generalize x j = xx at *
          generalize ti j = tt at *
          go_upto_region 17 with (fail)
          have A1 := (A0.grow (.cells #[.int .i64 kk, .int .i64 rr, .int .i64 ss, .int .u32 xx, .int .i64 tt] 43)).fewer (G := fun k => k = wr.heap.size) (fun k h => .inr h)
          have hO : (wr.alloc (.cells #[.int .i64 kk, .int .i64 rr, .int .i64 ss, .int .u32 xx, .int .i64 tt] 43)).heap[wr.heap.size]? = some (.cells #[.int .i64 kk, .int .i64 rr, .int .i64 ss, .int .u32 xx, .int .i64 tt] 43) := heap_new _ _
          generalize wr.alloc (.cells #[.int .i64 kk, .int .i64 rr, .int .i64 ss, .int .u32 xx, .int .i64 tt] 43) = wz at A1 hO ⊢
          generalize wr.heap.size = g at A1 hO ⊢
          have O0 : OwnO wz g kk rr ss xx tt := ⟨by rw [cell_at hO]; rfl, by rw [cell_at hO]; rfl, by rw [cell_at hO]; rfl, by rw [cell_at hO]; rfl, by rw [cell_at hO]; rfl, heap_lt hO⟩
          have M0 : Mid w1 b rb g (j * 2400 + 0 * 4) kk rr ss xx tt wz := ⟨_, _, A1, O0, by rw [Nat.zero_mul, Nat.add_zero]; exact HM0.out⟩
          have HM00 := Lib.hid M0
          clear A0 A1 hO c0 c1 c2 c3 c4 hl O0 M0
          go_wp2_with fail
          go_loopw [14] (fun i wc => ∃ n : Nat, n ≤ 600 ∧ i = .int .i64 n ∧ Mid w1 b rb g (j * 2400 + n * 4) kk rr ss xx tt wc) (fun i _ => 600 - (intOf i).toNat)
          case atStart => exact ⟨0, by omega, rfl, HM00.out⟩
          case round =>
            clear HM00
            obtain ⟨n, hn, rfl, U, wF, A, O, hmu⟩ := hrel
            have HO := Lib.hid O
            have HM := Lib.hid hmu
            have HRM := Lib.hid A.theRoom
            have HLG := Lib.hid (show U.log.length + 4 < 17592186044416 by have := much_log U; omega)
            obtain ⟨z0, z1, z2, z3, z4, zl⟩ := own_of A rfl O
            have n0 : (0 : Int) ≤ (n : Int) := by omega
            have n1 : (n : Int) ≤ 600 := by omega
            clear O hmu
            have hxx := HU3.out
            rcases (show n = 0 ∨ (n ≠ 0 ∧ (n : Int) < tt ∧ (n : Int) < 600) ∨ (n ≠ 0 ∧ ¬ (n : Int) < tt) ∨ (n ≠ 0 ∧ (n : Int) < tt ∧ ¬ (n : Int) < 600) by omega) with h0 | ⟨h0, t1, t2⟩ | ⟨h0, t1⟩ | ⟨h0, t1, t2⟩
            · have g0 : ((n : Int) == 0) = true := by simpa using h0
              have hn6 : n < 600 := by omega
              clear h0
              by_cases h1 : kk = 1
              · subst h1
                obtain ⟨yy, hyy⟩ : ∃ yy : Nat, yy = (xx + n) % 4294967296 := ⟨_, rfl⟩
                have HYY := Lib.hid hyy
                have hyl : yy < 4294967296 := by omega
                have e1 : IntKind.u32.wrap (n : Int) = (n : Int) := by rw [IntKind.wrap_u32]; omega
                have e2 : IntKind.u32.wrap ((xx : Int) + (n : Int)) = ((yy : Nat) : Int) := by rw [IntKind.wrap_u32]; omega
                have e3 : (n : Int) % 4294967296 = (n : Int) := by omega
                have e4 : ((xx : Int) + (n : Int)) % 4294967296 = ((yy : Nat) : Int) := by omega
                clear hyy
                have A1d : Two w1 wr.drew b rb U U (fun k => k = g) wF := A.drewN 1
                go_upto_region 23 with (fail)
                go_region_held3 (fun w' => w'.cell? ⟨g, 1, none⟩ = some (.int .i64 rr) ∧ w'.cell? ⟨g, 2, none⟩ = some (.int .i64 ss) ∧ w'.cell? ⟨g, 3, none⟩ = some (.int .u32 (xx : Nat)))
                  (go_keep)
                  (first
                    | (go_at_call 12; (with_reducible refine (out_two A1d rr ss yy hyl HLG.out).mono ?_); rintro e w6 ⟨rfl, A6⟩; obtain ⟨y0, y1, y2, y3, y4, yl⟩ := own_of A6 rfl HO.out)
                    | (go_at_call 19; (with_reducible refine (rout_two A6 rr ss yy hyl HLG.out).mono ?_); rintro e w7 ⟨rfl, A7⟩; obtain ⟨x0, x1, x2, x3, x4, xl⟩ := own_of A7 rfl HO.out))
                all_goals
                  clear e1 e2 e3 e4
                  have HM2 := Lib.hid (Nat.le_trans (much_out HRM.out rr ss yy) (Nat.add_le_add_right HM.out 4))
                  go_wp2_with fail
                  refine (line_two A7).mono ?_
                  rintro e w8 ⟨rfl, rfl⟩
                  go_wp2_with fail
                  refine (rline_two A7).mono ?_
                  rintro e w8 ⟨rfl, rfl⟩
                  go_wp2_with fail
                  go_roundw
                  case rel => exact ⟨n + 1, by omega, by go_num, _, _, A7, HO.out, Nat.le_trans HM2.out (by omega)⟩
                  case measure => (simp [intOf]) <;> omega
              by_cases h2 : kk = 2
              · subst h2
                clear h1
                go_wp2_with fail
                refine (in_two A rr ss).mono ?_
                rintro e w6 ⟨rfl, A6⟩
                obtain ⟨y0, y1, y2, y3, y4, yl⟩ := own_of A6 rfl HO.out
                go_wp2_with fail
                refine (rin_two A6 rr ss).mono ?_
                rintro e w7 ⟨rfl, A7⟩
                obtain ⟨x0, x1, x2, x3, x4, xl⟩ := own_of A7 rfl HO.out
                have HM2 := Lib.hid (Nat.le_trans (much_inS U rr ss) HM.out)
                go_wp2_with fail
                refine (line_two A7).mono ?_
                rintro e w8 ⟨rfl, rfl⟩
                go_wp2_with fail
                refine (rline_two A7).mono ?_
                rintro e w8 ⟨rfl, rfl⟩
                go_wp2_with fail
                go_roundw
                case rel => exact ⟨n + 1, by omega, by go_num, _, _, A7, HO.out, Nat.le_trans HM2.out (by omega)⟩
                case measure => (simp [intOf]) <;> omega
              by_cases h3 : kk = 3
              · subst h3
                clear h1 h2
                go_wp2_with fail
                refine (written_two A).mono ?_
                rintro e w6 ⟨v6, rfl, N6, A6, K6, -⟩
                have HO6 := Lib.hid (own_heap HO.out (K6 g rfl))
                have HN6 := Lib.hid N6
                clear N6 K6
                go_wp2_with fail
                refine (rwritten_two A6).mono ?_
                rintro e w7 ⟨v7, rfl, N7, A7, -⟩
                have HN7 := Lib.hid N7
                have HN67 := Lib.hid (HN6.out.of_heap (w' := w7) (fun k hk => A7.kept (.inr hk)))
                obtain ⟨x0, x1, x2, x3, x4, xl⟩ := own_of A7 (Or.inl rfl) HO6.out
                clear N7
                have HM2 := Lib.hid (Nat.le_trans (much_quit U) HM.out)
                go_wp2_with fail
                refine (same_any HN67.out HN7.out (by have := HLG.out; omega)).mono ?_
                rintro e w9 ⟨rfl, n9, rfl⟩
                have A9 := A7.drewN n9
                clear A7 A6 A
                have A7 := A9
                clear A9
                go_wp2_with fail
                refine (line_two A7).mono ?_
                rintro e w8 ⟨rfl, rfl⟩
                go_wp2_with fail
                refine (rline_two A7).mono ?_
                rintro e w8 ⟨rfl, rfl⟩
                go_wp2_with fail
                go_roundw
                case rel => exact ⟨n + 1, by omega, by go_num, _, _, A7.fewer (fun k h => Or.inl h), HO6.out, Nat.le_trans HM2.out (by omega)⟩
                case measure => (simp [intOf]) <;> omega
              have A7 := A
              clear A
              have HM2 := HM
              go_wp2_with fail
              refine (line_two A7).mono ?_
              rintro e w8 ⟨rfl, rfl⟩
              go_wp2_with fail
              refine (rline_two A7).mono ?_
              rintro e w8 ⟨rfl, rfl⟩
              go_wp2_with fail
              go_roundw
              case rel => exact ⟨n + 1, by omega, by go_num, _, _, A7, HO.out, Nat.le_trans HM2.out (by omega)⟩
              case measure => (simp [intOf]) <;> omega
            · have g0 : ((n : Int) == 0) = false := by simpa using h0
              have hn6 : n < 600 := by omega
              clear h0
              by_cases h1 : kk = 1
              · subst h1
                obtain ⟨yy, hyy⟩ : ∃ yy : Nat, yy = (xx + n) % 4294967296 := ⟨_, rfl⟩
                have HYY := Lib.hid hyy
                have hyl : yy < 4294967296 := by omega
                have e1 : IntKind.u32.wrap (n : Int) = (n : Int) := by rw [IntKind.wrap_u32]; omega
                have e2 : IntKind.u32.wrap ((xx : Int) + (n : Int)) = ((yy : Nat) : Int) := by rw [IntKind.wrap_u32]; omega
                have e3 : (n : Int) % 4294967296 = (n : Int) := by omega
                have e4 : ((xx : Int) + (n : Int)) % 4294967296 = ((yy : Nat) : Int) := by omega
                clear hyy
                have A1d : Two w1 wr.drew b rb U U (fun k => k = g) wF := A.drewN 1
                go_upto_region 23 with (fail)
                go_region_held3 (fun w' => w'.cell? ⟨g, 1, none⟩ = some (.int .i64 rr) ∧ w'.cell? ⟨g, 2, none⟩ = some (.int .i64 ss) ∧ w'.cell? ⟨g, 3, none⟩ = some (.int .u32 (xx : Nat)))
                  (go_keep)
                  (first
                    | (go_at_call 12; (with_reducible refine (out_two A1d rr ss yy hyl HLG.out).mono ?_); rintro e w6 ⟨rfl, A6⟩; obtain ⟨y0, y1, y2, y3, y4, yl⟩ := own_of A6 rfl HO.out)
                    | (go_at_call 19; (with_reducible refine (rout_two A6 rr ss yy hyl HLG.out).mono ?_); rintro e w7 ⟨rfl, A7⟩; obtain ⟨x0, x1, x2, x3, x4, xl⟩ := own_of A7 rfl HO.out))
                all_goals
                  clear e1 e2 e3 e4
                  have HM2 := Lib.hid (Nat.le_trans (much_out HRM.out rr ss yy) (Nat.add_le_add_right HM.out 4))
                  go_wp2_with fail
                  refine (line_two A7).mono ?_
                  rintro e w8 ⟨rfl, rfl⟩
                  go_wp2_with fail
                  refine (rline_two A7).mono ?_
                  rintro e w8 ⟨rfl, rfl⟩
                  go_wp2_with fail
                  go_roundw
                  case rel => exact ⟨n + 1, by omega, by go_num, _, _, A7, HO.out, Nat.le_trans HM2.out (by omega)⟩
                  case measure => (simp [intOf]) <;> omega
              by_cases h2 : kk = 2
              · subst h2
                clear h1
                go_wp2_with fail
                refine (in_two A rr ss).mono ?_
                rintro e w6 ⟨rfl, A6⟩
                obtain ⟨y0, y1, y2, y3, y4, yl⟩ := own_of A6 rfl HO.out
                go_wp2_with fail
                refine (rin_two A6 rr ss).mono ?_
                rintro e w7 ⟨rfl, A7⟩
                obtain ⟨x0, x1, x2, x3, x4, xl⟩ := own_of A7 rfl HO.out
                have HM2 := Lib.hid (Nat.le_trans (much_inS U rr ss) HM.out)
                go_wp2_with fail
                refine (line_two A7).mono ?_
                rintro e w8 ⟨rfl, rfl⟩
                go_wp2_with fail
                refine (rline_two A7).mono ?_
                rintro e w8 ⟨rfl, rfl⟩
                go_wp2_with fail
                go_roundw
                case rel => exact ⟨n + 1, by omega, by go_num, _, _, A7, HO.out, Nat.le_trans HM2.out (by omega)⟩
                case measure => (simp [intOf]) <;> omega
              by_cases h3 : kk = 3
              · subst h3
                clear h1 h2
                go_wp2_with fail
                refine (written_two A).mono ?_
                rintro e w6 ⟨v6, rfl, N6, A6, K6, -⟩
                have HO6 := Lib.hid (own_heap HO.out (K6 g rfl))
                have HN6 := Lib.hid N6
                clear N6 K6
                go_wp2_with fail
                refine (rwritten_two A6).mono ?_
                rintro e w7 ⟨v7, rfl, N7, A7, -⟩
                have HN7 := Lib.hid N7
                have HN67 := Lib.hid (HN6.out.of_heap (w' := w7) (fun k hk => A7.kept (.inr hk)))
                obtain ⟨x0, x1, x2, x3, x4, xl⟩ := own_of A7 (Or.inl rfl) HO6.out
                clear N7
                have HM2 := Lib.hid (Nat.le_trans (much_quit U) HM.out)
                go_wp2_with fail
                refine (same_any HN67.out HN7.out (by have := HLG.out; omega)).mono ?_
                rintro e w9 ⟨rfl, n9, rfl⟩
                have A9 := A7.drewN n9
                clear A7 A6 A
                have A7 := A9
                clear A9
                go_wp2_with fail
                refine (line_two A7).mono ?_
                rintro e w8 ⟨rfl, rfl⟩
                go_wp2_with fail
                refine (rline_two A7).mono ?_
                rintro e w8 ⟨rfl, rfl⟩
                go_wp2_with fail
                go_roundw
                case rel => exact ⟨n + 1, by omega, by go_num, _, _, A7.fewer (fun k h => Or.inl h), HO6.out, Nat.le_trans HM2.out (by omega)⟩
                case measure => (simp [intOf]) <;> omega
              have A7 := A
              clear A
              have HM2 := HM
              go_wp2_with fail
              refine (line_two A7).mono ?_
              rintro e w8 ⟨rfl, rfl⟩
              go_wp2_with fail
              refine (rline_two A7).mono ?_
              rintro e w8 ⟨rfl, rfl⟩
              go_wp2_with fail
              go_roundw
              case rel => exact ⟨n + 1, by omega, by go_num, _, _, A7, HO.out, Nat.le_trans HM2.out (by omega)⟩
              case measure => (simp [intOf]) <;> omega
            · have g0 : ((n : Int) == 0) = false := by simpa using h0
              have t1' : tt ≤ (n : Int) := by omega
              have HE := Lib.hid (show Rel w1 b rb ((j + 1) * 2400) wr from ⟨U, _, A.fewer (fun k h => h.elim), Nat.le_trans HM.out (by omega)⟩)
              clear h0 A t1
              go_wp2_with fail
              go_roundw
              case rel => exact ⟨j + 1, by omega, by go_num, HE.out⟩
              case measure => (simp [intOf]) <;> omega
            · have g0 : ((n : Int) == 0) = false := by simpa using h0
              have t2' : 600 ≤ (n : Int) := by omega
              have HE := Lib.hid (show Rel w1 b rb ((j + 1) * 2400) wr from ⟨U, _, A.fewer (fun k h => h.elim), Nat.le_trans HM.out (by omega)⟩)
              clear h0 A t2
              go_wp2_with fail
              go_roundw
              case rel => exact ⟨j + 1, by omega, by go_num, HE.out⟩
              case measure => (simp [intOf]) <;> omega
        · have p2 : (kl : Int) ≤ j := by omega
          obtain ⟨U, wF, A, hmu⟩ := RR
          have HMU := Lib.hid (Nat.le_trans hmu (Nat.mul_le_mul_right 2400 hj))
          have hdj : decide (j < kl) = false := decide_eq_false hjl
          clear hmu hjl
          go_wp2_with fail
          refine (disk_two A).mono ?_
          rintro e w6 ⟨v6, rfl, R6, A6, -⟩
          obtain ⟨ra, rc, k0, RD, hrl⟩ := A6.rdisk
          have cv : ∀ n, (convert 23 9 v6).run Try.prog (w6.drewN n) = .ok (.string (strOf (U.n * 512) U.d)) (w6.drewN n) := fun n => conv_row (w := w6.drewN n) R6
          have cr : ∀ n, (convert 23 9 (.slice ra (U.n * 512) rc)).run Try.prog (w6.drewN n) = .ok (.string (strOf (U.n * 512) U.d)) (w6.drewN n) := fun n => conv_row (w := w6.drewN n) RD
          obtain ⟨a6, c6, hv6⟩ := row_len R6
          obtain rfl := hv6
          have P0 : ∀ n, Half w1 b rb a6 (U.n * 512) (kl * 2400) U.n U.d (w6.drewN n) := fun n => by
            refine ⟨U, w6, (A6.fewer fun k hk => ?_).drewN n, lent_row R6, ?_, rfl, rfl⟩
            · cases a6 <;> exact hk
            · exact HMU.out
          have HP0 := Lib.hid P0
          have hun := A6.isok.n
          clear P0 R6 RD A6 A
          obtain ⟨S, hS⟩ : ∃ S, S = U.n * 512 := ⟨_, rfl⟩
          have hS2 : S ≤ 32768 := by omega
          rw [← hS] at cv cr k0 HP0 ⊢
          have HS := Lib.hid hS
          clear hS hun
          go_upto_region 33 with (fail)
          go_quiet (fail)
          clear cv cr k0 hrl
          go_wp2_with fail
          go_loopw [22] (fun i wc => ∃ q : Nat, q ≤ S ∧ i = .int .i64 q ∧ Half w1 b rb a6 S (kl * 2400) U.n U.d wc) (fun i _ => S - (intOf i).toNat)
          case atStart => exact ⟨0, by omega, rfl, HP0.out _⟩
          case round =>
            clear HP0
            obtain ⟨q, hq, rfl, P⟩ := hrel
            by_cases hlt : q < S
            · obtain ⟨gb, rfl, u, hu, hf, hlb, hset⟩ := P.store hlt
              have q1 : (0 : Int) ≤ (q : Int) := by omega
              have q2 : (q : Int) < S := by omega
              have HP := Lib.hid hset
              clear P hset
              go_wp2_with fail
              go_roundw
              case rel => exact ⟨q + 1, by omega, by go_num, HP.out⟩
              case measure => (simp [intOf]) <;> omega
            · have q2 : (S : Int) ≤ q := by omega
              have hdq : decide (q < S) = false := decide_eq_false hlt
              obtain ⟨U1, wF1, A, -, hmu1, hn1, hd1⟩ := P
              have HLU := Lib.hid (show U1.log.length < 17592186044416 by have := much_log U1; omega)
              obtain ⟨ra1, rc1, k01, RD1, hrl1⟩ := A.rdisk
              rw [hn1, ← HS.out, hd1] at RD1
              rw [hn1, ← HS.out] at k01
              have Ad : Two w1 wr.drew b rb U1 U1 _ wF1 := A.drewN 1
              have crd : (convert 23 9 (.slice ra1 S rc1)).run Try.prog wr.drew = .ok (.string (strOf S U.d)) wr.drew := conv_row (w := wr.drewN 1) RD1
              have k01d : wr.drew.cell? ⟨rb, 0, none⟩ = some (.slice ra1 S rc1) := k01
              have HRD := Lib.hid RD1
              have HE1 := Lib.hid (And.intro hn1 hd1)
              have HKR := Lib.hid (And.intro k01 hrl1)
              clear hlt hmu1 RD1 hn1 hd1 k01 hrl1
              go_upto_region 38 with (fail)
              go_region_with
                (first
                  | (go_at_call 15; (with_reducible refine (disk_two Ad).mono ?_); rintro e w7 ⟨v7, rfl, R7, A7, Bl7⟩; have k07 : w7.cell? ⟨rb, 0, none⟩ = some (.slice ra1 S rc1) := (Bl7.cell (p := ⟨rb, 0, none⟩) HKR.out.2).trans HKR.out.1; have cr7 : (convert 23 9 (.slice ra1 S rc1)).run Try.prog w7 = .ok (.string (strOf S U.d)) w7 := conv_row (row_of_heap (w' := w7) HRD.out (fun k hk => Bl7.block k (World.ownsRow.lt HRD.out k hk).2)); have cv7 : (convert 23 9 v7).run Try.prog w7 = .ok (.string (strOf S U.d)) w7 := (by rw [HE1.out.1, ← HS.out, HE1.out.2] at R7; exact conv_row R7); have HR7 := Lib.hid R7; clear R7 Bl7)
                  | (go_at_call 17; (with_reducible refine (written_two A7).mono ?_); rintro e w8 ⟨v8, rfl, N8, A8, -, C8⟩; have k08 : w8.cell? ⟨rb, 0, none⟩ = some (.slice ra1 S rc1) := C8 _ k07; clear C8; have HN8 := Lib.hid N8; clear N8)
                  | (go_at_call 21; (with_reducible refine (rwritten_two A8).mono ?_); rintro e w9 ⟨v9, rfl, N9, A9, C9⟩; have k09 : w9.cell? ⟨rb, 0, none⟩ = some (.slice ra1 S rc1) := C9 _ k08; clear C9; have HN9 := Lib.hid N9; have HN89 := Lib.hid (HN8.out.of_heap (w' := w9) (fun k hk => A9.kept (.inr hk))); clear N9)
                  | (go_at_call 16; (with_reducible refine (same_any HN89.out HN9.out HLU.out).mono ?_); rintro e w10 ⟨rfl, n10, rfl⟩; have k10 : (w9.drewN n10).cell? ⟨rb, 0, none⟩ = some (.slice ra1 S rc1) := k09))
              all_goals
                have HEND := Lib.hid (HB1.out.trans ((A9.drewN n10).below.mono HB1.out.size))
                go_wp2_with fail
                go_ret
                exact ⟨rfl, HEND.out⟩
theorem walk (w : World) (da : Option Addr) (dl dc : Nat) (df : Nat → Nat) (HD : Reads w (.slice da dl dc) dl df) (hdf : ∀ i, df i < 256) (hd1 : dl ≤ 140737488351232) (kd : Option Addr) (kl kc : Nat) (ki rg sz : Nat → Int) (x : Nat → Nat) (ti : Nat → Int) (hkl : kl ≤ 9223372036854775807) (J : OpsIn w kd kl ki rg sz x ti) (hr : kl * 40 ≤ 140737488351232) :
    Calls Try.prog 7 #[.slice da dl dc, .slice kd kl kc] w fun e w' => e = .returned (.bool true) ∧ Below w.heap.size w w' := by
  by_cases hbad : dl % 512 ≠ 0 ∨ 32768 < dl
  · exact walk_bad w da dl dc df HD hd1 kd kl kc hbad
  · obtain ⟨m, rfl⟩ : ∃ m, dl = m * 512 := ⟨dl / 512, by omega⟩
    exact walk_good w da m dc df HD hdf (by omega) kd kl kc ki rg sz x ti J hr

set_option maxRecDepth 100000 in
theorem lifted (os : Os) (started : os.Started) (H : Type) (enc : TypeId × Value → H) :
    ReturnsInHanded {} Try.checked os 7 .any (Rows.idePlaysSpec.pre6 enc Try.prog Try.f7 Rows.idePlaysRow.domain false) (Rows.idePlaysSpec.post enc Try.prog Try.f7 false true false false) := by
  refine returnsInHanded_of_change_sized (C := Try.checked) own started (by kernel_rfl) Try.func7
    (ChangeSpec.witness6 (enc := enc) (C := Try.checked) false ⟨#[], #[.slice none 0 0, .slice none 0 0], []⟩ 8 (by kernel_rfl) (by kernel_rfl) (by kernel_rfl) (by kernel_rfl)) ?_
  intro W base args ds gs before hval0 hW hcnd hsz _
  have hval : ∀ (j : Nat) t v, Try.f7.params[j]? = some t → args[j]? = some v → Value.okWide Try.prog W .any base t v := hval0
  have hW' := hW
  obtain ⟨p, q, hA0, hV, rfl, hfz, hnd⟩ := hW
  have hA : DataW.TrodAll enc Try.prog W 0 (fun _ => true) true Try.f7.params.toList args.toList ds p := hA0
  rw [Try.params7] at hA hval
  obtain ⟨v0, vs0, d0, ds0, p0, q0, hargs, rfl, rfl, h0, r0⟩ := trodAll_cons hA
  obtain ⟨v1, vs1, d1, ds1, p1, q1, rfl, rfl, rfl, h1, r1⟩ := trodAll_cons r0
  obtain ⟨rfl, rfl, rfl⟩ := trodAll_nil r1
  obtain rfl : args = #[v0, v1] := by cases args; simp_all
  clear hA0 hval0
  obtain ⟨a0, n0, c0, f0, rfl, J0, K0⟩ := arg_bytes (hval 0 23 v0 rfl rfl) h0
  have R0 : n0 * Try.prog.bytesOf 5 ≤ 140737488351232 := arg_reach (j := 0) hsz rfl rfl Try.underlying23 h0
  rw [show Try.prog.bytesOf 5 = 1 by kernel_rfl, Nat.mul_one] at R0
  obtain ⟨a1, n1, c1, ki1, rg1, sz1, x1, ti1, rfl, m1, J1⟩ := arg_ops (hval 1 41 v1 rfl rfl) h1
  have R1 : n1 * Try.prog.bytesOf 43 ≤ 140737488351232 := arg_reach (j := 1) hsz rfl rfl Try.underlying41 h1
  rw [show Try.prog.bytesOf 43 = 40 by kernel_rfl] at R1
  exact law_end (by kernel_rfl) hW' rfl (by kernel_rfl) Try.underlying4 rfl rfl (walk W a0 n0 c0 f0 J0 K0 R0 a1 n1 c1 ki1 rg1 sz1 x1 ti1 m1 J1 R1)

theorem proved : Rows.IdePlaysSaid :=
  OpenClaim.holds_of_wide 7 Try.f7 rfl rfl rfl rfl rfl rfl rfl ⟨rfl, rfl, rfl, rfl, rfl⟩ rfl rfl rfl rfl rfl (by kernel_rfl) Try.func7 (by kernel_rfl)
    (of_decide_eq_true (by kernel_rfl)) (by unfold Func.isWrapper; first | (rw [if_pos (by decide +kernel)]; kernel_rfl) | (rw [if_neg (by decide +kernel)]; exact ⟨rfl, rfl⟩))
    (fun os started H enc _ => lifted os started H enc)
#print axioms proved
end Go.Proofs.Ytebhnfoehgpilaa.idePlays
