/- uart: a register is written. -/
import Derived.Test.YtliiccmpfmgioaaUartD
import Derived.Maps.AppendAt
namespace Go.Proofs.Ytliiccmpfmgioaa
open Go.RowKit Go.Conc
set_option linter.unusedVariables false

def Ut.setD (U : Ut) (k v : Nat) : Ut := if k = 0 then { U with d0 := v } else { U with d1 := v }
def Ut.send (U : Ut) (v : Nat) : Ut := { U with sent := U.sent ++ [v], empty := true }
def Ut.want (U : Ut) (v : Nat) : Ut := { U with empty := U.empty || (v / 2 % 2 == 1 && U.wanted / 2 % 2 == 0), wanted := v % 16 }
def Ut.ctl (U : Ut) (v : Nat) : Ut := { U with on := v % 2 == 1, came := if ((v % 2 == 1) != U.on || v / 2 % 2 == 1) = true then [] else U.came }
def Ut.latch (U : Ut) : Bool := U.lcr / 128 % 2 == 1
def Ut.setLcr (U : Ut) (v : Nat) : Ut := { U with lcr := v }
def Ut.setMcr (U : Ut) (v : Nat) : Ut := { U with mcr := v }
def Ut.setScr (U : Ut) (v : Nat) : Ut := { U with scr := v }
def Ut.setOn (U : Ut) (x : Bool) : Ut := { U with on := x }
def Ut.setWanted (U : Ut) (v : Nat) : Ut := { U with wanted := v }
def Ut.setEmpty (U : Ut) (x : Bool) : Ut := { U with empty := x }
def Ut.flow (U : Ut) (L : List Nat) : Ut := { U with came := L }
def Ut.out (U : Ut) (reg : Int) (v : Nat) : Ut :=
  if reg < 0 ∨ 7 < reg then U
  else if reg < 2 ∧ U.latch = true then U.setD reg.toNat v
  else if reg = 0 then U.send v
  else if reg = 1 then U.want v
  else if reg = 2 then U.ctl v
  else if reg = 3 then U.setLcr v
  else if reg = 4 then U.setMcr (v % 32)
  else if reg = 7 then U.setScr v
  else U
def callErr (reg : Int) : Int := if reg < 0 ∨ 7 < reg then 1 else 0
def Went (w : World) (b q : Nat) (sv : Value) (U' : Ut) (w' : World) : Prop :=
  ∃ sv', UtIn w' b q sv' U' ∧ Keeps (Held b q sv) w w' ∧ ∀ k, sv'.ownBlock = some k → sv.ownBlock = some k ∨ w.heap.size ≤ k
section
variable {w w' : World} {b q : Nat} {sv : Value} {U : Ut}
theorem Went.of {U' : Ut} (H : UtIn w' b q sv U') (K : Keeps (Held b q sv) w w') : Went w b q sv U' w' := ⟨sv, H, K, fun k h => .inl h⟩
theorem UtIn.setD (H : UtIn w b q sv U) (k v : Nat) (hk : k < 2) (hv : v < 256) : UtIn (w.setCell ⟨b, 4 + k, none⟩ (.int .u8 (v : Nat))) b q sv (U.setD k v) := by
  have o := H.ok
  rcases (show k = 0 ∨ k = 1 by omega) with rfl | rfl
  · exact H.turn 4 _ rfl rfl rfl ⟨o.c1, o.c2, hv, o.d1, o.lcr, o.mcr, o.scr, o.wanted, o.s2⟩
  · exact H.turn 5 _ rfl rfl rfl ⟨o.c1, o.c2, o.d0, hv, o.lcr, o.mcr, o.scr, o.wanted, o.s2⟩
theorem UtIn.setLcr (H : UtIn w b q sv U) (v : Nat) (hv : v < 256) : UtIn (w.setCell ⟨b, 6, none⟩ (.int .u8 (v : Nat))) b q sv (U.setLcr v) := by
  have o := H.ok
  exact H.turn 6 _ rfl rfl rfl ⟨o.c1, o.c2, o.d0, o.d1, hv, o.mcr, o.scr, o.wanted, o.s2⟩
theorem UtIn.setMcr (H : UtIn w b q sv U) (v : Nat) (hv : v < 256) : UtIn (w.setCell ⟨b, 7, none⟩ (.int .u8 (v : Nat))) b q sv (U.setMcr v) := by
  have o := H.ok
  exact H.turn 7 _ rfl rfl rfl ⟨o.c1, o.c2, o.d0, o.d1, o.lcr, hv, o.scr, o.wanted, o.s2⟩
theorem UtIn.setScr (H : UtIn w b q sv U) (v : Nat) (hv : v < 256) : UtIn (w.setCell ⟨b, 8, none⟩ (.int .u8 (v : Nat))) b q sv (U.setScr v) := by
  have o := H.ok
  exact H.turn 8 _ rfl rfl rfl ⟨o.c1, o.c2, o.d0, o.d1, o.lcr, o.mcr, hv, o.wanted, o.s2⟩
theorem UtIn.setWanted (H : UtIn w b q sv U) (v : Nat) (hv : v < 256) : UtIn (w.setCell ⟨b, 9, none⟩ (.int .u8 (v : Nat))) b q sv (U.setWanted v) := by
  have o := H.ok
  exact H.turn 9 _ rfl rfl rfl ⟨o.c1, o.c2, o.d0, o.d1, o.lcr, o.mcr, o.scr, hv, o.s2⟩
theorem UtIn.setEmpty (H : UtIn w b q sv U) (x : Bool) : UtIn (w.setCell ⟨b, 3, none⟩ (.bool x)) b q sv (U.setEmpty x) := by
  have o := H.ok
  exact H.turn 3 _ rfl rfl rfl ⟨o.c1, o.c2, o.d0, o.d1, o.lcr, o.mcr, o.scr, o.wanted, o.s2⟩
theorem UtIn.setOn (H : UtIn w b q sv U) (x : Bool) : UtIn (w.setCell ⟨b, 2, none⟩ (.bool x)) b q sv (U.setOn x) := by
  have o := H.ok
  exact H.turn 2 _ rfl rfl rfl ⟨o.c1, o.c2, o.d0, o.d1, o.lcr, o.mcr, o.scr, o.wanted, o.s2⟩
theorem keeps_obj (w : World) (b q : Nat) (sv : Value) (k : Nat) (v : Value) : Keeps (Held b q sv) w (w.setCell ⟨b, k, none⟩ v) := (Keeps.refl _ _).setCell (.inl (.inl rfl)) _

set_option maxRecDepth 20000 in
theorem out_nil (w : World) (reg v : Int) : Calls Try.prog 10 #[.pointer none, .int .i64 reg, .int .u8 v] w fun e w' => e = .returned (.int .i64 1) ∧ w = w' := by
  go_enter Try.func10, Try.ntmps10
  go_wp2_with fail
  go_ret
  exact ⟨rfl, rfl⟩
/-- A new block of one cell. -/
theorem one_new (w : World) (T : TypeId) (x : Value) : ∀ (j : Nat) (u : Value), [x][j]? = some u → (w.alloc (.cells #[x] T)).cell? ((⟨w.heap.size, 0, none⟩ : Addr).add j) = some u := by
  intro j u h
  have hj : j = 0 := by
    have := (List.getElem?_eq_some_iff.1 h).1
    simp at this; exact this
  subst hj
  rw [Go.WideShapes.add_plain, Nat.add_zero, cell_at (heap_new w _)]
  simpa using h
theorem info8 : (Try.prog.info? 5).map (fun i => (i.zero, i.size, i.bytes)) = some (some (.int .u8 0), 1, 1) := by kernel_rfl
section
variable {w1 : World} {o : Obj} {v' : Value}
theorem send_keeps (H : UtIn w b q sv U) (hg : (w.alloc o).grownBy w1 sv.ownBlock) : Keeps (Held b q sv) w w1 :=
  ((Keeps.refl _ w).alloc o).trans ⟨hg.os, hg.tape, hg.output, hg.size, fun k hk hn => hg.block k hk fun e => hn (.inr (.inr e.symm))⟩
theorem send_block (H : UtIn w b q sv U) (hg : (w.alloc o).grownBy w1 sv.ownBlock) {k : Nat} (hk : k < w.heap.size) (hn : sv.ownBlock ≠ some k) : w1.heap[k]? = w.heap[k]? := by
  rw [hg.block k (by simp; omega) (fun e => hn e.symm), Below.heap_alloc _ _ _ hk]
theorem send_facts (H : UtIn w b q sv U) (hg : (w.alloc o).grownBy w1 sv.ownBlock) : w1.cell? ⟨b, 10, none⟩ = some sv ∧ w1.cell? ⟨b, 3, none⟩ = some (.bool U.empty) ∧ (∀ k, w1.frozen? ⟨b, k, none⟩ = false) ∧ b < w1.heap.size := by
  have h : w1.heap[b]? = some (.cells (U.cells q sv).toArray 44) := (send_block H hg (H.lt (.inl rfl)) H.bs).trans H.obj
  exact ⟨by rw [cell_at h]; rfl, by rw [cell_at h]; rfl, fun k => free_at h, heap_lt h⟩
theorem send_end (H : UtIn w b q sv U) (v : Nat) (hv : v < 256) (hown : w1.ownsRow 0 5 1 v' (U.sent.length + 1) (bytesV U.sent ++ [.int .u8 (v : Nat)])) (hg : (w.alloc o).grownBy w1 sv.ownBlock)
    (hat : v'.ownBlock = sv.ownBlock ∨ v'.ownBlock = some (w.alloc o).heap.size) : Went w b q sv (U.send v) ((w1.setCell ⟨b, 10, none⟩ v').setCell ⟨b, 3, none⟩ (.bool true)) := by
  have h : w1.heap[b]? = some (.cells (U.cells q sv).toArray 44) := (send_block H hg (H.lt (.inl rfl)) H.bs).trans H.obj
  obtain ⟨s, r, hq⟩ := H.chan
  have hne : ∀ j, j ≠ b → ((w1.setCell ⟨b, 10, none⟩ v').setCell ⟨b, 3, none⟩ (.bool true)).heap[j]? = w1.heap[j]? := fun j h => by rw [heap_set_other _ h, heap_set_other _ h]
  have hbl := H.lt (.inl rfl)
  have hvb : v'.ownBlock ≠ some b := by
    rcases hat with e | e
    · rw [e]; exact H.bs
    · rw [e]; intro e2; injection e2 with e2; simp at e2; omega
  refine ⟨v', ⟨?_, ⟨s, r, ?_⟩, ?_, ?_⟩, ((send_keeps H hg).setCell (.inl (.inl rfl)) _).setCell (.inl (.inl rfl)) _, fun k hk => ?_⟩
  · rw [heap_set_map, heap_set_map, h]; rfl
  · rw [hne q H.bq.symm, send_block H hg (H.lt (.inr (.inl rfl))) H.qs]; exact hq
  · have hr : w1.ownsRow 0 5 1 v' (U.send v).sent.length (bytesV (U.send v).sent) := by
      show w1.ownsRow 0 5 1 v' (U.sent ++ [v]).length (bytesV (U.sent ++ [v]))
      rw [List.length_append, bytesV_snoc]; exact hown
    exact row_of_heap hr fun k hk => hne k fun e => hvb (by rw [← e]; exact hk)
  · have o := H.ok
    exact ⟨o.c1, o.c2, o.d0, o.d1, o.lcr, o.mcr, o.scr, o.wanted, fun x hx => by
      rcases List.mem_append.1 hx with h | h
      · exact o.s2 x h
      · simp only [List.mem_singleton] at h; omega⟩
  · rcases hat with e | e
    · exact .inl (by rw [← e]; exact hk)
    · right
      rw [e] at hk
      injection hk with hk
      simp at hk; omega
end
theorem out_bad (reg v : Int) (h : reg < 0 ∨ 7 < reg) : Calls Try.prog 10 #[.pointer (some ⟨b, 0, none⟩), .int .i64 reg, .int .u8 v] w fun e w' => e = .returned (.int .i64 1) ∧ w = w' := by
  by_cases h0 : reg < 0
  · clear h
    go_enter Try.func10, Try.ntmps10
    go_wp2_with fail
    go_ret
    exact ⟨rfl, rfl⟩
  · have h7 : 7 < reg := by omega
    have g0 : ¬ reg < 0 := h0
    clear h
    go_enter Try.func10, Try.ntmps10
    go_wp2_with fail
    go_ret
    exact ⟨rfl, rfl⟩
set_option maxHeartbeats 2000000 in
theorem out_d (H : UtIn w b q sv U) (k v : Nat) (hk : k < 2) (hv : v < 256) (hl : U.latch = true) :
    Calls Try.prog 10 #[.pointer (some ⟨b, 0, none⟩), .int .i64 (k : Nat), .int .u8 (v : Nat)] w fun e w' => e = .returned (.int .i64 0) ∧ Went w b q sv (U.setD k v) w' := by
  obtain ⟨-, -, -, -, k4, k5, k6, -, -, -, -, kf, kl⟩ := H.facts
  have hb := t128 U.lcr H.ok.lcr
  rw [show (U.lcr / 128 % 2 == 1) = true from hl] at hb
  have HH := Lib.hid (H.setD k v hk hv)
  clear H hl
  rcases (show k = 0 ∨ k = 1 by omega) with rfl | rfl
  all_goals
    go_enter Try.func10, Try.ntmps10
    go_wp2_with fail
    go_ret
    exact ⟨rfl, Went.of HH.out (keeps_obj w b q sv _ _)⟩
theorem not_bit : ∀ x : Fin 256, (255 - x.val).testBit 1 = (x.val / 2 % 2 == 0) := by decide +kernel
theorem two_bit : ∀ x : Fin 256, (x.val &&& 2 != 0) = x.val.testBit 1 := by decide +kernel
theorem new_want (v t : Nat) (hv : v < 256) (ht : t < 256) : (bits .and .u8 (bits .andNot .u8 (v : Int) (t : Int)) 2 != 0) = (v / 2 % 2 == 1 && t / 2 % 2 == 0) := by
  have e1 : bits .andNot .u8 (v : Int) (t : Int) = ((v &&& (255 - t) : Nat) : Int) := u8_andNot_nat v t hv ht
  have hlt : v &&& (255 - t) < 256 := Nat.lt_of_le_of_lt Nat.and_le_left hv
  have e2 : bits .and .u8 ((v &&& (255 - t) : Nat) : Int) 2 = (((v &&& (255 - t)) &&& 2 : Nat) : Int) := u8_and_nat _ 2 hlt (by decide)
  have e3 : ((((v &&& (255 - t)) &&& 2 : Nat) : Int) != 0) = (((v &&& (255 - t)) &&& 2) != 0) := by
    rw [Bool.eq_iff_iff]; simp
  rw [e1, e2, e3]
  have := two_bit ⟨_, hlt⟩
  simp only at this
  rw [this, Nat.testBit_and, not_bit ⟨t, ht⟩, Nat.testBit_eq_decide_div_mod_eq]
  simp
  rfl
set_option maxHeartbeats 4000000 in
theorem out_0 (H : UtIn w b q sv U) (v : Nat) (hv : v < 256) (hl : U.latch = false) (hL : U.sent.length + 1 ≤ 140737488355328) :
    Calls Try.prog 10 #[.pointer (some ⟨b, 0, none⟩), .int .i64 0, .int .u8 (v : Nat)] w fun e w' => e = .returned (.int .i64 0) ∧ Went w b q sv (U.send v) w' := by
  obtain ⟨-, -, -, k3, -, -, k6, -, -, -, k10, kf, kl⟩ := H.facts
  have hb := t128 U.lcr H.ok.lcr
  rw [show (U.lcr / 128 % 2 == 1) = false from hl] at hb
  obtain ⟨i0, hi, hz0, hz1, hz2⟩ := info_parts info8
  have hown := H.sent
  obtain ⟨a, c, rfl⟩ := row_len hown
  have HH := Lib.hid H
  have HOWN := Lib.hid hown
  have HL := Lib.hid hL
  have hc1 := Lib.hid (one_new w 5 (.int .u8 (v : Nat)))
  clear H hown hl hL
  go_enter Try.func10, Try.ntmps10
  go_wp2_with (at_builtin; (refine wpList_append_own_at _ rfl _ _ 27 rfl 0 5 i0 (.int .u8 0) 1 1 Try.underlying27 hi hz0 hz1 hz2 rfl (by decide) _ _ _ rfl (HOWN.out.alloc _) ⟨w.heap.size, 0, none⟩ 1 1 [.int .u8 (v : Nat)] rfl rfl hc1.out (fun u hu => by rw [List.mem_singleton.1 hu]; rfl) (by unfold maxLen; have := HL.out; omega) (by have := HL.out; omega) (Nat.zero_le _) ?_); intro v' w1' hown1 hgrow1 _ hat; obtain ⟨a', c', rfl⟩ := row_len hown1; have hcl := Lib.hid (send_end HH.out v hv hown1 hgrow1 hat); obtain ⟨f10, f3, ff, fl⟩ := send_facts HH.out hgrow1; clear hown1 hgrow1 hat)
  go_ret
  exact ⟨rfl, hcl.out⟩
set_option maxHeartbeats 2000000 in
theorem out_1 (H : UtIn w b q sv U) (v : Nat) (hv : v < 256) (hl : U.latch = false) :
    Calls Try.prog 10 #[.pointer (some ⟨b, 0, none⟩), .int .i64 1, .int .u8 (v : Nat)] w fun e w' => e = .returned (.int .i64 0) ∧ Went w b q sv (U.want v) w' := by
  obtain ⟨-, -, -, k3, -, -, k6, -, -, k9, -, kf, kl⟩ := H.facts
  have hb := t128 U.lcr H.ok.lcr
  rw [show (U.lcr / 128 % 2 == 1) = false from hl] at hb
  have hn := new_want v U.wanted hv H.ok.wanted
  have hm := m15 v hv
  have HH := Lib.hid ((H.setEmpty (U.empty || (v / 2 % 2 == 1 && U.wanted / 2 % 2 == 0))).setWanted (v % 16) (by omega))
  have HE := Lib.hid (show (U.setEmpty (U.empty || (v / 2 % 2 == 1 && U.wanted / 2 % 2 == 0))).setWanted (v % 16) = U.want v from rfl)
  rw [HE.out] at HH
  generalize (v / 2 % 2 == 1 && U.wanted / 2 % 2 == 0) = c at *
  generalize v % 16 = y at *
  generalize U.want v = U' at *
  clear H hl HE
  cases he : U.empty
  all_goals
    rw [he] at HH k3
    clear he
    go_enter Try.func10, Try.ntmps10
    go_wp2_with fail
    go_ret
    exact ⟨rfl, Went.of HH.out ((keeps_obj w b q sv _ _).setCell (.inl (.inl rfl)) _)⟩
def chanLen (w : World) (q : Nat) : Nat := match w.heap[q]? with | some (.chan _ buf _ _ _ _) => buf.size | _ => 0
theorem UtIn.len (H : UtIn w b q sv U) : chanLen w q = U.came.length := by
  obtain ⟨s, r, hq⟩ := H.chan
  unfold chanLen
  rw [hq]; simp [bytesV]
set_option maxHeartbeats 4000000 in
theorem out_2 (H : UtIn w b q sv U) (v : Nat) (hv : v < 256) :
    Calls Try.prog 10 #[.pointer (some ⟨b, 0, none⟩), .int .i64 2, .int .u8 (v : Nat)] w fun e w' => e = .returned (.int .i64 0) ∧ Went w b q sv (U.ctl v) w' := by
  obtain ⟨-, -, k2, -, -, -, k6, -, -, -, -, kf, kl⟩ := H.facts
  have hb := t128 U.lcr H.ok.lcr
  have h1 := t1 v hv
  have h2 := t2 v hv
  have hU : U.ctl v = (U.flow (if ((v % 2 == 1) != U.on || v / 2 % 2 == 1) = true then [] else U.came)).setOn (v % 2 == 1) := rfl
  generalize (U.lcr / 128 % 2 == 1) = c at hb
  generalize (v % 2 == 1) = c1 at *
  generalize (v / 2 % 2 == 1) = c2 at *
  generalize U.ctl v = U' at *
  generalize ho : U.on = c0 at *
  have HH := Lib.hid H
  have HO := Lib.hid ho
  clear H ho
  by_cases hc : ((c1 != c0) || c2) = true
  · rw [if_pos hc] at hU
    have HU := Lib.hid hU
    clear hU
    cases c1 <;> cases c0 <;> cases c2
    all_goals (try (exfalso; simp at hc; done))
    all_goals
      clear hc
      have HL := Lib.hid (HH.out.len)
      go_enter Try.func10, Try.ntmps10
      go_wp2_with fail
      go_loopw [9] (fun m wr => ∃ (x : Bool) (L : List Nat), m = .bool x ∧ (x = false → L = []) ∧ UtIn wr b q sv (U.flow L) ∧ Keeps (Held b q sv) w wr) (fun m wr => 2 * chanLen wr q + (match m with | .bool true => 1 | _ => 0))
      case atStart => exact ⟨true, U.came, rfl, (fun h => by cases h), HH.out, Keeps.refl _ _⟩
      case round =>
        obtain ⟨x, L, rfl, hx, Hr, K⟩ := hrel
        cases x
        · have hL := hx rfl
          subst hL
          obtain ⟨-, -, r2, -, -, -, -, -, -, -, -, rf, rl⟩ := Hr.facts
          have HR := Lib.hid Hr
          have HK := Lib.hid K
          clear Hr K hx
          go_wp2_with fail
          go_ret
          exact ⟨rfl, Went.of (by rw [HU.out]; exact HR.out.setOn _) (HK.out.setCell (.inl (.inl rfl)) _)⟩
        · have HLn := Lib.hid Hr.len
          cases L with
          | nil =>
            have HK := Lib.hid K
            clear hx K
            go_wp2_with fail
            refine (next_none Hr rfl).mono ?_
            rintro e w1 ⟨rfl, rfl⟩
            go_wp2_with fail
            go_roundw
            case rel => exact ⟨false, [], rfl, fun _ => rfl, Hr, HK.out⟩
            case measure => simp
          | cons y l =>
            have HK := Lib.hid K
            clear hx K
            go_wp2_with fail
            refine (next_some Hr y l rfl).mono ?_
            rintro e w1 ⟨rfl, H1, K1⟩
            have e1 := HLn.out
            have e2 := H1.len
            have E1 := Lib.hid e1
            have E2 := Lib.hid e2
            clear e1 e2
            have H1 : UtIn w1 b q sv (U.flow l) := H1
            go_wp2_with fail
            go_roundw
            case rel => exact ⟨true, l, rfl, (fun h => by cases h), H1, HK.out.andThen K1 fun i _ e => by rw [e]; exact .inr (.inl rfl)⟩
            case measure =>
              rw [E1.out, E2.out]
              show 2 * l.length + 1 < 2 * (l.length + 1) + 1
              omega
  · rw [if_neg hc] at hU
    have HU := Lib.hid hU
    have e1 : c1 = c0 ∧ c2 = false := by cases c1 <;> cases c0 <;> cases c2 <;> simp_all
    obtain ⟨rfl, rfl⟩ := e1
    clear hU hc
    cases c1
    all_goals
      go_enter Try.func10, Try.ntmps10
      go_wp2_with fail
      go_ret
      refine ⟨rfl, Went.of (by rw [HU.out]; exact HH.out.setOn _) (keeps_obj w b q sv _ _)⟩
set_option maxHeartbeats 2000000 in
theorem out_3 (H : UtIn w b q sv U) (v : Nat) (hv : v < 256) :
    Calls Try.prog 10 #[.pointer (some ⟨b, 0, none⟩), .int .i64 3, .int .u8 (v : Nat)] w fun e w' => e = .returned (.int .i64 0) ∧ Went w b q sv (U.setLcr v) w' := by
  obtain ⟨-, -, -, -, -, -, k6, -, -, -, -, kf, kl⟩ := H.facts
  have hb := t128 U.lcr H.ok.lcr
  have HH := Lib.hid (H.setLcr v hv)
  generalize (U.lcr / 128 % 2 == 1) = c at hb
  clear H
  go_enter Try.func10, Try.ntmps10
  go_wp2_with fail
  go_ret
  exact ⟨rfl, Went.of HH.out (keeps_obj w b q sv _ _)⟩
set_option maxHeartbeats 2000000 in
theorem out_4 (H : UtIn w b q sv U) (v : Nat) (hv : v < 256) :
    Calls Try.prog 10 #[.pointer (some ⟨b, 0, none⟩), .int .i64 4, .int .u8 (v : Nat)] w fun e w' => e = .returned (.int .i64 0) ∧ Went w b q sv (U.setMcr (v % 32)) w' := by
  obtain ⟨-, -, -, -, -, -, k6, k7, -, -, -, kf, kl⟩ := H.facts
  have hb := t128 U.lcr H.ok.lcr
  have hm := m31 v hv
  have HH := Lib.hid (H.setMcr (v % 32) (by omega))
  generalize (U.lcr / 128 % 2 == 1) = c at hb
  generalize v % 32 = y at *
  clear H
  go_enter Try.func10, Try.ntmps10
  go_wp2_with fail
  go_ret
  exact ⟨rfl, Went.of HH.out (keeps_obj w b q sv _ _)⟩
set_option maxHeartbeats 2000000 in
theorem out_7 (H : UtIn w b q sv U) (v : Nat) (hv : v < 256) :
    Calls Try.prog 10 #[.pointer (some ⟨b, 0, none⟩), .int .i64 7, .int .u8 (v : Nat)] w fun e w' => e = .returned (.int .i64 0) ∧ Went w b q sv (U.setScr v) w' := by
  obtain ⟨-, -, -, -, -, -, k6, -, k8, -, -, kf, kl⟩ := H.facts
  have hb := t128 U.lcr H.ok.lcr
  have HH := Lib.hid (H.setScr v hv)
  generalize (U.lcr / 128 % 2 == 1) = c at hb
  clear H
  go_enter Try.func10, Try.ntmps10
  go_wp2_with fail
  go_ret
  exact ⟨rfl, Went.of HH.out (keeps_obj w b q sv _ _)⟩
set_option maxHeartbeats 2000000 in
theorem out_else (H : UtIn w b q sv U) (reg : Int) (hr : reg = 5 ∨ reg = 6) (v : Nat) :
    Calls Try.prog 10 #[.pointer (some ⟨b, 0, none⟩), .int .i64 reg, .int .u8 (v : Nat)] w fun e w' => e = .returned (.int .i64 0) ∧ Went w b q sv U w' := by
  obtain ⟨-, -, -, -, -, -, k6, -, -, -, -, kf, kl⟩ := H.facts
  have hb := t128 U.lcr H.ok.lcr
  have HH := Lib.hid H
  generalize (U.lcr / 128 % 2 == 1) = c at hb
  clear H
  rcases hr with rfl | rfl
  all_goals
    go_enter Try.func10, Try.ntmps10
    go_wp2_with fail
    go_ret
    exact ⟨rfl, Went.of HH.out (Keeps.refl _ _)⟩
end
end Go.Proofs.Ytliiccmpfmgioaa
