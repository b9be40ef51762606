/- The contract of the bracket that belongs to an opening one. Conditions: none beyond what it says. -/
import Derived.Test.YtlbbgocggifjaaaPair3
import Derived.Deep.LoopGhost
namespace Go.Proofs.Ytlbbgocggifjaaa
open Go.RowKit

def optP (L : List ByteArray) : Option Nat → (Int × Int) × Bool
  | none => noPlc
  | some t => atPlc L t
theorem cell_lt4 {w : World} {b o : Nat} {v : Value} (h : w.cell? ⟨b, o, none⟩ = some v) : b < w.heap.size := World.block_lt_of_cell? w _ h
theorem name_ptr4 {P : Program} {c : Code} {Q : Exit → Act → World → Prop} {a : Act} {w : World} (t : Nat) {b : Nat} (_h : a.tmps.getD t undef = Value.pointer (some ⟨b, 0, none⟩)) (k : ∀ B, B = b → c.wp P Q a w) : c.wp P Q a w := k b rfl
theorem kind_at (c o s : Int) (op : Bool) (h : Hid (kindP c = (o, s, op, true))) (w : World) : Calls Try.prog 48 #[.int .u8 c] w fun e w' =>
    e = .returned (.tuple #[.int .u8 o, .int .u8 s, .bool op, .bool true]) ∧ w = w' := by
  have := kind_any c w
  rw [h.out] at this
  exact this
/-- The number of a place's byte. -/
theorem flat_byte {L : List ByteArray} {l c : Nat} {s : ByteArray} (hl : l < L.length) (hs : L.getD l .empty = s) (hc : c < s.size) : btI (flat L) (idx L l c) = (s[c].toNat : Int) := by
  have h := flat_at (L := L) hl (by rw [hs]; exact hc)
  unfold btI
  rw [h, hs, List.getD_eq_getElem?_getD, list_at s c hc]; rfl
/-- What a next place comes to. -/
theorem nxt_ways (L : List ByteArray) (j : Nat) : (j < total L ∧ ∃ l c : Nat, Hid (nxtP L j = (((l : Int), (c : Int)), true)) ∧ l < L.length ∧ Hid (c < (L.getD l .empty).size ∧ idx L l c = j)) ∨ (total L ≤ j ∧ Hid (nxtP L j = ((0, 0), false))) := by
  by_cases h : j < total L
  · left
    obtain ⟨h1, h2, h3⟩ := plcOf_spec h
    exact ⟨h, (plcOf L j).1, (plcOf L j).2, Lib.hid (by rw [nxtP, if_pos h]; rfl), h1, Lib.hid ⟨h2, h3⟩⟩
  · right; exact ⟨by omega, Lib.hid (by rw [nxtP, if_neg h]; rfl)⟩

set_option maxRecDepth 100000 in
set_option maxHeartbeats 4000000 in
theorem other_open (a : Option Addr) (cap : Nat) (L : List ByteArray) (l c : Nat) (w : World) (hL : LinesAt w a L) (hl : l < L.length) (hc : c < (L.getD l .empty).size) (htot : total L ≤ 1000000)
    (o s : Int) (hk : Hid (kindP (btI (flat L) (idx L l c)) = (o, s, true, true))) (hos : o ≠ s) :
    Calls Try.prog 110 #[.slice a L.length cap, .agg #[.int .i64 l, .int .i64 c]] w fun e w' => e = .returned (plcV (optP L (scanF (flat L) o s 1 (idx L l c + 1)))) ∧ Below w.heap.size w w' := by
  have hn := hL.2.1
  obtain ⟨R, hR⟩ : ∃ R, scanF (flat L) o s 1 (idx L l c + 1) = R := ⟨_, rfl⟩
  rw [hR]
  have HR := Lib.hid hR
  obtain ⟨b, off, u, rfl, hb, hcell, hu, HU⟩ := line_facts' hL hl
  have hcu : c < u.size := by have := hc; rw [HU.out] at this; exact this
  have hcI : (c : Int) < (u.size : Int) := by omega
  have hlI : (l : Int) < (L.length : Int) := by omega
  have hl0 : (0 : Int) ≤ (l : Int) := by omega
  have hc0 : (0 : Int) ≤ (c : Int) := by omega
  have hkk := hk.out
  rw [flat_byte hl HU.out hcu] at hkk
  have HK := Lib.hid hkk
  have HC := Lib.hid hc
  obtain ⟨j0, hj0⟩ : ∃ j0, idx L l c + 1 = j0 := ⟨_, rfl⟩
  rw [hj0] at HR
  have HJ := Lib.hid hj0
  have HO := Lib.hid hos
  clear hR hkk hc hj0 hos
  go_enter Try.func110, Try.ntmps110
  go_wp2
  (refine wp_region_ovr (by kernel_rfl) (by kernel_rfl) ?_; (repeat (go_big_quiet_step ((go_at_call 48; exact quiet_same (kind_at _ _ _ _ HK _))))); refine wpQuiet_nil ?_; rintro _ ⟨zq, rfl⟩)
  go_wp2_with fail
  go_at_call 114; refine (next_forth _ _ L _ _ _ (by (repeat (first | assumption | refine LinesAt.ovr ?_ _ | refine LinesAt.alloc ?_ _ | refine LinesAt.drewN ?_ _ | refine LinesAt.drew ?_))) hl HC.out).mono ?_; rw [HJ.out]; rintro e w1 ⟨rfl, hbl⟩; obtain ⟨x1, rfl⟩ := ovr_of_below hbl; clear hbl
  obtain ⟨⟨⟨n1, n2⟩, ok⟩, hnx⟩ : ∃ r, nxtP L j0 = r := ⟨_, rfl⟩
  rw [hnx]
  have HNX := Lib.hid hnx
  clear hnx
  go_wp2
  refine name_ptr4 11 rfl ?_
  intro B0 hB0
  rw [← hB0]
  refine name_ptr4 4 rfl ?_
  intro Rb hRb
  rw [← hRb]
  refine name_world ?_
  intro W0 hW
  have r0 : W0.cell? ⟨Rb, 0, none⟩ = some (.int .i64 0) := by subst hW hB0 hRb; simp [go_sem]
  have r1 : W0.cell? ⟨Rb, 1, none⟩ = some (.int .i64 0) := by subst hW hB0 hRb; simp [go_sem]
  have f0 : W0.frozen? ⟨Rb, 0, none⟩ = false := by subst hW hB0 hRb; simp [go_sem]
  have f1 : W0.frozen? ⟨Rb, 1, none⟩ = false := by subst hW hB0 hRb; simp [go_sem]
  have b0 : W0.cell? ⟨B0, 0, none⟩ = some (.int .i64 n1) := by subst hW hB0 hRb; simp [go_sem]
  have b1 : W0.cell? ⟨B0, 1, none⟩ = some (.int .i64 n2) := by subst hW hB0 hRb; simp [go_sem]
  have hL0 : LinesAt W0 (some ⟨b, off, none⟩) L := by rw [hW]; (repeat (first | assumption | refine LinesAt.ovr ?_ _ | refine LinesAt.alloc ?_ _ | refine LinesAt.drewN ?_ _ | refine LinesAt.drew ?_))
  have hbel : Below w.heap.size w W0 := by rw [hW]; (repeat (first | with_reducible exact Below.refl _ _ | (with_reducible refine Below.setCell ?_ ?_ _; rotate_left; · (first | exact Nat.le_refl _ | assumption | omega | (simp; done) | (simp; omega))) | (with_reducible refine Below.alloc ?_ ?_ _; rotate_left; · (first | exact Nat.le_refl _ | assumption | omega | (simp; done) | (simp; omega))) | with_reducible refine below_ovr_of ?_ | with_reducible refine drew_below ?_ _ | with_reducible refine Below.drew ?_ | with_reducible assumption))
  have hszW := hbel.size
  have hRw : w.heap.size ≤ Rb := by omega
  have lR := cell_lt4 r0
  clear hW hB0 hRb hL
  go_loopg [10, 11, 12] (total L - j0) (fun g d p k wr => Below W0.heap.size W0 wr ∧ ∃ dd : Int, d = .int .i64 dd ∧
    ((k = .bool true ∧ ∃ (B l' c' j : Nat), p = .pointer (some ⟨B, 0, none⟩) ∧ wr.cell? ⟨B, 0, none⟩ = some (.int .i64 l') ∧ wr.cell? ⟨B, 1, none⟩ = some (.int .i64 c') ∧ l' < L.length ∧ j < total L ∧ g = total L - j ∧ 1 ≤ dd ∧ dd ≤ j + 1 ∧
        Hid (c' < (L.getD l' .empty).size ∧ idx L l' c' = j) ∧ Hid (scanF (flat L) o s dd j = R)) ∨
     (k = .bool false ∧ Hid (R = none) ∧ ∃ B : Nat, p = .pointer (some ⟨B, 0, none⟩))))
  case atStart =>
    refine ⟨Below.refl _ _, 1, rfl, ?_⟩
    rcases nxt_ways L j0 with ⟨hj, l1, c1, HN, hl1, HP⟩ | ⟨hj, HN⟩
    · have e := HN.out.symm.trans HNX.out
      simp only [Prod.mk.injEq] at e
      obtain ⟨⟨rfl, rfl⟩, rfl⟩ := e
      left
      exact ⟨rfl, B0, l1, c1, j0, rfl, b0, b1, hl1, hj, rfl, by omega, by omega, HP, HR⟩
    · have e := HN.out.symm.trans HNX.out
      simp only [Prod.mk.injEq] at e
      obtain ⟨⟨rfl, rfl⟩, rfl⟩ := e
      right
      exact ⟨rfl, Lib.hid (by rw [← HR.out, scanF_end (by rw [flat_length]; exact hj)]), B0, rfl⟩
  case round =>
    obtain ⟨hbV, dd, rfl, h⟩ := hrel
    have hszV := hbV.size
    have lRw : Rb < wr.heap.size := by omega
    have hLV : LinesAt wr (some ⟨b, off, none⟩) L := hL0.below hbV (Nat.le_refl _)
    rcases h with ⟨rfl, B, l', c', j, rfl, p0, p1, hl', hj, rfl, hd1, hd2, HP, HS⟩ | ⟨rfl, HRn, B, rfl⟩
    · have lB := cell_lt4 p0
      obtain ⟨b', off', s', e, hb', hcell', hs', HU'⟩ := line_facts' hLV hl'
      cases e
      obtain ⟨HPc, HPi⟩ := HP.out
      have HPc' := HPc
      rw [HU'.out] at HPc'
      have hcI' : (c' : Int) < (s'.size : Int) := by omega
      have hlI' : (l' : Int) < (L.length : Int) := by omega
      have hl0' : (0 : Int) ≤ (l' : Int) := by omega
      have hc0' : (0 : Int) ≤ (c' : Int) := by omega
      have hbt := flat_byte hl' HU'.out HPc'
      rw [HPi] at hbt
      obtain ⟨cc, hcc⟩ : ∃ cc : Int, (s'[c'].toNat : Int) = cc := ⟨_, rfl⟩
      rw [hcc] at hbt
      have hjl : j < (flat L).length := by rw [flat_length]; exact hj
      obtain ⟨⟨⟨m1, m2⟩, ok2⟩, hn2⟩ : ∃ r, nxtP L (j + 1) = r := ⟨_, rfl⟩
      have HN2 := Lib.hid hn2
      clear hn2
      have HIDC := Lib.hid HPc
      have HIDI := Lib.hid HPi
      by_cases h1 : cc = o
      · have d1 : deepF o s (btI (flat L) j) dd = dd + 1 := by rw [hbt, deepF, if_pos h1]
        have HS2 := Lib.hid ((scanF_miss (B := flat L) (o := o) (s := s) (d := dd) hjl (by rw [d1]; omega)).symm.trans HS.out)
        rw [d1] at HS2
        have t1 : (cc == o) = true := beq_iff_eq.2 h1
        have t3 : (dd + 1 == 0) = false := beq_eq_false_iff_ne.2 (by omega)
        clear h1 d1 hbt HPc HPi
        go_wp2
        (refine wp_region_ovr (by kernel_rfl) (by kernel_rfl) ?_; (repeat (go_big_quiet_step (fail))); refine wpQuiet_nil ?_; rintro _ ⟨zq, rfl⟩)
        go_wp2_with fail
        go_at_call 114; refine (next_forth _ _ L l' c' _ (by (repeat (first | assumption | refine LinesAt.ovr ?_ _ | refine LinesAt.alloc ?_ _ | refine LinesAt.drewN ?_ _ | refine LinesAt.drew ?_))) hl' HIDC.out).mono ?_; rw [HIDI.out]; rintro e w1 ⟨rfl, hbl⟩; obtain ⟨x2, rfl⟩ := ovr_of_below hbl; clear hbl
        rw [HN2.out]
        go_wp2
        go_roundg (total L - (j + 1))
        case measure => omega
        case rel =>
          refine ⟨by (repeat (first | with_reducible exact Below.refl _ _ | (with_reducible refine Below.setCell ?_ ?_ _; rotate_left; · (first | exact Nat.le_refl _ | assumption | omega | (simp; done) | (simp; omega))) | (with_reducible refine Below.alloc ?_ ?_ _; rotate_left; · (first | exact Nat.le_refl _ | assumption | omega | (simp; done) | (simp; omega))) | with_reducible refine below_ovr_of ?_ | with_reducible refine drew_below ?_ _ | with_reducible refine Below.drew ?_ | with_reducible assumption)), dd + 1, by go_num, ?_⟩
          rcases nxt_ways L (j + 1) with ⟨hj2, l2, c2, HN, hl2, HP2⟩ | ⟨hj2, HN⟩
          · have e := HN.out.symm.trans HN2.out
            simp only [Prod.mk.injEq] at e
            obtain ⟨⟨rfl, rfl⟩, rfl⟩ := e
            left
            exact ⟨rfl, _, l2, c2, j + 1, rfl, by simp [go_sem], by simp [go_sem], hl2, hj2, rfl, by omega, by omega, HP2, HS2⟩
          · have e := HN.out.symm.trans HN2.out
            simp only [Prod.mk.injEq] at e
            obtain ⟨⟨rfl, rfl⟩, rfl⟩ := e
            right
            exact ⟨rfl, Lib.hid (by rw [← HS2.out, scanF_end (by rw [flat_length]; exact hj2)]), _, rfl⟩
      · have t1 : (cc == o) = false := beq_eq_false_iff_ne.2 h1
        by_cases h2 : cc = s
        · have t2 : (cc == s) = true := beq_iff_eq.2 h2
          have d1 : deepF o s (btI (flat L) j) dd = dd - 1 := by rw [hbt, deepF, if_neg h1, if_pos h2]
          by_cases h3 : dd = 1
          · have HRj := Lib.hid (HS.out.symm.trans (scanF_hit (B := flat L) (o := o) (s := s) (d := dd) hjl (by rw [d1]; omega)))
            have HY := Lib.hid (atPlc_eq hl' HPc HPi)
            have t3 : (dd - 1 == 0) = true := beq_iff_eq.2 (by omega)
            have v0 : wr.cell? ⟨Rb, 0, none⟩ = some (.int .i64 0) := (hbV.cell (p := ⟨Rb, 0, none⟩) lR).trans r0
            have v1 : wr.cell? ⟨Rb, 1, none⟩ = some (.int .i64 0) := (hbV.cell (p := ⟨Rb, 1, none⟩) lR).trans r1
            have g0 : wr.frozen? ⟨Rb, 0, none⟩ = false := (hbV.frozen (p := ⟨Rb, 0, none⟩) lR).trans f0
            have g1 : wr.frozen? ⟨Rb, 1, none⟩ = false := (hbV.frozen (p := ⟨Rb, 1, none⟩) lR).trans f1
            have hbw : Below w.heap.size w wr := hbel.trans (hbV.mono hszW)
            clear h1 h2 h3 d1 hbt HPc HPi
            go_wp2
            (refine wp_region_ovr (by kernel_rfl) (by kernel_rfl) ?_; (repeat (go_big_quiet_step (fail))); refine wpQuiet_nil ?_; rintro _ ⟨zq, rfl⟩)
            go_wp2
            refine bodyPost_ret (v := plcV (((l' : Int), (c' : Int)), true)) (by simp [results, Try.results110, go_sem, v0, v1, lRw]) rfl ⟨by rw [HRj.out, optP, HY.out], by (repeat (first | with_reducible exact Below.refl _ _ | (with_reducible refine Below.setCell ?_ ?_ _; rotate_left; · (first | exact Nat.le_refl _ | assumption | omega | (simp; done) | (simp; omega))) | (with_reducible refine Below.alloc ?_ ?_ _; rotate_left; · (first | exact Nat.le_refl _ | assumption | omega | (simp; done) | (simp; omega))) | with_reducible refine below_ovr_of ?_ | with_reducible refine drew_below ?_ _ | with_reducible refine Below.drew ?_ | with_reducible assumption))⟩
          · have HS2 := Lib.hid ((scanF_miss (B := flat L) (o := o) (s := s) (d := dd) hjl (by rw [d1]; omega)).symm.trans HS.out)
            rw [d1] at HS2
            have hd3 : 2 ≤ dd := by omega
            have t3 : (dd - 1 == 0) = false := beq_eq_false_iff_ne.2 (by omega)
            clear h1 h2 h3 d1 hbt HPc HPi
            go_wp2
            (refine wp_region_ovr (by kernel_rfl) (by kernel_rfl) ?_; (repeat (go_big_quiet_step (fail))); refine wpQuiet_nil ?_; rintro _ ⟨zq, rfl⟩)
            go_wp2_with fail
            go_at_call 114; refine (next_forth _ _ L l' c' _ (by (repeat (first | assumption | refine LinesAt.ovr ?_ _ | refine LinesAt.alloc ?_ _ | refine LinesAt.drewN ?_ _ | refine LinesAt.drew ?_))) hl' HIDC.out).mono ?_; rw [HIDI.out]; rintro e w1 ⟨rfl, hbl⟩; obtain ⟨x2, rfl⟩ := ovr_of_below hbl; clear hbl
            rw [HN2.out]
            go_wp2
            go_roundg (total L - (j + 1))
            case measure => omega
            case rel =>
              refine ⟨by (repeat (first | with_reducible exact Below.refl _ _ | (with_reducible refine Below.setCell ?_ ?_ _; rotate_left; · (first | exact Nat.le_refl _ | assumption | omega | (simp; done) | (simp; omega))) | (with_reducible refine Below.alloc ?_ ?_ _; rotate_left; · (first | exact Nat.le_refl _ | assumption | omega | (simp; done) | (simp; omega))) | with_reducible refine below_ovr_of ?_ | with_reducible refine drew_below ?_ _ | with_reducible refine Below.drew ?_ | with_reducible assumption)), dd - 1, by go_num, ?_⟩
              rcases nxt_ways L (j + 1) with ⟨hj2, l2, c2, HN, hl2, HP2⟩ | ⟨hj2, HN⟩
              · have e := HN.out.symm.trans HN2.out
                simp only [Prod.mk.injEq] at e
                obtain ⟨⟨rfl, rfl⟩, rfl⟩ := e
                left
                exact ⟨rfl, _, l2, c2, j + 1, rfl, by simp [go_sem], by simp [go_sem], hl2, hj2, rfl, by omega, by omega, HP2, HS2⟩
              · have e := HN.out.symm.trans HN2.out
                simp only [Prod.mk.injEq] at e
                obtain ⟨⟨rfl, rfl⟩, rfl⟩ := e
                right
                exact ⟨rfl, Lib.hid (by rw [← HS2.out, scanF_end (by rw [flat_length]; exact hj2)]), _, rfl⟩
        · have t2 : (cc == s) = false := beq_eq_false_iff_ne.2 h2
          have d1 : deepF o s (btI (flat L) j) dd = dd := by rw [hbt, deepF, if_neg h1, if_neg h2]
          have HS2 := Lib.hid ((scanF_miss (B := flat L) (o := o) (s := s) (d := dd) hjl (by rw [d1]; omega)).symm.trans HS.out)
          rw [d1] at HS2
          have t3 : (dd == 0) = false := beq_eq_false_iff_ne.2 (by omega)
          clear h1 h2 d1 hbt HPc HPi
          go_wp2
          (refine wp_region_ovr (by kernel_rfl) (by kernel_rfl) ?_; (repeat (go_big_quiet_step (fail))); refine wpQuiet_nil ?_; rintro _ ⟨zq, rfl⟩)
          go_wp2_with fail
          go_at_call 114; refine (next_forth _ _ L l' c' _ (by (repeat (first | assumption | refine LinesAt.ovr ?_ _ | refine LinesAt.alloc ?_ _ | refine LinesAt.drewN ?_ _ | refine LinesAt.drew ?_))) hl' HIDC.out).mono ?_; rw [HIDI.out]; rintro e w1 ⟨rfl, hbl⟩; obtain ⟨x2, rfl⟩ := ovr_of_below hbl; clear hbl
          rw [HN2.out]
          go_wp2
          go_roundg (total L - (j + 1))
          case measure => omega
          case rel =>
            refine ⟨by (repeat (first | with_reducible exact Below.refl _ _ | (with_reducible refine Below.setCell ?_ ?_ _; rotate_left; · (first | exact Nat.le_refl _ | assumption | omega | (simp; done) | (simp; omega))) | (with_reducible refine Below.alloc ?_ ?_ _; rotate_left; · (first | exact Nat.le_refl _ | assumption | omega | (simp; done) | (simp; omega))) | with_reducible refine below_ovr_of ?_ | with_reducible refine drew_below ?_ _ | with_reducible refine Below.drew ?_ | with_reducible assumption)), dd, by go_num, ?_⟩
            rcases nxt_ways L (j + 1) with ⟨hj2, l2, c2, HN, hl2, HP2⟩ | ⟨hj2, HN⟩
            · have e := HN.out.symm.trans HN2.out
              simp only [Prod.mk.injEq] at e
              obtain ⟨⟨rfl, rfl⟩, rfl⟩ := e
              left
              exact ⟨rfl, _, l2, c2, j + 1, rfl, by simp [go_sem], by simp [go_sem], hl2, hj2, rfl, by omega, by omega, HP2, HS2⟩
            · have e := HN.out.symm.trans HN2.out
              simp only [Prod.mk.injEq] at e
              obtain ⟨⟨rfl, rfl⟩, rfl⟩ := e
              right
              exact ⟨rfl, Lib.hid (by rw [← HS2.out, scanF_end (by rw [flat_length]; exact hj2)]), _, rfl⟩
    · have v0 : wr.cell? ⟨Rb, 0, none⟩ = some (.int .i64 0) := (hbV.cell (p := ⟨Rb, 0, none⟩) lR).trans r0
      have v1 : wr.cell? ⟨Rb, 1, none⟩ = some (.int .i64 0) := (hbV.cell (p := ⟨Rb, 1, none⟩) lR).trans r1
      have g0 : wr.frozen? ⟨Rb, 0, none⟩ = false := (hbV.frozen (p := ⟨Rb, 0, none⟩) lR).trans f0
      have g1 : wr.frozen? ⟨Rb, 1, none⟩ = false := (hbV.frozen (p := ⟨Rb, 1, none⟩) lR).trans f1
      have hbw : Below w.heap.size w wr := hbel.trans (hbV.mono hszW)
      go_wp2
      refine bodyPost_ret (v := plcV noPlc) (by simp [results, Try.results110, go_sem, noPlc, v0, v1]) rfl ⟨by rw [HRn.out]; rfl, by (repeat (first | with_reducible exact Below.refl _ _ | (with_reducible refine Below.setCell ?_ ?_ _; rotate_left; · (first | exact Nat.le_refl _ | assumption | omega | (simp; done) | (simp; omega))) | (with_reducible refine Below.alloc ?_ ?_ _; rotate_left; · (first | exact Nat.le_refl _ | assumption | omega | (simp; done) | (simp; omega))) | with_reducible refine below_ovr_of ?_ | with_reducible refine drew_below ?_ _ | with_reducible refine Below.drew ?_ | with_reducible assumption))⟩
end Go.Proofs.Ytlbbgocggifjaaa
