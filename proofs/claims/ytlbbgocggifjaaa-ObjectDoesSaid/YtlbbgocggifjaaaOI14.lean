/- Several texts in one: Pair4, Pair5, Pair6, Pair7, Pair8, Pair9, Pair10. Conditions: none beyond what each says. -/
import Derived.Test.YtlbbgocggifjaaaOI10
import Derived.Deep.LoopGhost
namespace Go.Proofs.Ytlbbgocggifjaaa
open Go.RowKit

def optP (L : List ByteArray) : Option Nat → (Int × Int) × Bool
  | none => noPlc
  | some t => atPlc L t
theorem cell_lt4 {w : World} {b o : Nat} {v : Value} (h : w.cell? ⟨b, o, none⟩ = some v) : b < w.heap.size := World.block_lt_of_cell? w _ h
theorem name_ptr4 {P : Program} {c : Code} {Q : Exit → Act → World → Prop} {a : Act} {w : World} (t : Nat) {b : Nat} (_h : a.tmps.getD t undef = Value.pointer (some ⟨b, 0, none⟩)) (k : ∀ B, B = b → c.wp P Q a w) : c.wp P Q a w := k b rfl
theorem kind_at (c o s : Int) (op : Bool) (h : Hid (kindP c = (o, s, op, true))) (w : World) : Calls Try.prog 48 #[.int .u8 c] w fun e w' =>
    e = .returned (.tuple #[.int .u8 o, .int .u8 s, .bool op, .bool true]) ∧ w = w' := by
  have := kind_any c w
  rw [h.out] at this
  exact this
/-- The number of a place's byte. -/
theorem flat_byte {L : List ByteArray} {l c : Nat} {s : ByteArray} (hl : l < L.length) (hs : L.getD l .empty = s) (hc : c < s.size) : btI (flat L) (idx L l c) = (s[c].toNat : Int) := by
  have h := flat_at (L := L) hl (by rw [hs]; exact hc)
  unfold btI
  rw [h, hs, List.getD_eq_getElem?_getD, list_at s c hc]; rfl
/-- What a next place comes to. -/
theorem nxt_ways (L : List ByteArray) (j : Nat) : (j < total L ∧ ∃ l c : Nat, Hid (nxtP L j = (((l : Int), (c : Int)), true)) ∧ l < L.length ∧ Hid (c < (L.getD l .empty).size ∧ idx L l c = j)) ∨ (total L ≤ j ∧ Hid (nxtP L j = ((0, 0), false))) := by
  by_cases h : j < total L
  · left
    obtain ⟨h1, h2, h3⟩ := plcOf_spec h
    exact ⟨h, (plcOf L j).1, (plcOf L j).2, Lib.hid (by rw [nxtP, if_pos h]; rfl), h1, Lib.hid ⟨h2, h3⟩⟩
  · right; exact ⟨by omega, Lib.hid (by rw [nxtP, if_neg h]; rfl)⟩

set_option maxRecDepth 100000 in
set_option maxHeartbeats 4000000 in
theorem other_open (a : Option Addr) (cap : Nat) (L : List ByteArray) (l c : Nat) (w : World) (hL : LinesAt w a L) (hl : l < L.length) (hc : c < (L.getD l .empty).size) (htot : total L ≤ 1000000)
    (o s : Int) (hk : Hid (kindP (btI (flat L) (idx L l c)) = (o, s, true, true))) (hos : o ≠ s) :
    Calls Try.prog 110 #[.slice a L.length cap, .agg #[.int .i64 l, .int .i64 c]] w fun e w' => e = .returned (plcV (optP L (scanF (flat L) o s 1 (idx L l c + 1)))) ∧ Below w.heap.size w w' := by
  have hn := hL.2.1
  obtain ⟨R, hR⟩ : ∃ R, scanF (flat L) o s 1 (idx L l c + 1) = R := ⟨_, rfl⟩
  rw [hR]
  have HR := Lib.hid hR
  obtain ⟨b, off, u, rfl, hb, hcell, hu, HU⟩ := line_facts' hL hl
  have hcu : c < u.size := by have := hc; rw [HU.out] at this; exact this
  have hcI : (c : Int) < (u.size : Int) := by omega
  have hlI : (l : Int) < (L.length : Int) := by omega
  have hl0 : (0 : Int) ≤ (l : Int) := by omega
  have hc0 : (0 : Int) ≤ (c : Int) := by omega
  have hkk := hk.out
  rw [flat_byte hl HU.out hcu] at hkk
  have HK := Lib.hid hkk
  have HC := Lib.hid hc
  obtain ⟨j0, hj0⟩ : ∃ j0, idx L l c + 1 = j0 := ⟨_, rfl⟩
  rw [hj0] at HR
  have HJ := Lib.hid hj0
  have HO := Lib.hid hos
  clear hR hkk hc hj0 hos
  go_enter Try.func110, Try.ntmps110
  go_wp2
  (refine wp_region_ovr (by kernel_rfl) (by kernel_rfl) ?_; (repeat (go_big_quiet_step ((go_at_call 48; exact quiet_same (kind_at _ _ _ _ HK _))))); refine wpQuiet_nil ?_; rintro _ ⟨zq, rfl⟩)
  go_wp2_with fail
  go_at_call 114; refine (next_forth _ _ L _ _ _ (by (repeat (first | assumption | refine LinesAt.ovr ?_ _ | refine LinesAt.alloc ?_ _ | refine LinesAt.drewN ?_ _ | refine LinesAt.drew ?_))) hl HC.out).mono ?_; rw [HJ.out]; rintro e w1 ⟨rfl, hbl⟩; obtain ⟨x1, rfl⟩ := ovr_of_below hbl; clear hbl
  obtain ⟨⟨⟨n1, n2⟩, ok⟩, hnx⟩ : ∃ r, nxtP L j0 = r := ⟨_, rfl⟩
  rw [hnx]
  have HNX := Lib.hid hnx
  clear hnx
  go_wp2
  refine name_ptr4 11 rfl ?_
  intro B0 hB0
  rw [← hB0]
  refine name_ptr4 4 rfl ?_
  intro Rb hRb
  rw [← hRb]
  refine name_world ?_
  intro W0 hW
  have r0 : W0.cell? ⟨Rb, 0, none⟩ = some (.int .i64 0) := by subst hW hB0 hRb; simp [go_sem]
  have r1 : W0.cell? ⟨Rb, 1, none⟩ = some (.int .i64 0) := by subst hW hB0 hRb; simp [go_sem]
  have f0 : W0.frozen? ⟨Rb, 0, none⟩ = false := by subst hW hB0 hRb; simp [go_sem]
  have f1 : W0.frozen? ⟨Rb, 1, none⟩ = false := by subst hW hB0 hRb; simp [go_sem]
  have b0 : W0.cell? ⟨B0, 0, none⟩ = some (.int .i64 n1) := by subst hW hB0 hRb; simp [go_sem]
  have b1 : W0.cell? ⟨B0, 1, none⟩ = some (.int .i64 n2) := by subst hW hB0 hRb; simp [go_sem]
  have hL0 : LinesAt W0 (some ⟨b, off, none⟩) L := by rw [hW]; (repeat (first | assumption | refine LinesAt.ovr ?_ _ | refine LinesAt.alloc ?_ _ | refine LinesAt.drewN ?_ _ | refine LinesAt.drew ?_))
  have hbel : Below w.heap.size w W0 := by rw [hW]; (repeat (first | with_reducible exact Below.refl _ _ | (with_reducible refine Below.setCell ?_ ?_ _; rotate_left; · (first | exact Nat.le_refl _ | assumption | omega | (simp; done) | (simp; omega))) | (with_reducible refine Below.alloc ?_ ?_ _; rotate_left; · (first | exact Nat.le_refl _ | assumption | omega | (simp; done) | (simp; omega))) | with_reducible refine below_ovr_of ?_ | with_reducible refine drew_below ?_ _ | with_reducible refine Below.drew ?_ | with_reducible assumption))
  have hszW := hbel.size
  have hRw : w.heap.size ≤ Rb := by omega
  have lR := cell_lt4 r0
  clear hW hB0 hRb hL
  go_loopg [10, 11, 12] (total L - j0) (fun g d p k wr => Below W0.heap.size W0 wr ∧ ∃ dd : Int, d = .int .i64 dd ∧
    ((k = .bool true ∧ ∃ (B l' c' j : Nat), p = .pointer (some ⟨B, 0, none⟩) ∧ wr.cell? ⟨B, 0, none⟩ = some (.int .i64 l') ∧ wr.cell? ⟨B, 1, none⟩ = some (.int .i64 c') ∧ l' < L.length ∧ j < total L ∧ g = total L - j ∧ 1 ≤ dd ∧ dd ≤ j + 1 ∧
        Hid (c' < (L.getD l' .empty).size ∧ idx L l' c' = j) ∧ Hid (scanF (flat L) o s dd j = R)) ∨
     (k = .bool false ∧ Hid (R = none) ∧ ∃ B : Nat, p = .pointer (some ⟨B, 0, none⟩))))
  case atStart =>
    refine ⟨Below.refl _ _, 1, rfl, ?_⟩
    rcases nxt_ways L j0 with ⟨hj, l1, c1, HN, hl1, HP⟩ | ⟨hj, HN⟩
    · have e := HN.out.symm.trans HNX.out
      simp only [Prod.mk.injEq] at e
      obtain ⟨⟨rfl, rfl⟩, rfl⟩ := e
      left
      exact ⟨rfl, B0, l1, c1, j0, rfl, b0, b1, hl1, hj, rfl, by omega, by omega, HP, HR⟩
    · have e := HN.out.symm.trans HNX.out
      simp only [Prod.mk.injEq] at e
      obtain ⟨⟨rfl, rfl⟩, rfl⟩ := e
      right
      exact ⟨rfl, Lib.hid (by rw [← HR.out, scanF_end (by rw [flat_length]; exact hj)]), B0, rfl⟩
  case round =>
    obtain ⟨hbV, dd, rfl, h⟩ := hrel
    have hszV := hbV.size
    have lRw : Rb < wr.heap.size := by omega
    have hLV : LinesAt wr (some ⟨b, off, none⟩) L := hL0.below hbV (Nat.le_refl _)
    rcases h with ⟨rfl, B, l', c', j, rfl, p0, p1, hl', hj, rfl, hd1, hd2, HP, HS⟩ | ⟨rfl, HRn, B, rfl⟩
    · have lB := cell_lt4 p0
      obtain ⟨b', off', s', e, hb', hcell', hs', HU'⟩ := line_facts' hLV hl'
      cases e
      obtain ⟨HPc, HPi⟩ := HP.out
      have HPc' := HPc
      rw [HU'.out] at HPc'
      have hcI' : (c' : Int) < (s'.size : Int) := by omega
      have hlI' : (l' : Int) < (L.length : Int) := by omega
      have hl0' : (0 : Int) ≤ (l' : Int) := by omega
      have hc0' : (0 : Int) ≤ (c' : Int) := by omega
      have hbt := flat_byte hl' HU'.out HPc'
      rw [HPi] at hbt
      obtain ⟨cc, hcc⟩ : ∃ cc : Int, (s'[c'].toNat : Int) = cc := ⟨_, rfl⟩
      rw [hcc] at hbt
      have hjl : j < (flat L).length := by rw [flat_length]; exact hj
      obtain ⟨⟨⟨m1, m2⟩, ok2⟩, hn2⟩ : ∃ r, nxtP L (j + 1) = r := ⟨_, rfl⟩
      have HN2 := Lib.hid hn2
      clear hn2
      have HIDC := Lib.hid HPc
      have HIDI := Lib.hid HPi
      by_cases h1 : cc = o
      · have d1 : deepF o s (btI (flat L) j) dd = dd + 1 := by rw [hbt, deepF, if_pos h1]
        have HS2 := Lib.hid ((scanF_miss (B := flat L) (o := o) (s := s) (d := dd) hjl (by rw [d1]; omega)).symm.trans HS.out)
        rw [d1] at HS2
        have t1 : (cc == o) = true := beq_iff_eq.2 h1
        have t3 : (dd + 1 == 0) = false := beq_eq_false_iff_ne.2 (by omega)
        clear h1 d1 hbt HPc HPi
        go_wp2
        (refine wp_region_ovr (by kernel_rfl) (by kernel_rfl) ?_; (repeat (go_big_quiet_step (fail))); refine wpQuiet_nil ?_; rintro _ ⟨zq, rfl⟩)
        go_wp2_with fail
        go_at_call 114; refine (next_forth _ _ L l' c' _ (by (repeat (first | assumption | refine LinesAt.ovr ?_ _ | refine LinesAt.alloc ?_ _ | refine LinesAt.drewN ?_ _ | refine LinesAt.drew ?_))) hl' HIDC.out).mono ?_; rw [HIDI.out]; rintro e w1 ⟨rfl, hbl⟩; obtain ⟨x2, rfl⟩ := ovr_of_below hbl; clear hbl
        rw [HN2.out]
        go_wp2
        go_roundg (total L - (j + 1))
        case measure => omega
        case rel =>
          refine ⟨by (repeat (first | with_reducible exact Below.refl _ _ | (with_reducible refine Below.setCell ?_ ?_ _; rotate_left; · (first | exact Nat.le_refl _ | assumption | omega | (simp; done) | (simp; omega))) | (with_reducible refine Below.alloc ?_ ?_ _; rotate_left; · (first | exact Nat.le_refl _ | assumption | omega | (simp; done) | (simp; omega))) | with_reducible refine below_ovr_of ?_ | with_reducible refine drew_below ?_ _ | with_reducible refine Below.drew ?_ | with_reducible assumption)), dd + 1, by go_num, ?_⟩
          rcases nxt_ways L (j + 1) with ⟨hj2, l2, c2, HN, hl2, HP2⟩ | ⟨hj2, HN⟩
          · have e := HN.out.symm.trans HN2.out
            simp only [Prod.mk.injEq] at e
            obtain ⟨⟨rfl, rfl⟩, rfl⟩ := e
            left
            exact ⟨rfl, _, l2, c2, j + 1, rfl, by simp [go_sem], by simp [go_sem], hl2, hj2, rfl, by omega, by omega, HP2, HS2⟩
          · have e := HN.out.symm.trans HN2.out
            simp only [Prod.mk.injEq] at e
            obtain ⟨⟨rfl, rfl⟩, rfl⟩ := e
            right
            exact ⟨rfl, Lib.hid (by rw [← HS2.out, scanF_end (by rw [flat_length]; exact hj2)]), _, rfl⟩
      · have t1 : (cc == o) = false := beq_eq_false_iff_ne.2 h1
        by_cases h2 : cc = s
        · have t2 : (cc == s) = true := beq_iff_eq.2 h2
          have d1 : deepF o s (btI (flat L) j) dd = dd - 1 := by rw [hbt, deepF, if_neg h1, if_pos h2]
          by_cases h3 : dd = 1
          · have HRj := Lib.hid (HS.out.symm.trans (scanF_hit (B := flat L) (o := o) (s := s) (d := dd) hjl (by rw [d1]; omega)))
            have HY := Lib.hid (atPlc_eq hl' HPc HPi)
            have t3 : (dd - 1 == 0) = true := beq_iff_eq.2 (by omega)
            have v0 : wr.cell? ⟨Rb, 0, none⟩ = some (.int .i64 0) := (hbV.cell (p := ⟨Rb, 0, none⟩) lR).trans r0
            have v1 : wr.cell? ⟨Rb, 1, none⟩ = some (.int .i64 0) := (hbV.cell (p := ⟨Rb, 1, none⟩) lR).trans r1
            have g0 : wr.frozen? ⟨Rb, 0, none⟩ = false := (hbV.frozen (p := ⟨Rb, 0, none⟩) lR).trans f0
            have g1 : wr.frozen? ⟨Rb, 1, none⟩ = false := (hbV.frozen (p := ⟨Rb, 1, none⟩) lR).trans f1
            have hbw : Below w.heap.size w wr := hbel.trans (hbV.mono hszW)
            clear h1 h2 h3 d1 hbt HPc HPi
            go_wp2
            (refine wp_region_ovr (by kernel_rfl) (by kernel_rfl) ?_; (repeat (go_big_quiet_step (fail))); refine wpQuiet_nil ?_; rintro _ ⟨zq, rfl⟩)
            go_wp2
            refine bodyPost_ret (v := plcV (((l' : Int), (c' : Int)), true)) (by simp [results, Try.results110, go_sem, v0, v1, lRw]) rfl ⟨by rw [HRj.out, optP, HY.out], by (repeat (first | with_reducible exact Below.refl _ _ | (with_reducible refine Below.setCell ?_ ?_ _; rotate_left; · (first | exact Nat.le_refl _ | assumption | omega | (simp; done) | (simp; omega))) | (with_reducible refine Below.alloc ?_ ?_ _; rotate_left; · (first | exact Nat.le_refl _ | assumption | omega | (simp; done) | (simp; omega))) | with_reducible refine below_ovr_of ?_ | with_reducible refine drew_below ?_ _ | with_reducible refine Below.drew ?_ | with_reducible assumption))⟩
          · have HS2 := Lib.hid ((scanF_miss (B := flat L) (o := o) (s := s) (d := dd) hjl (by rw [d1]; omega)).symm.trans HS.out)
            rw [d1] at HS2
            have hd3 : 2 ≤ dd := by omega
            have t3 : (dd - 1 == 0) = false := beq_eq_false_iff_ne.2 (by omega)
            clear h1 h2 h3 d1 hbt HPc HPi
            go_wp2
            (refine wp_region_ovr (by kernel_rfl) (by kernel_rfl) ?_; (repeat (go_big_quiet_step (fail))); refine wpQuiet_nil ?_; rintro _ ⟨zq, rfl⟩)
            go_wp2_with fail
            go_at_call 114; refine (next_forth _ _ L l' c' _ (by (repeat (first | assumption | refine LinesAt.ovr ?_ _ | refine LinesAt.alloc ?_ _ | refine LinesAt.drewN ?_ _ | refine LinesAt.drew ?_))) hl' HIDC.out).mono ?_; rw [HIDI.out]; rintro e w1 ⟨rfl, hbl⟩; obtain ⟨x2, rfl⟩ := ovr_of_below hbl; clear hbl
            rw [HN2.out]
            go_wp2
            go_roundg (total L - (j + 1))
            case measure => omega
            case rel =>
              refine ⟨by (repeat (first | with_reducible exact Below.refl _ _ | (with_reducible refine Below.setCell ?_ ?_ _; rotate_left; · (first | exact Nat.le_refl _ | assumption | omega | (simp; done) | (simp; omega))) | (with_reducible refine Below.alloc ?_ ?_ _; rotate_left; · (first | exact Nat.le_refl _ | assumption | omega | (simp; done) | (simp; omega))) | with_reducible refine below_ovr_of ?_ | with_reducible refine drew_below ?_ _ | with_reducible refine Below.drew ?_ | with_reducible assumption)), dd - 1, by go_num, ?_⟩
              rcases nxt_ways L (j + 1) with ⟨hj2, l2, c2, HN, hl2, HP2⟩ | ⟨hj2, HN⟩
              · have e := HN.out.symm.trans HN2.out
                simp only [Prod.mk.injEq] at e
                obtain ⟨⟨rfl, rfl⟩, rfl⟩ := e
                left
                exact ⟨rfl, _, l2, c2, j + 1, rfl, by simp [go_sem], by simp [go_sem], hl2, hj2, rfl, by omega, by omega, HP2, HS2⟩
              · have e := HN.out.symm.trans HN2.out
                simp only [Prod.mk.injEq] at e
                obtain ⟨⟨rfl, rfl⟩, rfl⟩ := e
                right
                exact ⟨rfl, Lib.hid (by rw [← HS2.out, scanF_end (by rw [flat_length]; exact hj2)]), _, rfl⟩
        · have t2 : (cc == s) = false := beq_eq_false_iff_ne.2 h2
          have d1 : deepF o s (btI (flat L) j) dd = dd := by rw [hbt, deepF, if_neg h1, if_neg h2]
          have HS2 := Lib.hid ((scanF_miss (B := flat L) (o := o) (s := s) (d := dd) hjl (by rw [d1]; omega)).symm.trans HS.out)
          rw [d1] at HS2
          have t3 : (dd == 0) = false := beq_eq_false_iff_ne.2 (by omega)
          clear h1 h2 d1 hbt HPc HPi
          go_wp2
          (refine wp_region_ovr (by kernel_rfl) (by kernel_rfl) ?_; (repeat (go_big_quiet_step (fail))); refine wpQuiet_nil ?_; rintro _ ⟨zq, rfl⟩)
          go_wp2_with fail
          go_at_call 114; refine (next_forth _ _ L l' c' _ (by (repeat (first | assumption | refine LinesAt.ovr ?_ _ | refine LinesAt.alloc ?_ _ | refine LinesAt.drewN ?_ _ | refine LinesAt.drew ?_))) hl' HIDC.out).mono ?_; rw [HIDI.out]; rintro e w1 ⟨rfl, hbl⟩; obtain ⟨x2, rfl⟩ := ovr_of_below hbl; clear hbl
          rw [HN2.out]
          go_wp2
          go_roundg (total L - (j + 1))
          case measure => omega
          case rel =>
            refine ⟨by (repeat (first | with_reducible exact Below.refl _ _ | (with_reducible refine Below.setCell ?_ ?_ _; rotate_left; · (first | exact Nat.le_refl _ | assumption | omega | (simp; done) | (simp; omega))) | (with_reducible refine Below.alloc ?_ ?_ _; rotate_left; · (first | exact Nat.le_refl _ | assumption | omega | (simp; done) | (simp; omega))) | with_reducible refine below_ovr_of ?_ | with_reducible refine drew_below ?_ _ | with_reducible refine Below.drew ?_ | with_reducible assumption)), dd, by go_num, ?_⟩
            rcases nxt_ways L (j + 1) with ⟨hj2, l2, c2, HN, hl2, HP2⟩ | ⟨hj2, HN⟩
            · have e := HN.out.symm.trans HN2.out
              simp only [Prod.mk.injEq] at e
              obtain ⟨⟨rfl, rfl⟩, rfl⟩ := e
              left
              exact ⟨rfl, _, l2, c2, j + 1, rfl, by simp [go_sem], by simp [go_sem], hl2, hj2, rfl, by omega, by omega, HP2, HS2⟩
            · have e := HN.out.symm.trans HN2.out
              simp only [Prod.mk.injEq] at e
              obtain ⟨⟨rfl, rfl⟩, rfl⟩ := e
              right
              exact ⟨rfl, Lib.hid (by rw [← HS2.out, scanF_end (by rw [flat_length]; exact hj2)]), _, rfl⟩
    · have v0 : wr.cell? ⟨Rb, 0, none⟩ = some (.int .i64 0) := (hbV.cell (p := ⟨Rb, 0, none⟩) lR).trans r0
      have v1 : wr.cell? ⟨Rb, 1, none⟩ = some (.int .i64 0) := (hbV.cell (p := ⟨Rb, 1, none⟩) lR).trans r1
      have g0 : wr.frozen? ⟨Rb, 0, none⟩ = false := (hbV.frozen (p := ⟨Rb, 0, none⟩) lR).trans f0
      have g1 : wr.frozen? ⟨Rb, 1, none⟩ = false := (hbV.frozen (p := ⟨Rb, 1, none⟩) lR).trans f1
      have hbw : Below w.heap.size w wr := hbel.trans (hbV.mono hszW)
      go_wp2
      refine bodyPost_ret (v := plcV noPlc) (by simp [results, Try.results110, go_sem, noPlc, v0, v1]) rfl ⟨by rw [HRn.out]; rfl, by (repeat (first | with_reducible exact Below.refl _ _ | (with_reducible refine Below.setCell ?_ ?_ _; rotate_left; · (first | exact Nat.le_refl _ | assumption | omega | (simp; done) | (simp; omega))) | (with_reducible refine Below.alloc ?_ ?_ _; rotate_left; · (first | exact Nat.le_refl _ | assumption | omega | (simp; done) | (simp; omega))) | with_reducible refine below_ovr_of ?_ | with_reducible refine drew_below ?_ _ | with_reducible refine Below.drew ?_ | with_reducible assumption))⟩
end Go.Proofs.Ytlbbgocggifjaaa
namespace Go.Proofs.Ytlbbgocggifjaaa
open Go.RowKit

/-- What a place ahead comes to. -/
theorem prv_ways (L : List ByteArray) (j : Nat) (hj : j ≤ total L) : (0 < j ∧ ∃ l c : Nat, Hid (prvP L j = (((l : Int), (c : Int)), true)) ∧ l < L.length ∧ Hid (c < (L.getD l .empty).size ∧ idx L l c = j - 1)) ∨ (j = 0 ∧ Hid (prvP L j = ((0, 0), false))) := by
  by_cases h : j = 0
  · right; exact ⟨h, Lib.hid (by rw [prvP, if_pos h]; rfl)⟩
  · left
    obtain ⟨h1, h2, h3⟩ := plcOf_spec (L := L) (i := j - 1) (by omega)
    exact ⟨by omega, (plcOf L (j - 1)).1, (plcOf L (j - 1)).2, Lib.hid (by rw [prvP, if_neg h]; rfl), h1, Lib.hid ⟨h2, h3⟩⟩

set_option maxRecDepth 100000 in
set_option maxHeartbeats 4000000 in
theorem other_shut (a : Option Addr) (cap : Nat) (L : List ByteArray) (l c : Nat) (w : World) (hL : LinesAt w a L) (hl : l < L.length) (hc : c < (L.getD l .empty).size) (htot : total L ≤ 1000000)
    (o s : Int) (hk : Hid (kindP (btI (flat L) (idx L l c)) = (o, s, false, true))) (hos : o ≠ s) :
    Calls Try.prog 110 #[.slice a L.length cap, .agg #[.int .i64 l, .int .i64 c]] w fun e w' => e = .returned (plcV (optP L (scanB (flat L) o s 1 (idx L l c)))) ∧ Below w.heap.size w w' := by
  have hn := hL.2.1
  obtain ⟨R, hR⟩ : ∃ R, scanB (flat L) o s 1 (idx L l c) = R := ⟨_, rfl⟩
  rw [hR]
  have HR := Lib.hid hR
  obtain ⟨b, off, u, rfl, hb, hcell, hu, HU⟩ := line_facts' hL hl
  have hcu : c < u.size := by have := hc; rw [HU.out] at this; exact this
  have hcI : (c : Int) < (u.size : Int) := by omega
  have hlI : (l : Int) < (L.length : Int) := by omega
  have hl0 : (0 : Int) ≤ (l : Int) := by omega
  have hc0 : (0 : Int) ≤ (c : Int) := by omega
  have hkk := hk.out
  rw [flat_byte hl HU.out hcu] at hkk
  have HK := Lib.hid hkk
  have HC := Lib.hid hc
  obtain ⟨j0, hj0⟩ : ∃ j0, idx L l c = j0 := ⟨_, rfl⟩
  rw [hj0] at HR
  have HJ := Lib.hid hj0
  have HO := Lib.hid hos
  have HJL := Lib.hid (show j0 ≤ total L by rw [← HJ.out]; exact idx_le hl (Nat.le_of_lt HC.out))
  clear hR hkk hc hj0 hos
  go_enter Try.func110, Try.ntmps110
  go_wp2
  (refine wp_region_ovr (by kernel_rfl) (by kernel_rfl) ?_; (repeat (go_big_quiet_step ((go_at_call 48; exact quiet_same (kind_at _ _ _ _ HK _))))); refine wpQuiet_nil ?_; rintro _ ⟨zq, rfl⟩)
  go_wp2_with fail
  go_at_call 114; refine (next_back _ _ L _ _ _ (by (repeat (first | assumption | refine LinesAt.ovr ?_ _ | refine LinesAt.alloc ?_ _ | refine LinesAt.drewN ?_ _ | refine LinesAt.drew ?_))) hl (Nat.le_of_lt HC.out)).mono ?_; rw [HJ.out]; rintro e w1 ⟨rfl, hbl⟩; obtain ⟨x1, rfl⟩ := ovr_of_below hbl; clear hbl
  obtain ⟨⟨⟨n1, n2⟩, ok⟩, hnx⟩ : ∃ r, prvP L j0 = r := ⟨_, rfl⟩
  rw [hnx]
  have HNX := Lib.hid hnx
  clear hnx
  go_wp2
  refine name_ptr4 11 rfl ?_
  intro B0 hB0
  rw [← hB0]
  refine name_ptr4 4 rfl ?_
  intro Rb hRb
  rw [← hRb]
  refine name_world ?_
  intro W0 hW
  have r0 : W0.cell? ⟨Rb, 0, none⟩ = some (.int .i64 0) := by subst hW hB0 hRb; simp [go_sem]
  have r1 : W0.cell? ⟨Rb, 1, none⟩ = some (.int .i64 0) := by subst hW hB0 hRb; simp [go_sem]
  have f0 : W0.frozen? ⟨Rb, 0, none⟩ = false := by subst hW hB0 hRb; simp [go_sem]
  have f1 : W0.frozen? ⟨Rb, 1, none⟩ = false := by subst hW hB0 hRb; simp [go_sem]
  have b0 : W0.cell? ⟨B0, 0, none⟩ = some (.int .i64 n1) := by subst hW hB0 hRb; simp [go_sem]
  have b1 : W0.cell? ⟨B0, 1, none⟩ = some (.int .i64 n2) := by subst hW hB0 hRb; simp [go_sem]
  have hL0 : LinesAt W0 (some ⟨b, off, none⟩) L := by rw [hW]; (repeat (first | assumption | refine LinesAt.ovr ?_ _ | refine LinesAt.alloc ?_ _ | refine LinesAt.drewN ?_ _ | refine LinesAt.drew ?_))
  have hbel : Below w.heap.size w W0 := by rw [hW]; (repeat (first | with_reducible exact Below.refl _ _ | (with_reducible refine Below.setCell ?_ ?_ _; rotate_left; · (first | exact Nat.le_refl _ | assumption | omega | (simp; done) | (simp; omega))) | (with_reducible refine Below.alloc ?_ ?_ _; rotate_left; · (first | exact Nat.le_refl _ | assumption | omega | (simp; done) | (simp; omega))) | with_reducible refine below_ovr_of ?_ | with_reducible refine drew_below ?_ _ | with_reducible refine Below.drew ?_ | with_reducible assumption))
  have hszW := hbel.size
  have hRw : w.heap.size ≤ Rb := by omega
  have lR := cell_lt4 r0
  clear hW hB0 hRb hL
  go_loopg [10, 11, 12] j0 (fun g d p k wr => Below W0.heap.size W0 wr ∧ ∃ dd : Int, d = .int .i64 dd ∧
    ((k = .bool true ∧ ∃ (B l' c' j : Nat), p = .pointer (some ⟨B, 0, none⟩) ∧ wr.cell? ⟨B, 0, none⟩ = some (.int .i64 l') ∧ wr.cell? ⟨B, 1, none⟩ = some (.int .i64 c') ∧ l' < L.length ∧ j < total L ∧ g = j + 1 ∧ 1 ≤ dd ∧ dd + j ≤ total L + 1 ∧
        Hid (c' < (L.getD l' .empty).size ∧ idx L l' c' = j) ∧ Hid (scanB (flat L) o s dd (j + 1) = R)) ∨
     (k = .bool false ∧ Hid (R = none) ∧ ∃ B : Nat, p = .pointer (some ⟨B, 0, none⟩))))
  case atStart =>
    refine ⟨Below.refl _ _, 1, rfl, ?_⟩
    rcases prv_ways L j0 HJL.out with ⟨hj, l1, c1, HN, hl1, HP⟩ | ⟨hj, HN⟩
    · have e := HN.out.symm.trans HNX.out
      simp only [Prod.mk.injEq] at e
      obtain ⟨⟨rfl, rfl⟩, rfl⟩ := e
      left
      exact ⟨rfl, B0, l1, c1, j0 - 1, rfl, b0, b1, hl1, by have := HJL.out; omega, by omega, by omega, by have := HJL.out; omega, HP, by rw [show j0 - 1 + 1 = j0 from by omega]; exact HR⟩
    · have e := HN.out.symm.trans HNX.out
      simp only [Prod.mk.injEq] at e
      obtain ⟨⟨rfl, rfl⟩, rfl⟩ := e
      right
      exact ⟨rfl, Lib.hid (by rw [← HR.out, hj, scanB_end]), B0, rfl⟩
  case round =>
    obtain ⟨hbV, dd, rfl, h⟩ := hrel
    have hszV := hbV.size
    have lRw : Rb < wr.heap.size := by omega
    have hLV : LinesAt wr (some ⟨b, off, none⟩) L := hL0.below hbV (Nat.le_refl _)
    rcases h with ⟨rfl, B, l', c', j, rfl, p0, p1, hl', hj, rfl, hd1, hd2, HP, HS⟩ | ⟨rfl, HRn, B, rfl⟩
    · have lB := cell_lt4 p0
      obtain ⟨b', off', s', e, hb', hcell', hs', HU'⟩ := line_facts' hLV hl'
      cases e
      obtain ⟨HPc, HPi⟩ := HP.out
      have HPc' := HPc
      rw [HU'.out] at HPc'
      have hcI' : (c' : Int) < (s'.size : Int) := by omega
      have hlI' : (l' : Int) < (L.length : Int) := by omega
      have hl0' : (0 : Int) ≤ (l' : Int) := by omega
      have hc0' : (0 : Int) ≤ (c' : Int) := by omega
      have hbt := flat_byte hl' HU'.out HPc'
      rw [HPi] at hbt
      obtain ⟨cc, hcc⟩ : ∃ cc : Int, (s'[c'].toNat : Int) = cc := ⟨_, rfl⟩
      rw [hcc] at hbt
      have hjl : j < (flat L).length := by rw [flat_length]; exact hj
      obtain ⟨⟨⟨m1, m2⟩, ok2⟩, hn2⟩ : ∃ r, prvP L j = r := ⟨_, rfl⟩
      have HN2 := Lib.hid hn2
      clear hn2
      have HIDC := Lib.hid HPc
      have HIDI := Lib.hid HPi
      by_cases h1 : cc = s
      · have d1 : deepB o s (btI (flat L) j) dd = dd + 1 := by rw [hbt, deepB, if_pos h1]
        have HS2 := Lib.hid ((scanB_miss (B := flat L) (o := o) (s := s) (d := dd) (i := j) (by rw [d1]; omega)).symm.trans HS.out)
        rw [d1] at HS2
        have t1 : (cc == s) = true := beq_iff_eq.2 h1
        have t0 : (cc == o) = false := beq_eq_false_iff_ne.2 (fun e => HO.out (e.symm.trans h1))
        have t3 : (dd + 1 == 0) = false := beq_eq_false_iff_ne.2 (by omega)
        clear h1 d1 hbt HPc HPi
        go_wp2
        (refine wp_region_ovr (by kernel_rfl) (by kernel_rfl) ?_; (repeat (go_big_quiet_step (fail))); refine wpQuiet_nil ?_; rintro _ ⟨zq, rfl⟩)
        go_wp2_with fail
        go_at_call 114; refine (next_back _ _ L l' c' _ (by (repeat (first | assumption | refine LinesAt.ovr ?_ _ | refine LinesAt.alloc ?_ _ | refine LinesAt.drewN ?_ _ | refine LinesAt.drew ?_))) hl' (Nat.le_of_lt HIDC.out)).mono ?_; rw [HIDI.out]; rintro e w1 ⟨rfl, hbl⟩; obtain ⟨x2, rfl⟩ := ovr_of_below hbl; clear hbl
        rw [HN2.out]
        go_wp2
        go_roundg j
        case measure => omega
        case rel =>
          refine ⟨by (repeat (first | with_reducible exact Below.refl _ _ | (with_reducible refine Below.setCell ?_ ?_ _; rotate_left; · (first | exact Nat.le_refl _ | assumption | omega | (simp; done) | (simp; omega))) | (with_reducible refine Below.alloc ?_ ?_ _; rotate_left; · (first | exact Nat.le_refl _ | assumption | omega | (simp; done) | (simp; omega))) | with_reducible refine below_ovr_of ?_ | with_reducible refine drew_below ?_ _ | with_reducible refine Below.drew ?_ | with_reducible assumption)), dd + 1, by go_num, ?_⟩
          rcases prv_ways L j (by omega) with ⟨hj2, l2, c2, HN, hl2, HP2⟩ | ⟨hj2, HN⟩
          · have e := HN.out.symm.trans HN2.out
            simp only [Prod.mk.injEq] at e
            obtain ⟨⟨rfl, rfl⟩, rfl⟩ := e
            left
            exact ⟨rfl, _, l2, c2, j - 1, rfl, by simp [go_sem], by simp [go_sem], hl2, by omega, by omega, by omega, by omega, HP2, by rw [show j - 1 + 1 = j from by omega]; exact HS2⟩
          · have e := HN.out.symm.trans HN2.out
            simp only [Prod.mk.injEq] at e
            obtain ⟨⟨rfl, rfl⟩, rfl⟩ := e
            right
            exact ⟨rfl, Lib.hid (by rw [← HS2.out, hj2, scanB_end]), _, rfl⟩
      · have t1 : (cc == s) = false := beq_eq_false_iff_ne.2 h1
        by_cases h2 : cc = o
        · have t2 : (cc == o) = true := beq_iff_eq.2 h2
          have d1 : deepB o s (btI (flat L) j) dd = dd - 1 := by rw [hbt, deepB, if_neg h1, if_pos h2]
          by_cases h3 : dd = 1
          · have HRj := Lib.hid (HS.out.symm.trans (scanB_hit (B := flat L) (o := o) (s := s) (d := dd) (i := j) (by rw [d1]; omega)))
            have HY := Lib.hid (atPlc_eq hl' HPc HPi)
            have t3 : (dd - 1 == 0) = true := beq_iff_eq.2 (by omega)
            have v0 : wr.cell? ⟨Rb, 0, none⟩ = some (.int .i64 0) := (hbV.cell (p := ⟨Rb, 0, none⟩) lR).trans r0
            have v1 : wr.cell? ⟨Rb, 1, none⟩ = some (.int .i64 0) := (hbV.cell (p := ⟨Rb, 1, none⟩) lR).trans r1
            have g0 : wr.frozen? ⟨Rb, 0, none⟩ = false := (hbV.frozen (p := ⟨Rb, 0, none⟩) lR).trans f0
            have g1 : wr.frozen? ⟨Rb, 1, none⟩ = false := (hbV.frozen (p := ⟨Rb, 1, none⟩) lR).trans f1
            have hbw : Below w.heap.size w wr := hbel.trans (hbV.mono hszW)
            clear h1 h2 h3 d1 hbt HPc HPi
            go_wp2
            (refine wp_region_ovr (by kernel_rfl) (by kernel_rfl) ?_; (repeat (go_big_quiet_step (fail))); refine wpQuiet_nil ?_; rintro _ ⟨zq, rfl⟩)
            go_wp2
            refine bodyPost_ret (v := plcV (((l' : Int), (c' : Int)), true)) (by simp [results, Try.results110, go_sem, v0, v1, lRw]) rfl ⟨by rw [HRj.out, optP, HY.out], by (repeat (first | with_reducible exact Below.refl _ _ | (with_reducible refine Below.setCell ?_ ?_ _; rotate_left; · (first | exact Nat.le_refl _ | assumption | omega | (simp; done) | (simp; omega))) | (with_reducible refine Below.alloc ?_ ?_ _; rotate_left; · (first | exact Nat.le_refl _ | assumption | omega | (simp; done) | (simp; omega))) | with_reducible refine below_ovr_of ?_ | with_reducible refine drew_below ?_ _ | with_reducible refine Below.drew ?_ | with_reducible assumption))⟩
          · have HS2 := Lib.hid ((scanB_miss (B := flat L) (o := o) (s := s) (d := dd) (i := j) (by rw [d1]; omega)).symm.trans HS.out)
            rw [d1] at HS2
            have hd3 : 2 ≤ dd := by omega
            have t3 : (dd - 1 == 0) = false := beq_eq_false_iff_ne.2 (by omega)
            clear h1 h2 h3 d1 hbt HPc HPi
            go_wp2
            (refine wp_region_ovr (by kernel_rfl) (by kernel_rfl) ?_; (repeat (go_big_quiet_step (fail))); refine wpQuiet_nil ?_; rintro _ ⟨zq, rfl⟩)
            go_wp2_with fail
            go_at_call 114; refine (next_back _ _ L l' c' _ (by (repeat (first | assumption | refine LinesAt.ovr ?_ _ | refine LinesAt.alloc ?_ _ | refine LinesAt.drewN ?_ _ | refine LinesAt.drew ?_))) hl' (Nat.le_of_lt HIDC.out)).mono ?_; rw [HIDI.out]; rintro e w1 ⟨rfl, hbl⟩; obtain ⟨x2, rfl⟩ := ovr_of_below hbl; clear hbl
            rw [HN2.out]
            go_wp2
            go_roundg j
            case measure => omega
            case rel =>
              refine ⟨by (repeat (first | with_reducible exact Below.refl _ _ | (with_reducible refine Below.setCell ?_ ?_ _; rotate_left; · (first | exact Nat.le_refl _ | assumption | omega | (simp; done) | (simp; omega))) | (with_reducible refine Below.alloc ?_ ?_ _; rotate_left; · (first | exact Nat.le_refl _ | assumption | omega | (simp; done) | (simp; omega))) | with_reducible refine below_ovr_of ?_ | with_reducible refine drew_below ?_ _ | with_reducible refine Below.drew ?_ | with_reducible assumption)), dd - 1, by go_num, ?_⟩
              rcases prv_ways L j (by omega) with ⟨hj2, l2, c2, HN, hl2, HP2⟩ | ⟨hj2, HN⟩
              · have e := HN.out.symm.trans HN2.out
                simp only [Prod.mk.injEq] at e
                obtain ⟨⟨rfl, rfl⟩, rfl⟩ := e
                left
                exact ⟨rfl, _, l2, c2, j - 1, rfl, by simp [go_sem], by simp [go_sem], hl2, by omega, by omega, by omega, by omega, HP2, by rw [show j - 1 + 1 = j from by omega]; exact HS2⟩
              · have e := HN.out.symm.trans HN2.out
                simp only [Prod.mk.injEq] at e
                obtain ⟨⟨rfl, rfl⟩, rfl⟩ := e
                right
                exact ⟨rfl, Lib.hid (by rw [← HS2.out, hj2, scanB_end]), _, rfl⟩
        · have t2 : (cc == o) = false := beq_eq_false_iff_ne.2 h2
          have d1 : deepB o s (btI (flat L) j) dd = dd := by rw [hbt, deepB, if_neg h1, if_neg h2]
          have HS2 := Lib.hid ((scanB_miss (B := flat L) (o := o) (s := s) (d := dd) (i := j) (by rw [d1]; omega)).symm.trans HS.out)
          rw [d1] at HS2
          have t3 : (dd == 0) = false := beq_eq_false_iff_ne.2 (by omega)
          clear h1 h2 d1 hbt HPc HPi
          go_wp2
          (refine wp_region_ovr (by kernel_rfl) (by kernel_rfl) ?_; (repeat (go_big_quiet_step (fail))); refine wpQuiet_nil ?_; rintro _ ⟨zq, rfl⟩)
          go_wp2_with fail
          go_at_call 114; refine (next_back _ _ L l' c' _ (by (repeat (first | assumption | refine LinesAt.ovr ?_ _ | refine LinesAt.alloc ?_ _ | refine LinesAt.drewN ?_ _ | refine LinesAt.drew ?_))) hl' (Nat.le_of_lt HIDC.out)).mono ?_; rw [HIDI.out]; rintro e w1 ⟨rfl, hbl⟩; obtain ⟨x2, rfl⟩ := ovr_of_below hbl; clear hbl
          rw [HN2.out]
          go_wp2
          go_roundg j
          case measure => omega
          case rel =>
            refine ⟨by (repeat (first | with_reducible exact Below.refl _ _ | (with_reducible refine Below.setCell ?_ ?_ _; rotate_left; · (first | exact Nat.le_refl _ | assumption | omega | (simp; done) | (simp; omega))) | (with_reducible refine Below.alloc ?_ ?_ _; rotate_left; · (first | exact Nat.le_refl _ | assumption | omega | (simp; done) | (simp; omega))) | with_reducible refine below_ovr_of ?_ | with_reducible refine drew_below ?_ _ | with_reducible refine Below.drew ?_ | with_reducible assumption)), dd, by go_num, ?_⟩
            rcases prv_ways L j (by omega) with ⟨hj2, l2, c2, HN, hl2, HP2⟩ | ⟨hj2, HN⟩
            · have e := HN.out.symm.trans HN2.out
              simp only [Prod.mk.injEq] at e
              obtain ⟨⟨rfl, rfl⟩, rfl⟩ := e
              left
              exact ⟨rfl, _, l2, c2, j - 1, rfl, by simp [go_sem], by simp [go_sem], hl2, by omega, by omega, by omega, by omega, HP2, by rw [show j - 1 + 1 = j from by omega]; exact HS2⟩
            · have e := HN.out.symm.trans HN2.out
              simp only [Prod.mk.injEq] at e
              obtain ⟨⟨rfl, rfl⟩, rfl⟩ := e
              right
              exact ⟨rfl, Lib.hid (by rw [← HS2.out, hj2, scanB_end]), _, rfl⟩
    · have v0 : wr.cell? ⟨Rb, 0, none⟩ = some (.int .i64 0) := (hbV.cell (p := ⟨Rb, 0, none⟩) lR).trans r0
      have v1 : wr.cell? ⟨Rb, 1, none⟩ = some (.int .i64 0) := (hbV.cell (p := ⟨Rb, 1, none⟩) lR).trans r1
      have g0 : wr.frozen? ⟨Rb, 0, none⟩ = false := (hbV.frozen (p := ⟨Rb, 0, none⟩) lR).trans f0
      have g1 : wr.frozen? ⟨Rb, 1, none⟩ = false := (hbV.frozen (p := ⟨Rb, 1, none⟩) lR).trans f1
      have hbw : Below w.heap.size w wr := hbel.trans (hbV.mono hszW)
      go_wp2
      refine bodyPost_ret (v := plcV noPlc) (by simp [results, Try.results110, go_sem, noPlc, v0, v1]) rfl ⟨by rw [HRn.out]; rfl, by (repeat (first | with_reducible exact Below.refl _ _ | (with_reducible refine Below.setCell ?_ ?_ _; rotate_left; · (first | exact Nat.le_refl _ | assumption | omega | (simp; done) | (simp; omega))) | (with_reducible refine Below.alloc ?_ ?_ _; rotate_left; · (first | exact Nat.le_refl _ | assumption | omega | (simp; done) | (simp; omega))) | with_reducible refine below_ovr_of ?_ | with_reducible refine drew_below ?_ _ | with_reducible refine Below.drew ?_ | with_reducible assumption))⟩
end Go.Proofs.Ytlbbgocggifjaaa
namespace Go.Proofs.Ytlbbgocggifjaaa
open Go.RowKit

/-- What a step hands back: the place, or none (with whatever place). -/
def StepOut (w : World) (r : (Int × Int) × Bool) (e : Ending) (w' : World) : Prop := ∃ x y : Int, e = .returned (plcV ((x, y), r.2)) ∧ Hid (r.2 = true → r.1 = (x, y)) ∧ Below w.heap.size w w'

set_option maxHeartbeats 2000000 in
theorem step_forth (a : Option Addr) (cap : Nat) (L : List ByteArray) (l c : Nat) (w : World) (hL : LinesAt w a L) (hl : l < L.length) (hc : c < (L.getD l .empty).size) :
    Calls Try.prog 143 #[.slice a L.length cap, .agg #[.int .i64 l, .int .i64 c], .bool false] w (StepOut w (nxtP L (idx L l c + 1))) := by
  have hn := hL.2.1
  have hcs : c < 140737488351232 := by
    have := hL.2.2 _ (getD_mem L .empty l hl)
    omega
  obtain ⟨j, hj⟩ : ∃ j, idx L l c + 1 = j := ⟨_, rfl⟩
  rw [hj]
  have HJ : Hid (total (L.take l) + c + 1 = j) := Lib.hid hj
  have HC := Lib.hid hc
  clear hj hc
  go_enter Try.func143, Try.ntmps143
  go_wp2
  go_loopw [7] (fun q wr => q = .bool false ∧ ∃ (l' c' n : Nat), l' < L.length ∧ c' ≤ 140737488351232 ∧ Hid (c' ≤ (L.getD l' .empty).size ∧ total (L.take l') + c' = j) ∧
    wr = ((w.alloc (.cells #[.int .i64 l', .int .i64 c'] 29)).alloc (.cells #[.int .i64 0, .int .i64 0] 29)).drewN n) (fun _ wr => L.length - (intOf ((wr.cell? ⟨w.heap.size, 0, none⟩).getD undef)).toNat)
  case atStart => exact ⟨rfl, l, c + 1, 0, hl, by omega, Lib.hid ⟨by have := HC.out; omega, by have := HJ.out; omega⟩, rfl⟩
  case round =>
    obtain ⟨rfl, l', c', nd, hl', hc2, HH, rfl⟩ := hrel
    obtain ⟨b, off, s, rfl, hb, hcell, hs, HS⟩ := line_facts' hL hl'
    have hlI : (l' : Int) < (L.length : Int) := by omega
    have hl0 : (0 : Int) ≤ (l' : Int) := by omega
    have hcs' : c' ≤ s.size := by have := HH.out.1; rw [HS.out] at this; exact this
    have hneg : decide ((c' : Int) < 0) = false := decide_eq_false (by omega)
    by_cases h0 : c' < s.size
    · have h0I : (c' : Int) < (s.size : Int) := by omega
      have hy : nxtP L j = (((l' : Int), (c' : Int)), true) := by
        have hh := HH.out
        have := idx_lt (L := L) hl' (by rw [HS.out]; exact h0)
        unfold idx at this
        rw [nxtP, if_pos (by omega)]
        exact atPlc_eq hl' (by rw [HS.out]; exact h0) (by unfold idx; omega)
      have HY := Lib.hid hy
      clear hy
      go_wp2
      go_quiet (fail)
      go_wp2
      refine bodyPost_ret (v := plcV (((l' : Int), (c' : Int)), true)) (by simp [results, Try.results143, go_sem]) rfl ⟨l', c', by rw [HY.out], Lib.hid (by rw [HY.out]; intro _; rfl), by (repeat (first | with_reducible exact Below.refl _ _ | (with_reducible refine Below.setCell ?_ ?_ _; rotate_left; · (first | exact Nat.le_refl _ | assumption | omega | (simp; done) | (simp; omega))) | (with_reducible refine Below.alloc ?_ ?_ _; rotate_left; · (first | exact Nat.le_refl _ | assumption | omega | (simp; done) | (simp; omega))) | with_reducible refine below_ovr_of ?_ | with_reducible refine drew_below ?_ _ | with_reducible refine Below.drew ?_ | with_reducible assumption))⟩
    · have hge : (s.size : Int) ≤ (c' : Int) := by omega
      have HT := Lib.hid (total_snoc L l' hl')
      by_cases h1 : l' + 1 < L.length
      · have h1I : (l' : Int) + 1 < (L.length : Int) := by omega
        have hneg2 : decide ((l' : Int) + 1 < 0) = false := decide_eq_false (by omega)
        go_wp2
        go_quiet (fail)
        go_wp2
        go_roundw
        case rel =>
          refine ⟨rfl, l' + 1, 0, _, h1, by omega, Lib.hid ⟨Nat.zero_le _, ?_⟩, rfl⟩
          have hh := HH.out
          have ht := HT.out
          rw [HS.out] at ht
          omega
        case measure => simp [intOf, go_sem]; omega
      · have h1I : (L.length : Int) ≤ (l' : Int) + 1 := by omega
        have hneg2 : decide ((l' : Int) + 1 < 0) = false := decide_eq_false (by omega)
        have hy : nxtP L j = noPlc := by
          have hh := HH.out
          have ht := HT.out
          rw [HS.out] at ht
          have : total (L.take (l' + 1)) = total L := by rw [List.take_of_length_le (by omega)]
          rw [nxtP, if_neg (by omega)]
        have HY := Lib.hid hy
        clear hy
        go_wp2
        go_quiet (fail)
        go_wp2
        refine bodyPost_ret (v := plcV (((l' : Int) + 1, (c' : Int)), false)) (by simp [results, Try.results143, go_sem]) rfl ⟨(l' : Int) + 1, c', by rw [HY.out]; rfl, Lib.hid (by rw [HY.out]; intro h; cases h), by (repeat (first | with_reducible exact Below.refl _ _ | (with_reducible refine Below.setCell ?_ ?_ _; rotate_left; · (first | exact Nat.le_refl _ | assumption | omega | (simp; done) | (simp; omega))) | (with_reducible refine Below.alloc ?_ ?_ _; rotate_left; · (first | exact Nat.le_refl _ | assumption | omega | (simp; done) | (simp; omega))) | with_reducible refine below_ovr_of ?_ | with_reducible refine drew_below ?_ _ | with_reducible refine Below.drew ?_ | with_reducible assumption))⟩
end Go.Proofs.Ytlbbgocggifjaaa
namespace Go.Proofs.Ytlbbgocggifjaaa
open Go.RowKit

set_option maxHeartbeats 2000000 in
theorem step_back (a : Option Addr) (cap : Nat) (L : List ByteArray) (l c : Nat) (w : World) (hL : LinesAt w a L) (hl : l < L.length) (hc : c ≤ (L.getD l .empty).size) :
    Calls Try.prog 143 #[.slice a L.length cap, .agg #[.int .i64 l, .int .i64 c], .bool true] w (StepOut w (prvP L (idx L l c))) := by
  have hn := hL.2.1
  have hcs : c ≤ 140737488351232 := by
    have := hL.2.2 _ (getD_mem L .empty l hl)
    omega
  obtain ⟨i, hi⟩ : ∃ i, idx L l c = i := ⟨_, rfl⟩
  rw [hi]
  have HI : Hid (total (L.take l) + c = i) := Lib.hid hi
  have HC := Lib.hid hc
  clear hi hc
  go_enter Try.func143, Try.ntmps143
  go_wp2
  go_loopw [7] (fun q wr => q = .bool false ∧ ∃ (l' nd : Nat) (c' : Int), l' < L.length ∧ -1 ≤ c' ∧ c' ≤ 140737488351232 ∧ Hid (c' < (L.getD l' .empty).size ∧ (total (L.take l') : Int) + c' + 1 = i) ∧
    wr = ((w.alloc (.cells #[.int .i64 l', .int .i64 c'] 29)).alloc (.cells #[.int .i64 0, .int .i64 0] 29)).drewN nd) (fun _ wr => (intOf ((wr.cell? ⟨w.heap.size, 0, none⟩).getD undef)).toNat)
  case atStart => exact ⟨rfl, l, 0, (c : Int) - 1, hl, by omega, by omega, Lib.hid ⟨by have := HC.out; omega, by have := HI.out; omega⟩, rfl⟩
  case round =>
    obtain ⟨rfl, l', nd, c', hl', hc1, hc2, HH, rfl⟩ := hrel
    have hlI : (l' : Int) < (L.length : Int) := by omega
    have hl0 : (0 : Int) ≤ (l' : Int) := by omega
    by_cases h0 : 0 ≤ c'
    · obtain ⟨c', rfl⟩ := Int.eq_ofNat_of_zero_le h0
      have hy : prvP L i = (((l' : Int), (c' : Int)), true) := by
        have hh := HH.out
        rw [prvP, if_neg (by omega)]
        exact atPlc_eq hl' (by omega) (by unfold idx; omega)
      have HY := Lib.hid hy
      obtain ⟨b, off, s, rfl, hb, hcell, hs, HS⟩ := line_facts' hL hl'
      have hlt : (c' : Int) < (s.size : Int) := by have := HH.out.1; rw [HS.out] at this; exact this
      have hneg : decide ((c' : Int) < 0) = false := decide_eq_false (by omega)
      clear hy
      go_wp2
      go_quiet (fail)
      go_wp2
      refine bodyPost_ret (v := plcV (((l' : Int), (c' : Int)), true)) (by simp [results, Try.results143, go_sem]) rfl ⟨l', c', by rw [HY.out], Lib.hid (by rw [HY.out]; intro _; rfl), by (repeat (first | with_reducible exact Below.refl _ _ | (with_reducible refine Below.setCell ?_ ?_ _; rotate_left; · (first | exact Nat.le_refl _ | assumption | omega | (simp; done) | (simp; omega))) | (with_reducible refine Below.alloc ?_ ?_ _; rotate_left; · (first | exact Nat.le_refl _ | assumption | omega | (simp; done) | (simp; omega))) | with_reducible refine below_ovr_of ?_ | with_reducible refine drew_below ?_ _ | with_reducible refine Below.drew ?_ | with_reducible assumption))⟩
    · have hc3 : c' < 0 := by omega
      have hneg : decide (c' < 0) = true := decide_eq_true hc3
      cases l' with
      | zero =>
        have hy : prvP L i = noPlc := by
          have hh := HH.out
          simp [total] at hh
          rw [prvP, if_pos (by omega)]
        have HY := Lib.hid hy
        clear hy
        go_wp2
        go_quiet (fail)
        go_wp2
        refine bodyPost_ret (v := plcV ((-1, c'), false)) (by simp [results, Try.results143, go_sem]) rfl ⟨-1, c', by rw [HY.out]; rfl, Lib.hid (by rw [HY.out]; intro h; cases h), by (repeat (first | with_reducible exact Below.refl _ _ | (with_reducible refine Below.setCell ?_ ?_ _; rotate_left; · (first | exact Nat.le_refl _ | assumption | omega | (simp; done) | (simp; omega))) | (with_reducible refine Below.alloc ?_ ?_ _; rotate_left; · (first | exact Nat.le_refl _ | assumption | omega | (simp; done) | (simp; omega))) | with_reducible refine below_ovr_of ?_ | with_reducible refine drew_below ?_ _ | with_reducible refine Below.drew ?_ | with_reducible assumption))⟩
      | succ m =>
        have hm : m < L.length := by omega
        have hmI : (m : Int) < (L.length : Int) := by omega
        obtain ⟨b, off, s, rfl, hb, hcell, hs, HS⟩ := line_facts' hL hm
        have HT := Lib.hid (total_snoc L m hm)
        have hm1 : ((m + 1 : Nat) : Int) - 1 = (m : Int) := by omega
        have hneg2 : decide ((m : Int) < 0) = false := decide_eq_false (by omega)
        go_wp2
        go_quiet (fail)
        go_wp2
        go_roundw
        case rel =>
          refine ⟨rfl, m, _, (s.size : Int) - 1, hm, by omega, by omega, Lib.hid ⟨by rw [HS.out]; omega, ?_⟩, rfl⟩
          have hh := HH.out
          have ht := HT.out
          rw [HS.out] at ht
          omega
        case measure => simp [intOf, go_sem]
end Go.Proofs.Ytlbbgocggifjaaa
namespace Go.Proofs.Ytlbbgocggifjaaa
open Go.RowKit

theorem rkind_at (c o s : Int) (op : Bool) (h : Hid (kindP c = (o, s, op, true))) (w : World) : Calls Try.prog 49 #[.int .u8 c] w fun e w' =>
    e = .returned (.tuple #[.int .u8 o, .int .u8 s, .bool op, .bool true]) ∧ w = w' := by
  have := rkind_any c w
  rw [h.out] at this
  exact this

set_option maxRecDepth 100000 in
set_option maxHeartbeats 4000000 in
theorem rother_open (a : Option Addr) (cap : Nat) (L : List ByteArray) (l c : Nat) (w : World) (hL : LinesAt w a L) (hl : l < L.length) (hc : c < (L.getD l .empty).size) (htot : total L ≤ 1000000)
    (o s : Int) (hk : Hid (kindP (btI (flat L) (idx L l c)) = (o, s, true, true))) (hos : o ≠ s) (hbo : btI (flat L) (idx L l c) = o) :
    Calls Try.prog 113 #[.slice a L.length cap, .agg #[.int .i64 l, .int .i64 c]] w fun e w' => e = .returned (plcV (optP L (scanF (flat L) o s 1 (idx L l c + 1)))) ∧ Below w.heap.size w w' := by
  have hn := hL.2.1
  obtain ⟨R, hR⟩ : ∃ R, scanF (flat L) o s 1 (idx L l c + 1) = R := ⟨_, rfl⟩
  rw [hR]
  have HR := Lib.hid hR
  obtain ⟨b, off, u, rfl, hb, hcell, hu, HU⟩ := line_facts' hL hl
  have hcu : c < u.size := by have := hc; rw [HU.out] at this; exact this
  have hcI : (c : Int) < (u.size : Int) := by omega
  have hlI : (l : Int) < (L.length : Int) := by omega
  have hl0 : (0 : Int) ≤ (l : Int) := by omega
  have hc0 : (0 : Int) ≤ (c : Int) := by omega
  have hkk := hk.out
  rw [flat_byte hl HU.out hcu] at hkk
  have HK := Lib.hid hkk
  have HC := Lib.hid hc
  have HR0 : Hid (scanF (flat L) o s 0 (idx L l c) = R) := Lib.hid (by
    have d1 : deepF o s (btI (flat L) (idx L l c)) 0 = 1 := by rw [hbo, deepF, if_pos rfl]; rfl
    rw [scanF_miss (by rw [flat_length]; exact idx_lt hl hc) (by rw [d1]; decide), d1]; exact hR)
  have HIL := Lib.hid (idx_lt hl hc)
  obtain ⟨j0, hj0⟩ : ∃ j0, idx L l c = j0 := ⟨_, rfl⟩
  rw [hj0] at HR0 HIL
  have HJ := Lib.hid hj0
  have HO := Lib.hid hos
  have HBO : Hid (1 ≤ (0 : Int) ∨ btI (flat L) j0 = o) := Lib.hid (.inr (by rw [← HJ.out]; exact hbo))
  clear hR hkk hc hj0 hos hbo
  go_enter Try.func113, Try.ntmps113
  go_wp2
  (refine wp_region_ovr (by kernel_rfl) (by kernel_rfl) ?_; (repeat (go_big_quiet_step ((go_at_call 49; exact quiet_same (rkind_at _ _ _ _ HK _))))); refine wpQuiet_nil ?_; rintro _ ⟨zq, rfl⟩)
  go_wp2
  refine name_ptr4 11 rfl ?_
  intro B0 hB0
  rw [← hB0]
  refine name_ptr4 4 rfl ?_
  intro Rb hRb
  rw [← hRb]
  refine name_world ?_
  intro W0 hW
  have r0 : W0.cell? ⟨Rb, 0, none⟩ = some (.int .i64 0) := by subst hW hB0 hRb; simp [go_sem]
  have r1 : W0.cell? ⟨Rb, 1, none⟩ = some (.int .i64 0) := by subst hW hB0 hRb; simp [go_sem]
  have f0 : W0.frozen? ⟨Rb, 0, none⟩ = false := by subst hW hB0 hRb; simp [go_sem]
  have f1 : W0.frozen? ⟨Rb, 1, none⟩ = false := by subst hW hB0 hRb; simp [go_sem]
  have b0 : W0.cell? ⟨B0, 0, none⟩ = some (.int .i64 l) := by subst hW hB0 hRb; simp [go_sem]
  have b1 : W0.cell? ⟨B0, 1, none⟩ = some (.int .i64 c) := by subst hW hB0 hRb; simp [go_sem]
  have hL0 : LinesAt W0 (some ⟨b, off, none⟩) L := by rw [hW]; (repeat (first | assumption | refine LinesAt.ovr ?_ _ | refine LinesAt.alloc ?_ _ | refine LinesAt.drewN ?_ _ | refine LinesAt.drew ?_))
  have hbel : Below w.heap.size w W0 := by rw [hW]; (repeat (first | with_reducible exact Below.refl _ _ | (with_reducible refine Below.setCell ?_ ?_ _; rotate_left; · (first | exact Nat.le_refl _ | assumption | omega | (simp; done) | (simp; omega))) | (with_reducible refine Below.alloc ?_ ?_ _; rotate_left; · (first | exact Nat.le_refl _ | assumption | omega | (simp; done) | (simp; omega))) | with_reducible refine below_ovr_of ?_ | with_reducible refine drew_below ?_ _ | with_reducible refine Below.drew ?_ | with_reducible assumption))
  have hszW := hbel.size
  have hRw : w.heap.size ≤ Rb := by omega
  have lR := cell_lt4 r0
  clear hW hB0 hRb hL
  go_loopg [10, 11, 12] (total L - j0) (fun g d p k wr => Below W0.heap.size W0 wr ∧ ∃ dd : Int, d = .int .i64 dd ∧
    ((k = .bool true ∧ ∃ (B l' c' j : Nat), p = .pointer (some ⟨B, 0, none⟩) ∧ wr.cell? ⟨B, 0, none⟩ = some (.int .i64 l') ∧ wr.cell? ⟨B, 1, none⟩ = some (.int .i64 c') ∧ l' < L.length ∧ j < total L ∧ g = total L - j ∧ 0 ≤ dd ∧ dd ≤ j + 1 ∧ Hid (1 ≤ dd ∨ btI (flat L) j = o) ∧
        Hid (c' < (L.getD l' .empty).size ∧ idx L l' c' = j) ∧ Hid (scanF (flat L) o s dd j = R)) ∨
     (k = .bool false ∧ Hid (R = none) ∧ ∃ B : Nat, p = .pointer (some ⟨B, 0, none⟩))))
  case atStart =>
    exact ⟨Below.refl _ _, 0, rfl, .inl ⟨rfl, B0, l, c, j0, rfl, b0, b1, hl, HIL.out, rfl, by omega, by omega, HBO, Lib.hid ⟨HC.out, HJ.out⟩, HR0⟩⟩
  case round =>
    obtain ⟨hbV, dd, rfl, h⟩ := hrel
    have hszV := hbV.size
    have lRw : Rb < wr.heap.size := by omega
    have hLV : LinesAt wr (some ⟨b, off, none⟩) L := hL0.below hbV (Nat.le_refl _)
    rcases h with ⟨rfl, B, l', c', j, rfl, p0, p1, hl', hj, rfl, hd1, hd2, HD, HP, HS⟩ | ⟨rfl, HRn, B, rfl⟩
    · have lB := cell_lt4 p0
      obtain ⟨b', off', s', e, hb', hcell', hs', HU'⟩ := line_facts' hLV hl'
      cases e
      obtain ⟨HPc, HPi⟩ := HP.out
      have HPc' := HPc
      rw [HU'.out] at HPc'
      have hcI' : (c' : Int) < (s'.size : Int) := by omega
      have hlI' : (l' : Int) < (L.length : Int) := by omega
      have hl0' : (0 : Int) ≤ (l' : Int) := by omega
      have hc0' : (0 : Int) ≤ (c' : Int) := by omega
      have hbt := flat_byte hl' HU'.out HPc'
      rw [HPi] at hbt
      obtain ⟨cc, hcc⟩ : ∃ cc : Int, (s'[c'].toNat : Int) = cc := ⟨_, rfl⟩
      rw [hcc] at hbt
      have hjl : j < (flat L).length := by rw [flat_length]; exact hj
      obtain ⟨⟨⟨m1, m2⟩, ok2⟩, hn2⟩ : ∃ r, nxtP L (j + 1) = r := ⟨_, rfl⟩
      have HN2 := Lib.hid hn2
      clear hn2
      have HIDC := Lib.hid HPc
      have HIDI := Lib.hid HPi
      by_cases h1 : cc = o
      · have d1 : deepF o s (btI (flat L) j) dd = dd + 1 := by rw [hbt, deepF, if_pos h1]
        have HS2 := Lib.hid ((scanF_miss (B := flat L) (o := o) (s := s) (d := dd) hjl (by rw [d1]; omega)).symm.trans HS.out)
        rw [d1] at HS2
        have t1 : (cc == o) = true := beq_iff_eq.2 h1
        have t3 : (dd + 1 == 0) = false := beq_eq_false_iff_ne.2 (by omega)
        clear h1 d1 hbt HPc HPi
        go_wp2
        (refine wp_region_ovr (by kernel_rfl) (by kernel_rfl) ?_; (repeat (go_big_quiet_step (fail))); refine wpQuiet_nil ?_; rintro _ ⟨zq, rfl⟩)
        go_wp2_with fail
        go_at_call 143; refine (step_forth _ _ L l' c' _ (by (repeat (first | assumption | refine LinesAt.ovr ?_ _ | refine LinesAt.alloc ?_ _ | refine LinesAt.drewN ?_ _ | refine LinesAt.drew ?_))) hl' HIDC.out).mono ?_; rw [HIDI.out, HN2.out]; rintro e w1 ⟨x, y, rfl, HXY, hbl⟩; obtain ⟨x2, rfl⟩ := ovr_of_below hbl; clear hbl
        go_wp2
        go_roundg (total L - (j + 1))
        case measure => omega
        case rel =>
          refine ⟨by (repeat (first | with_reducible exact Below.refl _ _ | (with_reducible refine Below.setCell ?_ ?_ _; rotate_left; · (first | exact Nat.le_refl _ | assumption | omega | (simp; done) | (simp; omega))) | (with_reducible refine Below.alloc ?_ ?_ _; rotate_left; · (first | exact Nat.le_refl _ | assumption | omega | (simp; done) | (simp; omega))) | with_reducible refine below_ovr_of ?_ | with_reducible refine drew_below ?_ _ | with_reducible refine Below.drew ?_ | with_reducible assumption)), dd + 1, by go_num, ?_⟩
          rcases nxt_ways L (j + 1) with ⟨hj2, l2, c2, HN, hl2, HP2⟩ | ⟨hj2, HN⟩
          · have e := HN.out.symm.trans HN2.out
            simp only [Prod.mk.injEq] at e
            obtain ⟨⟨rfl, rfl⟩, rfl⟩ := e
            have hxy := HXY.out rfl
            simp only [Prod.mk.injEq] at hxy
            obtain ⟨rfl, rfl⟩ := hxy
            left
            exact ⟨rfl, _, l2, c2, j + 1, rfl, by simp [go_sem], by simp [go_sem], hl2, hj2, rfl, by omega, by omega, Lib.hid (.inl (by omega)), HP2, HS2⟩
          · have e := HN.out.symm.trans HN2.out
            simp only [Prod.mk.injEq] at e
            obtain ⟨⟨rfl, rfl⟩, rfl⟩ := e
            right
            exact ⟨rfl, Lib.hid (by rw [← HS2.out, scanF_end (by rw [flat_length]; exact hj2)]), _, rfl⟩
      · have t1 : (cc == o) = false := beq_eq_false_iff_ne.2 h1
        have hd4 : 1 ≤ dd := HD.out.resolve_right (by rw [hbt]; exact h1)
        by_cases h2 : cc = s
        · have t2 : (cc == s) = true := beq_iff_eq.2 h2
          have d1 : deepF o s (btI (flat L) j) dd = dd - 1 := by rw [hbt, deepF, if_neg h1, if_pos h2]
          by_cases h3 : dd = 1
          · have HRj := Lib.hid (HS.out.symm.trans (scanF_hit (B := flat L) (o := o) (s := s) (d := dd) hjl (by rw [d1]; omega)))
            have HY := Lib.hid (atPlc_eq hl' HPc HPi)
            have t3 : (dd - 1 == 0) = true := beq_iff_eq.2 (by omega)
            have v0 : wr.cell? ⟨Rb, 0, none⟩ = some (.int .i64 0) := (hbV.cell (p := ⟨Rb, 0, none⟩) lR).trans r0
            have v1 : wr.cell? ⟨Rb, 1, none⟩ = some (.int .i64 0) := (hbV.cell (p := ⟨Rb, 1, none⟩) lR).trans r1
            have g0 : wr.frozen? ⟨Rb, 0, none⟩ = false := (hbV.frozen (p := ⟨Rb, 0, none⟩) lR).trans f0
            have g1 : wr.frozen? ⟨Rb, 1, none⟩ = false := (hbV.frozen (p := ⟨Rb, 1, none⟩) lR).trans f1
            have hbw : Below w.heap.size w wr := hbel.trans (hbV.mono hszW)
            clear h1 h2 h3 d1 hbt HPc HPi
            go_wp2
            (refine wp_region_ovr (by kernel_rfl) (by kernel_rfl) ?_; (repeat (go_big_quiet_step (fail))); refine wpQuiet_nil ?_; rintro _ ⟨zq, rfl⟩)
            go_wp2
            refine bodyPost_ret (v := plcV (((l' : Int), (c' : Int)), true)) (by simp [results, Try.results113, go_sem, v0, v1, lRw]) rfl ⟨by rw [HRj.out, optP, HY.out], by (repeat (first | with_reducible exact Below.refl _ _ | (with_reducible refine Below.setCell ?_ ?_ _; rotate_left; · (first | exact Nat.le_refl _ | assumption | omega | (simp; done) | (simp; omega))) | (with_reducible refine Below.alloc ?_ ?_ _; rotate_left; · (first | exact Nat.le_refl _ | assumption | omega | (simp; done) | (simp; omega))) | with_reducible refine below_ovr_of ?_ | with_reducible refine drew_below ?_ _ | with_reducible refine Below.drew ?_ | with_reducible assumption))⟩
          · have HS2 := Lib.hid ((scanF_miss (B := flat L) (o := o) (s := s) (d := dd) hjl (by rw [d1]; omega)).symm.trans HS.out)
            rw [d1] at HS2
            have hd3 : 2 ≤ dd := by omega
            have t3 : (dd - 1 == 0) = false := beq_eq_false_iff_ne.2 (by omega)
            clear h1 h2 h3 d1 hbt HPc HPi
            go_wp2
            (refine wp_region_ovr (by kernel_rfl) (by kernel_rfl) ?_; (repeat (go_big_quiet_step (fail))); refine wpQuiet_nil ?_; rintro _ ⟨zq, rfl⟩)
            go_wp2_with fail
            go_at_call 143; refine (step_forth _ _ L l' c' _ (by (repeat (first | assumption | refine LinesAt.ovr ?_ _ | refine LinesAt.alloc ?_ _ | refine LinesAt.drewN ?_ _ | refine LinesAt.drew ?_))) hl' HIDC.out).mono ?_; rw [HIDI.out, HN2.out]; rintro e w1 ⟨x, y, rfl, HXY, hbl⟩; obtain ⟨x2, rfl⟩ := ovr_of_below hbl; clear hbl
            go_wp2
            go_roundg (total L - (j + 1))
            case measure => omega
            case rel =>
              refine ⟨by (repeat (first | with_reducible exact Below.refl _ _ | (with_reducible refine Below.setCell ?_ ?_ _; rotate_left; · (first | exact Nat.le_refl _ | assumption | omega | (simp; done) | (simp; omega))) | (with_reducible refine Below.alloc ?_ ?_ _; rotate_left; · (first | exact Nat.le_refl _ | assumption | omega | (simp; done) | (simp; omega))) | with_reducible refine below_ovr_of ?_ | with_reducible refine drew_below ?_ _ | with_reducible refine Below.drew ?_ | with_reducible assumption)), dd - 1, by go_num, ?_⟩
              rcases nxt_ways L (j + 1) with ⟨hj2, l2, c2, HN, hl2, HP2⟩ | ⟨hj2, HN⟩
              · have e := HN.out.symm.trans HN2.out
                simp only [Prod.mk.injEq] at e
                obtain ⟨⟨rfl, rfl⟩, rfl⟩ := e
                have hxy := HXY.out rfl
                simp only [Prod.mk.injEq] at hxy
                obtain ⟨rfl, rfl⟩ := hxy
                left
                exact ⟨rfl, _, l2, c2, j + 1, rfl, by simp [go_sem], by simp [go_sem], hl2, hj2, rfl, by omega, by omega, Lib.hid (.inl (by omega)), HP2, HS2⟩
              · have e := HN.out.symm.trans HN2.out
                simp only [Prod.mk.injEq] at e
                obtain ⟨⟨rfl, rfl⟩, rfl⟩ := e
                right
                exact ⟨rfl, Lib.hid (by rw [← HS2.out, scanF_end (by rw [flat_length]; exact hj2)]), _, rfl⟩
        · have t2 : (cc == s) = false := beq_eq_false_iff_ne.2 h2
          have d1 : deepF o s (btI (flat L) j) dd = dd := by rw [hbt, deepF, if_neg h1, if_neg h2]
          have HS2 := Lib.hid ((scanF_miss (B := flat L) (o := o) (s := s) (d := dd) hjl (by rw [d1]; omega)).symm.trans HS.out)
          rw [d1] at HS2
          have t3 : (dd == 0) = false := beq_eq_false_iff_ne.2 (by omega)
          clear h1 h2 d1 hbt HPc HPi
          go_wp2
          (refine wp_region_ovr (by kernel_rfl) (by kernel_rfl) ?_; (repeat (go_big_quiet_step (fail))); refine wpQuiet_nil ?_; rintro _ ⟨zq, rfl⟩)
          go_wp2_with fail
          go_at_call 143; refine (step_forth _ _ L l' c' _ (by (repeat (first | assumption | refine LinesAt.ovr ?_ _ | refine LinesAt.alloc ?_ _ | refine LinesAt.drewN ?_ _ | refine LinesAt.drew ?_))) hl' HIDC.out).mono ?_; rw [HIDI.out, HN2.out]; rintro e w1 ⟨x, y, rfl, HXY, hbl⟩; obtain ⟨x2, rfl⟩ := ovr_of_below hbl; clear hbl
          go_wp2
          go_roundg (total L - (j + 1))
          case measure => omega
          case rel =>
            refine ⟨by (repeat (first | with_reducible exact Below.refl _ _ | (with_reducible refine Below.setCell ?_ ?_ _; rotate_left; · (first | exact Nat.le_refl _ | assumption | omega | (simp; done) | (simp; omega))) | (with_reducible refine Below.alloc ?_ ?_ _; rotate_left; · (first | exact Nat.le_refl _ | assumption | omega | (simp; done) | (simp; omega))) | with_reducible refine below_ovr_of ?_ | with_reducible refine drew_below ?_ _ | with_reducible refine Below.drew ?_ | with_reducible assumption)), dd, by go_num, ?_⟩
            rcases nxt_ways L (j + 1) with ⟨hj2, l2, c2, HN, hl2, HP2⟩ | ⟨hj2, HN⟩
            · have e := HN.out.symm.trans HN2.out
              simp only [Prod.mk.injEq] at e
              obtain ⟨⟨rfl, rfl⟩, rfl⟩ := e
              have hxy := HXY.out rfl
              simp only [Prod.mk.injEq] at hxy
              obtain ⟨rfl, rfl⟩ := hxy
              left
              exact ⟨rfl, _, l2, c2, j + 1, rfl, by simp [go_sem], by simp [go_sem], hl2, hj2, rfl, by omega, by omega, Lib.hid (.inl (by omega)), HP2, HS2⟩
            · have e := HN.out.symm.trans HN2.out
              simp only [Prod.mk.injEq] at e
              obtain ⟨⟨rfl, rfl⟩, rfl⟩ := e
              right
              exact ⟨rfl, Lib.hid (by rw [← HS2.out, scanF_end (by rw [flat_length]; exact hj2)]), _, rfl⟩
    · have v0 : wr.cell? ⟨Rb, 0, none⟩ = some (.int .i64 0) := (hbV.cell (p := ⟨Rb, 0, none⟩) lR).trans r0
      have v1 : wr.cell? ⟨Rb, 1, none⟩ = some (.int .i64 0) := (hbV.cell (p := ⟨Rb, 1, none⟩) lR).trans r1
      have g0 : wr.frozen? ⟨Rb, 0, none⟩ = false := (hbV.frozen (p := ⟨Rb, 0, none⟩) lR).trans f0
      have g1 : wr.frozen? ⟨Rb, 1, none⟩ = false := (hbV.frozen (p := ⟨Rb, 1, none⟩) lR).trans f1
      have hbw : Below w.heap.size w wr := hbel.trans (hbV.mono hszW)
      go_wp2
      refine bodyPost_ret (v := plcV noPlc) (by simp [results, Try.results113, go_sem, noPlc, v0, v1]) rfl ⟨by rw [HRn.out]; rfl, by (repeat (first | with_reducible exact Below.refl _ _ | (with_reducible refine Below.setCell ?_ ?_ _; rotate_left; · (first | exact Nat.le_refl _ | assumption | omega | (simp; done) | (simp; omega))) | (with_reducible refine Below.alloc ?_ ?_ _; rotate_left; · (first | exact Nat.le_refl _ | assumption | omega | (simp; done) | (simp; omega))) | with_reducible refine below_ovr_of ?_ | with_reducible refine drew_below ?_ _ | with_reducible refine Below.drew ?_ | with_reducible assumption))⟩
end Go.Proofs.Ytlbbgocggifjaaa
namespace Go.Proofs.Ytlbbgocggifjaaa
open Go.RowKit

set_option maxRecDepth 100000 in
set_option maxHeartbeats 4000000 in
theorem rother_shut (a : Option Addr) (cap : Nat) (L : List ByteArray) (l c : Nat) (w : World) (hL : LinesAt w a L) (hl : l < L.length) (hc : c < (L.getD l .empty).size) (htot : total L ≤ 1000000)
    (o s : Int) (hk : Hid (kindP (btI (flat L) (idx L l c)) = (o, s, false, true))) (hos : o ≠ s) (hbo : btI (flat L) (idx L l c) = s) :
    Calls Try.prog 113 #[.slice a L.length cap, .agg #[.int .i64 l, .int .i64 c]] w fun e w' => e = .returned (plcV (optP L (scanB (flat L) o s 1 (idx L l c)))) ∧ Below w.heap.size w w' := by
  have hn := hL.2.1
  obtain ⟨R, hR⟩ : ∃ R, scanB (flat L) o s 1 (idx L l c) = R := ⟨_, rfl⟩
  rw [hR]
  have HR := Lib.hid hR
  obtain ⟨b, off, u, rfl, hb, hcell, hu, HU⟩ := line_facts' hL hl
  have hcu : c < u.size := by have := hc; rw [HU.out] at this; exact this
  have hcI : (c : Int) < (u.size : Int) := by omega
  have hlI : (l : Int) < (L.length : Int) := by omega
  have hl0 : (0 : Int) ≤ (l : Int) := by omega
  have hc0 : (0 : Int) ≤ (c : Int) := by omega
  have hkk := hk.out
  rw [flat_byte hl HU.out hcu] at hkk
  have HK := Lib.hid hkk
  have HC := Lib.hid hc
  have HR0 : Hid (scanB (flat L) o s 0 (idx L l c + 1) = R) := Lib.hid (by
    have d1 : deepB o s (btI (flat L) (idx L l c)) 0 = 1 := by rw [hbo, deepB, if_pos rfl]; rfl
    rw [scanB_miss (by rw [d1]; decide), d1]; exact hR)
  have HIL := Lib.hid (idx_lt hl hc)
  obtain ⟨j0, hj0⟩ : ∃ j0, idx L l c = j0 := ⟨_, rfl⟩
  rw [hj0] at HR0 HIL
  have HJ := Lib.hid hj0
  have HO := Lib.hid hos
  have HBO : Hid (1 ≤ (0 : Int) ∨ btI (flat L) j0 = s) := Lib.hid (.inr (by rw [← HJ.out]; exact hbo))
  clear hR hkk hc hj0 hos hbo
  go_enter Try.func113, Try.ntmps113
  go_wp2
  (refine wp_region_ovr (by kernel_rfl) (by kernel_rfl) ?_; (repeat (go_big_quiet_step ((go_at_call 49; exact quiet_same (rkind_at _ _ _ _ HK _))))); refine wpQuiet_nil ?_; rintro _ ⟨zq, rfl⟩)
  go_wp2
  refine name_ptr4 11 rfl ?_
  intro B0 hB0
  rw [← hB0]
  refine name_ptr4 4 rfl ?_
  intro Rb hRb
  rw [← hRb]
  refine name_world ?_
  intro W0 hW
  have r0 : W0.cell? ⟨Rb, 0, none⟩ = some (.int .i64 0) := by subst hW hB0 hRb; simp [go_sem]
  have r1 : W0.cell? ⟨Rb, 1, none⟩ = some (.int .i64 0) := by subst hW hB0 hRb; simp [go_sem]
  have f0 : W0.frozen? ⟨Rb, 0, none⟩ = false := by subst hW hB0 hRb; simp [go_sem]
  have f1 : W0.frozen? ⟨Rb, 1, none⟩ = false := by subst hW hB0 hRb; simp [go_sem]
  have b0 : W0.cell? ⟨B0, 0, none⟩ = some (.int .i64 l) := by subst hW hB0 hRb; simp [go_sem]
  have b1 : W0.cell? ⟨B0, 1, none⟩ = some (.int .i64 c) := by subst hW hB0 hRb; simp [go_sem]
  have hL0 : LinesAt W0 (some ⟨b, off, none⟩) L := by rw [hW]; (repeat (first | assumption | refine LinesAt.ovr ?_ _ | refine LinesAt.alloc ?_ _ | refine LinesAt.drewN ?_ _ | refine LinesAt.drew ?_))
  have hbel : Below w.heap.size w W0 := by rw [hW]; (repeat (first | with_reducible exact Below.refl _ _ | (with_reducible refine Below.setCell ?_ ?_ _; rotate_left; · (first | exact Nat.le_refl _ | assumption | omega | (simp; done) | (simp; omega))) | (with_reducible refine Below.alloc ?_ ?_ _; rotate_left; · (first | exact Nat.le_refl _ | assumption | omega | (simp; done) | (simp; omega))) | with_reducible refine below_ovr_of ?_ | with_reducible refine drew_below ?_ _ | with_reducible refine Below.drew ?_ | with_reducible assumption))
  have hszW := hbel.size
  have hRw : w.heap.size ≤ Rb := by omega
  have lR := cell_lt4 r0
  clear hW hB0 hRb hL
  go_loopg [10, 11, 12] (j0 + 1) (fun g d p k wr => Below W0.heap.size W0 wr ∧ ∃ dd : Int, d = .int .i64 (-dd) ∧
    ((k = .bool true ∧ ∃ (B l' c' j : Nat), p = .pointer (some ⟨B, 0, none⟩) ∧ wr.cell? ⟨B, 0, none⟩ = some (.int .i64 l') ∧ wr.cell? ⟨B, 1, none⟩ = some (.int .i64 c') ∧ l' < L.length ∧ j < total L ∧ g = j + 1 ∧ 0 ≤ dd ∧ dd + j ≤ total L + 1 ∧ Hid (1 ≤ dd ∨ btI (flat L) j = s) ∧
        Hid (c' < (L.getD l' .empty).size ∧ idx L l' c' = j) ∧ Hid (scanB (flat L) o s dd (j + 1) = R)) ∨
     (k = .bool false ∧ Hid (R = none) ∧ ∃ B : Nat, p = .pointer (some ⟨B, 0, none⟩))))
  case atStart =>
    exact ⟨Below.refl _ _, 0, rfl, .inl ⟨rfl, B0, l, c, j0, rfl, b0, b1, hl, HIL.out, rfl, by omega, by have := HIL.out; omega, HBO, Lib.hid ⟨HC.out, HJ.out⟩, HR0⟩⟩
  case round =>
    obtain ⟨hbV, dd, rfl, h⟩ := hrel
    have hszV := hbV.size
    have lRw : Rb < wr.heap.size := by omega
    have hLV : LinesAt wr (some ⟨b, off, none⟩) L := hL0.below hbV (Nat.le_refl _)
    rcases h with ⟨rfl, B, l', c', j, rfl, p0, p1, hl', hj, rfl, hd1, hd2, HD, HP, HS⟩ | ⟨rfl, HRn, B, rfl⟩
    · have lB := cell_lt4 p0
      obtain ⟨b', off', s', e, hb', hcell', hs', HU'⟩ := line_facts' hLV hl'
      cases e
      obtain ⟨HPc, HPi⟩ := HP.out
      have HPc' := HPc
      rw [HU'.out] at HPc'
      have hcI' : (c' : Int) < (s'.size : Int) := by omega
      have hlI' : (l' : Int) < (L.length : Int) := by omega
      have hl0' : (0 : Int) ≤ (l' : Int) := by omega
      have hc0' : (0 : Int) ≤ (c' : Int) := by omega
      have hbt := flat_byte hl' HU'.out HPc'
      rw [HPi] at hbt
      obtain ⟨cc, hcc⟩ : ∃ cc : Int, (s'[c'].toNat : Int) = cc := ⟨_, rfl⟩
      rw [hcc] at hbt
      have hjl : j < (flat L).length := by rw [flat_length]; exact hj
      obtain ⟨⟨⟨m1, m2⟩, ok2⟩, hn2⟩ : ∃ r, prvP L j = r := ⟨_, rfl⟩
      have HN2 := Lib.hid hn2
      clear hn2
      have HIDC := Lib.hid HPc
      have HIDI := Lib.hid HPi
      by_cases h1 : cc = s
      · have d1 : deepB o s (btI (flat L) j) dd = dd + 1 := by rw [hbt, deepB, if_pos h1]
        have HS2 := Lib.hid ((scanB_miss (B := flat L) (o := o) (s := s) (d := dd) (i := j) (by rw [d1]; omega)).symm.trans HS.out)
        rw [d1] at HS2
        have t1 : (cc == s) = true := beq_iff_eq.2 h1
        have t0 : (cc == o) = false := beq_eq_false_iff_ne.2 (fun e => HO.out (e.symm.trans h1))
        have t3 : (-dd - 1 == 0) = false := beq_eq_false_iff_ne.2 (by omega)
        clear h1 d1 hbt HPc HPi
        go_wp2
        (refine wp_region_ovr (by kernel_rfl) (by kernel_rfl) ?_; (repeat (go_big_quiet_step (fail))); refine wpQuiet_nil ?_; rintro _ ⟨zq, rfl⟩)
        go_wp2_with fail
        go_at_call 143; refine (step_back _ _ L l' c' _ (by (repeat (first | assumption | refine LinesAt.ovr ?_ _ | refine LinesAt.alloc ?_ _ | refine LinesAt.drewN ?_ _ | refine LinesAt.drew ?_))) hl' (Nat.le_of_lt HIDC.out)).mono ?_; rw [HIDI.out, HN2.out]; rintro e w1 ⟨x, y, rfl, HXY, hbl⟩; obtain ⟨x2, rfl⟩ := ovr_of_below hbl; clear hbl
        go_wp2
        go_roundg j
        case measure => omega
        case rel =>
          refine ⟨by (repeat (first | with_reducible exact Below.refl _ _ | (with_reducible refine Below.setCell ?_ ?_ _; rotate_left; · (first | exact Nat.le_refl _ | assumption | omega | (simp; done) | (simp; omega))) | (with_reducible refine Below.alloc ?_ ?_ _; rotate_left; · (first | exact Nat.le_refl _ | assumption | omega | (simp; done) | (simp; omega))) | with_reducible refine below_ovr_of ?_ | with_reducible refine drew_below ?_ _ | with_reducible refine Below.drew ?_ | with_reducible assumption)), dd + 1, by first | go_num | (congr 1; omega), ?_⟩
          rcases prv_ways L j (by omega) with ⟨hj2, l2, c2, HN, hl2, HP2⟩ | ⟨hj2, HN⟩
          · have e := HN.out.symm.trans HN2.out
            simp only [Prod.mk.injEq] at e
            obtain ⟨⟨rfl, rfl⟩, rfl⟩ := e
            have hxy := HXY.out rfl
            simp only [Prod.mk.injEq] at hxy
            obtain ⟨rfl, rfl⟩ := hxy
            left
            exact ⟨rfl, _, l2, c2, j - 1, rfl, by simp [go_sem], by simp [go_sem], hl2, by omega, by omega, by omega, by omega, Lib.hid (.inl (by omega)), HP2, by rw [show j - 1 + 1 = j from by omega]; exact HS2⟩
          · have e := HN.out.symm.trans HN2.out
            simp only [Prod.mk.injEq] at e
            obtain ⟨⟨rfl, rfl⟩, rfl⟩ := e
            right
            exact ⟨rfl, Lib.hid (by rw [← HS2.out, hj2, scanB_end]), _, rfl⟩
      · have t1 : (cc == s) = false := beq_eq_false_iff_ne.2 h1
        have hd4 : 1 ≤ dd := HD.out.resolve_right (by rw [hbt]; exact h1)
        by_cases h2 : cc = o
        · have t2 : (cc == o) = true := beq_iff_eq.2 h2
          have d1 : deepB o s (btI (flat L) j) dd = dd - 1 := by rw [hbt, deepB, if_neg h1, if_pos h2]
          by_cases h3 : dd = 1
          · have HRj := Lib.hid (HS.out.symm.trans (scanB_hit (B := flat L) (o := o) (s := s) (d := dd) (i := j) (by rw [d1]; omega)))
            have HY := Lib.hid (atPlc_eq hl' HPc HPi)
            have t3 : (-dd + 1 == 0) = true := beq_iff_eq.2 (by omega)
            have v0 : wr.cell? ⟨Rb, 0, none⟩ = some (.int .i64 0) := (hbV.cell (p := ⟨Rb, 0, none⟩) lR).trans r0
            have v1 : wr.cell? ⟨Rb, 1, none⟩ = some (.int .i64 0) := (hbV.cell (p := ⟨Rb, 1, none⟩) lR).trans r1
            have g0 : wr.frozen? ⟨Rb, 0, none⟩ = false := (hbV.frozen (p := ⟨Rb, 0, none⟩) lR).trans f0
            have g1 : wr.frozen? ⟨Rb, 1, none⟩ = false := (hbV.frozen (p := ⟨Rb, 1, none⟩) lR).trans f1
            have hbw : Below w.heap.size w wr := hbel.trans (hbV.mono hszW)
            clear h1 h2 h3 d1 hbt HPc HPi
            go_wp2
            (refine wp_region_ovr (by kernel_rfl) (by kernel_rfl) ?_; (repeat (go_big_quiet_step (fail))); refine wpQuiet_nil ?_; rintro _ ⟨zq, rfl⟩)
            go_wp2
            refine bodyPost_ret (v := plcV (((l' : Int), (c' : Int)), true)) (by simp [results, Try.results113, go_sem, v0, v1, lRw]) rfl ⟨by rw [HRj.out, optP, HY.out], by (repeat (first | with_reducible exact Below.refl _ _ | (with_reducible refine Below.setCell ?_ ?_ _; rotate_left; · (first | exact Nat.le_refl _ | assumption | omega | (simp; done) | (simp; omega))) | (with_reducible refine Below.alloc ?_ ?_ _; rotate_left; · (first | exact Nat.le_refl _ | assumption | omega | (simp; done) | (simp; omega))) | with_reducible refine below_ovr_of ?_ | with_reducible refine drew_below ?_ _ | with_reducible refine Below.drew ?_ | with_reducible assumption))⟩
          · have HS2 := Lib.hid ((scanB_miss (B := flat L) (o := o) (s := s) (d := dd) (i := j) (by rw [d1]; omega)).symm.trans HS.out)
            rw [d1] at HS2
            have hd3 : 2 ≤ dd := by omega
            have t3 : (-dd + 1 == 0) = false := beq_eq_false_iff_ne.2 (by omega)
            clear h1 h2 h3 d1 hbt HPc HPi
            go_wp2
            (refine wp_region_ovr (by kernel_rfl) (by kernel_rfl) ?_; (repeat (go_big_quiet_step (fail))); refine wpQuiet_nil ?_; rintro _ ⟨zq, rfl⟩)
            go_wp2_with fail
            go_at_call 143; refine (step_back _ _ L l' c' _ (by (repeat (first | assumption | refine LinesAt.ovr ?_ _ | refine LinesAt.alloc ?_ _ | refine LinesAt.drewN ?_ _ | refine LinesAt.drew ?_))) hl' (Nat.le_of_lt HIDC.out)).mono ?_; rw [HIDI.out, HN2.out]; rintro e w1 ⟨x, y, rfl, HXY, hbl⟩; obtain ⟨x2, rfl⟩ := ovr_of_below hbl; clear hbl
            go_wp2
            go_roundg j
            case measure => omega
            case rel =>
              refine ⟨by (repeat (first | with_reducible exact Below.refl _ _ | (with_reducible refine Below.setCell ?_ ?_ _; rotate_left; · (first | exact Nat.le_refl _ | assumption | omega | (simp; done) | (simp; omega))) | (with_reducible refine Below.alloc ?_ ?_ _; rotate_left; · (first | exact Nat.le_refl _ | assumption | omega | (simp; done) | (simp; omega))) | with_reducible refine below_ovr_of ?_ | with_reducible refine drew_below ?_ _ | with_reducible refine Below.drew ?_ | with_reducible assumption)), dd - 1, by first | go_num | (congr 1; omega), ?_⟩
              rcases prv_ways L j (by omega) with ⟨hj2, l2, c2, HN, hl2, HP2⟩ | ⟨hj2, HN⟩
              · have e := HN.out.symm.trans HN2.out
                simp only [Prod.mk.injEq] at e
                obtain ⟨⟨rfl, rfl⟩, rfl⟩ := e
                have hxy := HXY.out rfl
                simp only [Prod.mk.injEq] at hxy
                obtain ⟨rfl, rfl⟩ := hxy
                left
                exact ⟨rfl, _, l2, c2, j - 1, rfl, by simp [go_sem], by simp [go_sem], hl2, by omega, by omega, by omega, by omega, Lib.hid (.inl (by omega)), HP2, by rw [show j - 1 + 1 = j from by omega]; exact HS2⟩
              · have e := HN.out.symm.trans HN2.out
                simp only [Prod.mk.injEq] at e
                obtain ⟨⟨rfl, rfl⟩, rfl⟩ := e
                right
                exact ⟨rfl, Lib.hid (by rw [← HS2.out, hj2, scanB_end]), _, rfl⟩
        · have t2 : (cc == o) = false := beq_eq_false_iff_ne.2 h2
          have d1 : deepB o s (btI (flat L) j) dd = dd := by rw [hbt, deepB, if_neg h1, if_neg h2]
          have HS2 := Lib.hid ((scanB_miss (B := flat L) (o := o) (s := s) (d := dd) (i := j) (by rw [d1]; omega)).symm.trans HS.out)
          rw [d1] at HS2
          have t3 : (-dd == 0) = false := beq_eq_false_iff_ne.2 (by omega)
          clear h1 h2 d1 hbt HPc HPi
          go_wp2
          (refine wp_region_ovr (by kernel_rfl) (by kernel_rfl) ?_; (repeat (go_big_quiet_step (fail))); refine wpQuiet_nil ?_; rintro _ ⟨zq, rfl⟩)
          go_wp2_with fail
          go_at_call 143; refine (step_back _ _ L l' c' _ (by (repeat (first | assumption | refine LinesAt.ovr ?_ _ | refine LinesAt.alloc ?_ _ | refine LinesAt.drewN ?_ _ | refine LinesAt.drew ?_))) hl' (Nat.le_of_lt HIDC.out)).mono ?_; rw [HIDI.out, HN2.out]; rintro e w1 ⟨x, y, rfl, HXY, hbl⟩; obtain ⟨x2, rfl⟩ := ovr_of_below hbl; clear hbl
          go_wp2
          go_roundg j
          case measure => omega
          case rel =>
            refine ⟨by (repeat (first | with_reducible exact Below.refl _ _ | (with_reducible refine Below.setCell ?_ ?_ _; rotate_left; · (first | exact Nat.le_refl _ | assumption | omega | (simp; done) | (simp; omega))) | (with_reducible refine Below.alloc ?_ ?_ _; rotate_left; · (first | exact Nat.le_refl _ | assumption | omega | (simp; done) | (simp; omega))) | with_reducible refine below_ovr_of ?_ | with_reducible refine drew_below ?_ _ | with_reducible refine Below.drew ?_ | with_reducible assumption)), dd, by first | go_num | (congr 1; omega), ?_⟩
            rcases prv_ways L j (by omega) with ⟨hj2, l2, c2, HN, hl2, HP2⟩ | ⟨hj2, HN⟩
            · have e := HN.out.symm.trans HN2.out
              simp only [Prod.mk.injEq] at e
              obtain ⟨⟨rfl, rfl⟩, rfl⟩ := e
              have hxy := HXY.out rfl
              simp only [Prod.mk.injEq] at hxy
              obtain ⟨rfl, rfl⟩ := hxy
              left
              exact ⟨rfl, _, l2, c2, j - 1, rfl, by simp [go_sem], by simp [go_sem], hl2, by omega, by omega, by omega, by omega, Lib.hid (.inl (by omega)), HP2, by rw [show j - 1 + 1 = j from by omega]; exact HS2⟩
            · have e := HN.out.symm.trans HN2.out
              simp only [Prod.mk.injEq] at e
              obtain ⟨⟨rfl, rfl⟩, rfl⟩ := e
              right
              exact ⟨rfl, Lib.hid (by rw [← HS2.out, hj2, scanB_end]), _, rfl⟩
    · have v0 : wr.cell? ⟨Rb, 0, none⟩ = some (.int .i64 0) := (hbV.cell (p := ⟨Rb, 0, none⟩) lR).trans r0
      have v1 : wr.cell? ⟨Rb, 1, none⟩ = some (.int .i64 0) := (hbV.cell (p := ⟨Rb, 1, none⟩) lR).trans r1
      have g0 : wr.frozen? ⟨Rb, 0, none⟩ = false := (hbV.frozen (p := ⟨Rb, 0, none⟩) lR).trans f0
      have g1 : wr.frozen? ⟨Rb, 1, none⟩ = false := (hbV.frozen (p := ⟨Rb, 1, none⟩) lR).trans f1
      have hbw : Below w.heap.size w wr := hbel.trans (hbV.mono hszW)
      go_wp2
      refine bodyPost_ret (v := plcV noPlc) (by simp [results, Try.results113, go_sem, noPlc, v0, v1]) rfl ⟨by rw [HRn.out]; rfl, by (repeat (first | with_reducible exact Below.refl _ _ | (with_reducible refine Below.setCell ?_ ?_ _; rotate_left; · (first | exact Nat.le_refl _ | assumption | omega | (simp; done) | (simp; omega))) | (with_reducible refine Below.alloc ?_ ?_ _; rotate_left; · (first | exact Nat.le_refl _ | assumption | omega | (simp; done) | (simp; omega))) | with_reducible refine below_ovr_of ?_ | with_reducible refine drew_below ?_ _ | with_reducible refine Below.drew ?_ | with_reducible assumption))⟩
end Go.Proofs.Ytlbbgocggifjaaa
namespace Go.Proofs.Ytlbbgocggifjaaa
open Go.RowKit

theorem kind_spec {c o s : Int} {op : Bool} (h : kindP c = (o, s, op, true)) : o ≠ s ∧ (op = true → c = o) ∧ (op = false → c = s) := by
  unfold kindP at h
  by_cases h1 : c = 40 ∨ c = 41
  · rw [if_pos h1] at h
    simp only [Prod.mk.injEq] at h
    obtain ⟨rfl, rfl, rfl, _⟩ := h
    refine ⟨by decide, fun e => by simpa using e, fun e => ?_⟩
    have e' : ¬ c = 40 := by simpa using e
    omega
  · rw [if_neg h1] at h
    by_cases h2 : c = 91 ∨ c = 93
    · rw [if_pos h2] at h
      simp only [Prod.mk.injEq] at h
      obtain ⟨rfl, rfl, rfl, _⟩ := h
      refine ⟨by decide, fun e => by simpa using e, fun e => ?_⟩
      have e' : ¬ c = 91 := by simpa using e
      omega
    · rw [if_neg h2] at h
      by_cases h3 : c = 123 ∨ c = 125
      · rw [if_pos h3] at h
        simp only [Prod.mk.injEq] at h
        obtain ⟨rfl, rfl, rfl, _⟩ := h
        refine ⟨by decide, fun e => by simpa using e, fun e => ?_⟩
        have e' : ¬ c = 123 := by simpa using e
        omega
      · rw [if_neg h3] at h; simp at h
theorem otherP_open {B : List UInt8} {i : Nat} {o s : Int} (h : kindP (btI B i) = (o, s, true, true)) : otherP B i = scanF B o s 1 (i + 1) := by rw [otherP, h]; rfl
theorem otherP_shut {B : List UInt8} {i : Nat} {o s : Int} (h : kindP (btI B i) = (o, s, false, true)) : otherP B i = scanB B o s 1 i := by rw [otherP, h]; rfl

theorem other_any (a : Option Addr) (cap : Nat) (L : List ByteArray) (l c : Nat) (w : World) (hL : LinesAt w a L) (hl : l < L.length) (hc : c < (L.getD l .empty).size) (htot : total L ≤ 1000000)
    (hk : (kindP (btI (flat L) (idx L l c))).2.2.2 = true) :
    Calls Try.prog 110 #[.slice a L.length cap, .agg #[.int .i64 l, .int .i64 c]] w fun e w' => e = .returned (plcV (optP L (otherP (flat L) (idx L l c)))) ∧ Below w.heap.size w w' := by
  obtain ⟨⟨o, s, op, is⟩, hkk⟩ : ∃ r, kindP (btI (flat L) (idx L l c)) = r := ⟨_, rfl⟩
  rw [hkk] at hk
  have hk' : is = true := hk
  subst hk'
  obtain ⟨hos, h1, h2⟩ := kind_spec hkk
  cases op with
  | true =>
    rw [otherP_open hkk]
    first
      | exact other_open a cap L l c w hL hl hc htot o s (Lib.hid hkk) hos
      | exact other_open a cap L l c w hL hl hc htot o s (Lib.hid hkk) hos (h1 rfl)
  | false =>
    rw [otherP_shut hkk]
    first
      | exact other_shut a cap L l c w hL hl hc htot o s (Lib.hid hkk) hos
      | exact other_shut a cap L l c w hL hl hc htot o s (Lib.hid hkk) hos (h2 rfl)
theorem rother_any (a : Option Addr) (cap : Nat) (L : List ByteArray) (l c : Nat) (w : World) (hL : LinesAt w a L) (hl : l < L.length) (hc : c < (L.getD l .empty).size) (htot : total L ≤ 1000000)
    (hk : (kindP (btI (flat L) (idx L l c))).2.2.2 = true) :
    Calls Try.prog 113 #[.slice a L.length cap, .agg #[.int .i64 l, .int .i64 c]] w fun e w' => e = .returned (plcV (optP L (otherP (flat L) (idx L l c)))) ∧ Below w.heap.size w w' := by
  obtain ⟨⟨o, s, op, is⟩, hkk⟩ : ∃ r, kindP (btI (flat L) (idx L l c)) = r := ⟨_, rfl⟩
  rw [hkk] at hk
  have hk' : is = true := hk
  subst hk'
  obtain ⟨hos, h1, h2⟩ := kind_spec hkk
  cases op with
  | true =>
    rw [otherP_open hkk]
    first
      | exact rother_open a cap L l c w hL hl hc htot o s (Lib.hid hkk) hos
      | exact rother_open a cap L l c w hL hl hc htot o s (Lib.hid hkk) hos (h1 rfl)
  | false =>
    rw [otherP_shut hkk]
    first
      | exact rother_shut a cap L l c w hL hl hc htot o s (Lib.hid hkk) hos
      | exact rother_shut a cap L l c w hL hl hc htot o s (Lib.hid hkk) hos (h2 rfl)
end Go.Proofs.Ytlbbgocggifjaaa
