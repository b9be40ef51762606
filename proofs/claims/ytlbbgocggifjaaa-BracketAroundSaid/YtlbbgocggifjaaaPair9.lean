/- The contract of the references' bracket that belongs to a closing one. Conditions: none beyond what it says. -/
import Derived.Test.YtlbbgocggifjaaaPair8
namespace Go.Proofs.Ytlbbgocggifjaaa
open Go.RowKit

set_option maxRecDepth 100000 in
set_option maxHeartbeats 4000000 in
theorem rother_shut (a : Option Addr) (cap : Nat) (L : List ByteArray) (l c : Nat) (w : World) (hL : LinesAt w a L) (hl : l < L.length) (hc : c < (L.getD l .empty).size) (htot : total L ≤ 1000000)
    (o s : Int) (hk : Hid (kindP (btI (flat L) (idx L l c)) = (o, s, false, true))) (hos : o ≠ s) (hbo : btI (flat L) (idx L l c) = s) :
    Calls Try.prog 113 #[.slice a L.length cap, .agg #[.int .i64 l, .int .i64 c]] w fun e w' => e = .returned (plcV (optP L (scanB (flat L) o s 1 (idx L l c)))) ∧ Below w.heap.size w w' := by
  have hn := hL.2.1
  obtain ⟨R, hR⟩ : ∃ R, scanB (flat L) o s 1 (idx L l c) = R := ⟨_, rfl⟩
  rw [hR]
  have HR := Lib.hid hR
  obtain ⟨b, off, u, rfl, hb, hcell, hu, HU⟩ := line_facts' hL hl
  have hcu : c < u.size := by have := hc; rw [HU.out] at this; exact this
  have hcI : (c : Int) < (u.size : Int) := by omega
  have hlI : (l : Int) < (L.length : Int) := by omega
  have hl0 : (0 : Int) ≤ (l : Int) := by omega
  have hc0 : (0 : Int) ≤ (c : Int) := by omega
  have hkk := hk.out
  rw [flat_byte hl HU.out hcu] at hkk
  have HK := Lib.hid hkk
  have HC := Lib.hid hc
  have HR0 : Hid (scanB (flat L) o s 0 (idx L l c + 1) = R) := Lib.hid (by
    have d1 : deepB o s (btI (flat L) (idx L l c)) 0 = 1 := by rw [hbo, deepB, if_pos rfl]; rfl
    rw [scanB_miss (by rw [d1]; decide), d1]; exact hR)
  have HIL := Lib.hid (idx_lt hl hc)
  obtain ⟨j0, hj0⟩ : ∃ j0, idx L l c = j0 := ⟨_, rfl⟩
  rw [hj0] at HR0 HIL
  have HJ := Lib.hid hj0
  have HO := Lib.hid hos
  have HBO : Hid (1 ≤ (0 : Int) ∨ btI (flat L) j0 = s) := Lib.hid (.inr (by rw [← HJ.out]; exact hbo))
  clear hR hkk hc hj0 hos hbo
  go_enter Try.func113, Try.ntmps113
  go_wp2
  (refine wp_region_ovr (by kernel_rfl) (by kernel_rfl) ?_; (repeat (go_big_quiet_step ((go_at_call 49; exact quiet_same (rkind_at _ _ _ _ HK _))))); refine wpQuiet_nil ?_; rintro _ ⟨zq, rfl⟩)
  go_wp2
  refine name_ptr4 11 rfl ?_
  intro B0 hB0
  rw [← hB0]
  refine name_ptr4 4 rfl ?_
  intro Rb hRb
  rw [← hRb]
  refine name_world ?_
  intro W0 hW
  have r0 : W0.cell? ⟨Rb, 0, none⟩ = some (.int .i64 0) := by subst hW hB0 hRb; simp [go_sem]
  have r1 : W0.cell? ⟨Rb, 1, none⟩ = some (.int .i64 0) := by subst hW hB0 hRb; simp [go_sem]
  have f0 : W0.frozen? ⟨Rb, 0, none⟩ = false := by subst hW hB0 hRb; simp [go_sem]
  have f1 : W0.frozen? ⟨Rb, 1, none⟩ = false := by subst hW hB0 hRb; simp [go_sem]
  have b0 : W0.cell? ⟨B0, 0, none⟩ = some (.int .i64 l) := by subst hW hB0 hRb; simp [go_sem]
  have b1 : W0.cell? ⟨B0, 1, none⟩ = some (.int .i64 c) := by subst hW hB0 hRb; simp [go_sem]
  have hL0 : LinesAt W0 (some ⟨b, off, none⟩) L := by rw [hW]; (repeat (first | assumption | refine LinesAt.ovr ?_ _ | refine LinesAt.alloc ?_ _ | refine LinesAt.drewN ?_ _ | refine LinesAt.drew ?_))
  have hbel : Below w.heap.size w W0 := by rw [hW]; (repeat (first | with_reducible exact Below.refl _ _ | (with_reducible refine Below.setCell ?_ ?_ _; rotate_left; · (first | exact Nat.le_refl _ | assumption | omega | (simp; done) | (simp; omega))) | (with_reducible refine Below.alloc ?_ ?_ _; rotate_left; · (first | exact Nat.le_refl _ | assumption | omega | (simp; done) | (simp; omega))) | with_reducible refine below_ovr_of ?_ | with_reducible refine drew_below ?_ _ | with_reducible refine Below.drew ?_ | with_reducible assumption))
  have hszW := hbel.size
  have hRw : w.heap.size ≤ Rb := by omega
  have lR := cell_lt4 r0
  clear hW hB0 hRb hL
  go_loopg [10, 11, 12] (j0 + 1) (fun g d p k wr => Below W0.heap.size W0 wr ∧ ∃ dd : Int, d = .int .i64 (-dd) ∧
    ((k = .bool true ∧ ∃ (B l' c' j : Nat), p = .pointer (some ⟨B, 0, none⟩) ∧ wr.cell? ⟨B, 0, none⟩ = some (.int .i64 l') ∧ wr.cell? ⟨B, 1, none⟩ = some (.int .i64 c') ∧ l' < L.length ∧ j < total L ∧ g = j + 1 ∧ 0 ≤ dd ∧ dd + j ≤ total L + 1 ∧ Hid (1 ≤ dd ∨ btI (flat L) j = s) ∧
        Hid (c' < (L.getD l' .empty).size ∧ idx L l' c' = j) ∧ Hid (scanB (flat L) o s dd (j + 1) = R)) ∨
     (k = .bool false ∧ Hid (R = none) ∧ ∃ B : Nat, p = .pointer (some ⟨B, 0, none⟩))))
  case atStart =>
    exact ⟨Below.refl _ _, 0, rfl, .inl ⟨rfl, B0, l, c, j0, rfl, b0, b1, hl, HIL.out, rfl, by omega, by have := HIL.out; omega, HBO, Lib.hid ⟨HC.out, HJ.out⟩, HR0⟩⟩
  case round =>
    obtain ⟨hbV, dd, rfl, h⟩ := hrel
    have hszV := hbV.size
    have lRw : Rb < wr.heap.size := by omega
    have hLV : LinesAt wr (some ⟨b, off, none⟩) L := hL0.below hbV (Nat.le_refl _)
    rcases h with ⟨rfl, B, l', c', j, rfl, p0, p1, hl', hj, rfl, hd1, hd2, HD, HP, HS⟩ | ⟨rfl, HRn, B, rfl⟩
    · have lB := cell_lt4 p0
      obtain ⟨b', off', s', e, hb', hcell', hs', HU'⟩ := line_facts' hLV hl'
      cases e
      obtain ⟨HPc, HPi⟩ := HP.out
      have HPc' := HPc
      rw [HU'.out] at HPc'
      have hcI' : (c' : Int) < (s'.size : Int) := by omega
      have hlI' : (l' : Int) < (L.length : Int) := by omega
      have hl0' : (0 : Int) ≤ (l' : Int) := by omega
      have hc0' : (0 : Int) ≤ (c' : Int) := by omega
      have hbt := flat_byte hl' HU'.out HPc'
      rw [HPi] at hbt
      obtain ⟨cc, hcc⟩ : ∃ cc : Int, (s'[c'].toNat : Int) = cc := ⟨_, rfl⟩
      rw [hcc] at hbt
      have hjl : j < (flat L).length := by rw [flat_length]; exact hj
      obtain ⟨⟨⟨m1, m2⟩, ok2⟩, hn2⟩ : ∃ r, prvP L j = r := ⟨_, rfl⟩
      have HN2 := Lib.hid hn2
      clear hn2
      have HIDC := Lib.hid HPc
      have HIDI := Lib.hid HPi
      by_cases h1 : cc = s
      · have d1 : deepB o s (btI (flat L) j) dd = dd + 1 := by rw [hbt, deepB, if_pos h1]
        have HS2 := Lib.hid ((scanB_miss (B := flat L) (o := o) (s := s) (d := dd) (i := j) (by rw [d1]; omega)).symm.trans HS.out)
        rw [d1] at HS2
        have t1 : (cc == s) = true := beq_iff_eq.2 h1
        have t0 : (cc == o) = false := beq_eq_false_iff_ne.2 (fun e => HO.out (e.symm.trans h1))
        have t3 : (-dd - 1 == 0) = false := beq_eq_false_iff_ne.2 (by omega)
        clear h1 d1 hbt HPc HPi
        go_wp2
        (refine wp_region_ovr (by kernel_rfl) (by kernel_rfl) ?_; (repeat (go_big_quiet_step (fail))); refine wpQuiet_nil ?_; rintro _ ⟨zq, rfl⟩)
        go_wp2_with fail
        go_at_call 143; refine (step_back _ _ L l' c' _ (by (repeat (first | assumption | refine LinesAt.ovr ?_ _ | refine LinesAt.alloc ?_ _ | refine LinesAt.drewN ?_ _ | refine LinesAt.drew ?_))) hl' (Nat.le_of_lt HIDC.out)).mono ?_; rw [HIDI.out, HN2.out]; rintro e w1 ⟨x, y, rfl, HXY, hbl⟩; obtain ⟨x2, rfl⟩ := ovr_of_below hbl; clear hbl
        go_wp2
        go_roundg j
        case measure => omega
        case rel =>
          refine ⟨by (repeat (first | with_reducible exact Below.refl _ _ | (with_reducible refine Below.setCell ?_ ?_ _; rotate_left; · (first | exact Nat.le_refl _ | assumption | omega | (simp; done) | (simp; omega))) | (with_reducible refine Below.alloc ?_ ?_ _; rotate_left; · (first | exact Nat.le_refl _ | assumption | omega | (simp; done) | (simp; omega))) | with_reducible refine below_ovr_of ?_ | with_reducible refine drew_below ?_ _ | with_reducible refine Below.drew ?_ | with_reducible assumption)), dd + 1, by first | go_num | (congr 1; omega), ?_⟩
          rcases prv_ways L j (by omega) with ⟨hj2, l2, c2, HN, hl2, HP2⟩ | ⟨hj2, HN⟩
          · have e := HN.out.symm.trans HN2.out
            simp only [Prod.mk.injEq] at e
            obtain ⟨⟨rfl, rfl⟩, rfl⟩ := e
            have hxy := HXY.out rfl
            simp only [Prod.mk.injEq] at hxy
            obtain ⟨rfl, rfl⟩ := hxy
            left
            exact ⟨rfl, _, l2, c2, j - 1, rfl, by simp [go_sem], by simp [go_sem], hl2, by omega, by omega, by omega, by omega, Lib.hid (.inl (by omega)), HP2, by rw [show j - 1 + 1 = j from by omega]; exact HS2⟩
          · have e := HN.out.symm.trans HN2.out
            simp only [Prod.mk.injEq] at e
            obtain ⟨⟨rfl, rfl⟩, rfl⟩ := e
            right
            exact ⟨rfl, Lib.hid (by rw [← HS2.out, hj2, scanB_end]), _, rfl⟩
      · have t1 : (cc == s) = false := beq_eq_false_iff_ne.2 h1
        have hd4 : 1 ≤ dd := HD.out.resolve_right (by rw [hbt]; exact h1)
        by_cases h2 : cc = o
        · have t2 : (cc == o) = true := beq_iff_eq.2 h2
          have d1 : deepB o s (btI (flat L) j) dd = dd - 1 := by rw [hbt, deepB, if_neg h1, if_pos h2]
          by_cases h3 : dd = 1
          · have HRj := Lib.hid (HS.out.symm.trans (scanB_hit (B := flat L) (o := o) (s := s) (d := dd) (i := j) (by rw [d1]; omega)))
            have HY := Lib.hid (atPlc_eq hl' HPc HPi)
            have t3 : (-dd + 1 == 0) = true := beq_iff_eq.2 (by omega)
            have v0 : wr.cell? ⟨Rb, 0, none⟩ = some (.int .i64 0) := (hbV.cell (p := ⟨Rb, 0, none⟩) lR).trans r0
            have v1 : wr.cell? ⟨Rb, 1, none⟩ = some (.int .i64 0) := (hbV.cell (p := ⟨Rb, 1, none⟩) lR).trans r1
            have g0 : wr.frozen? ⟨Rb, 0, none⟩ = false := (hbV.frozen (p := ⟨Rb, 0, none⟩) lR).trans f0
            have g1 : wr.frozen? ⟨Rb, 1, none⟩ = false := (hbV.frozen (p := ⟨Rb, 1, none⟩) lR).trans f1
            have hbw : Below w.heap.size w wr := hbel.trans (hbV.mono hszW)
            clear h1 h2 h3 d1 hbt HPc HPi
            go_wp2
            (refine wp_region_ovr (by kernel_rfl) (by kernel_rfl) ?_; (repeat (go_big_quiet_step (fail))); refine wpQuiet_nil ?_; rintro _ ⟨zq, rfl⟩)
            go_wp2
            refine bodyPost_ret (v := plcV (((l' : Int), (c' : Int)), true)) (by simp [results, Try.results113, go_sem, v0, v1, lRw]) rfl ⟨by rw [HRj.out, optP, HY.out], by (repeat (first | with_reducible exact Below.refl _ _ | (with_reducible refine Below.setCell ?_ ?_ _; rotate_left; · (first | exact Nat.le_refl _ | assumption | omega | (simp; done) | (simp; omega))) | (with_reducible refine Below.alloc ?_ ?_ _; rotate_left; · (first | exact Nat.le_refl _ | assumption | omega | (simp; done) | (simp; omega))) | with_reducible refine below_ovr_of ?_ | with_reducible refine drew_below ?_ _ | with_reducible refine Below.drew ?_ | with_reducible assumption))⟩
          · have HS2 := Lib.hid ((scanB_miss (B := flat L) (o := o) (s := s) (d := dd) (i := j) (by rw [d1]; omega)).symm.trans HS.out)
            rw [d1] at HS2
            have hd3 : 2 ≤ dd := by omega
            have t3 : (-dd + 1 == 0) = false := beq_eq_false_iff_ne.2 (by omega)
            clear h1 h2 h3 d1 hbt HPc HPi
            go_wp2
            (refine wp_region_ovr (by kernel_rfl) (by kernel_rfl) ?_; (repeat (go_big_quiet_step (fail))); refine wpQuiet_nil ?_; rintro _ ⟨zq, rfl⟩)
            go_wp2_with fail
            go_at_call 143; refine (step_back _ _ L l' c' _ (by (repeat (first | assumption | refine LinesAt.ovr ?_ _ | refine LinesAt.alloc ?_ _ | refine LinesAt.drewN ?_ _ | refine LinesAt.drew ?_))) hl' (Nat.le_of_lt HIDC.out)).mono ?_; rw [HIDI.out, HN2.out]; rintro e w1 ⟨x, y, rfl, HXY, hbl⟩; obtain ⟨x2, rfl⟩ := ovr_of_below hbl; clear hbl
            go_wp2
            go_roundg j
            case measure => omega
            case rel =>
              refine ⟨by (repeat (first | with_reducible exact Below.refl _ _ | (with_reducible refine Below.setCell ?_ ?_ _; rotate_left; · (first | exact Nat.le_refl _ | assumption | omega | (simp; done) | (simp; omega))) | (with_reducible refine Below.alloc ?_ ?_ _; rotate_left; · (first | exact Nat.le_refl _ | assumption | omega | (simp; done) | (simp; omega))) | with_reducible refine below_ovr_of ?_ | with_reducible refine drew_below ?_ _ | with_reducible refine Below.drew ?_ | with_reducible assumption)), dd - 1, by first | go_num | (congr 1; omega), ?_⟩
              rcases prv_ways L j (by omega) with ⟨hj2, l2, c2, HN, hl2, HP2⟩ | ⟨hj2, HN⟩
              · have e := HN.out.symm.trans HN2.out
                simp only [Prod.mk.injEq] at e
                obtain ⟨⟨rfl, rfl⟩, rfl⟩ := e
                have hxy := HXY.out rfl
                simp only [Prod.mk.injEq] at hxy
                obtain ⟨rfl, rfl⟩ := hxy
                left
                exact ⟨rfl, _, l2, c2, j - 1, rfl, by simp [go_sem], by simp [go_sem], hl2, by omega, by omega, by omega, by omega, Lib.hid (.inl (by omega)), HP2, by rw [show j - 1 + 1 = j from by omega]; exact HS2⟩
              · have e := HN.out.symm.trans HN2.out
                simp only [Prod.mk.injEq] at e
                obtain ⟨⟨rfl, rfl⟩, rfl⟩ := e
                right
                exact ⟨rfl, Lib.hid (by rw [← HS2.out, hj2, scanB_end]), _, rfl⟩
        · have t2 : (cc == o) = false := beq_eq_false_iff_ne.2 h2
          have d1 : deepB o s (btI (flat L) j) dd = dd := by rw [hbt, deepB, if_neg h1, if_neg h2]
          have HS2 := Lib.hid ((scanB_miss (B := flat L) (o := o) (s := s) (d := dd) (i := j) (by rw [d1]; omega)).symm.trans HS.out)
          rw [d1] at HS2
          have t3 : (-dd == 0) = false := beq_eq_false_iff_ne.2 (by omega)
          clear h1 h2 d1 hbt HPc HPi
          go_wp2
          (refine wp_region_ovr (by kernel_rfl) (by kernel_rfl) ?_; (repeat (go_big_quiet_step (fail))); refine wpQuiet_nil ?_; rintro _ ⟨zq, rfl⟩)
          go_wp2_with fail
          go_at_call 143; refine (step_back _ _ L l' c' _ (by (repeat (first | assumption | refine LinesAt.ovr ?_ _ | refine LinesAt.alloc ?_ _ | refine LinesAt.drewN ?_ _ | refine LinesAt.drew ?_))) hl' (Nat.le_of_lt HIDC.out)).mono ?_; rw [HIDI.out, HN2.out]; rintro e w1 ⟨x, y, rfl, HXY, hbl⟩; obtain ⟨x2, rfl⟩ := ovr_of_below hbl; clear hbl
          go_wp2
          go_roundg j
          case measure => omega
          case rel =>
            refine ⟨by (repeat (first | with_reducible exact Below.refl _ _ | (with_reducible refine Below.setCell ?_ ?_ _; rotate_left; · (first | exact Nat.le_refl _ | assumption | omega | (simp; done) | (simp; omega))) | (with_reducible refine Below.alloc ?_ ?_ _; rotate_left; · (first | exact Nat.le_refl _ | assumption | omega | (simp; done) | (simp; omega))) | with_reducible refine below_ovr_of ?_ | with_reducible refine drew_below ?_ _ | with_reducible refine Below.drew ?_ | with_reducible assumption)), dd, by first | go_num | (congr 1; omega), ?_⟩
            rcases prv_ways L j (by omega) with ⟨hj2, l2, c2, HN, hl2, HP2⟩ | ⟨hj2, HN⟩
            · have e := HN.out.symm.trans HN2.out
              simp only [Prod.mk.injEq] at e
              obtain ⟨⟨rfl, rfl⟩, rfl⟩ := e
              have hxy := HXY.out rfl
              simp only [Prod.mk.injEq] at hxy
              obtain ⟨rfl, rfl⟩ := hxy
              left
              exact ⟨rfl, _, l2, c2, j - 1, rfl, by simp [go_sem], by simp [go_sem], hl2, by omega, by omega, by omega, by omega, Lib.hid (.inl (by omega)), HP2, by rw [show j - 1 + 1 = j from by omega]; exact HS2⟩
            · have e := HN.out.symm.trans HN2.out
              simp only [Prod.mk.injEq] at e
              obtain ⟨⟨rfl, rfl⟩, rfl⟩ := e
              right
              exact ⟨rfl, Lib.hid (by rw [← HS2.out, hj2, scanB_end]), _, rfl⟩
    · have v0 : wr.cell? ⟨Rb, 0, none⟩ = some (.int .i64 0) := (hbV.cell (p := ⟨Rb, 0, none⟩) lR).trans r0
      have v1 : wr.cell? ⟨Rb, 1, none⟩ = some (.int .i64 0) := (hbV.cell (p := ⟨Rb, 1, none⟩) lR).trans r1
      have g0 : wr.frozen? ⟨Rb, 0, none⟩ = false := (hbV.frozen (p := ⟨Rb, 0, none⟩) lR).trans f0
      have g1 : wr.frozen? ⟨Rb, 1, none⟩ = false := (hbV.frozen (p := ⟨Rb, 1, none⟩) lR).trans f1
      have hbw : Below w.heap.size w wr := hbel.trans (hbV.mono hszW)
      go_wp2
      refine bodyPost_ret (v := plcV noPlc) (by simp [results, Try.results113, go_sem, noPlc, v0, v1]) rfl ⟨by rw [HRn.out]; rfl, by (repeat (first | with_reducible exact Below.refl _ _ | (with_reducible refine Below.setCell ?_ ?_ _; rotate_left; · (first | exact Nat.le_refl _ | assumption | omega | (simp; done) | (simp; omega))) | (with_reducible refine Below.alloc ?_ ?_ _; rotate_left; · (first | exact Nat.le_refl _ | assumption | omega | (simp; done) | (simp; omega))) | with_reducible refine below_ovr_of ?_ | with_reducible refine drew_below ?_ _ | with_reducible refine Below.drew ?_ | with_reducible assumption))⟩
end Go.Proofs.Ytlbbgocggifjaaa
