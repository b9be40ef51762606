/- The contract of Enclosing, where it may be asked. Conditions: none beyond what it says. -/
import Derived.Test.YtlbbgocggifjaaaEncl
import Derived.Outline
import Derived.Deep.RegionHeld3
namespace Go.Proofs.Ytlbbgocggifjaaa
open Go.RowKit

set_option maxRecDepth 100000 in
set_option maxHeartbeats 4000000 in
theorem encl_byte (a : Option Addr) (cap : Nat) (L : List ByteArray) (l c : Nat) (o n : Int) (w : World) (hL : LinesAt w a L) (htot : total L ≤ 1000000) (hl : l < L.length) (hc : c < (L.getD l .empty).size) (hn1 : 1 ≤ n) (hn2 : n ≤ 9223372036854775807)
    (s : Int) (hk : Hid (kindP o = (o, s, true, true))) :
    Calls Try.prog 50 #[.slice a L.length cap, .agg #[.int .i64 l, .int .i64 c], .int .u8 o, .int .i64 n] w fun e w' => e = .returned (encV (encR L (encF (flat L) o s (idx L l c) n (idx L l c + 1)))) ∧ Below w.heap.size w w' := by
  have hn := hL.2.1
  obtain ⟨R, hR⟩ : ∃ R, encF (flat L) o s (idx L l c) n (idx L l c + 1) = R := ⟨_, rfl⟩
  rw [hR]
  have HR := Lib.hid hR
  have hp : plcB L l c = true := by simp only [plcB, Int.toNat_natCast, decide_eq_true_eq]; omega
  obtain ⟨b, off, u, rfl, hb, hcell, hu, HU⟩ := line_facts' hL hl
  have hcu : c < u.size := by have := hc; rw [HU.out] at this; exact this
  have hcI : (c : Int) < (u.size : Int) := by omega
  have hlI : (l : Int) < (L.length : Int) := by omega
  have hl0 : (0 : Int) ≤ (l : Int) := by omega
  have HC := Lib.hid hc
  clear hR hc
  go_enter Try.func50, Try.ntmps50
  go_wp2_with (first | (go_at_call 48; refine (kind_ways _ _ hk).mono ?_; rintro e w1 ⟨rfl, rfl⟩) | (go_at_call 109; refine (place_any _ _ L _ _ _ (by (repeat (first | assumption | refine LinesAt.ovr ?_ _ | refine LinesAt.alloc ?_ _ | refine LinesAt.drewN ?_ _ | refine LinesAt.drew ?_)))).mono ?_; rintro e w1 ⟨rfl, hbl⟩; obtain ⟨x, rfl⟩ := ovr_of_below hbl; clear hbl))
  go_region_held3 (fun w' => w.heap.size < w'.heap.size ∧ b < w'.heap.size ∧ w'.cell? ⟨w.heap.size, 0, none⟩ = some (.int .i64 l) ∧ w'.cell? ⟨w.heap.size, 1, none⟩ = some (.int .i64 c) ∧ w'.cell? ⟨b, off + l, none⟩ = some (.string u)) (go_split_ands <;> first | assumption | (simp [go_sem]; done) | (simp [go_sem, *]; done) | (simp [go_sem]; omega)) (fail)
  go_wp2
  obtain ⟨i0, hi0⟩ : ∃ i0, idx L l c = i0 := ⟨_, rfl⟩
  rw [hi0] at HR
  have HI := Lib.hid hi0
  have HIL := Lib.hid (idx_lt hl HC.out)
  clear hi0
  refine name_ptr4 15 rfl ?_
  intro B hB
  rw [← hB]
  refine name_world ?_
  intro W0 hW
  have q0 : W0.cell? ⟨w.heap.size, 0, none⟩ = some (.int .i64 l) := by subst hW hB; simp [go_sem]
  have q1 : W0.cell? ⟨w.heap.size, 1, none⟩ = some (.int .i64 c) := by subst hW hB; simp [go_sem]
  have r0 : W0.cell? ⟨w.heap.size + 1, 0, none⟩ = some (.int .i64 0) := by subst hW hB; simp [go_sem]
  have r1 : W0.cell? ⟨w.heap.size + 1, 1, none⟩ = some (.int .i64 0) := by subst hW hB; simp [go_sem]
  have t0 : W0.cell? ⟨w.heap.size + 1 + 1, 0, none⟩ = some (.int .i64 0) := by subst hW hB; simp [go_sem]
  have t1 : W0.cell? ⟨w.heap.size + 1 + 1, 1, none⟩ = some (.int .i64 0) := by subst hW hB; simp [go_sem]
  have fr0 : W0.frozen? ⟨w.heap.size + 1, 0, none⟩ = false := by subst hW hB; simp [go_sem]
  have fr1 : W0.frozen? ⟨w.heap.size + 1, 1, none⟩ = false := by subst hW hB; simp [go_sem]
  have ft0 : W0.frozen? ⟨w.heap.size + 1 + 1, 0, none⟩ = false := by subst hW hB; simp [go_sem]
  have ft1 : W0.frozen? ⟨w.heap.size + 1 + 1, 1, none⟩ = false := by subst hW hB; simp [go_sem]
  have b0 : W0.cell? ⟨B, 0, none⟩ = some (.int .i64 l) := by subst hW hB; simp [go_sem]
  have b1 : W0.cell? ⟨B, 1, none⟩ = some (.int .i64 c) := by subst hW hB; simp [go_sem]
  have g0 : W0.frozen? ⟨B, 0, none⟩ = false := by subst hW hB; simp [go_sem]
  have g1 : W0.frozen? ⟨B, 1, none⟩ = false := by subst hW hB; simp [go_sem]
  have hbel : Below w.heap.size w W0 := by rw [hW]; (repeat (first | with_reducible exact Below.refl _ _ | (with_reducible refine Below.setCell ?_ ?_ _; rotate_left; · (first | exact Nat.le_refl _ | assumption | omega | (simp; done) | (simp; omega))) | (with_reducible refine Below.alloc ?_ ?_ _; rotate_left; · (first | exact Nat.le_refl _ | assumption | omega | (simp; done) | (simp; omega))) | with_reducible refine below_ovr_of ?_ | with_reducible refine drew_below ?_ _ | with_reducible refine Below.drew ?_ | with_reducible assumption))
  have hBw : w.heap.size + 1 + 1 < B := by omega
  have hszW := hbel.size
  clear hW hB
  go_loopg [3, 16] (i0 + 1) (fun g nn k wr => Below B W0 wr ∧ B < wr.heap.size ∧ wr.frozen? ⟨B, 0, none⟩ = false ∧ wr.frozen? ⟨B, 1, none⟩ = false ∧ ∃ m : Int, nn = .int .i64 m ∧ 1 ≤ m ∧ m ≤ n ∧ ∃ x y : Int, wr.cell? ⟨B, 0, none⟩ = some (.int .i64 x) ∧ wr.cell? ⟨B, 1, none⟩ = some (.int .i64 y) ∧
    ((k = .bool true ∧ ∃ (l' c' j : Nat), x = l' ∧ y = c' ∧ l' < L.length ∧ j ≤ i0 ∧ g = j + 1 ∧ Hid (c' < (L.getD l' .empty).size ∧ idx L l' c' = j) ∧ Hid (encF (flat L) o s i0 m (j + 1) = R)) ∨
     (k = .bool false ∧ Hid (R = none))))
  case atStart =>
    exact ⟨Below.refl _ _, cell_lt4 b0, g0, g1, n, rfl, hn1, Int.le_refl _, l, c, b0, b1, .inl ⟨rfl, l, c, i0, rfl, rfl, hl, Nat.le_refl _, rfl, Lib.hid ⟨HC.out, HI.out⟩, HR⟩⟩
  case round =>
    obtain ⟨hbV, hBV, e0, e1, m, rfl, hm1, hm2, x, y, p0, p1, h⟩ := hrel
    have hbw : Below w.heap.size w wr := hbel.trans (hbV.mono (by omega))
    have hLV : LinesAt wr (some ⟨b, off, none⟩) L := hL.below hbw (Nat.le_refl _)
    rcases h with ⟨rfl, l', c', j, rfl, rfl, hl', hj, rfl, HP, HS⟩ | ⟨rfl, HRn⟩
    · have hBw' : b < wr.heap.size := by omega
      have pz0 : wr.cell? ⟨w.heap.size, 0, none⟩ = some (.int .i64 l) := (hbV.cell (p := ⟨w.heap.size, 0, none⟩) (by simp; omega)).trans q0
      have pz1 : wr.cell? ⟨w.heap.size, 1, none⟩ = some (.int .i64 c) := (hbV.cell (p := ⟨w.heap.size, 1, none⟩) (by simp; omega)).trans q1
      have pz2 : w.heap.size < wr.heap.size := by omega
      obtain ⟨b', off', s', e, hb', hcell', hs', HU'⟩ := line_facts' hLV hl'
      cases e
      obtain ⟨HPc, HPi⟩ := HP.out
      have HPc' := HPc
      rw [HU'.out] at HPc'
      have hcI' : (c' : Int) < (s'.size : Int) := by omega
      have hlI' : (l' : Int) < (L.length : Int) := by omega
      have hl0' : (0 : Int) ≤ (l' : Int) := by omega
      have hc0' : (0 : Int) ≤ (c' : Int) := by omega
      have hbt := flat_byte hl' HU'.out HPc'
      rw [HPi] at hbt
      obtain ⟨cc, hcc⟩ : ∃ cc : Int, (s'[c'].toNat : Int) = cc := ⟨_, rfl⟩
      rw [hcc] at hbt
      obtain ⟨⟨⟨m1, m2⟩, ok2⟩, hn2⟩ : ∃ r, prvP L j = r := ⟨_, rfl⟩
      have HN2 := Lib.hid hn2
      clear hn2
      have HIDC := Lib.hid HPc
      have HIDI := Lib.hid HPi
      by_cases h1 : cc = o
      · have t1' : (cc != o) = false := by rw [bne_eq_false_iff_eq]; exact h1
        have hko : kindP (btI (flat L) j) = (o, s, true, true) := by rw [hbt, h1]; exact hk.out
        have hkj := hko
        rw [← HPi] at hkj
        have HO := fun (w0 : World) (h : LinesAt w0 (some ⟨b, off, none⟩) L) => other_any (some ⟨b, off, none⟩) cap L l' c' w0 h hl' HPc htot (by rw [hkj])
        rw [HPi, otherP_open hko] at HO
        have HOO := Lib.hid HO
        obtain ⟨T, hT⟩ : ∃ T, scanF (flat L) o s 1 (j + 1) = T := ⟨_, rfl⟩
        have HT := Lib.hid hT
        have hbo : btI (flat L) j = o := by rw [hbt]; exact h1
        cases T with
        | none =>
          have HS2 := Lib.hid ((encF_none (B := flat L) (o := o) (s := s) (n := m) (q := i0) (j := j) hbo hT).symm.trans HS.out)
          clear h1 hbt HPc HPi hko hkj HO hT hbo
          go_wp2
          (refine wp_region_ovr (by kernel_rfl) (by kernel_rfl) ?_; (repeat (go_big_quiet_step (fail))); refine wpQuiet_nil ?_; rintro _ ⟨zq, rfl⟩)
          go_wp2_with fail
          go_at_call 110; refine (HOO.out _ (by (repeat (first | assumption | refine LinesAt.ovr ?_ _ | refine LinesAt.alloc ?_ _ | refine LinesAt.drewN ?_ _ | refine LinesAt.drew ?_)))).mono ?_; rw [HT.out, optP, noPlc]; rintro e w1 ⟨rfl, hbl⟩; obtain ⟨x1, rfl⟩ := ovr_of_below hbl; clear hbl
          go_wp2_with fail
          go_at_call 114; refine (next_back _ _ L l' c' _ (by (repeat (first | assumption | refine LinesAt.ovr ?_ _ | refine LinesAt.alloc ?_ _ | refine LinesAt.drewN ?_ _ | refine LinesAt.drew ?_))) hl' (Nat.le_of_lt HIDC.out)).mono ?_; rw [HIDI.out, HN2.out]; rintro e w1 ⟨rfl, hbl⟩; obtain ⟨x2, rfl⟩ := ovr_of_below hbl; clear hbl
          go_wp2
          go_roundg j
          case measure => omega
          case rel =>
            refine ⟨by (repeat (first | with_reducible exact hbV | (with_reducible refine below_ovr_le ?_ ?_ _; rotate_left; · (first | omega | (simp; done) | (simp; omega))) | (with_reducible refine Below.alloc ?_ ?_ _; rotate_left; · (first | omega | (simp; done) | (simp; omega))) | (with_reducible refine Below.setCell ?_ ?_ _; rotate_left; · (first | omega | (simp; done) | (simp; omega))) | with_reducible refine drew_below ?_ _ | with_reducible refine Below.drew ?_)), by simp; omega, by simp [go_sem, e0, hBV], by simp [go_sem, e1, hBV], m, by go_num, by omega, by omega, m1, m2, by simp [go_sem, p0, hBV], by simp [go_sem, p1, hBV], ?_⟩
            rcases prv_ways L j (by have h1 := HIL.out; have h2 := HI.out; omega) with ⟨hj2, l2, c2, HN, hl2, HP2⟩ | ⟨hj2, HN⟩
            · have e := HN.out.symm.trans HN2.out
              simp only [Prod.mk.injEq] at e
              obtain ⟨⟨rfl, rfl⟩, rfl⟩ := e
              left
              exact ⟨rfl, l2, c2, j - 1, rfl, rfl, hl2, by omega, by omega, HP2, by rw [show j - 1 + 1 = j from by omega]; exact HS2⟩
            · have e := HN.out.symm.trans HN2.out
              simp only [Prod.mk.injEq] at e
              obtain ⟨⟨rfl, rfl⟩, rfl⟩ := e
              right
              exact ⟨rfl, Lib.hid (by rw [← HS2.out, hj2, encF_end])⟩
        | some t =>
          have htt := scanF_spec (B := flat L) (o := o) (s := s) _ (j + 1) 1 rfl t hT
          rw [flat_length] at htt
          obtain ⟨s1, s2, s3⟩ := plcOf_spec htt.2
          obtain ⟨tl, htl⟩ : ∃ tl, (plcOf L t).1 = tl := ⟨_, rfl⟩
          obtain ⟨tc, htc⟩ : ∃ tc, (plcOf L t).2 = tc := ⟨_, rfl⟩
          rw [htl] at s1 s2 s3
          rw [htc] at s2 s3
          have HAT : Hid (atPlc L t = (((tl : Int), (tc : Int)), true)) := Lib.hid (by rw [atPlc, htl, htc])
          have hls := idx_less (L := L) s1 s2 hl (Nat.le_of_lt HC.out)
          rw [s3, HI.out] at hls
          by_cases h2 : t < i0
          · have HLT : Hid (lessB tl tc l c = true) := Lib.hid (by rw [hls]; exact decide_eq_true h2)
            have HS2 := Lib.hid ((encF_short (B := flat L) (o := o) (s := s) (n := m) (q := i0) (j := j) hbo hT h2).symm.trans HS.out)
            clear h1 h2 hbt HPc HPi hko hkj HO hT hbo hls htl htc s1 s2 s3 htt
            go_wp2
            (refine wp_region_ovr (by kernel_rfl) (by kernel_rfl) ?_; (repeat (go_big_quiet_step (fail))); refine wpQuiet_nil ?_; rintro _ ⟨zq, rfl⟩)
            go_wp2_with fail
            go_at_call 110; refine (HOO.out _ (by (repeat (first | assumption | refine LinesAt.ovr ?_ _ | refine LinesAt.alloc ?_ _ | refine LinesAt.drewN ?_ _ | refine LinesAt.drew ?_)))).mono ?_; rw [HT.out, optP, HAT.out]; rintro e w1 ⟨rfl, hbl⟩; obtain ⟨x1, rfl⟩ := ovr_of_below hbl; clear hbl
            go_wp2_with fail
            go_at_call 95; refine (less_any _ _ _ _ _).mono ?_; rw [HLT.out]; rintro e w1 ⟨rfl, hbl⟩; obtain ⟨x3, rfl⟩ := ovr_of_below hbl; clear hbl
            go_wp2_with fail
            go_at_call 114; refine (next_back _ _ L l' c' _ (by (repeat (first | assumption | refine LinesAt.ovr ?_ _ | refine LinesAt.alloc ?_ _ | refine LinesAt.drewN ?_ _ | refine LinesAt.drew ?_))) hl' (Nat.le_of_lt HIDC.out)).mono ?_; rw [HIDI.out, HN2.out]; rintro e w1 ⟨rfl, hbl⟩; obtain ⟨x2, rfl⟩ := ovr_of_below hbl; clear hbl
            go_wp2
            go_roundg j
            case measure => omega
            case rel =>
              refine ⟨by (repeat (first | with_reducible exact hbV | (with_reducible refine below_ovr_le ?_ ?_ _; rotate_left; · (first | omega | (simp; done) | (simp; omega))) | (with_reducible refine Below.alloc ?_ ?_ _; rotate_left; · (first | omega | (simp; done) | (simp; omega))) | (with_reducible refine Below.setCell ?_ ?_ _; rotate_left; · (first | omega | (simp; done) | (simp; omega))) | with_reducible refine drew_below ?_ _ | with_reducible refine Below.drew ?_)), by simp; omega, by simp [go_sem, e0, hBV], by simp [go_sem, e1, hBV], m, by go_num, by omega, by omega, m1, m2, by simp [go_sem, p0, hBV], by simp [go_sem, p1, hBV], ?_⟩
              rcases prv_ways L j (by have h1 := HIL.out; have h2 := HI.out; omega) with ⟨hj2, l2, c2, HN, hl2, HP2⟩ | ⟨hj2, HN⟩
              · have e := HN.out.symm.trans HN2.out
                simp only [Prod.mk.injEq] at e
                obtain ⟨⟨rfl, rfl⟩, rfl⟩ := e
                left
                exact ⟨rfl, l2, c2, j - 1, rfl, rfl, hl2, by omega, by omega, HP2, by rw [show j - 1 + 1 = j from by omega]; exact HS2⟩
              · have e := HN.out.symm.trans HN2.out
                simp only [Prod.mk.injEq] at e
                obtain ⟨⟨rfl, rfl⟩, rfl⟩ := e
                right
                exact ⟨rfl, Lib.hid (by rw [← HS2.out, hj2, encF_end])⟩
          · have HLT : Hid (lessB tl tc l c = false) := Lib.hid (by rw [hls]; exact decide_eq_false h2)
            by_cases h3 : m = 1
            · have HRj := Lib.hid (HS.out.symm.trans (encF_hit (B := flat L) (o := o) (s := s) (n := m) (q := i0) (j := j) hbo hT h2 h3))
              have HAJ := Lib.hid (atPlc_eq hl' HPc HPi)
              subst h3
              have v0 : wr.cell? ⟨w.heap.size + 1, 0, none⟩ = some (.int .i64 0) := (hbV.cell (p := ⟨w.heap.size + 1, 0, none⟩) (by simp; omega)).trans r0
              have v1 : wr.cell? ⟨w.heap.size + 1, 1, none⟩ = some (.int .i64 0) := (hbV.cell (p := ⟨w.heap.size + 1, 1, none⟩) (by simp; omega)).trans r1
              have v2 : wr.cell? ⟨w.heap.size + 1 + 1, 0, none⟩ = some (.int .i64 0) := (hbV.cell (p := ⟨w.heap.size + 1 + 1, 0, none⟩) (by simp; omega)).trans t0
              have v3 : wr.cell? ⟨w.heap.size + 1 + 1, 1, none⟩ = some (.int .i64 0) := (hbV.cell (p := ⟨w.heap.size + 1 + 1, 1, none⟩) (by simp; omega)).trans t1
              have z0 : wr.frozen? ⟨w.heap.size + 1, 0, none⟩ = false := (hbV.frozen (p := ⟨w.heap.size + 1, 0, none⟩) (by simp; omega)).trans fr0
              have z1 : wr.frozen? ⟨w.heap.size + 1, 1, none⟩ = false := (hbV.frozen (p := ⟨w.heap.size + 1, 1, none⟩) (by simp; omega)).trans fr1
              have z2 : wr.frozen? ⟨w.heap.size + 1 + 1, 0, none⟩ = false := (hbV.frozen (p := ⟨w.heap.size + 1 + 1, 0, none⟩) (by simp; omega)).trans ft0
              have z3 : wr.frozen? ⟨w.heap.size + 1 + 1, 1, none⟩ = false := (hbV.frozen (p := ⟨w.heap.size + 1 + 1, 1, none⟩) (by simp; omega)).trans ft1
              clear h2 hbt HPc HPi hko hkj HO hT hbo hls htl htc s1 s2 s3 htt
              go_wp2
              (refine wp_region_ovr (by kernel_rfl) (by kernel_rfl) ?_; (repeat (go_big_quiet_step (fail))); refine wpQuiet_nil ?_; rintro _ ⟨zq, rfl⟩)
              go_wp2_with fail
              go_at_call 110; refine (HOO.out _ (by (repeat (first | assumption | refine LinesAt.ovr ?_ _ | refine LinesAt.alloc ?_ _ | refine LinesAt.drewN ?_ _ | refine LinesAt.drew ?_)))).mono ?_; rw [HT.out, optP, HAT.out]; rintro e w1 ⟨rfl, hbl⟩; obtain ⟨x1, rfl⟩ := ovr_of_below hbl; clear hbl
              go_wp2_with fail
              go_at_call 95; refine (less_any _ _ _ _ _).mono ?_; rw [HLT.out]; rintro e w1 ⟨rfl, hbl⟩; obtain ⟨x3, rfl⟩ := ovr_of_below hbl; clear hbl
              go_wp2
              refine name_ptr4 17 rfl ?_
              intro T2 hT2
              rw [← hT2]
              refine name_world ?_
              intro W2 hW2
              have hbW2 : Below B W0 W2 := by
                rw [hW2]
                (repeat (first | with_reducible exact hbV | (with_reducible refine below_ovr_le ?_ ?_ _; rotate_left; · (first | omega | (simp; done) | (simp; omega))) | (with_reducible refine Below.alloc ?_ ?_ _; rotate_left; · (first | omega | (simp; done) | (simp; omega))) | (with_reducible refine Below.setCell ?_ ?_ _; rotate_left; · (first | omega | (simp; done) | (simp; omega))) | with_reducible refine drew_below ?_ _ | with_reducible refine Below.drew ?_))
              have n0 : W2.cell? ⟨B, 0, none⟩ = some (.int .i64 l') := by rw [hW2]; simp [go_sem, p0, hBV]
              have n1 : W2.cell? ⟨B, 1, none⟩ = some (.int .i64 c') := by rw [hW2]; simp [go_sem, p1, hBV]
              have n2 : W2.cell? ⟨T2, 0, none⟩ = some (.int .i64 tl) := by subst hT2; rw [hW2]; simp [go_sem]
              have n3 : W2.cell? ⟨T2, 1, none⟩ = some (.int .i64 tc) := by subst hT2; rw [hW2]; simp [go_sem]
              have n4 : W2.cell? ⟨w.heap.size + 1, 0, none⟩ = some (.int .i64 0) := (hbW2.cell (p := ⟨w.heap.size + 1, 0, none⟩) (by simp; omega)).trans r0
              have n5 : W2.cell? ⟨w.heap.size + 1, 1, none⟩ = some (.int .i64 0) := (hbW2.cell (p := ⟨w.heap.size + 1, 1, none⟩) (by simp; omega)).trans r1
              have n6 : W2.cell? ⟨w.heap.size + 1 + 1, 0, none⟩ = some (.int .i64 0) := (hbW2.cell (p := ⟨w.heap.size + 1 + 1, 0, none⟩) (by simp; omega)).trans t0
              have n7 : W2.cell? ⟨w.heap.size + 1 + 1, 1, none⟩ = some (.int .i64 0) := (hbW2.cell (p := ⟨w.heap.size + 1 + 1, 1, none⟩) (by simp; omega)).trans t1
              have n8 : W2.frozen? ⟨w.heap.size + 1, 0, none⟩ = false := (hbW2.frozen (p := ⟨w.heap.size + 1, 0, none⟩) (by simp; omega)).trans fr0
              have n9 : W2.frozen? ⟨w.heap.size + 1, 1, none⟩ = false := (hbW2.frozen (p := ⟨w.heap.size + 1, 1, none⟩) (by simp; omega)).trans fr1
              have n10 : W2.frozen? ⟨w.heap.size + 1 + 1, 0, none⟩ = false := (hbW2.frozen (p := ⟨w.heap.size + 1 + 1, 0, none⟩) (by simp; omega)).trans ft0
              have n11 : W2.frozen? ⟨w.heap.size + 1 + 1, 1, none⟩ = false := (hbW2.frozen (p := ⟨w.heap.size + 1 + 1, 1, none⟩) (by simp; omega)).trans ft1
              have hTB : B < T2 := by omega
              have k1 : ¬ B = w.heap.size + 1 := by omega
              have k2 : ¬ B = w.heap.size + 1 + 1 := by omega
              have k3 : ¬ T2 = w.heap.size + 1 := by omega
              have k4 : ¬ T2 = w.heap.size + 1 + 1 := by omega
              have hbw2 : Below w.heap.size w W2 := hbel.trans (hbW2.mono (by omega))
              clear hW2 hT2 hBV hbV v0 v1 v2 v3 z0 z1 z2 z3 p0 p1 pz0 pz1 pz2 hBw' e0 e1
              go_region_held3 (fun w' => w'.cell? ⟨B, 0, none⟩ = some (.int .i64 l') ∧ w'.cell? ⟨B, 1, none⟩ = some (.int .i64 c') ∧ w'.cell? ⟨T2, 0, none⟩ = some (.int .i64 tl) ∧ w'.cell? ⟨T2, 1, none⟩ = some (.int .i64 tc)) (go_split_ands <;> first | assumption | (simp [go_sem]; done) | (simp [go_sem, *]; done) | (simp [go_sem]; omega)) (fail)
              go_wp2
              have HAJ' := HAJ.out
              have HAT' := HAT.out
              simp only [atPlc, Prod.mk.injEq] at HAJ' HAT'
              refine bodyPost_ret (v := encV ((((l' : Int), (c' : Int)), ((tl : Int), (tc : Int))), true)) (by simp [results, Try.results50, go_sem, n4, n5, n6, n7]) rfl ⟨by rw [HRj.out]; simp only [encR, HAJ'.1.1, HAJ'.1.2, HAT'.1.1, HAT'.1.2], by (repeat (first | with_reducible exact hbw2 | (with_reducible refine below_ovr_le ?_ ?_ _; rotate_left; · (first | omega | (simp; done) | (simp; omega))) | (with_reducible refine Below.alloc ?_ ?_ _; rotate_left; · (first | omega | (simp; done) | (simp; omega))) | (with_reducible refine Below.setCell ?_ ?_ _; rotate_left; · (first | omega | (simp; done) | (simp; omega))) | with_reducible refine drew_below ?_ _ | with_reducible refine Below.drew ?_))⟩
            · have HS2 := Lib.hid ((encF_more (B := flat L) (o := o) (s := s) (n := m) (q := i0) (j := j) hbo hT h2 h3).symm.trans HS.out)
              have hm3 : 2 ≤ m := by omega
              have hm4 : (m - 1 == 0) = false := beq_eq_false_iff_ne.2 (by omega)
              clear h1 h2 h3 hbt HPc HPi hko hkj HO hT hbo hls htl htc s1 s2 s3 htt
              go_wp2
              (refine wp_region_ovr (by kernel_rfl) (by kernel_rfl) ?_; (repeat (go_big_quiet_step (fail))); refine wpQuiet_nil ?_; rintro _ ⟨zq, rfl⟩)
              go_wp2_with fail
              go_at_call 110; refine (HOO.out _ (by (repeat (first | assumption | refine LinesAt.ovr ?_ _ | refine LinesAt.alloc ?_ _ | refine LinesAt.drewN ?_ _ | refine LinesAt.drew ?_)))).mono ?_; rw [HT.out, optP, HAT.out]; rintro e w1 ⟨rfl, hbl⟩; obtain ⟨x1, rfl⟩ := ovr_of_below hbl; clear hbl
              go_wp2_with fail
              go_at_call 95; refine (less_any _ _ _ _ _).mono ?_; rw [HLT.out]; rintro e w1 ⟨rfl, hbl⟩; obtain ⟨x3, rfl⟩ := ovr_of_below hbl; clear hbl
              go_wp2_with fail
              go_at_call 114; refine (next_back _ _ L l' c' _ (by (repeat (first | assumption | refine LinesAt.ovr ?_ _ | refine LinesAt.alloc ?_ _ | refine LinesAt.drewN ?_ _ | refine LinesAt.drew ?_))) hl' (Nat.le_of_lt HIDC.out)).mono ?_; rw [HIDI.out, HN2.out]; rintro e w1 ⟨rfl, hbl⟩; obtain ⟨x2, rfl⟩ := ovr_of_below hbl; clear hbl
              go_wp2
              go_roundg j
              case measure => omega
              case rel =>
                refine ⟨by (repeat (first | with_reducible exact hbV | (with_reducible refine below_ovr_le ?_ ?_ _; rotate_left; · (first | omega | (simp; done) | (simp; omega))) | (with_reducible refine Below.alloc ?_ ?_ _; rotate_left; · (first | omega | (simp; done) | (simp; omega))) | (with_reducible refine Below.setCell ?_ ?_ _; rotate_left; · (first | omega | (simp; done) | (simp; omega))) | with_reducible refine drew_below ?_ _ | with_reducible refine Below.drew ?_)), by simp; omega, by simp [go_sem, e0, hBV], by simp [go_sem, e1, hBV], m - 1, by go_num, by omega, by omega, m1, m2, by simp [go_sem, p0, hBV], by simp [go_sem, p1, hBV], ?_⟩
                rcases prv_ways L j (by have h1 := HIL.out; have h2 := HI.out; omega) with ⟨hj2, l2, c2, HN, hl2, HP2⟩ | ⟨hj2, HN⟩
                · have e := HN.out.symm.trans HN2.out
                  simp only [Prod.mk.injEq] at e
                  obtain ⟨⟨rfl, rfl⟩, rfl⟩ := e
                  left
                  exact ⟨rfl, l2, c2, j - 1, rfl, rfl, hl2, by omega, by omega, HP2, by rw [show j - 1 + 1 = j from by omega]; exact HS2⟩
                · have e := HN.out.symm.trans HN2.out
                  simp only [Prod.mk.injEq] at e
                  obtain ⟨⟨rfl, rfl⟩, rfl⟩ := e
                  right
                  exact ⟨rfl, Lib.hid (by rw [← HS2.out, hj2, encF_end])⟩
      · have t1' : (cc != o) = true := by rw [bne_iff_ne]; exact h1
        have HS2 := Lib.hid ((encF_no (B := flat L) (o := o) (s := s) (n := m) (q := i0) (j := j) (by rw [hbt]; exact h1)).symm.trans HS.out)
        clear h1 hbt HPc HPi
        go_wp2
        (refine wp_region_ovr (by kernel_rfl) (by kernel_rfl) ?_; (repeat (go_big_quiet_step (fail))); refine wpQuiet_nil ?_; rintro _ ⟨zq, rfl⟩)
        go_wp2_with fail
        go_at_call 114; refine (next_back _ _ L l' c' _ (by (repeat (first | assumption | refine LinesAt.ovr ?_ _ | refine LinesAt.alloc ?_ _ | refine LinesAt.drewN ?_ _ | refine LinesAt.drew ?_))) hl' (Nat.le_of_lt HIDC.out)).mono ?_; rw [HIDI.out, HN2.out]; rintro e w1 ⟨rfl, hbl⟩; obtain ⟨x2, rfl⟩ := ovr_of_below hbl; clear hbl
        go_wp2
        go_roundg j
        case measure => omega
        case rel =>
          refine ⟨by (repeat (first | with_reducible exact hbV | (with_reducible refine below_ovr_le ?_ ?_ _; rotate_left; · (first | omega | (simp; done) | (simp; omega))) | (with_reducible refine Below.alloc ?_ ?_ _; rotate_left; · (first | omega | (simp; done) | (simp; omega))) | (with_reducible refine Below.setCell ?_ ?_ _; rotate_left; · (first | omega | (simp; done) | (simp; omega))) | with_reducible refine drew_below ?_ _ | with_reducible refine Below.drew ?_)), by simp; omega, by simp [go_sem, e0, hBV], by simp [go_sem, e1, hBV], m, by go_num, by omega, by omega, m1, m2, by simp [go_sem, p0, hBV], by simp [go_sem, p1, hBV], ?_⟩
          rcases prv_ways L j (by have h1 := HIL.out; have h2 := HI.out; omega) with ⟨hj2, l2, c2, HN, hl2, HP2⟩ | ⟨hj2, HN⟩
          · have e := HN.out.symm.trans HN2.out
            simp only [Prod.mk.injEq] at e
            obtain ⟨⟨rfl, rfl⟩, rfl⟩ := e
            left
            exact ⟨rfl, l2, c2, j - 1, rfl, rfl, hl2, by omega, by omega, HP2, by rw [show j - 1 + 1 = j from by omega]; exact HS2⟩
          · have e := HN.out.symm.trans HN2.out
            simp only [Prod.mk.injEq] at e
            obtain ⟨⟨rfl, rfl⟩, rfl⟩ := e
            right
            exact ⟨rfl, Lib.hid (by rw [← HS2.out, hj2, encF_end])⟩
    · have v0 : wr.cell? ⟨w.heap.size + 1, 0, none⟩ = some (.int .i64 0) := (hbV.cell (p := ⟨w.heap.size + 1, 0, none⟩) (by simp; omega)).trans r0
      have v1 : wr.cell? ⟨w.heap.size + 1, 1, none⟩ = some (.int .i64 0) := (hbV.cell (p := ⟨w.heap.size + 1, 1, none⟩) (by simp; omega)).trans r1
      have v2 : wr.cell? ⟨w.heap.size + 1 + 1, 0, none⟩ = some (.int .i64 0) := (hbV.cell (p := ⟨w.heap.size + 1 + 1, 0, none⟩) (by simp; omega)).trans t0
      have v3 : wr.cell? ⟨w.heap.size + 1 + 1, 1, none⟩ = some (.int .i64 0) := (hbV.cell (p := ⟨w.heap.size + 1 + 1, 1, none⟩) (by simp; omega)).trans t1
      have z0 : wr.frozen? ⟨w.heap.size + 1, 0, none⟩ = false := (hbV.frozen (p := ⟨w.heap.size + 1, 0, none⟩) (by simp; omega)).trans fr0
      have z1 : wr.frozen? ⟨w.heap.size + 1, 1, none⟩ = false := (hbV.frozen (p := ⟨w.heap.size + 1, 1, none⟩) (by simp; omega)).trans fr1
      have z2 : wr.frozen? ⟨w.heap.size + 1 + 1, 0, none⟩ = false := (hbV.frozen (p := ⟨w.heap.size + 1 + 1, 0, none⟩) (by simp; omega)).trans ft0
      have z3 : wr.frozen? ⟨w.heap.size + 1 + 1, 1, none⟩ = false := (hbV.frozen (p := ⟨w.heap.size + 1 + 1, 1, none⟩) (by simp; omega)).trans ft1
      go_wp2
      refine bodyPost_ret (v := encV noEnc) (by simp [results, Try.results50, go_sem, noEnc, v0, v1, v2, v3]) rfl ⟨by rw [HRn.out]; rfl, by (repeat (first | with_reducible exact Below.refl _ _ | (with_reducible refine Below.setCell ?_ ?_ _; rotate_left; · (first | exact Nat.le_refl _ | assumption | omega | (simp; done) | (simp; omega))) | (with_reducible refine Below.alloc ?_ ?_ _; rotate_left; · (first | exact Nat.le_refl _ | assumption | omega | (simp; done) | (simp; omega))) | with_reducible refine below_ovr_of ?_ | with_reducible refine drew_below ?_ _ | with_reducible refine Below.drew ?_ | with_reducible assumption))⟩
end Go.Proofs.Ytlbbgocggifjaaa
