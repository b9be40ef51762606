/- Several texts in one: Encl2, Encl3, Encl4, REncl, REncl2, REncl3. Conditions: none beyond what each says. -/
import Derived.Test.YtlbbgocggifjaaaOI16
import Derived.Outline
import Derived.Deep.RegionHeld3
import Derived.Test.YtlbbgocggifjaaaOI17
namespace Go.Proofs.Ytlbbgocggifjaaa
open Go.RowKit

set_option maxRecDepth 100000 in
set_option maxHeartbeats 4000000 in
theorem encl_byte (a : Option Addr) (cap : Nat) (L : List ByteArray) (l c : Nat) (o n : Int) (w : World) (hL : LinesAt w a L) (htot : total L ≤ 1000000) (hl : l < L.length) (hc : c < (L.getD l .empty).size) (hn1 : 1 ≤ n) (hn2 : n ≤ 9223372036854775807)
    (s : Int) (hk : Hid (kindP o = (o, s, true, true))) :
    Calls Try.prog 50 #[.slice a L.length cap, .agg #[.int .i64 l, .int .i64 c], .int .u8 o, .int .i64 n] w fun e w' => e = .returned (encV (encR L (encF (flat L) o s (idx L l c) n (idx L l c + 1)))) ∧ Below w.heap.size w w' := by
  have hn := hL.2.1
  obtain ⟨R, hR⟩ : ∃ R, encF (flat L) o s (idx L l c) n (idx L l c + 1) = R := ⟨_, rfl⟩
  rw [hR]
  have HR := Lib.hid hR
  have hp : plcB L l c = true := by simp only [plcB, Int.toNat_natCast, decide_eq_true_eq]; omega
  obtain ⟨b, off, u, rfl, hb, hcell, hu, HU⟩ := line_facts' hL hl
  have hcu : c < u.size := by have := hc; rw [HU.out] at this; exact this
  have hcI : (c : Int) < (u.size : Int) := by omega
  have hlI : (l : Int) < (L.length : Int) := by omega
  have hl0 : (0 : Int) ≤ (l : Int) := by omega
  have HC := Lib.hid hc
  clear hR hc
  go_enter Try.func50, Try.ntmps50
  go_wp2_with (first | (go_at_call 48; refine (kind_ways _ _ hk).mono ?_; rintro e w1 ⟨rfl, rfl⟩) | (go_at_call 109; refine (place_any _ _ L _ _ _ (by (repeat (first | assumption | refine LinesAt.ovr ?_ _ | refine LinesAt.alloc ?_ _ | refine LinesAt.drewN ?_ _ | refine LinesAt.drew ?_)))).mono ?_; rintro e w1 ⟨rfl, hbl⟩; obtain ⟨x, rfl⟩ := ovr_of_below hbl; clear hbl))
  go_region_held3 (fun w' => w.heap.size < w'.heap.size ∧ b < w'.heap.size ∧ w'.cell? ⟨w.heap.size, 0, none⟩ = some (.int .i64 l) ∧ w'.cell? ⟨w.heap.size, 1, none⟩ = some (.int .i64 c) ∧ w'.cell? ⟨b, off + l, none⟩ = some (.string u)) (go_split_ands <;> first | assumption | (simp [go_sem]; done) | (simp [go_sem, *]; done) | (simp [go_sem]; omega)) (fail)
  go_wp2
  obtain ⟨i0, hi0⟩ : ∃ i0, idx L l c = i0 := ⟨_, rfl⟩
  rw [hi0] at HR
  have HI := Lib.hid hi0
  have HIL := Lib.hid (idx_lt hl HC.out)
  clear hi0
  refine name_ptr4 15 rfl ?_
  intro B hB
  rw [← hB]
  refine name_world ?_
  intro W0 hW
  have q0 : W0.cell? ⟨w.heap.size, 0, none⟩ = some (.int .i64 l) := by subst hW hB; simp [go_sem]
  have q1 : W0.cell? ⟨w.heap.size, 1, none⟩ = some (.int .i64 c) := by subst hW hB; simp [go_sem]
  have r0 : W0.cell? ⟨w.heap.size + 1, 0, none⟩ = some (.int .i64 0) := by subst hW hB; simp [go_sem]
  have r1 : W0.cell? ⟨w.heap.size + 1, 1, none⟩ = some (.int .i64 0) := by subst hW hB; simp [go_sem]
  have t0 : W0.cell? ⟨w.heap.size + 1 + 1, 0, none⟩ = some (.int .i64 0) := by subst hW hB; simp [go_sem]
  have t1 : W0.cell? ⟨w.heap.size + 1 + 1, 1, none⟩ = some (.int .i64 0) := by subst hW hB; simp [go_sem]
  have fr0 : W0.frozen? ⟨w.heap.size + 1, 0, none⟩ = false := by subst hW hB; simp [go_sem]
  have fr1 : W0.frozen? ⟨w.heap.size + 1, 1, none⟩ = false := by subst hW hB; simp [go_sem]
  have ft0 : W0.frozen? ⟨w.heap.size + 1 + 1, 0, none⟩ = false := by subst hW hB; simp [go_sem]
  have ft1 : W0.frozen? ⟨w.heap.size + 1 + 1, 1, none⟩ = false := by subst hW hB; simp [go_sem]
  have b0 : W0.cell? ⟨B, 0, none⟩ = some (.int .i64 l) := by subst hW hB; simp [go_sem]
  have b1 : W0.cell? ⟨B, 1, none⟩ = some (.int .i64 c) := by subst hW hB; simp [go_sem]
  have g0 : W0.frozen? ⟨B, 0, none⟩ = false := by subst hW hB; simp [go_sem]
  have g1 : W0.frozen? ⟨B, 1, none⟩ = false := by subst hW hB; simp [go_sem]
  have hbel : Below w.heap.size w W0 := by rw [hW]; (repeat (first | with_reducible exact Below.refl _ _ | (with_reducible refine Below.setCell ?_ ?_ _; rotate_left; · (first | exact Nat.le_refl _ | assumption | omega | (simp; done) | (simp; omega))) | (with_reducible refine Below.alloc ?_ ?_ _; rotate_left; · (first | exact Nat.le_refl _ | assumption | omega | (simp; done) | (simp; omega))) | with_reducible refine below_ovr_of ?_ | with_reducible refine drew_below ?_ _ | with_reducible refine Below.drew ?_ | with_reducible assumption))
  have hBw : w.heap.size + 1 + 1 < B := by omega
  have hszW := hbel.size
  clear hW hB
  go_loopg [3, 16] (i0 + 1) (fun g nn k wr => Below B W0 wr ∧ B < wr.heap.size ∧ wr.frozen? ⟨B, 0, none⟩ = false ∧ wr.frozen? ⟨B, 1, none⟩ = false ∧ ∃ m : Int, nn = .int .i64 m ∧ 1 ≤ m ∧ m ≤ n ∧ ∃ x y : Int, wr.cell? ⟨B, 0, none⟩ = some (.int .i64 x) ∧ wr.cell? ⟨B, 1, none⟩ = some (.int .i64 y) ∧
    ((k = .bool true ∧ ∃ (l' c' j : Nat), x = l' ∧ y = c' ∧ l' < L.length ∧ j ≤ i0 ∧ g = j + 1 ∧ Hid (c' < (L.getD l' .empty).size ∧ idx L l' c' = j) ∧ Hid (encF (flat L) o s i0 m (j + 1) = R)) ∨
     (k = .bool false ∧ Hid (R = none))))
  case atStart =>
    exact ⟨Below.refl _ _, cell_lt4 b0, g0, g1, n, rfl, hn1, Int.le_refl _, l, c, b0, b1, .inl ⟨rfl, l, c, i0, rfl, rfl, hl, Nat.le_refl _, rfl, Lib.hid ⟨HC.out, HI.out⟩, HR⟩⟩
  case round =>
    obtain ⟨hbV, hBV, e0, e1, m, rfl, hm1, hm2, x, y, p0, p1, h⟩ := hrel
    have hbw : Below w.heap.size w wr := hbel.trans (hbV.mono (by omega))
    have hLV : LinesAt wr (some ⟨b, off, none⟩) L := hL.below hbw (Nat.le_refl _)
    rcases h with ⟨rfl, l', c', j, rfl, rfl, hl', hj, rfl, HP, HS⟩ | ⟨rfl, HRn⟩
    · have hBw' : b < wr.heap.size := by omega
      have pz0 : wr.cell? ⟨w.heap.size, 0, none⟩ = some (.int .i64 l) := (hbV.cell (p := ⟨w.heap.size, 0, none⟩) (by simp; omega)).trans q0
      have pz1 : wr.cell? ⟨w.heap.size, 1, none⟩ = some (.int .i64 c) := (hbV.cell (p := ⟨w.heap.size, 1, none⟩) (by simp; omega)).trans q1
      have pz2 : w.heap.size < wr.heap.size := by omega
      obtain ⟨b', off', s', e, hb', hcell', hs', HU'⟩ := line_facts' hLV hl'
      cases e
      obtain ⟨HPc, HPi⟩ := HP.out
      have HPc' := HPc
      rw [HU'.out] at HPc'
      have hcI' : (c' : Int) < (s'.size : Int) := by omega
      have hlI' : (l' : Int) < (L.length : Int) := by omega
      have hl0' : (0 : Int) ≤ (l' : Int) := by omega
      have hc0' : (0 : Int) ≤ (c' : Int) := by omega
      have hbt := flat_byte hl' HU'.out HPc'
      rw [HPi] at hbt
      obtain ⟨cc, hcc⟩ : ∃ cc : Int, (s'[c'].toNat : Int) = cc := ⟨_, rfl⟩
      rw [hcc] at hbt
      obtain ⟨⟨⟨m1, m2⟩, ok2⟩, hn2⟩ : ∃ r, prvP L j = r := ⟨_, rfl⟩
      have HN2 := Lib.hid hn2
      clear hn2
      have HIDC := Lib.hid HPc
      have HIDI := Lib.hid HPi
      by_cases h1 : cc = o
      · have t1' : (cc != o) = false := by rw [bne_eq_false_iff_eq]; exact h1
        have hko : kindP (btI (flat L) j) = (o, s, true, true) := by rw [hbt, h1]; exact hk.out
        have hkj := hko
        rw [← HPi] at hkj
        have HO := fun (w0 : World) (h : LinesAt w0 (some ⟨b, off, none⟩) L) => other_any (some ⟨b, off, none⟩) cap L l' c' w0 h hl' HPc htot (by rw [hkj])
        rw [HPi, otherP_open hko] at HO
        have HOO := Lib.hid HO
        obtain ⟨T, hT⟩ : ∃ T, scanF (flat L) o s 1 (j + 1) = T := ⟨_, rfl⟩
        have HT := Lib.hid hT
        have hbo : btI (flat L) j = o := by rw [hbt]; exact h1
        cases T with
        | none =>
          have HS2 := Lib.hid ((encF_none (B := flat L) (o := o) (s := s) (n := m) (q := i0) (j := j) hbo hT).symm.trans HS.out)
          clear h1 hbt HPc HPi hko hkj HO hT hbo
          go_wp2
          (refine wp_region_ovr (by kernel_rfl) (by kernel_rfl) ?_; (repeat (go_big_quiet_step (fail))); refine wpQuiet_nil ?_; rintro _ ⟨zq, rfl⟩)
          go_wp2_with fail
          go_at_call 110; refine (HOO.out _ (by (repeat (first | assumption | refine LinesAt.ovr ?_ _ | refine LinesAt.alloc ?_ _ | refine LinesAt.drewN ?_ _ | refine LinesAt.drew ?_)))).mono ?_; rw [HT.out, optP, noPlc]; rintro e w1 ⟨rfl, hbl⟩; obtain ⟨x1, rfl⟩ := ovr_of_below hbl; clear hbl
          go_wp2_with fail
          go_at_call 114; refine (next_back _ _ L l' c' _ (by (repeat (first | assumption | refine LinesAt.ovr ?_ _ | refine LinesAt.alloc ?_ _ | refine LinesAt.drewN ?_ _ | refine LinesAt.drew ?_))) hl' (Nat.le_of_lt HIDC.out)).mono ?_; rw [HIDI.out, HN2.out]; rintro e w1 ⟨rfl, hbl⟩; obtain ⟨x2, rfl⟩ := ovr_of_below hbl; clear hbl
          go_wp2
          go_roundg j
          case measure => omega
          case rel =>
            refine ⟨by (repeat (first | with_reducible exact hbV | (with_reducible refine below_ovr_le ?_ ?_ _; rotate_left; · (first | omega | (simp; done) | (simp; omega))) | (with_reducible refine Below.alloc ?_ ?_ _; rotate_left; · (first | omega | (simp; done) | (simp; omega))) | (with_reducible refine Below.setCell ?_ ?_ _; rotate_left; · (first | omega | (simp; done) | (simp; omega))) | with_reducible refine drew_below ?_ _ | with_reducible refine Below.drew ?_)), by simp; omega, by simp [go_sem, e0, hBV], by simp [go_sem, e1, hBV], m, by go_num, by omega, by omega, m1, m2, by simp [go_sem, p0, hBV], by simp [go_sem, p1, hBV], ?_⟩
            rcases prv_ways L j (by have h1 := HIL.out; have h2 := HI.out; omega) with ⟨hj2, l2, c2, HN, hl2, HP2⟩ | ⟨hj2, HN⟩
            · have e := HN.out.symm.trans HN2.out
              simp only [Prod.mk.injEq] at e
              obtain ⟨⟨rfl, rfl⟩, rfl⟩ := e
              left
              exact ⟨rfl, l2, c2, j - 1, rfl, rfl, hl2, by omega, by omega, HP2, by rw [show j - 1 + 1 = j from by omega]; exact HS2⟩
            · have e := HN.out.symm.trans HN2.out
              simp only [Prod.mk.injEq] at e
              obtain ⟨⟨rfl, rfl⟩, rfl⟩ := e
              right
              exact ⟨rfl, Lib.hid (by rw [← HS2.out, hj2, encF_end])⟩
        | some t =>
          have htt := scanF_spec (B := flat L) (o := o) (s := s) _ (j + 1) 1 rfl t hT
          rw [flat_length] at htt
          obtain ⟨s1, s2, s3⟩ := plcOf_spec htt.2
          obtain ⟨tl, htl⟩ : ∃ tl, (plcOf L t).1 = tl := ⟨_, rfl⟩
          obtain ⟨tc, htc⟩ : ∃ tc, (plcOf L t).2 = tc := ⟨_, rfl⟩
          rw [htl] at s1 s2 s3
          rw [htc] at s2 s3
          have HAT : Hid (atPlc L t = (((tl : Int), (tc : Int)), true)) := Lib.hid (by rw [atPlc, htl, htc])
          have hls := idx_less (L := L) s1 s2 hl (Nat.le_of_lt HC.out)
          rw [s3, HI.out] at hls
          by_cases h2 : t < i0
          · have HLT : Hid (lessB tl tc l c = true) := Lib.hid (by rw [hls]; exact decide_eq_true h2)
            have HS2 := Lib.hid ((encF_short (B := flat L) (o := o) (s := s) (n := m) (q := i0) (j := j) hbo hT h2).symm.trans HS.out)
            clear h1 h2 hbt HPc HPi hko hkj HO hT hbo hls htl htc s1 s2 s3 htt
            go_wp2
            (refine wp_region_ovr (by kernel_rfl) (by kernel_rfl) ?_; (repeat (go_big_quiet_step (fail))); refine wpQuiet_nil ?_; rintro _ ⟨zq, rfl⟩)
            go_wp2_with fail
            go_at_call 110; refine (HOO.out _ (by (repeat (first | assumption | refine LinesAt.ovr ?_ _ | refine LinesAt.alloc ?_ _ | refine LinesAt.drewN ?_ _ | refine LinesAt.drew ?_)))).mono ?_; rw [HT.out, optP, HAT.out]; rintro e w1 ⟨rfl, hbl⟩; obtain ⟨x1, rfl⟩ := ovr_of_below hbl; clear hbl
            go_wp2_with fail
            go_at_call 95; refine (less_any _ _ _ _ _).mono ?_; rw [HLT.out]; rintro e w1 ⟨rfl, hbl⟩; obtain ⟨x3, rfl⟩ := ovr_of_below hbl; clear hbl
            go_wp2_with fail
            go_at_call 114; refine (next_back _ _ L l' c' _ (by (repeat (first | assumption | refine LinesAt.ovr ?_ _ | refine LinesAt.alloc ?_ _ | refine LinesAt.drewN ?_ _ | refine LinesAt.drew ?_))) hl' (Nat.le_of_lt HIDC.out)).mono ?_; rw [HIDI.out, HN2.out]; rintro e w1 ⟨rfl, hbl⟩; obtain ⟨x2, rfl⟩ := ovr_of_below hbl; clear hbl
            go_wp2
            go_roundg j
            case measure => omega
            case rel =>
              refine ⟨by (repeat (first | with_reducible exact hbV | (with_reducible refine below_ovr_le ?_ ?_ _; rotate_left; · (first | omega | (simp; done) | (simp; omega))) | (with_reducible refine Below.alloc ?_ ?_ _; rotate_left; · (first | omega | (simp; done) | (simp; omega))) | (with_reducible refine Below.setCell ?_ ?_ _; rotate_left; · (first | omega | (simp; done) | (simp; omega))) | with_reducible refine drew_below ?_ _ | with_reducible refine Below.drew ?_)), by simp; omega, by simp [go_sem, e0, hBV], by simp [go_sem, e1, hBV], m, by go_num, by omega, by omega, m1, m2, by simp [go_sem, p0, hBV], by simp [go_sem, p1, hBV], ?_⟩
              rcases prv_ways L j (by have h1 := HIL.out; have h2 := HI.out; omega) with ⟨hj2, l2, c2, HN, hl2, HP2⟩ | ⟨hj2, HN⟩
              · have e := HN.out.symm.trans HN2.out
                simp only [Prod.mk.injEq] at e
                obtain ⟨⟨rfl, rfl⟩, rfl⟩ := e
                left
                exact ⟨rfl, l2, c2, j - 1, rfl, rfl, hl2, by omega, by omega, HP2, by rw [show j - 1 + 1 = j from by omega]; exact HS2⟩
              · have e := HN.out.symm.trans HN2.out
                simp only [Prod.mk.injEq] at e
                obtain ⟨⟨rfl, rfl⟩, rfl⟩ := e
                right
                exact ⟨rfl, Lib.hid (by rw [← HS2.out, hj2, encF_end])⟩
          · have HLT : Hid (lessB tl tc l c = false) := Lib.hid (by rw [hls]; exact decide_eq_false h2)
            by_cases h3 : m = 1
            · have HRj := Lib.hid (HS.out.symm.trans (encF_hit (B := flat L) (o := o) (s := s) (n := m) (q := i0) (j := j) hbo hT h2 h3))
              have HAJ := Lib.hid (atPlc_eq hl' HPc HPi)
              subst h3
              have v0 : wr.cell? ⟨w.heap.size + 1, 0, none⟩ = some (.int .i64 0) := (hbV.cell (p := ⟨w.heap.size + 1, 0, none⟩) (by simp; omega)).trans r0
              have v1 : wr.cell? ⟨w.heap.size + 1, 1, none⟩ = some (.int .i64 0) := (hbV.cell (p := ⟨w.heap.size + 1, 1, none⟩) (by simp; omega)).trans r1
              have v2 : wr.cell? ⟨w.heap.size + 1 + 1, 0, none⟩ = some (.int .i64 0) := (hbV.cell (p := ⟨w.heap.size + 1 + 1, 0, none⟩) (by simp; omega)).trans t0
              have v3 : wr.cell? ⟨w.heap.size + 1 + 1, 1, none⟩ = some (.int .i64 0) := (hbV.cell (p := ⟨w.heap.size + 1 + 1, 1, none⟩) (by simp; omega)).trans t1
              have z0 : wr.frozen? ⟨w.heap.size + 1, 0, none⟩ = false := (hbV.frozen (p := ⟨w.heap.size + 1, 0, none⟩) (by simp; omega)).trans fr0
              have z1 : wr.frozen? ⟨w.heap.size + 1, 1, none⟩ = false := (hbV.frozen (p := ⟨w.heap.size + 1, 1, none⟩) (by simp; omega)).trans fr1
              have z2 : wr.frozen? ⟨w.heap.size + 1 + 1, 0, none⟩ = false := (hbV.frozen (p := ⟨w.heap.size + 1 + 1, 0, none⟩) (by simp; omega)).trans ft0
              have z3 : wr.frozen? ⟨w.heap.size + 1 + 1, 1, none⟩ = false := (hbV.frozen (p := ⟨w.heap.size + 1 + 1, 1, none⟩) (by simp; omega)).trans ft1
              clear h2 hbt HPc HPi hko hkj HO hT hbo hls htl htc s1 s2 s3 htt
              go_wp2
              (refine wp_region_ovr (by kernel_rfl) (by kernel_rfl) ?_; (repeat (go_big_quiet_step (fail))); refine wpQuiet_nil ?_; rintro _ ⟨zq, rfl⟩)
              go_wp2_with fail
              go_at_call 110; refine (HOO.out _ (by (repeat (first | assumption | refine LinesAt.ovr ?_ _ | refine LinesAt.alloc ?_ _ | refine LinesAt.drewN ?_ _ | refine LinesAt.drew ?_)))).mono ?_; rw [HT.out, optP, HAT.out]; rintro e w1 ⟨rfl, hbl⟩; obtain ⟨x1, rfl⟩ := ovr_of_below hbl; clear hbl
              go_wp2_with fail
              go_at_call 95; refine (less_any _ _ _ _ _).mono ?_; rw [HLT.out]; rintro e w1 ⟨rfl, hbl⟩; obtain ⟨x3, rfl⟩ := ovr_of_below hbl; clear hbl
              go_wp2
              refine name_ptr4 17 rfl ?_
              intro T2 hT2
              rw [← hT2]
              refine name_world ?_
              intro W2 hW2
              have hbW2 : Below B W0 W2 := by
                rw [hW2]
                (repeat (first | with_reducible exact hbV | (with_reducible refine below_ovr_le ?_ ?_ _; rotate_left; · (first | omega | (simp; done) | (simp; omega))) | (with_reducible refine Below.alloc ?_ ?_ _; rotate_left; · (first | omega | (simp; done) | (simp; omega))) | (with_reducible refine Below.setCell ?_ ?_ _; rotate_left; · (first | omega | (simp; done) | (simp; omega))) | with_reducible refine drew_below ?_ _ | with_reducible refine Below.drew ?_))
              have n0 : W2.cell? ⟨B, 0, none⟩ = some (.int .i64 l') := by rw [hW2]; simp [go_sem, p0, hBV]
              have n1 : W2.cell? ⟨B, 1, none⟩ = some (.int .i64 c') := by rw [hW2]; simp [go_sem, p1, hBV]
              have n2 : W2.cell? ⟨T2, 0, none⟩ = some (.int .i64 tl) := by subst hT2; rw [hW2]; simp [go_sem]
              have n3 : W2.cell? ⟨T2, 1, none⟩ = some (.int .i64 tc) := by subst hT2; rw [hW2]; simp [go_sem]
              have n4 : W2.cell? ⟨w.heap.size + 1, 0, none⟩ = some (.int .i64 0) := (hbW2.cell (p := ⟨w.heap.size + 1, 0, none⟩) (by simp; omega)).trans r0
              have n5 : W2.cell? ⟨w.heap.size + 1, 1, none⟩ = some (.int .i64 0) := (hbW2.cell (p := ⟨w.heap.size + 1, 1, none⟩) (by simp; omega)).trans r1
              have n6 : W2.cell? ⟨w.heap.size + 1 + 1, 0, none⟩ = some (.int .i64 0) := (hbW2.cell (p := ⟨w.heap.size + 1 + 1, 0, none⟩) (by simp; omega)).trans t0
              have n7 : W2.cell? ⟨w.heap.size + 1 + 1, 1, none⟩ = some (.int .i64 0) := (hbW2.cell (p := ⟨w.heap.size + 1 + 1, 1, none⟩) (by simp; omega)).trans t1
              have n8 : W2.frozen? ⟨w.heap.size + 1, 0, none⟩ = false := (hbW2.frozen (p := ⟨w.heap.size + 1, 0, none⟩) (by simp; omega)).trans fr0
              have n9 : W2.frozen? ⟨w.heap.size + 1, 1, none⟩ = false := (hbW2.frozen (p := ⟨w.heap.size + 1, 1, none⟩) (by simp; omega)).trans fr1
              have n10 : W2.frozen? ⟨w.heap.size + 1 + 1, 0, none⟩ = false := (hbW2.frozen (p := ⟨w.heap.size + 1 + 1, 0, none⟩) (by simp; omega)).trans ft0
              have n11 : W2.frozen? ⟨w.heap.size + 1 + 1, 1, none⟩ = false := (hbW2.frozen (p := ⟨w.heap.size + 1 + 1, 1, none⟩) (by simp; omega)).trans ft1
              have hTB : B < T2 := by omega
              have k1 : ¬ B = w.heap.size + 1 := by omega
              have k2 : ¬ B = w.heap.size + 1 + 1 := by omega
              have k3 : ¬ T2 = w.heap.size + 1 := by omega
              have k4 : ¬ T2 = w.heap.size + 1 + 1 := by omega
              have hbw2 : Below w.heap.size w W2 := hbel.trans (hbW2.mono (by omega))
              clear hW2 hT2 hBV hbV v0 v1 v2 v3 z0 z1 z2 z3 p0 p1 pz0 pz1 pz2 hBw' e0 e1
              go_region_held3 (fun w' => w'.cell? ⟨B, 0, none⟩ = some (.int .i64 l') ∧ w'.cell? ⟨B, 1, none⟩ = some (.int .i64 c') ∧ w'.cell? ⟨T2, 0, none⟩ = some (.int .i64 tl) ∧ w'.cell? ⟨T2, 1, none⟩ = some (.int .i64 tc)) (go_split_ands <;> first | assumption | (simp [go_sem]; done) | (simp [go_sem, *]; done) | (simp [go_sem]; omega)) (fail)
              go_wp2
              have HAJ' := HAJ.out
              have HAT' := HAT.out
              simp only [atPlc, Prod.mk.injEq] at HAJ' HAT'
              refine bodyPost_ret (v := encV ((((l' : Int), (c' : Int)), ((tl : Int), (tc : Int))), true)) (by simp [results, Try.results50, go_sem, n4, n5, n6, n7]) rfl ⟨by rw [HRj.out]; simp only [encR, HAJ'.1.1, HAJ'.1.2, HAT'.1.1, HAT'.1.2], by (repeat (first | with_reducible exact hbw2 | (with_reducible refine below_ovr_le ?_ ?_ _; rotate_left; · (first | omega | (simp; done) | (simp; omega))) | (with_reducible refine Below.alloc ?_ ?_ _; rotate_left; · (first | omega | (simp; done) | (simp; omega))) | (with_reducible refine Below.setCell ?_ ?_ _; rotate_left; · (first | omega | (simp; done) | (simp; omega))) | with_reducible refine drew_below ?_ _ | with_reducible refine Below.drew ?_))⟩
            · have HS2 := Lib.hid ((encF_more (B := flat L) (o := o) (s := s) (n := m) (q := i0) (j := j) hbo hT h2 h3).symm.trans HS.out)
              have hm3 : 2 ≤ m := by omega
              have hm4 : (m - 1 == 0) = false := beq_eq_false_iff_ne.2 (by omega)
              clear h1 h2 h3 hbt HPc HPi hko hkj HO hT hbo hls htl htc s1 s2 s3 htt
              go_wp2
              (refine wp_region_ovr (by kernel_rfl) (by kernel_rfl) ?_; (repeat (go_big_quiet_step (fail))); refine wpQuiet_nil ?_; rintro _ ⟨zq, rfl⟩)
              go_wp2_with fail
              go_at_call 110; refine (HOO.out _ (by (repeat (first | assumption | refine LinesAt.ovr ?_ _ | refine LinesAt.alloc ?_ _ | refine LinesAt.drewN ?_ _ | refine LinesAt.drew ?_)))).mono ?_; rw [HT.out, optP, HAT.out]; rintro e w1 ⟨rfl, hbl⟩; obtain ⟨x1, rfl⟩ := ovr_of_below hbl; clear hbl
              go_wp2_with fail
              go_at_call 95; refine (less_any _ _ _ _ _).mono ?_; rw [HLT.out]; rintro e w1 ⟨rfl, hbl⟩; obtain ⟨x3, rfl⟩ := ovr_of_below hbl; clear hbl
              go_wp2_with fail
              go_at_call 114; refine (next_back _ _ L l' c' _ (by (repeat (first | assumption | refine LinesAt.ovr ?_ _ | refine LinesAt.alloc ?_ _ | refine LinesAt.drewN ?_ _ | refine LinesAt.drew ?_))) hl' (Nat.le_of_lt HIDC.out)).mono ?_; rw [HIDI.out, HN2.out]; rintro e w1 ⟨rfl, hbl⟩; obtain ⟨x2, rfl⟩ := ovr_of_below hbl; clear hbl
              go_wp2
              go_roundg j
              case measure => omega
              case rel =>
                refine ⟨by (repeat (first | with_reducible exact hbV | (with_reducible refine below_ovr_le ?_ ?_ _; rotate_left; · (first | omega | (simp; done) | (simp; omega))) | (with_reducible refine Below.alloc ?_ ?_ _; rotate_left; · (first | omega | (simp; done) | (simp; omega))) | (with_reducible refine Below.setCell ?_ ?_ _; rotate_left; · (first | omega | (simp; done) | (simp; omega))) | with_reducible refine drew_below ?_ _ | with_reducible refine Below.drew ?_)), by simp; omega, by simp [go_sem, e0, hBV], by simp [go_sem, e1, hBV], m - 1, by go_num, by omega, by omega, m1, m2, by simp [go_sem, p0, hBV], by simp [go_sem, p1, hBV], ?_⟩
                rcases prv_ways L j (by have h1 := HIL.out; have h2 := HI.out; omega) with ⟨hj2, l2, c2, HN, hl2, HP2⟩ | ⟨hj2, HN⟩
                · have e := HN.out.symm.trans HN2.out
                  simp only [Prod.mk.injEq] at e
                  obtain ⟨⟨rfl, rfl⟩, rfl⟩ := e
                  left
                  exact ⟨rfl, l2, c2, j - 1, rfl, rfl, hl2, by omega, by omega, HP2, by rw [show j - 1 + 1 = j from by omega]; exact HS2⟩
                · have e := HN.out.symm.trans HN2.out
                  simp only [Prod.mk.injEq] at e
                  obtain ⟨⟨rfl, rfl⟩, rfl⟩ := e
                  right
                  exact ⟨rfl, Lib.hid (by rw [← HS2.out, hj2, encF_end])⟩
      · have t1' : (cc != o) = true := by rw [bne_iff_ne]; exact h1
        have HS2 := Lib.hid ((encF_no (B := flat L) (o := o) (s := s) (n := m) (q := i0) (j := j) (by rw [hbt]; exact h1)).symm.trans HS.out)
        clear h1 hbt HPc HPi
        go_wp2
        (refine wp_region_ovr (by kernel_rfl) (by kernel_rfl) ?_; (repeat (go_big_quiet_step (fail))); refine wpQuiet_nil ?_; rintro _ ⟨zq, rfl⟩)
        go_wp2_with fail
        go_at_call 114; refine (next_back _ _ L l' c' _ (by (repeat (first | assumption | refine LinesAt.ovr ?_ _ | refine LinesAt.alloc ?_ _ | refine LinesAt.drewN ?_ _ | refine LinesAt.drew ?_))) hl' (Nat.le_of_lt HIDC.out)).mono ?_; rw [HIDI.out, HN2.out]; rintro e w1 ⟨rfl, hbl⟩; obtain ⟨x2, rfl⟩ := ovr_of_below hbl; clear hbl
        go_wp2
        go_roundg j
        case measure => omega
        case rel =>
          refine ⟨by (repeat (first | with_reducible exact hbV | (with_reducible refine below_ovr_le ?_ ?_ _; rotate_left; · (first | omega | (simp; done) | (simp; omega))) | (with_reducible refine Below.alloc ?_ ?_ _; rotate_left; · (first | omega | (simp; done) | (simp; omega))) | (with_reducible refine Below.setCell ?_ ?_ _; rotate_left; · (first | omega | (simp; done) | (simp; omega))) | with_reducible refine drew_below ?_ _ | with_reducible refine Below.drew ?_)), by simp; omega, by simp [go_sem, e0, hBV], by simp [go_sem, e1, hBV], m, by go_num, by omega, by omega, m1, m2, by simp [go_sem, p0, hBV], by simp [go_sem, p1, hBV], ?_⟩
          rcases prv_ways L j (by have h1 := HIL.out; have h2 := HI.out; omega) with ⟨hj2, l2, c2, HN, hl2, HP2⟩ | ⟨hj2, HN⟩
          · have e := HN.out.symm.trans HN2.out
            simp only [Prod.mk.injEq] at e
            obtain ⟨⟨rfl, rfl⟩, rfl⟩ := e
            left
            exact ⟨rfl, l2, c2, j - 1, rfl, rfl, hl2, by omega, by omega, HP2, by rw [show j - 1 + 1 = j from by omega]; exact HS2⟩
          · have e := HN.out.symm.trans HN2.out
            simp only [Prod.mk.injEq] at e
            obtain ⟨⟨rfl, rfl⟩, rfl⟩ := e
            right
            exact ⟨rfl, Lib.hid (by rw [← HS2.out, hj2, encF_end])⟩
    · have v0 : wr.cell? ⟨w.heap.size + 1, 0, none⟩ = some (.int .i64 0) := (hbV.cell (p := ⟨w.heap.size + 1, 0, none⟩) (by simp; omega)).trans r0
      have v1 : wr.cell? ⟨w.heap.size + 1, 1, none⟩ = some (.int .i64 0) := (hbV.cell (p := ⟨w.heap.size + 1, 1, none⟩) (by simp; omega)).trans r1
      have v2 : wr.cell? ⟨w.heap.size + 1 + 1, 0, none⟩ = some (.int .i64 0) := (hbV.cell (p := ⟨w.heap.size + 1 + 1, 0, none⟩) (by simp; omega)).trans t0
      have v3 : wr.cell? ⟨w.heap.size + 1 + 1, 1, none⟩ = some (.int .i64 0) := (hbV.cell (p := ⟨w.heap.size + 1 + 1, 1, none⟩) (by simp; omega)).trans t1
      have z0 : wr.frozen? ⟨w.heap.size + 1, 0, none⟩ = false := (hbV.frozen (p := ⟨w.heap.size + 1, 0, none⟩) (by simp; omega)).trans fr0
      have z1 : wr.frozen? ⟨w.heap.size + 1, 1, none⟩ = false := (hbV.frozen (p := ⟨w.heap.size + 1, 1, none⟩) (by simp; omega)).trans fr1
      have z2 : wr.frozen? ⟨w.heap.size + 1 + 1, 0, none⟩ = false := (hbV.frozen (p := ⟨w.heap.size + 1 + 1, 0, none⟩) (by simp; omega)).trans ft0
      have z3 : wr.frozen? ⟨w.heap.size + 1 + 1, 1, none⟩ = false := (hbV.frozen (p := ⟨w.heap.size + 1 + 1, 1, none⟩) (by simp; omega)).trans ft1
      go_wp2
      refine bodyPost_ret (v := encV noEnc) (by simp [results, Try.results50, go_sem, noEnc, v0, v1, v2, v3]) rfl ⟨by rw [HRn.out]; rfl, by (repeat (first | with_reducible exact Below.refl _ _ | (with_reducible refine Below.setCell ?_ ?_ _; rotate_left; · (first | exact Nat.le_refl _ | assumption | omega | (simp; done) | (simp; omega))) | (with_reducible refine Below.alloc ?_ ?_ _; rotate_left; · (first | exact Nat.le_refl _ | assumption | omega | (simp; done) | (simp; omega))) | with_reducible refine below_ovr_of ?_ | with_reducible refine drew_below ?_ _ | with_reducible refine Below.drew ?_ | with_reducible assumption))⟩
end Go.Proofs.Ytlbbgocggifjaaa
namespace Go.Proofs.Ytlbbgocggifjaaa
open Go.RowKit

set_option maxRecDepth 100000 in
set_option maxHeartbeats 4000000 in
theorem encl_edge (a : Option Addr) (cap : Nat) (L : List ByteArray) (l c : Nat) (o n : Int) (w : World) (hL : LinesAt w a L) (htot : total L ≤ 1000000) (hl : l < L.length) (hc : c = (L.getD l .empty).size) (hn1 : 1 ≤ n) (hn2 : n ≤ 9223372036854775807)
    (s : Int) (hk : Hid (kindP o = (o, s, true, true))) :
    Calls Try.prog 50 #[.slice a L.length cap, .agg #[.int .i64 l, .int .i64 c], .int .u8 o, .int .i64 n] w fun e w' => e = .returned (encV (encR L (encF (flat L) o s (idx L l c) n (idx L l c)))) ∧ Below w.heap.size w w' := by
  have hn := hL.2.1
  obtain ⟨R, hR⟩ : ∃ R, encF (flat L) o s (idx L l c) n (idx L l c) = R := ⟨_, rfl⟩
  rw [hR]
  have HR := Lib.hid hR
  have hp : plcB L l c = true := by simp only [plcB, Int.toNat_natCast, decide_eq_true_eq]; omega
  obtain ⟨b, off, u, rfl, hb, hcell, hu, HU⟩ := line_facts' hL hl
  have hcu : c = u.size := by have := hc; rw [HU.out] at this; exact this
  have hcI : (u.size : Int) ≤ (c : Int) := by omega
  have hlI : (l : Int) < (L.length : Int) := by omega
  have hl0 : (0 : Int) ≤ (l : Int) := by omega
  have HC := Lib.hid (Nat.le_of_eq hc)
  obtain ⟨i0, hi0⟩ : ∃ i0, idx L l c = i0 := ⟨_, rfl⟩
  rw [hi0] at HR
  have HI := Lib.hid hi0
  have HIL := Lib.hid (idx_le hl HC.out)
  obtain ⟨⟨⟨e1, e2⟩, ok1⟩, hn1'⟩ : ∃ r, prvP L i0 = r := ⟨_, rfl⟩
  have HN1 := Lib.hid hn1'
  have hcN : decide (c < u.size) = false := decide_eq_false (by omega)
  clear hR hc hi0 hn1' hcu
  go_enter Try.func50, Try.ntmps50
  go_wp2_with (first | (go_at_call 48; refine (kind_ways _ _ hk).mono ?_; rintro e w1 ⟨rfl, rfl⟩) | (go_at_call 109; refine (place_any _ _ L _ _ _ (by (repeat (first | assumption | refine LinesAt.ovr ?_ _ | refine LinesAt.alloc ?_ _ | refine LinesAt.drewN ?_ _ | refine LinesAt.drew ?_)))).mono ?_; rintro e w1 ⟨rfl, hbl⟩; obtain ⟨x, rfl⟩ := ovr_of_below hbl; clear hbl))
  go_region_held3 (fun w' => w.heap.size < w'.heap.size ∧ b < w'.heap.size ∧ w'.cell? ⟨w.heap.size, 0, none⟩ = some (.int .i64 l) ∧ w'.cell? ⟨w.heap.size, 1, none⟩ = some (.int .i64 c) ∧ w'.cell? ⟨b, off + l, none⟩ = some (.string u)) (go_split_ands <;> first | assumption | (simp [go_sem]; done) | (simp [go_sem, *]; done) | (simp [go_sem]; omega)) (fail)
  go_wp2_with fail
  go_at_call 114; refine (next_back _ _ L l c _ (by (repeat (first | assumption | refine LinesAt.ovr ?_ _ | refine LinesAt.alloc ?_ _ | refine LinesAt.drewN ?_ _ | refine LinesAt.drew ?_))) hl HC.out).mono ?_; rw [HI.out, HN1.out]; rintro e w1 ⟨rfl, hbl⟩; obtain ⟨x9, rfl⟩ := ovr_of_below hbl; clear hbl
  go_wp2
  refine name_ptr4 15 rfl ?_
  intro B hB
  rw [← hB]
  refine name_world ?_
  intro W0 hW
  have q0 : W0.cell? ⟨w.heap.size, 0, none⟩ = some (.int .i64 l) := by subst hW hB; simp [go_sem]
  have q1 : W0.cell? ⟨w.heap.size, 1, none⟩ = some (.int .i64 c) := by subst hW hB; simp [go_sem]
  have r0 : W0.cell? ⟨w.heap.size + 1, 0, none⟩ = some (.int .i64 0) := by subst hW hB; simp [go_sem]
  have r1 : W0.cell? ⟨w.heap.size + 1, 1, none⟩ = some (.int .i64 0) := by subst hW hB; simp [go_sem]
  have t0 : W0.cell? ⟨w.heap.size + 1 + 1, 0, none⟩ = some (.int .i64 0) := by subst hW hB; simp [go_sem]
  have t1 : W0.cell? ⟨w.heap.size + 1 + 1, 1, none⟩ = some (.int .i64 0) := by subst hW hB; simp [go_sem]
  have fr0 : W0.frozen? ⟨w.heap.size + 1, 0, none⟩ = false := by subst hW hB; simp [go_sem]
  have fr1 : W0.frozen? ⟨w.heap.size + 1, 1, none⟩ = false := by subst hW hB; simp [go_sem]
  have ft0 : W0.frozen? ⟨w.heap.size + 1 + 1, 0, none⟩ = false := by subst hW hB; simp [go_sem]
  have ft1 : W0.frozen? ⟨w.heap.size + 1 + 1, 1, none⟩ = false := by subst hW hB; simp [go_sem]
  have b0 : W0.cell? ⟨B, 0, none⟩ = some (.int .i64 e1) := by subst hW hB; simp [go_sem]
  have b1 : W0.cell? ⟨B, 1, none⟩ = some (.int .i64 e2) := by subst hW hB; simp [go_sem]
  have g0 : W0.frozen? ⟨B, 0, none⟩ = false := by subst hW hB; simp [go_sem]
  have g1 : W0.frozen? ⟨B, 1, none⟩ = false := by subst hW hB; simp [go_sem]
  have hbel : Below w.heap.size w W0 := by rw [hW]; (repeat (first | with_reducible exact Below.refl _ _ | (with_reducible refine Below.setCell ?_ ?_ _; rotate_left; · (first | exact Nat.le_refl _ | assumption | omega | (simp; done) | (simp; omega))) | (with_reducible refine Below.alloc ?_ ?_ _; rotate_left; · (first | exact Nat.le_refl _ | assumption | omega | (simp; done) | (simp; omega))) | with_reducible refine below_ovr_of ?_ | with_reducible refine drew_below ?_ _ | with_reducible refine Below.drew ?_ | with_reducible assumption))
  have hBw : w.heap.size + 1 + 1 < B := by omega
  have hszW := hbel.size
  clear hW hB
  go_loopg [3, 16] i0 (fun g nn k wr => Below B W0 wr ∧ B < wr.heap.size ∧ wr.frozen? ⟨B, 0, none⟩ = false ∧ wr.frozen? ⟨B, 1, none⟩ = false ∧ ∃ m : Int, nn = .int .i64 m ∧ 1 ≤ m ∧ m ≤ n ∧ ∃ x y : Int, wr.cell? ⟨B, 0, none⟩ = some (.int .i64 x) ∧ wr.cell? ⟨B, 1, none⟩ = some (.int .i64 y) ∧
    ((k = .bool true ∧ ∃ (l' c' j : Nat), x = l' ∧ y = c' ∧ l' < L.length ∧ j ≤ i0 ∧ g = j + 1 ∧ Hid (c' < (L.getD l' .empty).size ∧ idx L l' c' = j) ∧ Hid (encF (flat L) o s i0 m (j + 1) = R)) ∨
     (k = .bool false ∧ Hid (R = none))))
  case atStart =>
    refine ⟨Below.refl _ _, cell_lt4 b0, g0, g1, n, rfl, hn1, Int.le_refl _, e1, e2, b0, b1, ?_⟩
    rcases prv_ways L i0 (by have h1 := HIL.out; have h2 := HI.out; omega) with ⟨hj2, l2, c2, HN, hl2, HP2⟩ | ⟨hj2, HN⟩
    · have e := HN.out.symm.trans HN1.out
      simp only [Prod.mk.injEq] at e
      obtain ⟨⟨rfl, rfl⟩, rfl⟩ := e
      left
      exact ⟨rfl, l2, c2, i0 - 1, rfl, rfl, hl2, by omega, by omega, HP2, by rw [show i0 - 1 + 1 = i0 from by omega]; exact HR⟩
    · have e := HN.out.symm.trans HN1.out
      simp only [Prod.mk.injEq] at e
      obtain ⟨⟨rfl, rfl⟩, rfl⟩ := e
      right
      exact ⟨rfl, Lib.hid (by rw [← HR.out, hj2, encF_end])⟩
  case round =>
    obtain ⟨hbV, hBV, e0, e1, m, rfl, hm1, hm2, x, y, p0, p1, h⟩ := hrel
    have hbw : Below w.heap.size w wr := hbel.trans (hbV.mono (by omega))
    have hLV : LinesAt wr (some ⟨b, off, none⟩) L := hL.below hbw (Nat.le_refl _)
    rcases h with ⟨rfl, l', c', j, rfl, rfl, hl', hj, rfl, HP, HS⟩ | ⟨rfl, HRn⟩
    · have hBw' : b < wr.heap.size := by omega
      have pz0 : wr.cell? ⟨w.heap.size, 0, none⟩ = some (.int .i64 l) := (hbV.cell (p := ⟨w.heap.size, 0, none⟩) (by simp; omega)).trans q0
      have pz1 : wr.cell? ⟨w.heap.size, 1, none⟩ = some (.int .i64 c) := (hbV.cell (p := ⟨w.heap.size, 1, none⟩) (by simp; omega)).trans q1
      have pz2 : w.heap.size < wr.heap.size := by omega
      obtain ⟨b', off', s', e, hb', hcell', hs', HU'⟩ := line_facts' hLV hl'
      cases e
      obtain ⟨HPc, HPi⟩ := HP.out
      have HPc' := HPc
      rw [HU'.out] at HPc'
      have hcI' : (c' : Int) < (s'.size : Int) := by omega
      have hlI' : (l' : Int) < (L.length : Int) := by omega
      have hl0' : (0 : Int) ≤ (l' : Int) := by omega
      have hc0' : (0 : Int) ≤ (c' : Int) := by omega
      have hbt := flat_byte hl' HU'.out HPc'
      rw [HPi] at hbt
      obtain ⟨cc, hcc⟩ : ∃ cc : Int, (s'[c'].toNat : Int) = cc := ⟨_, rfl⟩
      rw [hcc] at hbt
      obtain ⟨⟨⟨m1, m2⟩, ok2⟩, hn2⟩ : ∃ r, prvP L j = r := ⟨_, rfl⟩
      have HN2 := Lib.hid hn2
      clear hn2
      have HIDC := Lib.hid HPc
      have HIDI := Lib.hid HPi
      by_cases h1 : cc = o
      · have t1' : (cc != o) = false := by rw [bne_eq_false_iff_eq]; exact h1
        have hko : kindP (btI (flat L) j) = (o, s, true, true) := by rw [hbt, h1]; exact hk.out
        have hkj := hko
        rw [← HPi] at hkj
        have HO := fun (w0 : World) (h : LinesAt w0 (some ⟨b, off, none⟩) L) => other_any (some ⟨b, off, none⟩) cap L l' c' w0 h hl' HPc htot (by rw [hkj])
        rw [HPi, otherP_open hko] at HO
        have HOO := Lib.hid HO
        obtain ⟨T, hT⟩ : ∃ T, scanF (flat L) o s 1 (j + 1) = T := ⟨_, rfl⟩
        have HT := Lib.hid hT
        have hbo : btI (flat L) j = o := by rw [hbt]; exact h1
        cases T with
        | none =>
          have HS2 := Lib.hid ((encF_none (B := flat L) (o := o) (s := s) (n := m) (q := i0) (j := j) hbo hT).symm.trans HS.out)
          clear h1 hbt HPc HPi hko hkj HO hT hbo
          go_wp2
          (refine wp_region_ovr (by kernel_rfl) (by kernel_rfl) ?_; (repeat (go_big_quiet_step (fail))); refine wpQuiet_nil ?_; rintro _ ⟨zq, rfl⟩)
          go_wp2_with fail
          go_at_call 110; refine (HOO.out _ (by (repeat (first | assumption | refine LinesAt.ovr ?_ _ | refine LinesAt.alloc ?_ _ | refine LinesAt.drewN ?_ _ | refine LinesAt.drew ?_)))).mono ?_; rw [HT.out, optP, noPlc]; rintro e w1 ⟨rfl, hbl⟩; obtain ⟨x1, rfl⟩ := ovr_of_below hbl; clear hbl
          go_wp2_with fail
          go_at_call 114; refine (next_back _ _ L l' c' _ (by (repeat (first | assumption | refine LinesAt.ovr ?_ _ | refine LinesAt.alloc ?_ _ | refine LinesAt.drewN ?_ _ | refine LinesAt.drew ?_))) hl' (Nat.le_of_lt HIDC.out)).mono ?_; rw [HIDI.out, HN2.out]; rintro e w1 ⟨rfl, hbl⟩; obtain ⟨x2, rfl⟩ := ovr_of_below hbl; clear hbl
          go_wp2
          go_roundg j
          case measure => omega
          case rel =>
            refine ⟨by (repeat (first | with_reducible exact hbV | (with_reducible refine below_ovr_le ?_ ?_ _; rotate_left; · (first | omega | (simp; done) | (simp; omega))) | (with_reducible refine Below.alloc ?_ ?_ _; rotate_left; · (first | omega | (simp; done) | (simp; omega))) | (with_reducible refine Below.setCell ?_ ?_ _; rotate_left; · (first | omega | (simp; done) | (simp; omega))) | with_reducible refine drew_below ?_ _ | with_reducible refine Below.drew ?_)), by simp; omega, by simp [go_sem, e0, hBV], by simp [go_sem, e1, hBV], m, by go_num, by omega, by omega, m1, m2, by simp [go_sem, p0, hBV], by simp [go_sem, p1, hBV], ?_⟩
            rcases prv_ways L j (by have h1 := HIL.out; have h2 := HI.out; omega) with ⟨hj2, l2, c2, HN, hl2, HP2⟩ | ⟨hj2, HN⟩
            · have e := HN.out.symm.trans HN2.out
              simp only [Prod.mk.injEq] at e
              obtain ⟨⟨rfl, rfl⟩, rfl⟩ := e
              left
              exact ⟨rfl, l2, c2, j - 1, rfl, rfl, hl2, by omega, by omega, HP2, by rw [show j - 1 + 1 = j from by omega]; exact HS2⟩
            · have e := HN.out.symm.trans HN2.out
              simp only [Prod.mk.injEq] at e
              obtain ⟨⟨rfl, rfl⟩, rfl⟩ := e
              right
              exact ⟨rfl, Lib.hid (by rw [← HS2.out, hj2, encF_end])⟩
        | some t =>
          have htt := scanF_spec (B := flat L) (o := o) (s := s) _ (j + 1) 1 rfl t hT
          rw [flat_length] at htt
          obtain ⟨s1, s2, s3⟩ := plcOf_spec htt.2
          obtain ⟨tl, htl⟩ : ∃ tl, (plcOf L t).1 = tl := ⟨_, rfl⟩
          obtain ⟨tc, htc⟩ : ∃ tc, (plcOf L t).2 = tc := ⟨_, rfl⟩
          rw [htl] at s1 s2 s3
          rw [htc] at s2 s3
          have HAT : Hid (atPlc L t = (((tl : Int), (tc : Int)), true)) := Lib.hid (by rw [atPlc, htl, htc])
          have hls := idx_less (L := L) s1 s2 hl HC.out
          rw [s3, HI.out] at hls
          by_cases h2 : t < i0
          · have HLT : Hid (lessB tl tc l c = true) := Lib.hid (by rw [hls]; exact decide_eq_true h2)
            have HS2 := Lib.hid ((encF_short (B := flat L) (o := o) (s := s) (n := m) (q := i0) (j := j) hbo hT h2).symm.trans HS.out)
            clear h1 h2 hbt HPc HPi hko hkj HO hT hbo hls htl htc s1 s2 s3 htt
            go_wp2
            (refine wp_region_ovr (by kernel_rfl) (by kernel_rfl) ?_; (repeat (go_big_quiet_step (fail))); refine wpQuiet_nil ?_; rintro _ ⟨zq, rfl⟩)
            go_wp2_with fail
            go_at_call 110; refine (HOO.out _ (by (repeat (first | assumption | refine LinesAt.ovr ?_ _ | refine LinesAt.alloc ?_ _ | refine LinesAt.drewN ?_ _ | refine LinesAt.drew ?_)))).mono ?_; rw [HT.out, optP, HAT.out]; rintro e w1 ⟨rfl, hbl⟩; obtain ⟨x1, rfl⟩ := ovr_of_below hbl; clear hbl
            go_wp2_with fail
            go_at_call 95; refine (less_any _ _ _ _ _).mono ?_; rw [HLT.out]; rintro e w1 ⟨rfl, hbl⟩; obtain ⟨x3, rfl⟩ := ovr_of_below hbl; clear hbl
            go_wp2_with fail
            go_at_call 114; refine (next_back _ _ L l' c' _ (by (repeat (first | assumption | refine LinesAt.ovr ?_ _ | refine LinesAt.alloc ?_ _ | refine LinesAt.drewN ?_ _ | refine LinesAt.drew ?_))) hl' (Nat.le_of_lt HIDC.out)).mono ?_; rw [HIDI.out, HN2.out]; rintro e w1 ⟨rfl, hbl⟩; obtain ⟨x2, rfl⟩ := ovr_of_below hbl; clear hbl
            go_wp2
            go_roundg j
            case measure => omega
            case rel =>
              refine ⟨by (repeat (first | with_reducible exact hbV | (with_reducible refine below_ovr_le ?_ ?_ _; rotate_left; · (first | omega | (simp; done) | (simp; omega))) | (with_reducible refine Below.alloc ?_ ?_ _; rotate_left; · (first | omega | (simp; done) | (simp; omega))) | (with_reducible refine Below.setCell ?_ ?_ _; rotate_left; · (first | omega | (simp; done) | (simp; omega))) | with_reducible refine drew_below ?_ _ | with_reducible refine Below.drew ?_)), by simp; omega, by simp [go_sem, e0, hBV], by simp [go_sem, e1, hBV], m, by go_num, by omega, by omega, m1, m2, by simp [go_sem, p0, hBV], by simp [go_sem, p1, hBV], ?_⟩
              rcases prv_ways L j (by have h1 := HIL.out; have h2 := HI.out; omega) with ⟨hj2, l2, c2, HN, hl2, HP2⟩ | ⟨hj2, HN⟩
              · have e := HN.out.symm.trans HN2.out
                simp only [Prod.mk.injEq] at e
                obtain ⟨⟨rfl, rfl⟩, rfl⟩ := e
                left
                exact ⟨rfl, l2, c2, j - 1, rfl, rfl, hl2, by omega, by omega, HP2, by rw [show j - 1 + 1 = j from by omega]; exact HS2⟩
              · have e := HN.out.symm.trans HN2.out
                simp only [Prod.mk.injEq] at e
                obtain ⟨⟨rfl, rfl⟩, rfl⟩ := e
                right
                exact ⟨rfl, Lib.hid (by rw [← HS2.out, hj2, encF_end])⟩
          · have HLT : Hid (lessB tl tc l c = false) := Lib.hid (by rw [hls]; exact decide_eq_false h2)
            by_cases h3 : m = 1
            · have HRj := Lib.hid (HS.out.symm.trans (encF_hit (B := flat L) (o := o) (s := s) (n := m) (q := i0) (j := j) hbo hT h2 h3))
              have HAJ := Lib.hid (atPlc_eq hl' HPc HPi)
              subst h3
              have v0 : wr.cell? ⟨w.heap.size + 1, 0, none⟩ = some (.int .i64 0) := (hbV.cell (p := ⟨w.heap.size + 1, 0, none⟩) (by simp; omega)).trans r0
              have v1 : wr.cell? ⟨w.heap.size + 1, 1, none⟩ = some (.int .i64 0) := (hbV.cell (p := ⟨w.heap.size + 1, 1, none⟩) (by simp; omega)).trans r1
              have v2 : wr.cell? ⟨w.heap.size + 1 + 1, 0, none⟩ = some (.int .i64 0) := (hbV.cell (p := ⟨w.heap.size + 1 + 1, 0, none⟩) (by simp; omega)).trans t0
              have v3 : wr.cell? ⟨w.heap.size + 1 + 1, 1, none⟩ = some (.int .i64 0) := (hbV.cell (p := ⟨w.heap.size + 1 + 1, 1, none⟩) (by simp; omega)).trans t1
              have z0 : wr.frozen? ⟨w.heap.size + 1, 0, none⟩ = false := (hbV.frozen (p := ⟨w.heap.size + 1, 0, none⟩) (by simp; omega)).trans fr0
              have z1 : wr.frozen? ⟨w.heap.size + 1, 1, none⟩ = false := (hbV.frozen (p := ⟨w.heap.size + 1, 1, none⟩) (by simp; omega)).trans fr1
              have z2 : wr.frozen? ⟨w.heap.size + 1 + 1, 0, none⟩ = false := (hbV.frozen (p := ⟨w.heap.size + 1 + 1, 0, none⟩) (by simp; omega)).trans ft0
              have z3 : wr.frozen? ⟨w.heap.size + 1 + 1, 1, none⟩ = false := (hbV.frozen (p := ⟨w.heap.size + 1 + 1, 1, none⟩) (by simp; omega)).trans ft1
              clear h2 hbt HPc HPi hko hkj HO hT hbo hls htl htc s1 s2 s3 htt
              go_wp2
              (refine wp_region_ovr (by kernel_rfl) (by kernel_rfl) ?_; (repeat (go_big_quiet_step (fail))); refine wpQuiet_nil ?_; rintro _ ⟨zq, rfl⟩)
              go_wp2_with fail
              go_at_call 110; refine (HOO.out _ (by (repeat (first | assumption | refine LinesAt.ovr ?_ _ | refine LinesAt.alloc ?_ _ | refine LinesAt.drewN ?_ _ | refine LinesAt.drew ?_)))).mono ?_; rw [HT.out, optP, HAT.out]; rintro e w1 ⟨rfl, hbl⟩; obtain ⟨x1, rfl⟩ := ovr_of_below hbl; clear hbl
              go_wp2_with fail
              go_at_call 95; refine (less_any _ _ _ _ _).mono ?_; rw [HLT.out]; rintro e w1 ⟨rfl, hbl⟩; obtain ⟨x3, rfl⟩ := ovr_of_below hbl; clear hbl
              go_wp2
              refine name_ptr4 17 rfl ?_
              intro T2 hT2
              rw [← hT2]
              refine name_world ?_
              intro W2 hW2
              have hbW2 : Below B W0 W2 := by
                rw [hW2]
                (repeat (first | with_reducible exact hbV | (with_reducible refine below_ovr_le ?_ ?_ _; rotate_left; · (first | omega | (simp; done) | (simp; omega))) | (with_reducible refine Below.alloc ?_ ?_ _; rotate_left; · (first | omega | (simp; done) | (simp; omega))) | (with_reducible refine Below.setCell ?_ ?_ _; rotate_left; · (first | omega | (simp; done) | (simp; omega))) | with_reducible refine drew_below ?_ _ | with_reducible refine Below.drew ?_))
              have n0 : W2.cell? ⟨B, 0, none⟩ = some (.int .i64 l') := by rw [hW2]; simp [go_sem, p0, hBV]
              have n1 : W2.cell? ⟨B, 1, none⟩ = some (.int .i64 c') := by rw [hW2]; simp [go_sem, p1, hBV]
              have n2 : W2.cell? ⟨T2, 0, none⟩ = some (.int .i64 tl) := by subst hT2; rw [hW2]; simp [go_sem]
              have n3 : W2.cell? ⟨T2, 1, none⟩ = some (.int .i64 tc) := by subst hT2; rw [hW2]; simp [go_sem]
              have n4 : W2.cell? ⟨w.heap.size + 1, 0, none⟩ = some (.int .i64 0) := (hbW2.cell (p := ⟨w.heap.size + 1, 0, none⟩) (by simp; omega)).trans r0
              have n5 : W2.cell? ⟨w.heap.size + 1, 1, none⟩ = some (.int .i64 0) := (hbW2.cell (p := ⟨w.heap.size + 1, 1, none⟩) (by simp; omega)).trans r1
              have n6 : W2.cell? ⟨w.heap.size + 1 + 1, 0, none⟩ = some (.int .i64 0) := (hbW2.cell (p := ⟨w.heap.size + 1 + 1, 0, none⟩) (by simp; omega)).trans t0
              have n7 : W2.cell? ⟨w.heap.size + 1 + 1, 1, none⟩ = some (.int .i64 0) := (hbW2.cell (p := ⟨w.heap.size + 1 + 1, 1, none⟩) (by simp; omega)).trans t1
              have n8 : W2.frozen? ⟨w.heap.size + 1, 0, none⟩ = false := (hbW2.frozen (p := ⟨w.heap.size + 1, 0, none⟩) (by simp; omega)).trans fr0
              have n9 : W2.frozen? ⟨w.heap.size + 1, 1, none⟩ = false := (hbW2.frozen (p := ⟨w.heap.size + 1, 1, none⟩) (by simp; omega)).trans fr1
              have n10 : W2.frozen? ⟨w.heap.size + 1 + 1, 0, none⟩ = false := (hbW2.frozen (p := ⟨w.heap.size + 1 + 1, 0, none⟩) (by simp; omega)).trans ft0
              have n11 : W2.frozen? ⟨w.heap.size + 1 + 1, 1, none⟩ = false := (hbW2.frozen (p := ⟨w.heap.size + 1 + 1, 1, none⟩) (by simp; omega)).trans ft1
              have hTB : B < T2 := by omega
              have k1 : ¬ B = w.heap.size + 1 := by omega
              have k2 : ¬ B = w.heap.size + 1 + 1 := by omega
              have k3 : ¬ T2 = w.heap.size + 1 := by omega
              have k4 : ¬ T2 = w.heap.size + 1 + 1 := by omega
              have hbw2 : Below w.heap.size w W2 := hbel.trans (hbW2.mono (by omega))
              clear hW2 hT2 hBV hbV v0 v1 v2 v3 z0 z1 z2 z3 p0 p1 pz0 pz1 pz2 hBw' e0 e1
              go_region_held3 (fun w' => w'.cell? ⟨B, 0, none⟩ = some (.int .i64 l') ∧ w'.cell? ⟨B, 1, none⟩ = some (.int .i64 c') ∧ w'.cell? ⟨T2, 0, none⟩ = some (.int .i64 tl) ∧ w'.cell? ⟨T2, 1, none⟩ = some (.int .i64 tc)) (go_split_ands <;> first | assumption | (simp [go_sem]; done) | (simp [go_sem, *]; done) | (simp [go_sem]; omega)) (fail)
              go_wp2
              have HAJ' := HAJ.out
              have HAT' := HAT.out
              simp only [atPlc, Prod.mk.injEq] at HAJ' HAT'
              refine bodyPost_ret (v := encV ((((l' : Int), (c' : Int)), ((tl : Int), (tc : Int))), true)) (by simp [results, Try.results50, go_sem, n4, n5, n6, n7]) rfl ⟨by rw [HRj.out]; simp only [encR, HAJ'.1.1, HAJ'.1.2, HAT'.1.1, HAT'.1.2], by (repeat (first | with_reducible exact hbw2 | (with_reducible refine below_ovr_le ?_ ?_ _; rotate_left; · (first | omega | (simp; done) | (simp; omega))) | (with_reducible refine Below.alloc ?_ ?_ _; rotate_left; · (first | omega | (simp; done) | (simp; omega))) | (with_reducible refine Below.setCell ?_ ?_ _; rotate_left; · (first | omega | (simp; done) | (simp; omega))) | with_reducible refine drew_below ?_ _ | with_reducible refine Below.drew ?_))⟩
            · have HS2 := Lib.hid ((encF_more (B := flat L) (o := o) (s := s) (n := m) (q := i0) (j := j) hbo hT h2 h3).symm.trans HS.out)
              have hm3 : 2 ≤ m := by omega
              have hm4 : (m - 1 == 0) = false := beq_eq_false_iff_ne.2 (by omega)
              clear h1 h2 h3 hbt HPc HPi hko hkj HO hT hbo hls htl htc s1 s2 s3 htt
              go_wp2
              (refine wp_region_ovr (by kernel_rfl) (by kernel_rfl) ?_; (repeat (go_big_quiet_step (fail))); refine wpQuiet_nil ?_; rintro _ ⟨zq, rfl⟩)
              go_wp2_with fail
              go_at_call 110; refine (HOO.out _ (by (repeat (first | assumption | refine LinesAt.ovr ?_ _ | refine LinesAt.alloc ?_ _ | refine LinesAt.drewN ?_ _ | refine LinesAt.drew ?_)))).mono ?_; rw [HT.out, optP, HAT.out]; rintro e w1 ⟨rfl, hbl⟩; obtain ⟨x1, rfl⟩ := ovr_of_below hbl; clear hbl
              go_wp2_with fail
              go_at_call 95; refine (less_any _ _ _ _ _).mono ?_; rw [HLT.out]; rintro e w1 ⟨rfl, hbl⟩; obtain ⟨x3, rfl⟩ := ovr_of_below hbl; clear hbl
              go_wp2_with fail
              go_at_call 114; refine (next_back _ _ L l' c' _ (by (repeat (first | assumption | refine LinesAt.ovr ?_ _ | refine LinesAt.alloc ?_ _ | refine LinesAt.drewN ?_ _ | refine LinesAt.drew ?_))) hl' (Nat.le_of_lt HIDC.out)).mono ?_; rw [HIDI.out, HN2.out]; rintro e w1 ⟨rfl, hbl⟩; obtain ⟨x2, rfl⟩ := ovr_of_below hbl; clear hbl
              go_wp2
              go_roundg j
              case measure => omega
              case rel =>
                refine ⟨by (repeat (first | with_reducible exact hbV | (with_reducible refine below_ovr_le ?_ ?_ _; rotate_left; · (first | omega | (simp; done) | (simp; omega))) | (with_reducible refine Below.alloc ?_ ?_ _; rotate_left; · (first | omega | (simp; done) | (simp; omega))) | (with_reducible refine Below.setCell ?_ ?_ _; rotate_left; · (first | omega | (simp; done) | (simp; omega))) | with_reducible refine drew_below ?_ _ | with_reducible refine Below.drew ?_)), by simp; omega, by simp [go_sem, e0, hBV], by simp [go_sem, e1, hBV], m - 1, by go_num, by omega, by omega, m1, m2, by simp [go_sem, p0, hBV], by simp [go_sem, p1, hBV], ?_⟩
                rcases prv_ways L j (by have h1 := HIL.out; have h2 := HI.out; omega) with ⟨hj2, l2, c2, HN, hl2, HP2⟩ | ⟨hj2, HN⟩
                · have e := HN.out.symm.trans HN2.out
                  simp only [Prod.mk.injEq] at e
                  obtain ⟨⟨rfl, rfl⟩, rfl⟩ := e
                  left
                  exact ⟨rfl, l2, c2, j - 1, rfl, rfl, hl2, by omega, by omega, HP2, by rw [show j - 1 + 1 = j from by omega]; exact HS2⟩
                · have e := HN.out.symm.trans HN2.out
                  simp only [Prod.mk.injEq] at e
                  obtain ⟨⟨rfl, rfl⟩, rfl⟩ := e
                  right
                  exact ⟨rfl, Lib.hid (by rw [← HS2.out, hj2, encF_end])⟩
      · have t1' : (cc != o) = true := by rw [bne_iff_ne]; exact h1
        have HS2 := Lib.hid ((encF_no (B := flat L) (o := o) (s := s) (n := m) (q := i0) (j := j) (by rw [hbt]; exact h1)).symm.trans HS.out)
        clear h1 hbt HPc HPi
        go_wp2
        (refine wp_region_ovr (by kernel_rfl) (by kernel_rfl) ?_; (repeat (go_big_quiet_step (fail))); refine wpQuiet_nil ?_; rintro _ ⟨zq, rfl⟩)
        go_wp2_with fail
        go_at_call 114; refine (next_back _ _ L l' c' _ (by (repeat (first | assumption | refine LinesAt.ovr ?_ _ | refine LinesAt.alloc ?_ _ | refine LinesAt.drewN ?_ _ | refine LinesAt.drew ?_))) hl' (Nat.le_of_lt HIDC.out)).mono ?_; rw [HIDI.out, HN2.out]; rintro e w1 ⟨rfl, hbl⟩; obtain ⟨x2, rfl⟩ := ovr_of_below hbl; clear hbl
        go_wp2
        go_roundg j
        case measure => omega
        case rel =>
          refine ⟨by (repeat (first | with_reducible exact hbV | (with_reducible refine below_ovr_le ?_ ?_ _; rotate_left; · (first | omega | (simp; done) | (simp; omega))) | (with_reducible refine Below.alloc ?_ ?_ _; rotate_left; · (first | omega | (simp; done) | (simp; omega))) | (with_reducible refine Below.setCell ?_ ?_ _; rotate_left; · (first | omega | (simp; done) | (simp; omega))) | with_reducible refine drew_below ?_ _ | with_reducible refine Below.drew ?_)), by simp; omega, by simp [go_sem, e0, hBV], by simp [go_sem, e1, hBV], m, by go_num, by omega, by omega, m1, m2, by simp [go_sem, p0, hBV], by simp [go_sem, p1, hBV], ?_⟩
          rcases prv_ways L j (by have h1 := HIL.out; have h2 := HI.out; omega) with ⟨hj2, l2, c2, HN, hl2, HP2⟩ | ⟨hj2, HN⟩
          · have e := HN.out.symm.trans HN2.out
            simp only [Prod.mk.injEq] at e
            obtain ⟨⟨rfl, rfl⟩, rfl⟩ := e
            left
            exact ⟨rfl, l2, c2, j - 1, rfl, rfl, hl2, by omega, by omega, HP2, by rw [show j - 1 + 1 = j from by omega]; exact HS2⟩
          · have e := HN.out.symm.trans HN2.out
            simp only [Prod.mk.injEq] at e
            obtain ⟨⟨rfl, rfl⟩, rfl⟩ := e
            right
            exact ⟨rfl, Lib.hid (by rw [← HS2.out, hj2, encF_end])⟩
    · have v0 : wr.cell? ⟨w.heap.size + 1, 0, none⟩ = some (.int .i64 0) := (hbV.cell (p := ⟨w.heap.size + 1, 0, none⟩) (by simp; omega)).trans r0
      have v1 : wr.cell? ⟨w.heap.size + 1, 1, none⟩ = some (.int .i64 0) := (hbV.cell (p := ⟨w.heap.size + 1, 1, none⟩) (by simp; omega)).trans r1
      have v2 : wr.cell? ⟨w.heap.size + 1 + 1, 0, none⟩ = some (.int .i64 0) := (hbV.cell (p := ⟨w.heap.size + 1 + 1, 0, none⟩) (by simp; omega)).trans t0
      have v3 : wr.cell? ⟨w.heap.size + 1 + 1, 1, none⟩ = some (.int .i64 0) := (hbV.cell (p := ⟨w.heap.size + 1 + 1, 1, none⟩) (by simp; omega)).trans t1
      have z0 : wr.frozen? ⟨w.heap.size + 1, 0, none⟩ = false := (hbV.frozen (p := ⟨w.heap.size + 1, 0, none⟩) (by simp; omega)).trans fr0
      have z1 : wr.frozen? ⟨w.heap.size + 1, 1, none⟩ = false := (hbV.frozen (p := ⟨w.heap.size + 1, 1, none⟩) (by simp; omega)).trans fr1
      have z2 : wr.frozen? ⟨w.heap.size + 1 + 1, 0, none⟩ = false := (hbV.frozen (p := ⟨w.heap.size + 1 + 1, 0, none⟩) (by simp; omega)).trans ft0
      have z3 : wr.frozen? ⟨w.heap.size + 1 + 1, 1, none⟩ = false := (hbV.frozen (p := ⟨w.heap.size + 1 + 1, 1, none⟩) (by simp; omega)).trans ft1
      go_wp2
      refine bodyPost_ret (v := encV noEnc) (by simp [results, Try.results50, go_sem, noEnc, v0, v1, v2, v3]) rfl ⟨by rw [HRn.out]; rfl, by (repeat (first | with_reducible exact Below.refl _ _ | (with_reducible refine Below.setCell ?_ ?_ _; rotate_left; · (first | exact Nat.le_refl _ | assumption | omega | (simp; done) | (simp; omega))) | (with_reducible refine Below.alloc ?_ ?_ _; rotate_left; · (first | exact Nat.le_refl _ | assumption | omega | (simp; done) | (simp; omega))) | with_reducible refine below_ovr_of ?_ | with_reducible refine drew_below ?_ _ | with_reducible refine Below.drew ?_ | with_reducible assumption))⟩
end Go.Proofs.Ytlbbgocggifjaaa
namespace Go.Proofs.Ytlbbgocggifjaaa
open Go.RowKit

theorem kind_opens {o : Int} (h : (kindP o).2.2.1 = true) : ∃ s, kindP o = (o, s, true, true) := by
  unfold kindP at h ⊢
  by_cases h1 : o = 40 ∨ o = 41
  · rw [if_pos h1] at h ⊢
    have e : o = 40 := by simpa using h
    subst e; exact ⟨41, rfl⟩
  · rw [if_neg h1] at h ⊢
    by_cases h2 : o = 91 ∨ o = 93
    · rw [if_pos h2] at h ⊢
      have e : o = 91 := by simpa using h
      subst e; exact ⟨93, rfl⟩
    · rw [if_neg h2] at h ⊢
      by_cases h3 : o = 123 ∨ o = 125
      · rw [if_pos h3] at h ⊢
        have e : o = 123 := by simpa using h
        subst e; exact ⟨125, rfl⟩
      · rw [if_neg h3] at h; simp at h
theorem encl_any (a : Option Addr) (cap : Nat) (L : List ByteArray) (pl pc o n : Int) (w : World) (hL : LinesAt w a L) (htot : total L ≤ 1000000) (hn2 : n ≤ 9223372036854775807) :
    Calls Try.prog 50 #[.slice a L.length cap, .agg #[.int .i64 pl, .int .i64 pc], .int .u8 o, .int .i64 n] w fun e w' => e = .returned (encV (enclP L pl pc o n)) ∧ Below w.heap.size w w' := by
  by_cases h : plcB L pl pc = true ∧ 1 ≤ n ∧ (kindP o).2.2.1 = true
  · obtain ⟨hp, hn1, hk⟩ := h
    obtain ⟨s, hks⟩ := kind_opens hk
    obtain ⟨p1, p2, p3, p4⟩ := plcB_spec hp
    obtain ⟨l, rfl⟩ := Int.eq_ofNat_of_zero_le p1
    obtain ⟨c, rfl⟩ := Int.eq_ofNat_of_zero_le p3
    have hl : l < L.length := by omega
    rw [Int.toNat_natCast] at p4
    by_cases hc : c < (L.getD l .empty).size
    · have := encl_byte a cap L l c o n w hL htot hl hc hn1 hn2 s (Lib.hid hks)
      rw [enclP, if_pos ⟨hp, hn1, hk⟩, hks, ln]
      simp only [Int.toNat_natCast]
      rw [if_pos (by omega)]
      exact this
    · have := encl_edge a cap L l c o n w hL htot hl (by omega) hn1 hn2 s (Lib.hid hks)
      rw [enclP, if_pos ⟨hp, hn1, hk⟩, hks, ln]
      simp only [Int.toNat_natCast]
      rw [if_neg (by omega)]
      exact this
  · exact encl_no a cap L pl pc o n w hL h
end Go.Proofs.Ytlbbgocggifjaaa
namespace Go.Proofs.Ytlbbgocggifjaaa
open Go.RowKit

/-- How far down a scan has come, in the whole text. -/
def lowN (a S : Nat) : Nat := if a ≤ S then a else S
theorem lowN_le {a S : Nat} (h : a ≤ S) : lowN a S = a := if_pos h
theorem lowN_ge {a S : Nat} (h : S ≤ a) : lowN a S = S := by unfold lowN; split <;> omega
theorem mono_take (L : List ByteArray) {a b : Nat} (h : a ≤ b) : total (L.take a) ≤ total (L.take b) := by
  have := total_take_le (L.take b) a
  rwa [List.take_take, Nat.min_eq_left h] at this
theorem idx_step (L : List ByteArray) (l i : Nat) : idx L l (i + 1) = idx L l i + 1 := by unfold idx; omega
/-- The place up to which a scan goes. -/
def encS (L : List ByteArray) (l c : Nat) : Nat := if c < (L.getD l .empty).size then idx L l c + 1 else idx L l c
theorem low_less {L : List ByteArray} {l c y i : Nat} (hl : l < L.length) (hy : y ≤ l) (hi : i < (L.getD y .empty).size) (h : lessB l c y i = true) : lowN (idx L y (i + 1)) (encS L l c) = lowN (idx L y i) (encS L l c) := by
  rw [lessB_eq, decide_eq_true_eq] at h
  have e : y = l := by omega
  subst e
  have hc : c < i := by omega
  have hS : encS L y c = idx L y c + 1 := by rw [encS, if_pos (by omega)]
  have h1 : idx L y c + 1 ≤ idx L y i := by unfold idx; omega
  rw [idx_step, hS, lowN_ge (by omega), lowN_ge (by omega)]
theorem low_more {L : List ByteArray} {l c y i : Nat} (hl : l < L.length) (hc : c ≤ (L.getD l .empty).size) (hy : y ≤ l) (hi : i < (L.getD y .empty).size) (h : lessB l c y i = false) : lowN (idx L y (i + 1)) (encS L l c) = idx L y i + 1 ∧ lowN (idx L y i) (encS L l c) = idx L y i ∧ idx L y i ≤ idx L l c := by
  rw [lessB_eq, decide_eq_false_iff_not] at h
  have hle : idx L y (i + 1) ≤ encS L l c := by
    by_cases e : y = l
    · subst e
      unfold encS idx
      split <;> omega
    · have h1 := idx_step L y i
      have h2 : idx L y (i + 1) ≤ total (L.take (y + 1)) := by
        have := total_snoc L y (by omega)
        unfold idx; omega
      have h3 := mono_take L (show y + 1 ≤ l by omega)
      unfold encS
      have h4 : total (L.take l) ≤ idx L l c := by unfold idx; omega
      split <;> omega
  have hq : idx L y i ≤ idx L l c := by
    by_cases e : y = l
    · subst e; unfold idx; omega
    · have h2 : idx L y (i + 1) ≤ total (L.take (y + 1)) := by
        have := total_snoc L y (by omega)
        unfold idx; omega
      have h3 := mono_take L (show y + 1 ≤ l by omega)
      have h1 := idx_step L y i
      have h4 : total (L.take l) ≤ idx L l c := by unfold idx; omega
      omega
  rw [idx_step] at hle ⊢
  exact ⟨lowN_le hle, lowN_le (by omega), hq⟩
theorem low_top {L : List ByteArray} {l c : Nat} (hl : l < L.length) (hc : c ≤ (L.getD l .empty).size) : lowN (idx L (l + 1) 0) (encS L l c) = encS L l c := by
  refine lowN_ge ?_
  rw [idx_succ hl]
  unfold encS idx
  split <;> omega

set_option maxHeartbeats 1000000 in
theorem rencl_no (a : Option Addr) (cap : Nat) (L : List ByteArray) (pl pc o n : Int) (w : World) (hL : LinesAt w a L) (h : ¬ (plcB L pl pc = true ∧ 1 ≤ n ∧ (kindP o).2.2.1 = true)) :
    Calls Try.prog 51 #[.slice a L.length cap, .agg #[.int .i64 pl, .int .i64 pc], .int .u8 o, .int .i64 n] w fun e w' => e = .returned (encV (enclP L pl pc o n)) ∧ Below w.heap.size w w' := by
  have HP := Lib.hid (enclP_no h)
  obtain ⟨⟨k1, k2, k3, k4⟩, hkk⟩ : ∃ r, kindP o = r := ⟨_, rfl⟩
  rw [hkk] at h
  have HK := Lib.hid hkk
  clear hkk
  rcases may_ways L pl pc n with ⟨HQ, hq⟩ | ⟨HQ, hq1, hq2⟩
  · clear h hq
    go_enter Try.func51, Try.ntmps51
    go_wp2_with (first | (go_at_call 49; refine (rkind_ways _ _ HK).mono ?_; rintro e w1 ⟨rfl, rfl⟩) | (go_at_call 111; refine (rmay_any _ _ L _ _ _ _ (by (repeat (first | assumption | refine LinesAt.ovr ?_ _ | refine LinesAt.alloc ?_ _ | refine LinesAt.drewN ?_ _ | refine LinesAt.drew ?_)))).mono ?_; rw [HQ.out]; rintro e w1 ⟨rfl, hbl⟩; obtain ⟨x, rfl⟩ := ovr_of_below hbl; clear hbl))
    refine bodyPost_ret (v := encV noEnc) (by simp [results, Try.results51, go_sem, noEnc]) rfl ⟨by rw [HP.out], by (repeat (first | with_reducible exact Below.refl _ _ | (with_reducible refine Below.setCell ?_ ?_ _; rotate_left; · (first | exact Nat.le_refl _ | assumption | omega | (simp; done) | (simp; omega))) | (with_reducible refine Below.alloc ?_ ?_ _; rotate_left; · (first | exact Nat.le_refl _ | assumption | omega | (simp; done) | (simp; omega))) | with_reducible refine below_ovr_of ?_ | with_reducible refine drew_below ?_ _ | with_reducible refine Below.drew ?_ | with_reducible assumption))⟩
  · cases k3 with
    | true => exact absurd ⟨hq1, hq2, rfl⟩ h
    | false =>
      clear h hq1
      go_enter Try.func51, Try.ntmps51
      go_wp2_with (first | (go_at_call 49; refine (rkind_ways _ _ HK).mono ?_; rintro e w1 ⟨rfl, rfl⟩) | (go_at_call 111; refine (rmay_any _ _ L _ _ _ _ (by (repeat (first | assumption | refine LinesAt.ovr ?_ _ | refine LinesAt.alloc ?_ _ | refine LinesAt.drewN ?_ _ | refine LinesAt.drew ?_)))).mono ?_; rw [HQ.out]; rintro e w1 ⟨rfl, hbl⟩; obtain ⟨x, rfl⟩ := ovr_of_below hbl; clear hbl))
      refine bodyPost_ret (v := encV noEnc) (by simp [results, Try.results51, go_sem, noEnc]) rfl ⟨by rw [HP.out], by (repeat (first | with_reducible exact Below.refl _ _ | (with_reducible refine Below.setCell ?_ ?_ _; rotate_left; · (first | exact Nat.le_refl _ | assumption | omega | (simp; done) | (simp; omega))) | (with_reducible refine Below.alloc ?_ ?_ _; rotate_left; · (first | exact Nat.le_refl _ | assumption | omega | (simp; done) | (simp; omega))) | with_reducible refine below_ovr_of ?_ | with_reducible refine drew_below ?_ _ | with_reducible refine Below.drew ?_ | with_reducible assumption))⟩
end Go.Proofs.Ytlbbgocggifjaaa
namespace Go.Proofs.Ytlbbgocggifjaaa
open Go.RowKit

set_option maxRecDepth 100000 in
set_option maxHeartbeats 4000000 in
theorem rencl_yes (a : Option Addr) (cap : Nat) (L : List ByteArray) (l c : Nat) (o n : Int) (w : World) (hL : LinesAt w a L) (htot : total L ≤ 1000000) (hl : l < L.length) (hc : c ≤ (L.getD l .empty).size) (hn1 : 1 ≤ n) (hn2 : n ≤ 9223372036854775807)
    (s : Int) (hk : Hid (kindP o = (o, s, true, true))) :
    Calls Try.prog 51 #[.slice a L.length cap, .agg #[.int .i64 l, .int .i64 c], .int .u8 o, .int .i64 n] w fun e w' => e = .returned (encV (encR L (encF (flat L) o s (idx L l c) n (encS L l c)))) ∧ Below w.heap.size w w' := by
  have hn := hL.2.1
  obtain ⟨i0, hi0⟩ : ∃ i0, idx L l c = i0 := ⟨_, rfl⟩
  have HI := Lib.hid hi0
  obtain ⟨S, hS⟩ : ∃ S, encS L l c = S := ⟨_, rfl⟩
  obtain ⟨R, hR⟩ : ∃ R, encF (flat L) o s (idx L l c) n (encS L l c) = R := ⟨_, rfl⟩
  rw [hR]
  rw [hi0, hS] at hR
  have HR := Lib.hid hR
  have HS := Lib.hid hS
  have HC := Lib.hid hc
  have hp : plcB L l c = true := plcB_nat hl hc
  have HQ : Hid ((plcB L l c && decide ((1 : Int) ≤ n)) = true) := Lib.hid (by rw [hp]; simpa using hn1)
  clear hR hS hc hi0 hp
  go_enter Try.func51, Try.ntmps51
  go_wp2_with (first | (go_at_call 49; refine (rkind_ways _ _ hk).mono ?_; rintro e w1 ⟨rfl, rfl⟩) | (go_at_call 111; refine (rmay_any _ _ L _ _ _ _ (by (repeat (first | assumption | refine LinesAt.ovr ?_ _ | refine LinesAt.alloc ?_ _ | refine LinesAt.drewN ?_ _ | refine LinesAt.drew ?_)))).mono ?_; rw [HQ.out]; rintro e w1 ⟨rfl, hbl⟩; obtain ⟨x, rfl⟩ := ovr_of_below hbl; clear hbl))
  refine name_world ?_
  intro W0 hW
  have q0 : W0.cell? ⟨w.heap.size, 0, none⟩ = some (.int .i64 l) := by rw [hW]; simp [go_sem]
  have q1 : W0.cell? ⟨w.heap.size, 1, none⟩ = some (.int .i64 c) := by rw [hW]; simp [go_sem]
  have r0 : W0.cell? ⟨w.heap.size + 1, 0, none⟩ = some (.int .i64 0) := by rw [hW]; simp [go_sem]
  have r1 : W0.cell? ⟨w.heap.size + 1, 1, none⟩ = some (.int .i64 0) := by rw [hW]; simp [go_sem]
  have t0 : W0.cell? ⟨w.heap.size + 1 + 1, 0, none⟩ = some (.int .i64 0) := by rw [hW]; simp [go_sem]
  have t1 : W0.cell? ⟨w.heap.size + 1 + 1, 1, none⟩ = some (.int .i64 0) := by rw [hW]; simp [go_sem]
  have fr0 : W0.frozen? ⟨w.heap.size + 1, 0, none⟩ = false := by rw [hW]; simp [go_sem]
  have fr1 : W0.frozen? ⟨w.heap.size + 1, 1, none⟩ = false := by rw [hW]; simp [go_sem]
  have ft0 : W0.frozen? ⟨w.heap.size + 1 + 1, 0, none⟩ = false := by rw [hW]; simp [go_sem]
  have ft1 : W0.frozen? ⟨w.heap.size + 1 + 1, 1, none⟩ = false := by rw [hW]; simp [go_sem]
  have hL0 : LinesAt W0 a L := by rw [hW]; (repeat (first | assumption | refine LinesAt.ovr ?_ _ | refine LinesAt.alloc ?_ _ | refine LinesAt.drewN ?_ _ | refine LinesAt.drew ?_))
  have hbel : Below w.heap.size w W0 := by rw [hW]; (repeat (first | with_reducible exact Below.refl _ _ | (with_reducible refine Below.setCell ?_ ?_ _; rotate_left; · (first | exact Nat.le_refl _ | assumption | omega | (simp; done) | (simp; omega))) | (with_reducible refine Below.alloc ?_ ?_ _; rotate_left; · (first | exact Nat.le_refl _ | assumption | omega | (simp; done) | (simp; omega))) | with_reducible refine below_ovr_of ?_ | with_reducible refine drew_below ?_ _ | with_reducible refine Below.drew ?_ | with_reducible assumption))
  have hsz : w.heap.size + 1 + 1 < W0.heap.size := by rw [hW]; simp; omega
  have hsz1 : w.heap.size + 1 < W0.heap.size := by omega
  have hsz0 : w.heap.size < W0.heap.size := by omega
  clear hW
  go_loopw [3, 15] (fun nn y wr => ∃ m : Int, nn = .int .i64 m ∧ 1 ≤ m ∧ m ≤ n ∧ ∃ k : Nat, k ≤ l + 1 ∧ y = .int .i64 ((k : Int) - 1) ∧ Hid (encF (flat L) o s i0 m (lowN (idx L k 0) S) = R) ∧ Below W0.heap.size W0 wr) (fun _ y _ => (intOf y + 1).toNat)
  case atStart =>
    refine ⟨n, rfl, hn1, Int.le_refl _, l + 1, Nat.le_refl _, by go_num, Lib.hid ?_, Below.refl _ _⟩
    rw [← HS.out, low_top hl HC.out, HS.out]; exact HR.out
  case round =>
    obtain ⟨m, rfl, hm1, hm2, k, hk1, rfl, HK, hbr⟩ := hrel
    have q0r : wr.cell? ⟨w.heap.size, 0, none⟩ = some (.int .i64 l) := (hbr.cell (p := ⟨w.heap.size, 0, none⟩) (by simp; omega)).trans q0
    have q1r : wr.cell? ⟨w.heap.size, 1, none⟩ = some (.int .i64 c) := (hbr.cell (p := ⟨w.heap.size, 1, none⟩) (by simp; omega)).trans q1
    have v0 : wr.cell? ⟨w.heap.size + 1, 0, none⟩ = some (.int .i64 0) := (hbr.cell (p := ⟨w.heap.size + 1, 0, none⟩) (by simp; omega)).trans r0
    have v1 : wr.cell? ⟨w.heap.size + 1, 1, none⟩ = some (.int .i64 0) := (hbr.cell (p := ⟨w.heap.size + 1, 1, none⟩) (by simp; omega)).trans r1
    have v2 : wr.cell? ⟨w.heap.size + 1 + 1, 0, none⟩ = some (.int .i64 0) := (hbr.cell (p := ⟨w.heap.size + 1 + 1, 0, none⟩) (by simp; omega)).trans t0
    have v3 : wr.cell? ⟨w.heap.size + 1 + 1, 1, none⟩ = some (.int .i64 0) := (hbr.cell (p := ⟨w.heap.size + 1 + 1, 1, none⟩) (by simp; omega)).trans t1
    have z0 : wr.frozen? ⟨w.heap.size + 1, 0, none⟩ = false := (hbr.frozen (p := ⟨w.heap.size + 1, 0, none⟩) (by simp; omega)).trans fr0
    have z1 : wr.frozen? ⟨w.heap.size + 1, 1, none⟩ = false := (hbr.frozen (p := ⟨w.heap.size + 1, 1, none⟩) (by simp; omega)).trans fr1
    have z2 : wr.frozen? ⟨w.heap.size + 1 + 1, 0, none⟩ = false := (hbr.frozen (p := ⟨w.heap.size + 1 + 1, 0, none⟩) (by simp; omega)).trans ft0
    have z3 : wr.frozen? ⟨w.heap.size + 1 + 1, 1, none⟩ = false := (hbr.frozen (p := ⟨w.heap.size + 1 + 1, 1, none⟩) (by simp; omega)).trans ft1
    have hbs := hbr.size
    have zs0 : w.heap.size < wr.heap.size := by have := hbr.size; omega
    have zs1 : w.heap.size + 1 < wr.heap.size := by have := hbr.size; omega
    have zs2 : w.heap.size + 1 + 1 < wr.heap.size := by have := hbr.size; omega
    have hLr : LinesAt wr a L := hL0.below hbr (Nat.le_refl _)
    have hbwr : Below w.heap.size w wr := hbel.trans (hbr.mono (by omega))
    by_cases hk0 : k = 0
    · subst hk0
      have HN : Hid (R = none) := Lib.hid (by rw [← HK.out, lowN_le (by simp [idx, total]), show idx L 0 0 = 0 from by simp [idx, total]]; exact encF_end)
      go_wp2
      refine bodyPost_ret (v := encV noEnc) (by simp [results, Try.results51, go_sem, noEnc, v0, v1, v2, v3]) rfl ⟨by rw [HN.out]; rfl, by (repeat (first | with_reducible exact hbwr | (with_reducible refine below_ovr_le ?_ ?_ _; rotate_left; · (first | omega | (simp; done) | (simp; omega))) | (with_reducible refine Below.alloc ?_ ?_ _; rotate_left; · (first | omega | (simp; done) | (simp; omega))) | (with_reducible refine Below.setCell ?_ ?_ _; rotate_left; · (first | omega | (simp; done) | (simp; omega))) | with_reducible refine drew_below ?_ _ | with_reducible refine Below.drew ?_))⟩
    · obtain ⟨y, rfl⟩ : ∃ y, k = y + 1 := ⟨k - 1, by omega⟩
      have hy : y < L.length := by omega
      have ey : ((y + 1 : Nat) : Int) - 1 = (y : Int) := by omega
      rw [ey]
      have hyI : (y : Int) < (L.length : Int) := by omega
      have hy0 : (0 : Int) ≤ (y : Int) := by omega
      obtain ⟨b, off, u, rfl, hb, hcell, hu, HU⟩ := line_facts' hLr hy
      have HK2 : Hid (encF (flat L) o s i0 m (lowN (idx L y u.size) S) = R) := Lib.hid (by rw [← HU.out, ← idx_succ hy]; exact HK.out)
      clear HK ey
      go_wp2
      go_loopw [3, 16] (fun nn i wr => ∃ m : Int, nn = .int .i64 m ∧ 1 ≤ m ∧ m ≤ n ∧ ∃ k : Nat, k ≤ u.size ∧ i = .int .i64 ((k : Int) - 1) ∧ Hid (encF (flat L) o s i0 m (lowN (idx L y k) S) = R) ∧ Below W0.heap.size W0 wr) (fun _ i _ => (intOf i + 1).toNat)
      case atStart => exact ⟨m, rfl, hm1, hm2, u.size, Nat.le_refl _, by go_num, HK2, hbr⟩
      case round =>
        clear hbs hbr hLr hcell hb q0r q1r v0 v1 v2 v3 z0 z1 z2 z3 zs0 zs1 zs2 hbwr hm1 hm2
        obtain ⟨m, rfl, hm1, hm2, k, hk2, rfl, HK, hbr⟩ := hrel
        have q0r : wr.cell? ⟨w.heap.size, 0, none⟩ = some (.int .i64 l) := (hbr.cell (p := ⟨w.heap.size, 0, none⟩) (by simp; omega)).trans q0
        have q1r : wr.cell? ⟨w.heap.size, 1, none⟩ = some (.int .i64 c) := (hbr.cell (p := ⟨w.heap.size, 1, none⟩) (by simp; omega)).trans q1
        have v0 : wr.cell? ⟨w.heap.size + 1, 0, none⟩ = some (.int .i64 0) := (hbr.cell (p := ⟨w.heap.size + 1, 0, none⟩) (by simp; omega)).trans r0
        have v1 : wr.cell? ⟨w.heap.size + 1, 1, none⟩ = some (.int .i64 0) := (hbr.cell (p := ⟨w.heap.size + 1, 1, none⟩) (by simp; omega)).trans r1
        have v2 : wr.cell? ⟨w.heap.size + 1 + 1, 0, none⟩ = some (.int .i64 0) := (hbr.cell (p := ⟨w.heap.size + 1 + 1, 0, none⟩) (by simp; omega)).trans t0
        have v3 : wr.cell? ⟨w.heap.size + 1 + 1, 1, none⟩ = some (.int .i64 0) := (hbr.cell (p := ⟨w.heap.size + 1 + 1, 1, none⟩) (by simp; omega)).trans t1
        have z0 : wr.frozen? ⟨w.heap.size + 1, 0, none⟩ = false := (hbr.frozen (p := ⟨w.heap.size + 1, 0, none⟩) (by simp; omega)).trans fr0
        have z1 : wr.frozen? ⟨w.heap.size + 1, 1, none⟩ = false := (hbr.frozen (p := ⟨w.heap.size + 1, 1, none⟩) (by simp; omega)).trans fr1
        have z2 : wr.frozen? ⟨w.heap.size + 1 + 1, 0, none⟩ = false := (hbr.frozen (p := ⟨w.heap.size + 1 + 1, 0, none⟩) (by simp; omega)).trans ft0
        have z3 : wr.frozen? ⟨w.heap.size + 1 + 1, 1, none⟩ = false := (hbr.frozen (p := ⟨w.heap.size + 1 + 1, 1, none⟩) (by simp; omega)).trans ft1
        have hbs := hbr.size
        have zs0 : w.heap.size < wr.heap.size := by have := hbr.size; omega
        have zs1 : w.heap.size + 1 < wr.heap.size := by have := hbr.size; omega
        have zs2 : w.heap.size + 1 + 1 < wr.heap.size := by have := hbr.size; omega
        have hLr : LinesAt wr (some ⟨b, off, none⟩) L := hL0.below hbr (Nat.le_refl _)
        have hbwr : Below w.heap.size w wr := hbel.trans (hbr.mono (by omega))
        obtain ⟨b', off', u', e, hb, hcell, hu', HU'⟩ := line_facts' hLr hy
        cases e
        have eu := HU.out.symm.trans HU'.out
        subst eu
        by_cases hk0 : k = 0
        · subst hk0
          go_wp2
          go_roundw
          case rel => exact ⟨m, rfl, hm1, hm2, y, by omega, by go_num, HK, hbr⟩
          case measure => first | (simp [intOf]; done) | (simp [intOf]; omega)
        · obtain ⟨i, rfl⟩ : ∃ i, k = i + 1 := ⟨k - 1, by omega⟩
          have hi : i < u.size := by omega
          have ei : ((i + 1 : Nat) : Int) - 1 = (i : Int) := by omega
          rw [ei]
          have hiI : (i : Int) < (u.size : Int) := by omega
          have hi0 : (0 : Int) ≤ (i : Int) := by omega
          have hiL : i < (L.getD y .empty).size := by rw [HU.out]; exact hi
          have hbt := flat_byte hy HU.out hi
          obtain ⟨j, hj⟩ : ∃ j, idx L y i = j := ⟨_, rfl⟩
          rw [hj] at hbt
          obtain ⟨cc, hcc⟩ : ∃ cc : Int, (u[i].toNat : Int) = cc := ⟨_, rfl⟩
          rw [hcc] at hbt
          cases hls : lessB l c y i with
          | true =>
            have HLS := Lib.hid hls
            have HS2 : Hid (encF (flat L) o s i0 m (lowN (idx L y i) S) = R) := Lib.hid (by rw [← HS.out, ← low_less hl (by omega) hiL hls, HS.out]; exact HK.out)
            by_cases h1 : cc = o
            · have t1' : (cc != o) = false := by rw [bne_eq_false_iff_eq]; exact h1
              clear h1 hls hbt hj hiL
              go_wp2_with fail
              go_at_call 72; refine (rless_any _ _ _ _ _).mono ?_; rw [HLS.out]; rintro e w1 ⟨rfl, hbl⟩; obtain ⟨x1, rfl⟩ := ovr_of_below hbl; clear hbl
              go_wp2
              go_roundw
              case rel => exact ⟨m, by go_num, by omega, by omega, i, by omega, by go_num, HS2, by (repeat (first | with_reducible exact hbr | (with_reducible refine below_ovr_le ?_ ?_ _; rotate_left; · (first | omega | (simp; done) | (simp; omega))) | (with_reducible refine Below.alloc ?_ ?_ _; rotate_left; · (first | omega | (simp; done) | (simp; omega))) | (with_reducible refine Below.setCell ?_ ?_ _; rotate_left; · (first | omega | (simp; done) | (simp; omega))) | with_reducible refine drew_below ?_ _ | with_reducible refine Below.drew ?_))⟩
              case measure => first | (simp [intOf]; done) | (simp [intOf]; omega)
            · have t1' : (cc != o) = true := by rw [bne_iff_ne]; exact h1
              clear h1 hls hbt hj hiL
              go_wp2
              go_roundw
              case rel => exact ⟨m, by go_num, by omega, by omega, i, by omega, by go_num, HS2, by (repeat (first | with_reducible exact hbr | (with_reducible refine below_ovr_le ?_ ?_ _; rotate_left; · (first | omega | (simp; done) | (simp; omega))) | (with_reducible refine Below.alloc ?_ ?_ _; rotate_left; · (first | omega | (simp; done) | (simp; omega))) | (with_reducible refine Below.setCell ?_ ?_ _; rotate_left; · (first | omega | (simp; done) | (simp; omega))) | with_reducible refine drew_below ?_ _ | with_reducible refine Below.drew ?_))⟩
              case measure => first | (simp [intOf]; done) | (simp [intOf]; omega)
          | false =>
            have HLS := Lib.hid hls
            obtain ⟨g1, g2, g3⟩ := low_more hl HC.out (by omega) hiL hls
            rw [HS.out, hj] at g1 g2
            rw [hj, HI.out] at g3
            have HK3 : Hid (encF (flat L) o s i0 m (j + 1) = R) := Lib.hid (by rw [← g1]; exact HK.out)
            by_cases h1 : cc = o
            · have t1' : (cc != o) = false := by rw [bne_eq_false_iff_eq]; exact h1
              have hko : kindP (btI (flat L) j) = (o, s, true, true) := by rw [hbt, h1]; exact hk.out
              have hkj := hko
              rw [← hj] at hkj
              have HO := fun (w0 : World) (h : LinesAt w0 (some ⟨b, off, none⟩) L) => rother_any (some ⟨b, off, none⟩) cap L y i w0 h hy hiL htot (by rw [hkj])
              rw [hj, otherP_open hko] at HO
              have HOO := Lib.hid HO
              obtain ⟨T, hT⟩ : ∃ T, scanF (flat L) o s 1 (j + 1) = T := ⟨_, rfl⟩
              have HT := Lib.hid hT
              have hbo : btI (flat L) j = o := by rw [hbt]; exact h1
              have HJ := Lib.hid hj
              cases T with
              | none =>
                have HS2 : Hid (encF (flat L) o s i0 m (lowN (idx L y i) S) = R) := Lib.hid (by rw [hj, g2]; exact (encF_none hbo hT).symm.trans HK3.out)
                clear h1 hls hbt hj hiL g1 g2 g3 hko hkj HO hT hbo
                go_wp2_with fail
                go_at_call 72; refine (rless_any _ _ _ _ _).mono ?_; rw [HLS.out]; rintro e w1 ⟨rfl, hbl⟩; obtain ⟨x1, rfl⟩ := ovr_of_below hbl; clear hbl
                go_wp2_with fail
                go_at_call 113; refine (HOO.out _ (by (repeat (first | assumption | refine LinesAt.ovr ?_ _ | refine LinesAt.alloc ?_ _ | refine LinesAt.drewN ?_ _ | refine LinesAt.drew ?_)))).mono ?_; rw [HT.out, optP, noPlc]; rintro e w1 ⟨rfl, hbl⟩; obtain ⟨x2, rfl⟩ := ovr_of_below hbl; clear hbl
                go_wp2
                go_roundw
                case rel => exact ⟨m, by go_num, by omega, by omega, i, by omega, by go_num, HS2, by (repeat (first | with_reducible exact hbr | (with_reducible refine below_ovr_le ?_ ?_ _; rotate_left; · (first | omega | (simp; done) | (simp; omega))) | (with_reducible refine Below.alloc ?_ ?_ _; rotate_left; · (first | omega | (simp; done) | (simp; omega))) | (with_reducible refine Below.setCell ?_ ?_ _; rotate_left; · (first | omega | (simp; done) | (simp; omega))) | with_reducible refine drew_below ?_ _ | with_reducible refine Below.drew ?_))⟩
                case measure => first | (simp [intOf]; done) | (simp [intOf]; omega)
              | some t =>
                have htt := scanF_spec (B := flat L) (o := o) (s := s) _ (j + 1) 1 rfl t hT
                rw [flat_length] at htt
                obtain ⟨s1, s2, s3⟩ := plcOf_spec htt.2
                obtain ⟨tl, htl⟩ : ∃ tl, (plcOf L t).1 = tl := ⟨_, rfl⟩
                obtain ⟨tc, htc⟩ : ∃ tc, (plcOf L t).2 = tc := ⟨_, rfl⟩
                rw [htl] at s1 s2 s3
                rw [htc] at s2 s3
                have HAT : Hid (atPlc L t = (((tl : Int), (tc : Int)), true)) := Lib.hid (by rw [atPlc, htl, htc])
                have hls2 := idx_less (L := L) s1 s2 hl HC.out
                rw [s3, HI.out] at hls2
                by_cases h2 : t < i0
                · have HLT : Hid (lessB tl tc l c = true) := Lib.hid (by rw [hls2]; exact decide_eq_true h2)
                  have HS2 : Hid (encF (flat L) o s i0 m (lowN (idx L y i) S) = R) := Lib.hid (by rw [hj, g2]; exact (encF_short hbo hT h2).symm.trans HK3.out)
                  clear h1 h2 hls hbt hj hiL g1 g2 g3 hko hkj HO hT hbo htt s1 s2 s3 htl htc hls2
                  go_wp2_with fail
                  go_at_call 72; refine (rless_any _ _ _ _ _).mono ?_; rw [HLS.out]; rintro e w1 ⟨rfl, hbl⟩; obtain ⟨x1, rfl⟩ := ovr_of_below hbl; clear hbl
                  go_wp2_with fail
                  go_at_call 113; refine (HOO.out _ (by (repeat (first | assumption | refine LinesAt.ovr ?_ _ | refine LinesAt.alloc ?_ _ | refine LinesAt.drewN ?_ _ | refine LinesAt.drew ?_)))).mono ?_; rw [HT.out, optP, HAT.out]; rintro e w1 ⟨rfl, hbl⟩; obtain ⟨x2, rfl⟩ := ovr_of_below hbl; clear hbl
                  go_wp2_with fail
                  go_at_call 72; refine (rless_any _ _ _ _ _).mono ?_; rw [HLT.out]; rintro e w1 ⟨rfl, hbl⟩; obtain ⟨x3, rfl⟩ := ovr_of_below hbl; clear hbl
                  go_wp2
                  go_roundw
                  case rel => exact ⟨m, by go_num, by omega, by omega, i, by omega, by go_num, HS2, by (repeat (first | with_reducible exact hbr | (with_reducible refine below_ovr_le ?_ ?_ _; rotate_left; · (first | omega | (simp; done) | (simp; omega))) | (with_reducible refine Below.alloc ?_ ?_ _; rotate_left; · (first | omega | (simp; done) | (simp; omega))) | (with_reducible refine Below.setCell ?_ ?_ _; rotate_left; · (first | omega | (simp; done) | (simp; omega))) | with_reducible refine drew_below ?_ _ | with_reducible refine Below.drew ?_))⟩
                  case measure => first | (simp [intOf]; done) | (simp [intOf]; omega)
                · have HLT : Hid (lessB tl tc l c = false) := Lib.hid (by rw [hls2]; exact decide_eq_false h2)
                  by_cases h3 : m = 1
                  · have HRj := Lib.hid (HK3.out.symm.trans (encF_hit hbo hT h2 h3))
                    have HAJ := Lib.hid (atPlc_eq hy hiL hj)
                    subst h3
                    clear h2 hls hbt hj hiL g1 g2 g3 hko hkj HO hT hbo htt s1 s2 s3 htl htc hls2
                    go_wp2_with fail
                    go_at_call 72; refine (rless_any _ _ _ _ _).mono ?_; rw [HLS.out]; rintro e w1 ⟨rfl, hbl⟩; obtain ⟨x1, rfl⟩ := ovr_of_below hbl; clear hbl
                    go_wp2_with fail
                    go_at_call 113; refine (HOO.out _ (by (repeat (first | assumption | refine LinesAt.ovr ?_ _ | refine LinesAt.alloc ?_ _ | refine LinesAt.drewN ?_ _ | refine LinesAt.drew ?_)))).mono ?_; rw [HT.out, optP, HAT.out]; rintro e w1 ⟨rfl, hbl⟩; obtain ⟨x2, rfl⟩ := ovr_of_below hbl; clear hbl
                    go_wp2_with fail
                    go_at_call 72; refine (rless_any _ _ _ _ _).mono ?_; rw [HLT.out]; rintro e w1 ⟨rfl, hbl⟩; obtain ⟨x3, rfl⟩ := ovr_of_below hbl; clear hbl
                    go_wp2
                    refine name_ptr4 17 rfl ?_
                    intro T1 hT1
                    rw [← hT1]
                    refine name_ptr4 18 rfl ?_
                    intro T2 hT2
                    rw [← hT2]
                    refine name_world ?_
                    intro W2 hW2
                    have hbW2 : Below W0.heap.size W0 W2 := by
                      rw [hW2]
                      (repeat (first | with_reducible exact hbr | (with_reducible refine below_ovr_le ?_ ?_ _; rotate_left; · (first | omega | (simp; done) | (simp; omega))) | (with_reducible refine Below.alloc ?_ ?_ _; rotate_left; · (first | omega | (simp; done) | (simp; omega))) | (with_reducible refine Below.setCell ?_ ?_ _; rotate_left; · (first | omega | (simp; done) | (simp; omega))) | with_reducible refine drew_below ?_ _ | with_reducible refine Below.drew ?_))
                    have n0 : W2.cell? ⟨T1, 0, none⟩ = some (.int .i64 y) := by subst hT1; rw [hW2]; simp [go_sem]
                    have n1 : W2.cell? ⟨T1, 1, none⟩ = some (.int .i64 i) := by subst hT1; rw [hW2]; simp [go_sem]
                    have n2 : W2.cell? ⟨T2, 0, none⟩ = some (.int .i64 tl) := by rw [hT2, hT1, hW2]; simp [go_sem]
                    have n3 : W2.cell? ⟨T2, 1, none⟩ = some (.int .i64 tc) := by rw [hT2, hT1, hW2]; simp [go_sem]
                    have n4 : W2.cell? ⟨w.heap.size + 1, 0, none⟩ = some (.int .i64 0) := (hbW2.cell (p := ⟨w.heap.size + 1, 0, none⟩) (by simp; omega)).trans r0
                    have n5 : W2.cell? ⟨w.heap.size + 1, 1, none⟩ = some (.int .i64 0) := (hbW2.cell (p := ⟨w.heap.size + 1, 1, none⟩) (by simp; omega)).trans r1
                    have n6 : W2.cell? ⟨w.heap.size + 1 + 1, 0, none⟩ = some (.int .i64 0) := (hbW2.cell (p := ⟨w.heap.size + 1 + 1, 0, none⟩) (by simp; omega)).trans t0
                    have n7 : W2.cell? ⟨w.heap.size + 1 + 1, 1, none⟩ = some (.int .i64 0) := (hbW2.cell (p := ⟨w.heap.size + 1 + 1, 1, none⟩) (by simp; omega)).trans t1
                    have n8 : W2.frozen? ⟨w.heap.size + 1, 0, none⟩ = false := (hbW2.frozen (p := ⟨w.heap.size + 1, 0, none⟩) (by simp; omega)).trans fr0
                    have n9 : W2.frozen? ⟨w.heap.size + 1, 1, none⟩ = false := (hbW2.frozen (p := ⟨w.heap.size + 1, 1, none⟩) (by simp; omega)).trans fr1
                    have n10 : W2.frozen? ⟨w.heap.size + 1 + 1, 0, none⟩ = false := (hbW2.frozen (p := ⟨w.heap.size + 1 + 1, 0, none⟩) (by simp; omega)).trans ft0
                    have n11 : W2.frozen? ⟨w.heap.size + 1 + 1, 1, none⟩ = false := (hbW2.frozen (p := ⟨w.heap.size + 1 + 1, 1, none⟩) (by simp; omega)).trans ft1
                    have k1 : ¬ T1 = w.heap.size + 1 := by omega
                    have k2 : ¬ T1 = w.heap.size + 1 + 1 := by omega
                    have k3 : ¬ T2 = w.heap.size + 1 := by omega
                    have k4 : ¬ T2 = w.heap.size + 1 + 1 := by omega
                    have hbw2 : Below w.heap.size w W2 := hbel.trans (hbW2.mono (by omega))
                    clear hW2 hT1 hT2 hbr hbs v0 v1 v2 v3 z0 z1 z2 z3 q0r q1r zs0 zs1 zs2
                    go_region_held3 (fun w' => w'.cell? ⟨T1, 0, none⟩ = some (.int .i64 y) ∧ w'.cell? ⟨T1, 1, none⟩ = some (.int .i64 i) ∧ w'.cell? ⟨T2, 0, none⟩ = some (.int .i64 tl) ∧ w'.cell? ⟨T2, 1, none⟩ = some (.int .i64 tc)) (go_split_ands <;> first | assumption | (simp [go_sem]; done) | (simp [go_sem, *]; done) | (simp [go_sem]; omega)) (fail)
                    go_wp2
                    have HAJ' := HAJ.out
                    have HAT' := HAT.out
                    simp only [atPlc, Prod.mk.injEq] at HAJ' HAT'
                    refine bodyPost_ret (v := encV ((((y : Int), (i : Int)), ((tl : Int), (tc : Int))), true)) (by simp [results, Try.results51, go_sem, n4, n5, n6, n7]) rfl ⟨by rw [HRj.out]; simp only [encR, HAJ'.1.1, HAJ'.1.2, HAT'.1.1, HAT'.1.2], by (repeat (first | with_reducible exact hbw2 | (with_reducible refine below_ovr_le ?_ ?_ _; rotate_left; · (first | omega | (simp; done) | (simp; omega))) | (with_reducible refine Below.alloc ?_ ?_ _; rotate_left; · (first | omega | (simp; done) | (simp; omega))) | (with_reducible refine Below.setCell ?_ ?_ _; rotate_left; · (first | omega | (simp; done) | (simp; omega))) | with_reducible refine drew_below ?_ _ | with_reducible refine Below.drew ?_))⟩
                  · have HS2 : Hid (encF (flat L) o s i0 (m - 1) (lowN (idx L y i) S) = R) := Lib.hid (by rw [hj, g2]; exact (encF_more hbo hT h2 h3).symm.trans HK3.out)
                    have hm3 : 2 ≤ m := by omega
                    have hm4 : (m - 1 == 0) = false := beq_eq_false_iff_ne.2 (by omega)
                    clear h1 h2 h3 hls hbt hj hiL g1 g2 g3 hko hkj HO hT hbo htt s1 s2 s3 htl htc hls2
                    go_wp2_with fail
                    go_at_call 72; refine (rless_any _ _ _ _ _).mono ?_; rw [HLS.out]; rintro e w1 ⟨rfl, hbl⟩; obtain ⟨x1, rfl⟩ := ovr_of_below hbl; clear hbl
                    go_wp2_with fail
                    go_at_call 113; refine (HOO.out _ (by (repeat (first | assumption | refine LinesAt.ovr ?_ _ | refine LinesAt.alloc ?_ _ | refine LinesAt.drewN ?_ _ | refine LinesAt.drew ?_)))).mono ?_; rw [HT.out, optP, HAT.out]; rintro e w1 ⟨rfl, hbl⟩; obtain ⟨x2, rfl⟩ := ovr_of_below hbl; clear hbl
                    go_wp2_with fail
                    go_at_call 72; refine (rless_any _ _ _ _ _).mono ?_; rw [HLT.out]; rintro e w1 ⟨rfl, hbl⟩; obtain ⟨x3, rfl⟩ := ovr_of_below hbl; clear hbl
                    go_wp2
                    go_roundw
                    case rel => exact ⟨m - 1, by go_num, by omega, by omega, i, by omega, by go_num, HS2, by (repeat (first | with_reducible exact hbr | (with_reducible refine below_ovr_le ?_ ?_ _; rotate_left; · (first | omega | (simp; done) | (simp; omega))) | (with_reducible refine Below.alloc ?_ ?_ _; rotate_left; · (first | omega | (simp; done) | (simp; omega))) | (with_reducible refine Below.setCell ?_ ?_ _; rotate_left; · (first | omega | (simp; done) | (simp; omega))) | with_reducible refine drew_below ?_ _ | with_reducible refine Below.drew ?_))⟩
                    case measure => first | (simp [intOf]; done) | (simp [intOf]; omega)
            · have t1' : (cc != o) = true := by rw [bne_iff_ne]; exact h1
              have HS2 : Hid (encF (flat L) o s i0 m (lowN (idx L y i) S) = R) := Lib.hid (by rw [hj, g2]; exact (encF_no (by rw [hbt]; exact h1)).symm.trans HK3.out)
              clear h1 hls hbt hj hiL g1 g2 g3
              go_wp2
              go_roundw
              case rel => exact ⟨m, by go_num, by omega, by omega, i, by omega, by go_num, HS2, by (repeat (first | with_reducible exact hbr | (with_reducible refine below_ovr_le ?_ ?_ _; rotate_left; · (first | omega | (simp; done) | (simp; omega))) | (with_reducible refine Below.alloc ?_ ?_ _; rotate_left; · (first | omega | (simp; done) | (simp; omega))) | (with_reducible refine Below.setCell ?_ ?_ _; rotate_left; · (first | omega | (simp; done) | (simp; omega))) | with_reducible refine drew_below ?_ _ | with_reducible refine Below.drew ?_))⟩
              case measure => first | (simp [intOf]; done) | (simp [intOf]; omega)
end Go.Proofs.Ytlbbgocggifjaaa
namespace Go.Proofs.Ytlbbgocggifjaaa
open Go.RowKit

theorem rencl_any (a : Option Addr) (cap : Nat) (L : List ByteArray) (pl pc o n : Int) (w : World) (hL : LinesAt w a L) (htot : total L ≤ 1000000) (hn2 : n ≤ 9223372036854775807) :
    Calls Try.prog 51 #[.slice a L.length cap, .agg #[.int .i64 pl, .int .i64 pc], .int .u8 o, .int .i64 n] w fun e w' => e = .returned (encV (enclP L pl pc o n)) ∧ Below w.heap.size w w' := by
  by_cases h : plcB L pl pc = true ∧ 1 ≤ n ∧ (kindP o).2.2.1 = true
  · obtain ⟨hp, hn1, hk⟩ := h
    obtain ⟨s, hks⟩ := kind_opens hk
    obtain ⟨p1, p2, p3, p4⟩ := plcB_spec hp
    obtain ⟨l, rfl⟩ := Int.eq_ofNat_of_zero_le p1
    obtain ⟨c, rfl⟩ := Int.eq_ofNat_of_zero_le p3
    have hl : l < L.length := by omega
    rw [Int.toNat_natCast] at p4
    have := rencl_yes a cap L l c o n w hL htot hl (by omega) hn1 hn2 s (Lib.hid hks)
    rw [enclP, if_pos ⟨hp, hn1, hk⟩, hks, ln]
    simp only [Int.toNat_natCast]
    have e : (if (c : Int) < ((L.getD l .empty).size : Int) then idx L l c + 1 else idx L l c) = encS L l c := by
      unfold encS
      by_cases h1 : c < (L.getD l .empty).size
      · rw [if_pos h1, if_pos (by omega)]
      · rw [if_neg h1, if_neg (by omega)]
    rw [e]
    exact this
  · exact rencl_no a cap L pl pc o n w hL h
end Go.Proofs.Ytlbbgocggifjaaa
