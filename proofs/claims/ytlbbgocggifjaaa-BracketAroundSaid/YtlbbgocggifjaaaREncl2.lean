/- The contract of the reference's Enclosing, whole. Conditions: none beyond what it says. -/
import Derived.Test.YtlbbgocggifjaaaREncl
import Derived.Test.YtlbbgocggifjaaaPair11
import Derived.Deep.RegionHeld3
import Derived.Outline
namespace Go.Proofs.Ytlbbgocggifjaaa
open Go.RowKit

set_option maxRecDepth 100000 in
set_option maxHeartbeats 4000000 in
theorem rencl_yes (a : Option Addr) (cap : Nat) (L : List ByteArray) (l c : Nat) (o n : Int) (w : World) (hL : LinesAt w a L) (htot : total L ≤ 1000000) (hl : l < L.length) (hc : c ≤ (L.getD l .empty).size) (hn1 : 1 ≤ n) (hn2 : n ≤ 9223372036854775807)
    (s : Int) (hk : Hid (kindP o = (o, s, true, true))) :
    Calls Try.prog 51 #[.slice a L.length cap, .agg #[.int .i64 l, .int .i64 c], .int .u8 o, .int .i64 n] w fun e w' => e = .returned (encV (encR L (encF (flat L) o s (idx L l c) n (encS L l c)))) ∧ Below w.heap.size w w' := by
  have hn := hL.2.1
  obtain ⟨i0, hi0⟩ : ∃ i0, idx L l c = i0 := ⟨_, rfl⟩
  have HI := Lib.hid hi0
  obtain ⟨S, hS⟩ : ∃ S, encS L l c = S := ⟨_, rfl⟩
  obtain ⟨R, hR⟩ : ∃ R, encF (flat L) o s (idx L l c) n (encS L l c) = R := ⟨_, rfl⟩
  rw [hR]
  rw [hi0, hS] at hR
  have HR := Lib.hid hR
  have HS := Lib.hid hS
  have HC := Lib.hid hc
  have hp : plcB L l c = true := plcB_nat hl hc
  have HQ : Hid ((plcB L l c && decide ((1 : Int) ≤ n)) = true) := Lib.hid (by rw [hp]; simpa using hn1)
  clear hR hS hc hi0 hp
  go_enter Try.func51, Try.ntmps51
  go_wp2_with (first | (go_at_call 49; refine (rkind_ways _ _ hk).mono ?_; rintro e w1 ⟨rfl, rfl⟩) | (go_at_call 111; refine (rmay_any _ _ L _ _ _ _ (by (repeat (first | assumption | refine LinesAt.ovr ?_ _ | refine LinesAt.alloc ?_ _ | refine LinesAt.drewN ?_ _ | refine LinesAt.drew ?_)))).mono ?_; rw [HQ.out]; rintro e w1 ⟨rfl, hbl⟩; obtain ⟨x, rfl⟩ := ovr_of_below hbl; clear hbl))
  refine name_world ?_
  intro W0 hW
  have q0 : W0.cell? ⟨w.heap.size, 0, none⟩ = some (.int .i64 l) := by rw [hW]; simp [go_sem]
  have q1 : W0.cell? ⟨w.heap.size, 1, none⟩ = some (.int .i64 c) := by rw [hW]; simp [go_sem]
  have r0 : W0.cell? ⟨w.heap.size + 1, 0, none⟩ = some (.int .i64 0) := by rw [hW]; simp [go_sem]
  have r1 : W0.cell? ⟨w.heap.size + 1, 1, none⟩ = some (.int .i64 0) := by rw [hW]; simp [go_sem]
  have t0 : W0.cell? ⟨w.heap.size + 1 + 1, 0, none⟩ = some (.int .i64 0) := by rw [hW]; simp [go_sem]
  have t1 : W0.cell? ⟨w.heap.size + 1 + 1, 1, none⟩ = some (.int .i64 0) := by rw [hW]; simp [go_sem]
  have fr0 : W0.frozen? ⟨w.heap.size + 1, 0, none⟩ = false := by rw [hW]; simp [go_sem]
  have fr1 : W0.frozen? ⟨w.heap.size + 1, 1, none⟩ = false := by rw [hW]; simp [go_sem]
  have ft0 : W0.frozen? ⟨w.heap.size + 1 + 1, 0, none⟩ = false := by rw [hW]; simp [go_sem]
  have ft1 : W0.frozen? ⟨w.heap.size + 1 + 1, 1, none⟩ = false := by rw [hW]; simp [go_sem]
  have hL0 : LinesAt W0 a L := by rw [hW]; (repeat (first | assumption | refine LinesAt.ovr ?_ _ | refine LinesAt.alloc ?_ _ | refine LinesAt.drewN ?_ _ | refine LinesAt.drew ?_))
  have hbel : Below w.heap.size w W0 := by rw [hW]; (repeat (first | with_reducible exact Below.refl _ _ | (with_reducible refine Below.setCell ?_ ?_ _; rotate_left; · (first | exact Nat.le_refl _ | assumption | omega | (simp; done) | (simp; omega))) | (with_reducible refine Below.alloc ?_ ?_ _; rotate_left; · (first | exact Nat.le_refl _ | assumption | omega | (simp; done) | (simp; omega))) | with_reducible refine below_ovr_of ?_ | with_reducible refine drew_below ?_ _ | with_reducible refine Below.drew ?_ | with_reducible assumption))
  have hsz : w.heap.size + 1 + 1 < W0.heap.size := by rw [hW]; simp; omega
  have hsz1 : w.heap.size + 1 < W0.heap.size := by omega
  have hsz0 : w.heap.size < W0.heap.size := by omega
  clear hW
  go_loopw [3, 15] (fun nn y wr => ∃ m : Int, nn = .int .i64 m ∧ 1 ≤ m ∧ m ≤ n ∧ ∃ k : Nat, k ≤ l + 1 ∧ y = .int .i64 ((k : Int) - 1) ∧ Hid (encF (flat L) o s i0 m (lowN (idx L k 0) S) = R) ∧ Below W0.heap.size W0 wr) (fun _ y _ => (intOf y + 1).toNat)
  case atStart =>
    refine ⟨n, rfl, hn1, Int.le_refl _, l + 1, Nat.le_refl _, by go_num, Lib.hid ?_, Below.refl _ _⟩
    rw [← HS.out, low_top hl HC.out, HS.out]; exact HR.out
  case round =>
    obtain ⟨m, rfl, hm1, hm2, k, hk1, rfl, HK, hbr⟩ := hrel
    have q0r : wr.cell? ⟨w.heap.size, 0, none⟩ = some (.int .i64 l) := (hbr.cell (p := ⟨w.heap.size, 0, none⟩) (by simp; omega)).trans q0
    have q1r : wr.cell? ⟨w.heap.size, 1, none⟩ = some (.int .i64 c) := (hbr.cell (p := ⟨w.heap.size, 1, none⟩) (by simp; omega)).trans q1
    have v0 : wr.cell? ⟨w.heap.size + 1, 0, none⟩ = some (.int .i64 0) := (hbr.cell (p := ⟨w.heap.size + 1, 0, none⟩) (by simp; omega)).trans r0
    have v1 : wr.cell? ⟨w.heap.size + 1, 1, none⟩ = some (.int .i64 0) := (hbr.cell (p := ⟨w.heap.size + 1, 1, none⟩) (by simp; omega)).trans r1
    have v2 : wr.cell? ⟨w.heap.size + 1 + 1, 0, none⟩ = some (.int .i64 0) := (hbr.cell (p := ⟨w.heap.size + 1 + 1, 0, none⟩) (by simp; omega)).trans t0
    have v3 : wr.cell? ⟨w.heap.size + 1 + 1, 1, none⟩ = some (.int .i64 0) := (hbr.cell (p := ⟨w.heap.size + 1 + 1, 1, none⟩) (by simp; omega)).trans t1
    have z0 : wr.frozen? ⟨w.heap.size + 1, 0, none⟩ = false := (hbr.frozen (p := ⟨w.heap.size + 1, 0, none⟩) (by simp; omega)).trans fr0
    have z1 : wr.frozen? ⟨w.heap.size + 1, 1, none⟩ = false := (hbr.frozen (p := ⟨w.heap.size + 1, 1, none⟩) (by simp; omega)).trans fr1
    have z2 : wr.frozen? ⟨w.heap.size + 1 + 1, 0, none⟩ = false := (hbr.frozen (p := ⟨w.heap.size + 1 + 1, 0, none⟩) (by simp; omega)).trans ft0
    have z3 : wr.frozen? ⟨w.heap.size + 1 + 1, 1, none⟩ = false := (hbr.frozen (p := ⟨w.heap.size + 1 + 1, 1, none⟩) (by simp; omega)).trans ft1
    have hbs := hbr.size
    have zs0 : w.heap.size < wr.heap.size := by have := hbr.size; omega
    have zs1 : w.heap.size + 1 < wr.heap.size := by have := hbr.size; omega
    have zs2 : w.heap.size + 1 + 1 < wr.heap.size := by have := hbr.size; omega
    have hLr : LinesAt wr a L := hL0.below hbr (Nat.le_refl _)
    have hbwr : Below w.heap.size w wr := hbel.trans (hbr.mono (by omega))
    by_cases hk0 : k = 0
    · subst hk0
      have HN : Hid (R = none) := Lib.hid (by rw [← HK.out, lowN_le (by simp [idx, total]), show idx L 0 0 = 0 from by simp [idx, total]]; exact encF_end)
      go_wp2
      refine bodyPost_ret (v := encV noEnc) (by simp [results, Try.results51, go_sem, noEnc, v0, v1, v2, v3]) rfl ⟨by rw [HN.out]; rfl, by (repeat (first | with_reducible exact hbwr | (with_reducible refine below_ovr_le ?_ ?_ _; rotate_left; · (first | omega | (simp; done) | (simp; omega))) | (with_reducible refine Below.alloc ?_ ?_ _; rotate_left; · (first | omega | (simp; done) | (simp; omega))) | (with_reducible refine Below.setCell ?_ ?_ _; rotate_left; · (first | omega | (simp; done) | (simp; omega))) | with_reducible refine drew_below ?_ _ | with_reducible refine Below.drew ?_))⟩
    · obtain ⟨y, rfl⟩ : ∃ y, k = y + 1 := ⟨k - 1, by omega⟩
      have hy : y < L.length := by omega
      have ey : ((y + 1 : Nat) : Int) - 1 = (y : Int) := by omega
      rw [ey]
      have hyI : (y : Int) < (L.length : Int) := by omega
      have hy0 : (0 : Int) ≤ (y : Int) := by omega
      obtain ⟨b, off, u, rfl, hb, hcell, hu, HU⟩ := line_facts' hLr hy
      have HK2 : Hid (encF (flat L) o s i0 m (lowN (idx L y u.size) S) = R) := Lib.hid (by rw [← HU.out, ← idx_succ hy]; exact HK.out)
      clear HK ey
      go_wp2
      go_loopw [3, 16] (fun nn i wr => ∃ m : Int, nn = .int .i64 m ∧ 1 ≤ m ∧ m ≤ n ∧ ∃ k : Nat, k ≤ u.size ∧ i = .int .i64 ((k : Int) - 1) ∧ Hid (encF (flat L) o s i0 m (lowN (idx L y k) S) = R) ∧ Below W0.heap.size W0 wr) (fun _ i _ => (intOf i + 1).toNat)
      case atStart => exact ⟨m, rfl, hm1, hm2, u.size, Nat.le_refl _, by go_num, HK2, hbr⟩
      case round =>
        clear hbs hbr hLr hcell hb q0r q1r v0 v1 v2 v3 z0 z1 z2 z3 zs0 zs1 zs2 hbwr hm1 hm2
        obtain ⟨m, rfl, hm1, hm2, k, hk2, rfl, HK, hbr⟩ := hrel
        have q0r : wr.cell? ⟨w.heap.size, 0, none⟩ = some (.int .i64 l) := (hbr.cell (p := ⟨w.heap.size, 0, none⟩) (by simp; omega)).trans q0
        have q1r : wr.cell? ⟨w.heap.size, 1, none⟩ = some (.int .i64 c) := (hbr.cell (p := ⟨w.heap.size, 1, none⟩) (by simp; omega)).trans q1
        have v0 : wr.cell? ⟨w.heap.size + 1, 0, none⟩ = some (.int .i64 0) := (hbr.cell (p := ⟨w.heap.size + 1, 0, none⟩) (by simp; omega)).trans r0
        have v1 : wr.cell? ⟨w.heap.size + 1, 1, none⟩ = some (.int .i64 0) := (hbr.cell (p := ⟨w.heap.size + 1, 1, none⟩) (by simp; omega)).trans r1
        have v2 : wr.cell? ⟨w.heap.size + 1 + 1, 0, none⟩ = some (.int .i64 0) := (hbr.cell (p := ⟨w.heap.size + 1 + 1, 0, none⟩) (by simp; omega)).trans t0
        have v3 : wr.cell? ⟨w.heap.size + 1 + 1, 1, none⟩ = some (.int .i64 0) := (hbr.cell (p := ⟨w.heap.size + 1 + 1, 1, none⟩) (by simp; omega)).trans t1
        have z0 : wr.frozen? ⟨w.heap.size + 1, 0, none⟩ = false := (hbr.frozen (p := ⟨w.heap.size + 1, 0, none⟩) (by simp; omega)).trans fr0
        have z1 : wr.frozen? ⟨w.heap.size + 1, 1, none⟩ = false := (hbr.frozen (p := ⟨w.heap.size + 1, 1, none⟩) (by simp; omega)).trans fr1
        have z2 : wr.frozen? ⟨w.heap.size + 1 + 1, 0, none⟩ = false := (hbr.frozen (p := ⟨w.heap.size + 1 + 1, 0, none⟩) (by simp; omega)).trans ft0
        have z3 : wr.frozen? ⟨w.heap.size + 1 + 1, 1, none⟩ = false := (hbr.frozen (p := ⟨w.heap.size + 1 + 1, 1, none⟩) (by simp; omega)).trans ft1
        have hbs := hbr.size
        have zs0 : w.heap.size < wr.heap.size := by have := hbr.size; omega
        have zs1 : w.heap.size + 1 < wr.heap.size := by have := hbr.size; omega
        have zs2 : w.heap.size + 1 + 1 < wr.heap.size := by have := hbr.size; omega
        have hLr : LinesAt wr (some ⟨b, off, none⟩) L := hL0.below hbr (Nat.le_refl _)
        have hbwr : Below w.heap.size w wr := hbel.trans (hbr.mono (by omega))
        obtain ⟨b', off', u', e, hb, hcell, hu', HU'⟩ := line_facts' hLr hy
        cases e
        have eu := HU.out.symm.trans HU'.out
        subst eu
        by_cases hk0 : k = 0
        · subst hk0
          go_wp2
          go_roundw
          case rel => exact ⟨m, rfl, hm1, hm2, y, by omega, by go_num, HK, hbr⟩
          case measure => first | (simp [intOf]; done) | (simp [intOf]; omega)
        · obtain ⟨i, rfl⟩ : ∃ i, k = i + 1 := ⟨k - 1, by omega⟩
          have hi : i < u.size := by omega
          have ei : ((i + 1 : Nat) : Int) - 1 = (i : Int) := by omega
          rw [ei]
          have hiI : (i : Int) < (u.size : Int) := by omega
          have hi0 : (0 : Int) ≤ (i : Int) := by omega
          have hiL : i < (L.getD y .empty).size := by rw [HU.out]; exact hi
          have hbt := flat_byte hy HU.out hi
          obtain ⟨j, hj⟩ : ∃ j, idx L y i = j := ⟨_, rfl⟩
          rw [hj] at hbt
          obtain ⟨cc, hcc⟩ : ∃ cc : Int, (u[i].toNat : Int) = cc := ⟨_, rfl⟩
          rw [hcc] at hbt
          cases hls : lessB l c y i with
          | true =>
            have HLS := Lib.hid hls
            have HS2 : Hid (encF (flat L) o s i0 m (lowN (idx L y i) S) = R) := Lib.hid (by rw [← HS.out, ← low_less hl (by omega) hiL hls, HS.out]; exact HK.out)
            by_cases h1 : cc = o
            · have t1' : (cc != o) = false := by rw [bne_eq_false_iff_eq]; exact h1
              clear h1 hls hbt hj hiL
              go_wp2_with fail
              go_at_call 72; refine (rless_any _ _ _ _ _).mono ?_; rw [HLS.out]; rintro e w1 ⟨rfl, hbl⟩; obtain ⟨x1, rfl⟩ := ovr_of_below hbl; clear hbl
              go_wp2
              go_roundw
              case rel => exact ⟨m, by go_num, by omega, by omega, i, by omega, by go_num, HS2, by (repeat (first | with_reducible exact hbr | (with_reducible refine below_ovr_le ?_ ?_ _; rotate_left; · (first | omega | (simp; done) | (simp; omega))) | (with_reducible refine Below.alloc ?_ ?_ _; rotate_left; · (first | omega | (simp; done) | (simp; omega))) | (with_reducible refine Below.setCell ?_ ?_ _; rotate_left; · (first | omega | (simp; done) | (simp; omega))) | with_reducible refine drew_below ?_ _ | with_reducible refine Below.drew ?_))⟩
              case measure => first | (simp [intOf]; done) | (simp [intOf]; omega)
            · have t1' : (cc != o) = true := by rw [bne_iff_ne]; exact h1
              clear h1 hls hbt hj hiL
              go_wp2
              go_roundw
              case rel => exact ⟨m, by go_num, by omega, by omega, i, by omega, by go_num, HS2, by (repeat (first | with_reducible exact hbr | (with_reducible refine below_ovr_le ?_ ?_ _; rotate_left; · (first | omega | (simp; done) | (simp; omega))) | (with_reducible refine Below.alloc ?_ ?_ _; rotate_left; · (first | omega | (simp; done) | (simp; omega))) | (with_reducible refine Below.setCell ?_ ?_ _; rotate_left; · (first | omega | (simp; done) | (simp; omega))) | with_reducible refine drew_below ?_ _ | with_reducible refine Below.drew ?_))⟩
              case measure => first | (simp [intOf]; done) | (simp [intOf]; omega)
          | false =>
            have HLS := Lib.hid hls
            obtain ⟨g1, g2, g3⟩ := low_more hl HC.out (by omega) hiL hls
            rw [HS.out, hj] at g1 g2
            rw [hj, HI.out] at g3
            have HK3 : Hid (encF (flat L) o s i0 m (j + 1) = R) := Lib.hid (by rw [← g1]; exact HK.out)
            by_cases h1 : cc = o
            · have t1' : (cc != o) = false := by rw [bne_eq_false_iff_eq]; exact h1
              have hko : kindP (btI (flat L) j) = (o, s, true, true) := by rw [hbt, h1]; exact hk.out
              have hkj := hko
              rw [← hj] at hkj
              have HO := fun (w0 : World) (h : LinesAt w0 (some ⟨b, off, none⟩) L) => rother_any (some ⟨b, off, none⟩) cap L y i w0 h hy hiL htot (by rw [hkj])
              rw [hj, otherP_open hko] at HO
              have HOO := Lib.hid HO
              obtain ⟨T, hT⟩ : ∃ T, scanF (flat L) o s 1 (j + 1) = T := ⟨_, rfl⟩
              have HT := Lib.hid hT
              have hbo : btI (flat L) j = o := by rw [hbt]; exact h1
              have HJ := Lib.hid hj
              cases T with
              | none =>
                have HS2 : Hid (encF (flat L) o s i0 m (lowN (idx L y i) S) = R) := Lib.hid (by rw [hj, g2]; exact (encF_none hbo hT).symm.trans HK3.out)
                clear h1 hls hbt hj hiL g1 g2 g3 hko hkj HO hT hbo
                go_wp2_with fail
                go_at_call 72; refine (rless_any _ _ _ _ _).mono ?_; rw [HLS.out]; rintro e w1 ⟨rfl, hbl⟩; obtain ⟨x1, rfl⟩ := ovr_of_below hbl; clear hbl
                go_wp2_with fail
                go_at_call 113; refine (HOO.out _ (by (repeat (first | assumption | refine LinesAt.ovr ?_ _ | refine LinesAt.alloc ?_ _ | refine LinesAt.drewN ?_ _ | refine LinesAt.drew ?_)))).mono ?_; rw [HT.out, optP, noPlc]; rintro e w1 ⟨rfl, hbl⟩; obtain ⟨x2, rfl⟩ := ovr_of_below hbl; clear hbl
                go_wp2
                go_roundw
                case rel => exact ⟨m, by go_num, by omega, by omega, i, by omega, by go_num, HS2, by (repeat (first | with_reducible exact hbr | (with_reducible refine below_ovr_le ?_ ?_ _; rotate_left; · (first | omega | (simp; done) | (simp; omega))) | (with_reducible refine Below.alloc ?_ ?_ _; rotate_left; · (first | omega | (simp; done) | (simp; omega))) | (with_reducible refine Below.setCell ?_ ?_ _; rotate_left; · (first | omega | (simp; done) | (simp; omega))) | with_reducible refine drew_below ?_ _ | with_reducible refine Below.drew ?_))⟩
                case measure => first | (simp [intOf]; done) | (simp [intOf]; omega)
              | some t =>
                have htt := scanF_spec (B := flat L) (o := o) (s := s) _ (j + 1) 1 rfl t hT
                rw [flat_length] at htt
                obtain ⟨s1, s2, s3⟩ := plcOf_spec htt.2
                obtain ⟨tl, htl⟩ : ∃ tl, (plcOf L t).1 = tl := ⟨_, rfl⟩
                obtain ⟨tc, htc⟩ : ∃ tc, (plcOf L t).2 = tc := ⟨_, rfl⟩
                rw [htl] at s1 s2 s3
                rw [htc] at s2 s3
                have HAT : Hid (atPlc L t = (((tl : Int), (tc : Int)), true)) := Lib.hid (by rw [atPlc, htl, htc])
                have hls2 := idx_less (L := L) s1 s2 hl HC.out
                rw [s3, HI.out] at hls2
                by_cases h2 : t < i0
                · have HLT : Hid (lessB tl tc l c = true) := Lib.hid (by rw [hls2]; exact decide_eq_true h2)
                  have HS2 : Hid (encF (flat L) o s i0 m (lowN (idx L y i) S) = R) := Lib.hid (by rw [hj, g2]; exact (encF_short hbo hT h2).symm.trans HK3.out)
                  clear h1 h2 hls hbt hj hiL g1 g2 g3 hko hkj HO hT hbo htt s1 s2 s3 htl htc hls2
                  go_wp2_with fail
                  go_at_call 72; refine (rless_any _ _ _ _ _).mono ?_; rw [HLS.out]; rintro e w1 ⟨rfl, hbl⟩; obtain ⟨x1, rfl⟩ := ovr_of_below hbl; clear hbl
                  go_wp2_with fail
                  go_at_call 113; refine (HOO.out _ (by (repeat (first | assumption | refine LinesAt.ovr ?_ _ | refine LinesAt.alloc ?_ _ | refine LinesAt.drewN ?_ _ | refine LinesAt.drew ?_)))).mono ?_; rw [HT.out, optP, HAT.out]; rintro e w1 ⟨rfl, hbl⟩; obtain ⟨x2, rfl⟩ := ovr_of_below hbl; clear hbl
                  go_wp2_with fail
                  go_at_call 72; refine (rless_any _ _ _ _ _).mono ?_; rw [HLT.out]; rintro e w1 ⟨rfl, hbl⟩; obtain ⟨x3, rfl⟩ := ovr_of_below hbl; clear hbl
                  go_wp2
                  go_roundw
                  case rel => exact ⟨m, by go_num, by omega, by omega, i, by omega, by go_num, HS2, by (repeat (first | with_reducible exact hbr | (with_reducible refine below_ovr_le ?_ ?_ _; rotate_left; · (first | omega | (simp; done) | (simp; omega))) | (with_reducible refine Below.alloc ?_ ?_ _; rotate_left; · (first | omega | (simp; done) | (simp; omega))) | (with_reducible refine Below.setCell ?_ ?_ _; rotate_left; · (first | omega | (simp; done) | (simp; omega))) | with_reducible refine drew_below ?_ _ | with_reducible refine Below.drew ?_))⟩
                  case measure => first | (simp [intOf]; done) | (simp [intOf]; omega)
                · have HLT : Hid (lessB tl tc l c = false) := Lib.hid (by rw [hls2]; exact decide_eq_false h2)
                  by_cases h3 : m = 1
                  · have HRj := Lib.hid (HK3.out.symm.trans (encF_hit hbo hT h2 h3))
                    have HAJ := Lib.hid (atPlc_eq hy hiL hj)
                    subst h3
                    clear h2 hls hbt hj hiL g1 g2 g3 hko hkj HO hT hbo htt s1 s2 s3 htl htc hls2
                    go_wp2_with fail
                    go_at_call 72; refine (rless_any _ _ _ _ _).mono ?_; rw [HLS.out]; rintro e w1 ⟨rfl, hbl⟩; obtain ⟨x1, rfl⟩ := ovr_of_below hbl; clear hbl
                    go_wp2_with fail
                    go_at_call 113; refine (HOO.out _ (by (repeat (first | assumption | refine LinesAt.ovr ?_ _ | refine LinesAt.alloc ?_ _ | refine LinesAt.drewN ?_ _ | refine LinesAt.drew ?_)))).mono ?_; rw [HT.out, optP, HAT.out]; rintro e w1 ⟨rfl, hbl⟩; obtain ⟨x2, rfl⟩ := ovr_of_below hbl; clear hbl
                    go_wp2_with fail
                    go_at_call 72; refine (rless_any _ _ _ _ _).mono ?_; rw [HLT.out]; rintro e w1 ⟨rfl, hbl⟩; obtain ⟨x3, rfl⟩ := ovr_of_below hbl; clear hbl
                    go_wp2
                    refine name_ptr4 17 rfl ?_
                    intro T1 hT1
                    rw [← hT1]
                    refine name_ptr4 18 rfl ?_
                    intro T2 hT2
                    rw [← hT2]
                    refine name_world ?_
                    intro W2 hW2
                    have hbW2 : Below W0.heap.size W0 W2 := by
                      rw [hW2]
                      (repeat (first | with_reducible exact hbr | (with_reducible refine below_ovr_le ?_ ?_ _; rotate_left; · (first | omega | (simp; done) | (simp; omega))) | (with_reducible refine Below.alloc ?_ ?_ _; rotate_left; · (first | omega | (simp; done) | (simp; omega))) | (with_reducible refine Below.setCell ?_ ?_ _; rotate_left; · (first | omega | (simp; done) | (simp; omega))) | with_reducible refine drew_below ?_ _ | with_reducible refine Below.drew ?_))
                    have n0 : W2.cell? ⟨T1, 0, none⟩ = some (.int .i64 y) := by subst hT1; rw [hW2]; simp [go_sem]
                    have n1 : W2.cell? ⟨T1, 1, none⟩ = some (.int .i64 i) := by subst hT1; rw [hW2]; simp [go_sem]
                    have n2 : W2.cell? ⟨T2, 0, none⟩ = some (.int .i64 tl) := by rw [hT2, hT1, hW2]; simp [go_sem]
                    have n3 : W2.cell? ⟨T2, 1, none⟩ = some (.int .i64 tc) := by rw [hT2, hT1, hW2]; simp [go_sem]
                    have n4 : W2.cell? ⟨w.heap.size + 1, 0, none⟩ = some (.int .i64 0) := (hbW2.cell (p := ⟨w.heap.size + 1, 0, none⟩) (by simp; omega)).trans r0
                    have n5 : W2.cell? ⟨w.heap.size + 1, 1, none⟩ = some (.int .i64 0) := (hbW2.cell (p := ⟨w.heap.size + 1, 1, none⟩) (by simp; omega)).trans r1
                    have n6 : W2.cell? ⟨w.heap.size + 1 + 1, 0, none⟩ = some (.int .i64 0) := (hbW2.cell (p := ⟨w.heap.size + 1 + 1, 0, none⟩) (by simp; omega)).trans t0
                    have n7 : W2.cell? ⟨w.heap.size + 1 + 1, 1, none⟩ = some (.int .i64 0) := (hbW2.cell (p := ⟨w.heap.size + 1 + 1, 1, none⟩) (by simp; omega)).trans t1
                    have n8 : W2.frozen? ⟨w.heap.size + 1, 0, none⟩ = false := (hbW2.frozen (p := ⟨w.heap.size + 1, 0, none⟩) (by simp; omega)).trans fr0
                    have n9 : W2.frozen? ⟨w.heap.size + 1, 1, none⟩ = false := (hbW2.frozen (p := ⟨w.heap.size + 1, 1, none⟩) (by simp; omega)).trans fr1
                    have n10 : W2.frozen? ⟨w.heap.size + 1 + 1, 0, none⟩ = false := (hbW2.frozen (p := ⟨w.heap.size + 1 + 1, 0, none⟩) (by simp; omega)).trans ft0
                    have n11 : W2.frozen? ⟨w.heap.size + 1 + 1, 1, none⟩ = false := (hbW2.frozen (p := ⟨w.heap.size + 1 + 1, 1, none⟩) (by simp; omega)).trans ft1
                    have k1 : ¬ T1 = w.heap.size + 1 := by omega
                    have k2 : ¬ T1 = w.heap.size + 1 + 1 := by omega
                    have k3 : ¬ T2 = w.heap.size + 1 := by omega
                    have k4 : ¬ T2 = w.heap.size + 1 + 1 := by omega
                    have hbw2 : Below w.heap.size w W2 := hbel.trans (hbW2.mono (by omega))
                    clear hW2 hT1 hT2 hbr hbs v0 v1 v2 v3 z0 z1 z2 z3 q0r q1r zs0 zs1 zs2
                    go_region_held3 (fun w' => w'.cell? ⟨T1, 0, none⟩ = some (.int .i64 y) ∧ w'.cell? ⟨T1, 1, none⟩ = some (.int .i64 i) ∧ w'.cell? ⟨T2, 0, none⟩ = some (.int .i64 tl) ∧ w'.cell? ⟨T2, 1, none⟩ = some (.int .i64 tc)) (go_split_ands <;> first | assumption | (simp [go_sem]; done) | (simp [go_sem, *]; done) | (simp [go_sem]; omega)) (fail)
                    go_wp2
                    have HAJ' := HAJ.out
                    have HAT' := HAT.out
                    simp only [atPlc, Prod.mk.injEq] at HAJ' HAT'
                    refine bodyPost_ret (v := encV ((((y : Int), (i : Int)), ((tl : Int), (tc : Int))), true)) (by simp [results, Try.results51, go_sem, n4, n5, n6, n7]) rfl ⟨by rw [HRj.out]; simp only [encR, HAJ'.1.1, HAJ'.1.2, HAT'.1.1, HAT'.1.2], by (repeat (first | with_reducible exact hbw2 | (with_reducible refine below_ovr_le ?_ ?_ _; rotate_left; · (first | omega | (simp; done) | (simp; omega))) | (with_reducible refine Below.alloc ?_ ?_ _; rotate_left; · (first | omega | (simp; done) | (simp; omega))) | (with_reducible refine Below.setCell ?_ ?_ _; rotate_left; · (first | omega | (simp; done) | (simp; omega))) | with_reducible refine drew_below ?_ _ | with_reducible refine Below.drew ?_))⟩
                  · have HS2 : Hid (encF (flat L) o s i0 (m - 1) (lowN (idx L y i) S) = R) := Lib.hid (by rw [hj, g2]; exact (encF_more hbo hT h2 h3).symm.trans HK3.out)
                    have hm3 : 2 ≤ m := by omega
                    have hm4 : (m - 1 == 0) = false := beq_eq_false_iff_ne.2 (by omega)
                    clear h1 h2 h3 hls hbt hj hiL g1 g2 g3 hko hkj HO hT hbo htt s1 s2 s3 htl htc hls2
                    go_wp2_with fail
                    go_at_call 72; refine (rless_any _ _ _ _ _).mono ?_; rw [HLS.out]; rintro e w1 ⟨rfl, hbl⟩; obtain ⟨x1, rfl⟩ := ovr_of_below hbl; clear hbl
                    go_wp2_with fail
                    go_at_call 113; refine (HOO.out _ (by (repeat (first | assumption | refine LinesAt.ovr ?_ _ | refine LinesAt.alloc ?_ _ | refine LinesAt.drewN ?_ _ | refine LinesAt.drew ?_)))).mono ?_; rw [HT.out, optP, HAT.out]; rintro e w1 ⟨rfl, hbl⟩; obtain ⟨x2, rfl⟩ := ovr_of_below hbl; clear hbl
                    go_wp2_with fail
                    go_at_call 72; refine (rless_any _ _ _ _ _).mono ?_; rw [HLT.out]; rintro e w1 ⟨rfl, hbl⟩; obtain ⟨x3, rfl⟩ := ovr_of_below hbl; clear hbl
                    go_wp2
                    go_roundw
                    case rel => exact ⟨m - 1, by go_num, by omega, by omega, i, by omega, by go_num, HS2, by (repeat (first | with_reducible exact hbr | (with_reducible refine below_ovr_le ?_ ?_ _; rotate_left; · (first | omega | (simp; done) | (simp; omega))) | (with_reducible refine Below.alloc ?_ ?_ _; rotate_left; · (first | omega | (simp; done) | (simp; omega))) | (with_reducible refine Below.setCell ?_ ?_ _; rotate_left; · (first | omega | (simp; done) | (simp; omega))) | with_reducible refine drew_below ?_ _ | with_reducible refine Below.drew ?_))⟩
                    case measure => first | (simp [intOf]; done) | (simp [intOf]; omega)
            · have t1' : (cc != o) = true := by rw [bne_iff_ne]; exact h1
              have HS2 : Hid (encF (flat L) o s i0 m (lowN (idx L y i) S) = R) := Lib.hid (by rw [hj, g2]; exact (encF_no (by rw [hbt]; exact h1)).symm.trans HK3.out)
              clear h1 hls hbt hj hiL g1 g2 g3
              go_wp2
              go_roundw
              case rel => exact ⟨m, by go_num, by omega, by omega, i, by omega, by go_num, HS2, by (repeat (first | with_reducible exact hbr | (with_reducible refine below_ovr_le ?_ ?_ _; rotate_left; · (first | omega | (simp; done) | (simp; omega))) | (with_reducible refine Below.alloc ?_ ?_ _; rotate_left; · (first | omega | (simp; done) | (simp; omega))) | (with_reducible refine Below.setCell ?_ ?_ _; rotate_left; · (first | omega | (simp; done) | (simp; omega))) | with_reducible refine drew_below ?_ _ | with_reducible refine Below.drew ?_))⟩
              case measure => first | (simp [intOf]; done) | (simp [intOf]; omega)
end Go.Proofs.Ytlbbgocggifjaaa
