/- The walk of the law SentOrder. Conditions: none beyond what it says. -/
import Derived.Test.YtnaceobbbfbhhaaParaLaws
import Derived.Test.YtnaceobbbfbhhaaSentOrderP
namespace Go.Proofs.Ytnaceobbbfbhhaa
open Go.RowKit Go.Shelf

set_option maxRecDepth 100000 in
set_option maxHeartbeats 16000000 in
theorem sentOrder_walk (a : Option Addr) (cap : Nat) (L : List ByteArray) (W : World) (hL : LinesAt W a L) :
    Calls Try.prog 16 #[.slice a L.length cap] W fun e W' => e = .returned (.bool true) ∧ Below W.heap.size W W' := by
  have hn := hL.2.1
  cases hli : textB L with
  | false =>
    go_enter Try.func16, Try.ntmps16
    go_wp2_with (first | (go_at_call 49; refine (known10_any _).mono ?_; rintro e w1 ⟨rfl, hbl⟩; obtain ⟨x, rfl⟩ := ovr_of_below hbl; clear hbl) | (go_at_call 35; refine (text_any _ _ L _ (by (repeat (first | assumption | refine LinesAt.ovr ?_ _ | refine LinesAt.alloc ?_ _ | refine LinesAt.drewN ?_ _ | refine LinesAt.drew ?_)))).mono ?_; rintro e w1 ⟨rfl, rfl⟩))
    go_ret
    exact ⟨rfl, by (repeat (first | exact Below.refl _ _ | refine Below.alloc ?_ (by first | exact Nat.le_refl _ | (simp; done) | (simp; omega)) _ | refine below_ovr_of ?_ | refine drew_below ?_ _ | refine Below.drew ?_ | refine Below.setCell ?_ (by first | exact Nat.le_refl _ | (simp; done) | (simp; omega)) _ | assumption))⟩
  | true =>
    obtain ⟨h0, hn4, htot, _⟩ := text_spec hli
    have hSl := (sentP_in (L := L)).2
    have HSN := Lib.hid (fun (w0 : World) (h0 : LinesAt w0 a L) => rsent_any a cap L w0 h0 (by omega))
    have HN1 := Lib.hid (fun (i x y nx ny : Nat) => so_next (L := L) (i := i) (x := x) (y := y) (nx := nx) (ny := ny))
    have HN0 := Lib.hid (fun (i x y : Nat) => so_last (L := L) (i := i) (x := x) (y := y))
    have HB1 := Lib.hid (fun (i x y nx ny : Nat) => so_back (L := L) (i := i) (x := x) (y := y) (nx := nx) (ny := ny))
    have HB0 := Lib.hid (fun (x y : Nat) => so_first (L := L) (x := x) (y := y))
    obtain ⟨k, hk⟩ : ∃ k, L.length - 1 = k := ⟨_, rfl⟩
    obtain ⟨b, off, s, rfl, hb, hcell, hs, HS⟩ := line_facts' hL (i := k) (by omega)
    have HE := Lib.hid (fun (i x y : Nat) (hi : i < (sentP L).length) (hx : (sentP L).getD i (0, 0) = (x, y)) => so_end hi hx hk HS.out)
    obtain ⟨R, hR⟩ : ∃ R, sentP L = R := ⟨_, rfl⟩
    rw [hR] at HSN hSl HN1 HN0 HB1 HB0 HE
    have ek : (L.length : Int) - 1 = (k : Int) := by omega
    have hkI : (k : Int) < (L.length : Int) := by omega
    have hk0 : (0 : Int) ≤ (k : Int) := by omega
    clear hR hk HS
    go_enter Try.func16, Try.ntmps16
    go_wp2_with (first
      | (go_at_call 49; refine (known10_any _).mono ?_; rintro e w1 ⟨rfl, hbl⟩; obtain ⟨x0, rfl⟩ := ovr_of_below hbl; clear hbl)
      | (go_at_call 35; refine (text_any _ _ L _ (by (repeat (first | assumption | refine LinesAt.ovr ?_ _ | refine LinesAt.alloc ?_ _ | refine LinesAt.drewN ?_ _ | refine LinesAt.drew ?_)))).mono ?_; rintro e w1 ⟨rfl, rfl⟩))
    go_at_call 57
    refine (HSN.out _ (by (repeat (first | assumption | refine LinesAt.ovr ?_ _ | refine LinesAt.alloc ?_ _ | refine LinesAt.drewN ?_ _ | refine LinesAt.drew ?_)))).mono ?_
    rintro e w1 ⟨v, rfl, hrow, hbl⟩
    obtain ⟨sl, lcap, rfl, hps⟩ := pairs_of_owns hrow
    obtain ⟨x1, rfl⟩ := ovr_of_below hbl
    clear hbl hrow
    go_wp2_with fail
    refine name_world ?_
    intro W1 hW1
    have hL1 : LinesAt W1 (some ⟨b, off, none⟩) L := by rw [hW1]; (repeat (first | assumption | refine LinesAt.ovr ?_ _ | refine LinesAt.alloc ?_ _ | refine LinesAt.drewN ?_ _ | refine LinesAt.drew ?_))
    have qs : PairsAt W1 sl R := by rw [hW1]; exact hps
    have hbel : Below W.heap.size W W1 := by rw [hW1]; (repeat (first | with_reducible exact Below.refl _ _ | (with_reducible refine Below.setCell ?_ ?_ _; rotate_left; · (first | exact Nat.le_refl _ | assumption | omega | (simp; done) | (simp; omega))) | (with_reducible refine Below.alloc ?_ ?_ _; rotate_left; · (first | exact Nat.le_refl _ | assumption | omega | (simp; done) | (simp; omega))) | with_reducible refine below_ovr_of ?_ | with_reducible refine drew_below ?_ _ | with_reducible refine Below.drew ?_ | with_reducible assumption))
    have hcell1 : W1.cell? ⟨b, off + k, none⟩ = some (.string s) := (hbel.cell (p := ⟨b, off + k, none⟩) hb).trans hcell
    have hb1 : b < W1.heap.size := Nat.lt_of_lt_of_le hb hbel.size
    have hbelS := hbel.size
    clear hW1 hps hcell
    go_loopw [4] (fun i wr => ∃ q : Nat, q ≤ R.length ∧ i = .int .i64 (q : Int) ∧ ∃ x, wr = ovr W1 x) (fun i _ => R.length - (intOf i).toNat)
    case atStart => exact ⟨0, Nat.zero_le _, by go_num, { W1 with heap := #[] }, by simp [ovr]⟩
    case round =>
      obtain ⟨q, hq, rfl, z, rfl⟩ := hrel
      by_cases hlt : q < R.length
      · have hqI : (q : Int) < (R.length : Int) := by omega
        have hq0 : (0 : Int) ≤ (q : Int) := by omega
        have hq01 : (0 : Int) ≤ (q : Int) + 1 := by omega
        have hqn : ((q : Int) + 1).toNat = q + 1 := by omega
        obtain ⟨d, hd⟩ : ∃ d, R.length - q = d := ⟨_, rfl⟩
        have ed : (R.length : Int) - (q : Int) = (d : Int) := by omega
        have hd5 : d ≤ 100000 := by omega
        obtain ⟨g, rfl, hg, c0, c1⟩ := qs q hlt
        obtain ⟨⟨fx, fy⟩, hxy⟩ : ∃ p, R.getD q (0, 0) = p := ⟨_, rfl⟩
        rw [hxy] at c0 c1
        simp only at c0 c1
        have hE := HE.out q fx fy hlt hxy
        rw [hd] at hE
        have HE2 := Lib.hid hE
        clear hE hd
        rcases Nat.lt_or_ge (q + 1) R.length with h1 | h1
        · have h1I : (q : Int) + 1 < (R.length : Int) := by omega
          obtain ⟨g', e', _, d0, d1⟩ := qs (q + 1) h1
          cases e'
          obtain ⟨⟨nx, ny⟩, hxn⟩ : ∃ p, R.getD (q + 1) (0, 0) = p := ⟨_, rfl⟩
          rw [hxn] at d0 d1
          simp only at d0 d1
          have HN := Lib.hid (HN1.out q fx fy nx ny h1 hxy hxn)
          rcases Nat.eq_zero_or_pos q with h2 | h2
          · have h2I : ¬ (0 : Int) < (q : Int) := by omega
            have h2N : ¬ 0 < q := by omega
            have HB := Lib.hid (HB0.out fx fy (by omega) (by have e := hxy; rw [h2] at e; exact e))
            have h1N := h1
            clear hxy hxn h2 h1
            go_wp2_with (first | (go_at_call 59; refine (psentNext_any _ _ L _ _ _ _ _ (by (repeat (first | assumption | refine LinesAt.ovr ?_ _ | refine LinesAt.alloc ?_ _ | refine LinesAt.drewN ?_ _ | refine LinesAt.drew ?_))) (by omega) (by omega)).mono ?_; rw [HN.out]; rintro e w1 ⟨rfl, hbl⟩; obtain ⟨x2, rfl⟩ := ovr_of_below hbl; clear hbl) | (go_at_call 61; refine (psentBack_any _ _ L _ _ _ _ (by (repeat (first | assumption | refine LinesAt.ovr ?_ _ | refine LinesAt.alloc ?_ _ | refine LinesAt.drewN ?_ _ | refine LinesAt.drew ?_))) (by omega) (by omega)).mono ?_; rw [HB.out]; rintro e w1 ⟨rfl, hbl⟩; obtain ⟨x3, rfl⟩ := ovr_of_below hbl; clear hbl))
            (refine wp_region_ovr (by kernel_rfl) (by kernel_rfl) ?_; (repeat (go_big_quiet_step (fail))); refine wpQuiet_nil ?_; rintro _ ⟨zq, rfl⟩)
            rcases HE2.out with hE | hE
            · have HE3 := Lib.hid hE
              clear hE
              go_wp2_with ((go_at_call 59; refine (psentNext_any _ _ L _ _ _ _ _ (by (repeat (first | assumption | refine LinesAt.ovr ?_ _ | refine LinesAt.alloc ?_ _ | refine LinesAt.drewN ?_ _ | refine LinesAt.drew ?_))) (by omega) (by omega)).mono ?_; rw [HE3.out]; rintro e w1 ⟨rfl, hbl⟩; obtain ⟨x4, rfl⟩ := ovr_of_below hbl; clear hbl))
              (refine wp_region_ovr (by kernel_rfl) (by kernel_rfl) ?_; (repeat (go_big_quiet_step (fail))); refine wpQuiet_nil ?_; rintro _ ⟨zq, rfl⟩)
              go_wp2
              go_roundw
              case rel => exact ⟨q + 1, by omega, by go_num, ovr_of_below (by (repeat (first | with_reducible exact Below.refl _ _ | (with_reducible refine Below.setCell ?_ ?_ _; rotate_left; · (first | exact Nat.le_refl _ | assumption | omega | (simp; done) | (simp; omega))) | (with_reducible refine Below.alloc ?_ ?_ _; rotate_left; · (first | exact Nat.le_refl _ | assumption | omega | (simp; done) | (simp; omega))) | with_reducible refine below_ovr_of ?_ | with_reducible refine drew_below ?_ _ | with_reducible refine Below.drew ?_ | with_reducible assumption)))⟩
              case measure => simp [intOf]; omega
            · have HE3 := Lib.hid hE
              clear hE
              go_wp2_with ((go_at_call 59; refine (psentNext_any _ _ L _ _ _ _ _ (by (repeat (first | assumption | refine LinesAt.ovr ?_ _ | refine LinesAt.alloc ?_ _ | refine LinesAt.drewN ?_ _ | refine LinesAt.drew ?_))) (by omega) (by omega)).mono ?_; rw [HE3.out]; rintro e w1 ⟨rfl, hbl⟩; obtain ⟨x4, rfl⟩ := ovr_of_below hbl; clear hbl))
              go_roundw
              case rel => exact ⟨q + 1, by omega, by go_num, ovr_of_below (by (repeat (first | with_reducible exact Below.refl _ _ | (with_reducible refine Below.setCell ?_ ?_ _; rotate_left; · (first | exact Nat.le_refl _ | assumption | omega | (simp; done) | (simp; omega))) | (with_reducible refine Below.alloc ?_ ?_ _; rotate_left; · (first | exact Nat.le_refl _ | assumption | omega | (simp; done) | (simp; omega))) | with_reducible refine below_ovr_of ?_ | with_reducible refine drew_below ?_ _ | with_reducible refine Below.drew ?_ | with_reducible assumption)))⟩
              case measure => simp [intOf]; omega
          · have h2I : (0 : Int) < (q : Int) := by omega
            obtain ⟨q1, hq1⟩ : ∃ q1, q = q1 + 1 := ⟨q - 1, by omega⟩
            have eq1 : (q : Int) - 1 = (q1 : Int) := by omega
            have hq1I : (q1 : Int) < (R.length : Int) := by omega
            have hq10 : (0 : Int) ≤ (q1 : Int) := by omega
            obtain ⟨g', e', _, b0, b1⟩ := qs q1 (by omega)
            cases e'
            obtain ⟨⟨px, py⟩, hxp⟩ : ∃ p, R.getD q1 (0, 0) = p := ⟨_, rfl⟩
            rw [hxp] at b0 b1
            simp only at b0 b1
            have HB := Lib.hid (HB1.out q1 fx fy px py (by omega) (by rw [← hq1]; exact hxy) hxp)
            have h1N := h1
            have h2N : 0 < q := h2
            clear hxy hxn hxp h2 h1 hq1
            go_wp2_with (first | (go_at_call 59; refine (psentNext_any _ _ L _ _ _ _ _ (by (repeat (first | assumption | refine LinesAt.ovr ?_ _ | refine LinesAt.alloc ?_ _ | refine LinesAt.drewN ?_ _ | refine LinesAt.drew ?_))) (by omega) (by omega)).mono ?_; rw [HN.out]; rintro e w1 ⟨rfl, hbl⟩; obtain ⟨x2, rfl⟩ := ovr_of_below hbl; clear hbl) | (go_at_call 61; refine (psentBack_any _ _ L _ _ _ _ (by (repeat (first | assumption | refine LinesAt.ovr ?_ _ | refine LinesAt.alloc ?_ _ | refine LinesAt.drewN ?_ _ | refine LinesAt.drew ?_))) (by omega) (by omega)).mono ?_; rw [HB.out]; rintro e w1 ⟨rfl, hbl⟩; obtain ⟨x3, rfl⟩ := ovr_of_below hbl; clear hbl))
            (refine wp_region_ovr (by kernel_rfl) (by kernel_rfl) ?_; (repeat (go_big_quiet_step (fail))); refine wpQuiet_nil ?_; rintro _ ⟨zq, rfl⟩)
            rcases HE2.out with hE | hE
            · have HE3 := Lib.hid hE
              clear hE
              go_wp2_with ((go_at_call 59; refine (psentNext_any _ _ L _ _ _ _ _ (by (repeat (first | assumption | refine LinesAt.ovr ?_ _ | refine LinesAt.alloc ?_ _ | refine LinesAt.drewN ?_ _ | refine LinesAt.drew ?_))) (by omega) (by omega)).mono ?_; rw [HE3.out]; rintro e w1 ⟨rfl, hbl⟩; obtain ⟨x4, rfl⟩ := ovr_of_below hbl; clear hbl))
              (refine wp_region_ovr (by kernel_rfl) (by kernel_rfl) ?_; (repeat (go_big_quiet_step (fail))); refine wpQuiet_nil ?_; rintro _ ⟨zq, rfl⟩)
              go_wp2
              go_roundw
              case rel => exact ⟨q + 1, by omega, by go_num, ovr_of_below (by (repeat (first | with_reducible exact Below.refl _ _ | (with_reducible refine Below.setCell ?_ ?_ _; rotate_left; · (first | exact Nat.le_refl _ | assumption | omega | (simp; done) | (simp; omega))) | (with_reducible refine Below.alloc ?_ ?_ _; rotate_left; · (first | exact Nat.le_refl _ | assumption | omega | (simp; done) | (simp; omega))) | with_reducible refine below_ovr_of ?_ | with_reducible refine drew_below ?_ _ | with_reducible refine Below.drew ?_ | with_reducible assumption)))⟩
              case measure => simp [intOf]; omega
            · have HE3 := Lib.hid hE
              clear hE
              go_wp2_with ((go_at_call 59; refine (psentNext_any _ _ L _ _ _ _ _ (by (repeat (first | assumption | refine LinesAt.ovr ?_ _ | refine LinesAt.alloc ?_ _ | refine LinesAt.drewN ?_ _ | refine LinesAt.drew ?_))) (by omega) (by omega)).mono ?_; rw [HE3.out]; rintro e w1 ⟨rfl, hbl⟩; obtain ⟨x4, rfl⟩ := ovr_of_below hbl; clear hbl))
              go_roundw
              case rel => exact ⟨q + 1, by omega, by go_num, ovr_of_below (by (repeat (first | with_reducible exact Below.refl _ _ | (with_reducible refine Below.setCell ?_ ?_ _; rotate_left; · (first | exact Nat.le_refl _ | assumption | omega | (simp; done) | (simp; omega))) | (with_reducible refine Below.alloc ?_ ?_ _; rotate_left; · (first | exact Nat.le_refl _ | assumption | omega | (simp; done) | (simp; omega))) | with_reducible refine below_ovr_of ?_ | with_reducible refine drew_below ?_ _ | with_reducible refine Below.drew ?_ | with_reducible assumption)))⟩
              case measure => simp [intOf]; omega
        · have h1I : ¬ (q : Int) + 1 < (R.length : Int) := by omega
          have h1N : ¬ q + 1 < R.length := by omega
          have h1J : (R.length : Int) ≤ (q : Int) + 1 := by omega
          have h1M : R.length ≤ q + 1 := by omega
          have h1d : decide ((q : Int) + 1 < (R.length : Int)) = false := decide_eq_false h1I
          have h1e : decide (q + 1 < R.length) = false := decide_eq_false h1N
          have HN := Lib.hid (HN0.out q fx fy hlt (by omega) hxy)
          rcases Nat.eq_zero_or_pos q with h2 | h2
          · have h2I : ¬ (0 : Int) < (q : Int) := by omega
            have h2N : ¬ 0 < q := by omega
            have HB := Lib.hid (HB0.out fx fy (by omega) (by have e := hxy; rw [h2] at e; exact e))
            clear hxy h2 h1
            go_wp2_with (first | (go_at_call 59; refine (psentNext_any _ _ L _ _ _ _ _ (by (repeat (first | assumption | refine LinesAt.ovr ?_ _ | refine LinesAt.alloc ?_ _ | refine LinesAt.drewN ?_ _ | refine LinesAt.drew ?_))) (by omega) (by omega)).mono ?_; rw [HN.out]; rintro e w1 ⟨rfl, hbl⟩; obtain ⟨x2, rfl⟩ := ovr_of_below hbl; clear hbl) | (go_at_call 61; refine (psentBack_any _ _ L _ _ _ _ (by (repeat (first | assumption | refine LinesAt.ovr ?_ _ | refine LinesAt.alloc ?_ _ | refine LinesAt.drewN ?_ _ | refine LinesAt.drew ?_))) (by omega) (by omega)).mono ?_; rw [HB.out]; rintro e w1 ⟨rfl, hbl⟩; obtain ⟨x3, rfl⟩ := ovr_of_below hbl; clear hbl))
            (refine wp_region_ovr (by kernel_rfl) (by kernel_rfl) ?_; (repeat (go_big_quiet_step (fail))); refine wpQuiet_nil ?_; rintro _ ⟨zq, rfl⟩)
            rcases HE2.out with hE | hE
            · have HE3 := Lib.hid hE
              clear hE
              go_wp2_with ((go_at_call 59; refine (psentNext_any _ _ L _ _ _ _ _ (by (repeat (first | assumption | refine LinesAt.ovr ?_ _ | refine LinesAt.alloc ?_ _ | refine LinesAt.drewN ?_ _ | refine LinesAt.drew ?_))) (by omega) (by omega)).mono ?_; rw [HE3.out]; rintro e w1 ⟨rfl, hbl⟩; obtain ⟨x4, rfl⟩ := ovr_of_below hbl; clear hbl))
              (refine wp_region_ovr (by kernel_rfl) (by kernel_rfl) ?_; (repeat (go_big_quiet_step (fail))); refine wpQuiet_nil ?_; rintro _ ⟨zq, rfl⟩)
              go_wp2
              go_roundw
              case rel => exact ⟨q + 1, by omega, by go_num, ovr_of_below (by (repeat (first | with_reducible exact Below.refl _ _ | (with_reducible refine Below.setCell ?_ ?_ _; rotate_left; · (first | exact Nat.le_refl _ | assumption | omega | (simp; done) | (simp; omega))) | (with_reducible refine Below.alloc ?_ ?_ _; rotate_left; · (first | exact Nat.le_refl _ | assumption | omega | (simp; done) | (simp; omega))) | with_reducible refine below_ovr_of ?_ | with_reducible refine drew_below ?_ _ | with_reducible refine Below.drew ?_ | with_reducible assumption)))⟩
              case measure => simp [intOf]; omega
            · have HE3 := Lib.hid hE
              clear hE
              go_wp2_with ((go_at_call 59; refine (psentNext_any _ _ L _ _ _ _ _ (by (repeat (first | assumption | refine LinesAt.ovr ?_ _ | refine LinesAt.alloc ?_ _ | refine LinesAt.drewN ?_ _ | refine LinesAt.drew ?_))) (by omega) (by omega)).mono ?_; rw [HE3.out]; rintro e w1 ⟨rfl, hbl⟩; obtain ⟨x4, rfl⟩ := ovr_of_below hbl; clear hbl))
              go_roundw
              case rel => exact ⟨q + 1, by omega, by go_num, ovr_of_below (by (repeat (first | with_reducible exact Below.refl _ _ | (with_reducible refine Below.setCell ?_ ?_ _; rotate_left; · (first | exact Nat.le_refl _ | assumption | omega | (simp; done) | (simp; omega))) | (with_reducible refine Below.alloc ?_ ?_ _; rotate_left; · (first | exact Nat.le_refl _ | assumption | omega | (simp; done) | (simp; omega))) | with_reducible refine below_ovr_of ?_ | with_reducible refine drew_below ?_ _ | with_reducible refine Below.drew ?_ | with_reducible assumption)))⟩
              case measure => simp [intOf]; omega
          · have h2I : (0 : Int) < (q : Int) := by omega
            obtain ⟨q1, hq1⟩ : ∃ q1, q = q1 + 1 := ⟨q - 1, by omega⟩
            have eq1 : (q : Int) - 1 = (q1 : Int) := by omega
            have hq1I : (q1 : Int) < (R.length : Int) := by omega
            have hq10 : (0 : Int) ≤ (q1 : Int) := by omega
            obtain ⟨g', e', _, b0, b1⟩ := qs q1 (by omega)
            cases e'
            obtain ⟨⟨px, py⟩, hxp⟩ : ∃ p, R.getD q1 (0, 0) = p := ⟨_, rfl⟩
            rw [hxp] at b0 b1
            simp only at b0 b1
            have HB := Lib.hid (HB1.out q1 fx fy px py (by omega) (by rw [← hq1]; exact hxy) hxp)
            have h2N : 0 < q := h2
            clear hxy hxp h2 h1 hq1
            go_wp2_with (first | (go_at_call 59; refine (psentNext_any _ _ L _ _ _ _ _ (by (repeat (first | assumption | refine LinesAt.ovr ?_ _ | refine LinesAt.alloc ?_ _ | refine LinesAt.drewN ?_ _ | refine LinesAt.drew ?_))) (by omega) (by omega)).mono ?_; rw [HN.out]; rintro e w1 ⟨rfl, hbl⟩; obtain ⟨x2, rfl⟩ := ovr_of_below hbl; clear hbl) | (go_at_call 61; refine (psentBack_any _ _ L _ _ _ _ (by (repeat (first | assumption | refine LinesAt.ovr ?_ _ | refine LinesAt.alloc ?_ _ | refine LinesAt.drewN ?_ _ | refine LinesAt.drew ?_))) (by omega) (by omega)).mono ?_; rw [HB.out]; rintro e w1 ⟨rfl, hbl⟩; obtain ⟨x3, rfl⟩ := ovr_of_below hbl; clear hbl))
            (refine wp_region_ovr (by kernel_rfl) (by kernel_rfl) ?_; (repeat (go_big_quiet_step (fail))); refine wpQuiet_nil ?_; rintro _ ⟨zq, rfl⟩)
            rcases HE2.out with hE | hE
            · have HE3 := Lib.hid hE
              clear hE
              go_wp2_with ((go_at_call 59; refine (psentNext_any _ _ L _ _ _ _ _ (by (repeat (first | assumption | refine LinesAt.ovr ?_ _ | refine LinesAt.alloc ?_ _ | refine LinesAt.drewN ?_ _ | refine LinesAt.drew ?_))) (by omega) (by omega)).mono ?_; rw [HE3.out]; rintro e w1 ⟨rfl, hbl⟩; obtain ⟨x4, rfl⟩ := ovr_of_below hbl; clear hbl))
              (refine wp_region_ovr (by kernel_rfl) (by kernel_rfl) ?_; (repeat (go_big_quiet_step (fail))); refine wpQuiet_nil ?_; rintro _ ⟨zq, rfl⟩)
              go_wp2
              go_roundw
              case rel => exact ⟨q + 1, by omega, by go_num, ovr_of_below (by (repeat (first | with_reducible exact Below.refl _ _ | (with_reducible refine Below.setCell ?_ ?_ _; rotate_left; · (first | exact Nat.le_refl _ | assumption | omega | (simp; done) | (simp; omega))) | (with_reducible refine Below.alloc ?_ ?_ _; rotate_left; · (first | exact Nat.le_refl _ | assumption | omega | (simp; done) | (simp; omega))) | with_reducible refine below_ovr_of ?_ | with_reducible refine drew_below ?_ _ | with_reducible refine Below.drew ?_ | with_reducible assumption)))⟩
              case measure => simp [intOf]; omega
            · have HE3 := Lib.hid hE
              clear hE
              go_wp2_with ((go_at_call 59; refine (psentNext_any _ _ L _ _ _ _ _ (by (repeat (first | assumption | refine LinesAt.ovr ?_ _ | refine LinesAt.alloc ?_ _ | refine LinesAt.drewN ?_ _ | refine LinesAt.drew ?_))) (by omega) (by omega)).mono ?_; rw [HE3.out]; rintro e w1 ⟨rfl, hbl⟩; obtain ⟨x4, rfl⟩ := ovr_of_below hbl; clear hbl))
              go_roundw
              case rel => exact ⟨q + 1, by omega, by go_num, ovr_of_below (by (repeat (first | with_reducible exact Below.refl _ _ | (with_reducible refine Below.setCell ?_ ?_ _; rotate_left; · (first | exact Nat.le_refl _ | assumption | omega | (simp; done) | (simp; omega))) | (with_reducible refine Below.alloc ?_ ?_ _; rotate_left; · (first | exact Nat.le_refl _ | assumption | omega | (simp; done) | (simp; omega))) | with_reducible refine below_ovr_of ?_ | with_reducible refine drew_below ?_ _ | with_reducible refine Below.drew ?_ | with_reducible assumption)))⟩
              case measure => simp [intOf]; omega
      · have hqI : ¬ (q : Int) < (R.length : Int) := by omega
        go_wp2
        go_ret
        exact ⟨rfl, by (repeat (first | with_reducible exact Below.refl _ _ | (with_reducible refine Below.setCell ?_ ?_ _; rotate_left; · (first | exact Nat.le_refl _ | assumption | omega | (simp; done) | (simp; omega))) | (with_reducible refine Below.alloc ?_ ?_ _; rotate_left; · (first | exact Nat.le_refl _ | assumption | omega | (simp; done) | (simp; omega))) | with_reducible refine below_ovr_of ?_ | with_reducible refine drew_below ?_ _ | with_reducible refine Below.drew ?_ | with_reducible assumption))⟩
end Go.Proofs.Ytnaceobbbfbhhaa
