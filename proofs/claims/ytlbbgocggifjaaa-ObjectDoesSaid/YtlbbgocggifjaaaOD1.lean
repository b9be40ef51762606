/- Several texts in one: Word8. Conditions: none beyond what each says. -/
import Derived.Test.YtlbbgocggifjaaaOD0
namespace Go.Proofs.Ytlbbgocggifjaaa
open Go.RowKit

theorem ofC_zero (c : Int) (big : Bool) : (ofC c big == 0) = (ofC c true == 0) := by
  by_cases h : c = 32 ∨ c = 9
  · simp only [ofC, if_pos h]
  · simp only [ofC, if_neg h]
    cases big with
    | true => rfl
    | false =>
      simp only [if_true, Bool.false_eq_true, if_false]
      split <;> rfl
/-- The byte that a run begins with, and whether it is a blank. -/
theorem blk_at {s : ByteArray} {big : Bool} {R : List (Nat × Nat)} (hch : chainR s big 0 R) {i x : Nat} (hi : i < R.length) (hx : (R.getD i (0, 0)).1 = x) : ∃ h : x < s.size, (ofC (s[x].toNat : Int) big == 0) = blW s R i := by
  have h := (chain_at hch hi).2
  rw [hx] at h
  have hxs : x < s.size := by omega
  refine ⟨hxs, ?_⟩
  rw [blW, decide_eq_true hi, Bool.true_and, blkR, hx, byt_at' s x hxs, ofC_zero]
theorem ovr_ovr (w x y : World) : ∃ z, ovr (ovr w x) y = ovr w z := ovr_of_below ((below_ovr w x).trans ((below_ovr (ovr w x) y).mono (by simp)))
theorem blW_out {s : ByteArray} {R : List (Nat × Nat)} {i : Nat} (h : R.length ≤ i) : blW s R i = false := by rw [blW, decide_eq_false (by omega)]; rfl

set_option maxRecDepth 100000 in
set_option maxHeartbeats 16000000 in
theorem rwaround_any (a : Option Addr) (cap : Nat) (L : List ByteArray) (pl pc n : Int) (big : Bool) (w : World) (hL : LinesAt w a L) (htot : total L ≤ 100000) :
    Calls Try.prog 43 #[.slice a L.length cap, .agg #[.int .i64 pl, .int .i64 pc], .int .i64 n, .bool big] w fun e w' => e = .returned (rngV (wordP L pl pc n big true)) ∧ Below w.heap.size w w' := by
  have hn := hL.2.1
  by_cases h : 1 ≤ n ∧ byteB L pl pc = true ∧ ¬ (ln L pl).size = 0
  · have HON : Hid ((byteB L pl pc && decide (1 ≤ n)) = true) := Lib.hid (by rw [h.2.1, decide_eq_true h.1]; rfl)
    obtain ⟨l, c, m, k, rfl, rfl, rfl, hl, hm, hc, hch, hk, hi, hw⟩ := word_in h big
    replace hw := hw true
    rw [if_pos rfl] at hw
    have hst := size_le_total L l hl
    have hrl := chain_len hch
    have hne : ¬ (L.getD l .empty).size = 0 := by omega
    have hlast : ∀ j, j < k → ¬ c < ((runF (L.getD l .empty) big 0 0).getD j (0, 0)).2 := fun j hj => by
      have := chain_mono hch hj hk.1
      have := hk.2.1
      omega
    obtain ⟨k1, k2, k3⟩ := hk
    obtain ⟨b, off, s, rfl, hbb, hcell, hs, HS⟩ := line_facts' hL hl
    rw [HS.out] at hlast hw k1 k2 k3 hrl hst hne hch
    have HRR := Lib.hid (fun (w0 : World) => rruns_any s big w0 (by omega))
    obtain ⟨R, hR⟩ : ∃ R, runF s big 0 0 = R := ⟨_, rfl⟩
    rw [hR] at hw k1 k2 k3 hrl hlast HRR hch
    have hse := str_empty hne
    have HLA := Lib.hid hlast
    have HKK := Lib.hid (And.intro k2 k3)
    have HCH := Lib.hid hch
    have hlI : (l : Int) < (L.length : Int) := by omega
    have hl0 : (0 : Int) ≤ (l : Int) := by omega
    have hkI : (k : Int) < (R.length : Int) := by omega
    have hk0 : (0 : Int) ≤ (k : Int) := by omega
    have hk4 : (k : Int) ≤ 100000 := by omega
    have hR4 : (R.length : Int) ≤ 100000 := by omega
    have hR5 : R.length ≤ 100000 := by omega
    obtain ⟨fx0, hfx0⟩ : ∃ fx, (R.getD k (0, 0)).1 = fx := ⟨_, rfl⟩
    obtain ⟨hx0, tB0⟩ := blk_at hch k1 hfx0
    have hx0I : (fx0 : Int) < (s.size : Int) := by omega
    have hx00 : (0 : Int) ≤ (fx0 : Int) := by omega
    have HFX0 := Lib.hid hfx0
    obtain ⟨ah, hah⟩ : ∃ ah, blW s R k = ah := ⟨_, rfl⟩
    rw [hah] at tB0
    have HAH := Lib.hid hah
    obtain ⟨O, hO⟩ : ∃ O, loopW (blW s R) R.length (blW s R k) m k = O := ⟨_, rfl⟩
    have HO := Lib.hid hO
    rw [hah] at hO
    have HO2 := Lib.hid hO
    have HW := Lib.hid hw
    clear h hR hi hc hne hl k2 k3 hlast hch hs hah hO hw hfx0
    go_enter Try.func43, Try.ntmps43
    go_wp2_with fail
    go_at_call 100; refine (on_at _ _ L _ _ _ _ (by (repeat (first | assumption | refine LinesAt.ovr ?_ _ | refine LinesAt.alloc ?_ _ | refine LinesAt.drewN ?_ _ | refine LinesAt.drew ?_))) HON).mono ?_; rintro e w1 ⟨rfl, hbl⟩; obtain ⟨x1, rfl⟩ := ovr_of_below hbl; clear hbl
    go_wp2_with fail
    go_at_call 38; refine (HRR.out _).mono ?_; rintro e w1 ⟨ra, rcap, rfl, hp, _, hbs, hbl⟩; obtain ⟨x2, rfl⟩ := ovr_of_below ((below_ovr _ _).trans (hbl.mono (by simp))); clear hbl
    have HP := Lib.hid hp
    obtain ⟨g, rfl, hg, ca0, _⟩ := hp k k1
    have hgb := hbs g rfl
    simp at hg hgb
    have g1 : ¬ g = w.heap.size := by omega
    have g2 : ¬ g = w.heap.size + 1 := by omega
    have g3 : ¬ g < w.heap.size := by omega
    rw [HFX0.out] at ca0
    clear hp hbs
    go_wp2_with fail
    go_at_call 107; refine (rfind_any _ _ R hR5 c k _ HP.out k1 HKK.out HLA.out).mono ?_; rintro e w1 ⟨rfl, rfl⟩
    go_wp2_with fail
    (refine wp_region_ovr (by kernel_rfl) (by kernel_rfl) ?_; (repeat (go_big_quiet_step (fail))); refine wpQuiet_nil ?_; rintro _ ⟨zq, rfl⟩)
    obtain ⟨z, hz⟩ := ovr_ovr ((w.alloc (.cells #[.int .i64 (l : Int), .int .i64 (c : Int)] 29)).alloc (.cells #[.int .i64 0, .int .i64 0, .int .i64 0, .int .i64 0, .int .i64 0] 46)) x2 zq
    have hpz := HP.out.ovr zq
    rw [hz] at hpz ⊢
    have HPZ := Lib.hid hpz
    obtain ⟨g', e, hgz, cz0, _⟩ := hpz k k1
    obtain rfl : g = g' := by simpa using e
    rw [HFX0.out] at cz0
    clear hz hpz HP ca0 e
    go_wp2_with (go_at_call 101; refine (rof_any _ _ _).mono ?_; rintro e w1 ⟨rfl, rfl⟩)
    clear cz0 tB0
    refine name_world ?_
    intro W0 hW0
    have HW0 := Lib.hid hW0
    have HC0 : Hid (∀ i, i < R.length → W0.cell? ⟨g, i * 2, none⟩ = some (.int .i64 ((R.getD i (0, 0)).1 : Int)) ∧ W0.cell? ⟨g, i * 2 + 1, none⟩ = some (.int .i64 ((R.getD i (0, 0)).2 : Int))) := Lib.hid (by
      rw [hW0]
      intro i hi
      obtain ⟨g', e, _, c1, c2⟩ := HPZ.out i hi
      obtain rfl : g = g' := by simpa using e
      exact ⟨c1, c2⟩)
    have hgW : g < W0.heap.size := by rw [hW0]; exact hgz
    clear hW0
    go_loop [13, 16, 17] (fun q t j => ∃ (J A : Nat) (tk : Bool), J ≤ m ∧ j = .int .i64 J ∧ q = .int .i64 A ∧ t = .bool tk ∧ k + J ≤ A ∧ A ≤ R.length ∧ Hid (loopW (blW s R) R.length ah (m - J) A = O) ∧ Hid (ah = false → blW s R A = false) ∧ Hid (0 < J → ah = false → tk = blW s R (A - 1))) (fun _ _ j => m - (intOf j).toNat)
    case atStart => exact ⟨0, k, false, Nat.zero_le _, rfl, rfl, rfl, by omega, by omega, Lib.hid HO2.out, Lib.hid (fun e => HAH.out.trans e), Lib.hid (fun e => by omega)⟩
    case round =>
      obtain ⟨J, A, tk, hJ, rfl, rfl, rfl, hkA, hA, HL, HIN, HTK⟩ := hrel
      have hA0 : (0 : Int) ≤ (A : Int) := by omega
      by_cases hlt : J < m
      · have hJI : (J : Int) < (m : Int) := by omega
        have hl := HL.out
        rw [show m - J = (m - (J + 1)) + 1 by omega] at hl
        cases ah with
        | true =>
          by_cases hAl : A < R.length
          · have hAlI : (A : Int) < (R.length : Int) := by omega
            obtain ⟨x, hx⟩ : ∃ x, (R.getD (A) (0, 0)).1 = x := ⟨_, rfl⟩
            obtain ⟨hxs, tB⟩ := blk_at HCH.out hAl hx
            have cA := (HC0.out (A) hAl).1
            rw [hx] at cA
            have hxI : (x : Int) < (s.size : Int) := by omega
            have hx0 : (0 : Int) ≤ (x : Int) := by omega
            clear hx
            cases hbA : blW s R A with
            | true =>
              have hmm : (if (true && blW s R A) = true then A + 1 else A) = A + 1 := by rw [hbA]; rfl
              rw [hbA] at tB
              clear hbA
              by_cases hle : R.length ≤ A + 1
              · have hle2 : (R.length : Int) ≤ (A : Int) + 1 := by omega
                have HON := Lib.hid (hl.symm.trans (loopW_none (stepW_none hmm hle)))
                have HY : Hid (wordP L l c m big true = noR) := Lib.hid (by rw [HW.out, arndO_none (by rw [HO.out]; exact HON.out)])
                clear hmm hl
                have hW0 := HW0.out
                clear HC0
                subst hW0
                go_wp2_with (go_at_call 101; refine (rof_any _ _ _).mono ?_; rintro e w1 ⟨rfl, rfl⟩)
                refine bodyPost_ret (v := rngV noR) (by simp [results, Try.results43, go_sem, noR]) rfl ⟨by rw [HY.out], by (repeat (first | with_reducible exact Below.refl _ _ | (with_reducible refine Below.setCell ?_ ?_ _; rotate_left; · (first | exact Nat.le_refl _ | assumption | omega | (simp; done) | (simp; omega))) | (with_reducible refine Below.alloc ?_ ?_ _; rotate_left; · (first | exact Nat.le_refl _ | assumption | omega | (simp; done) | (simp; omega))) | with_reducible refine below_ovr_of ?_ | with_reducible refine drew_below ?_ _ | with_reducible refine Below.drew ?_ | with_reducible assumption))⟩
              · have hle2 : ¬ (R.length : Int) ≤ (A : Int) + 1 := by omega
                have HL2 := Lib.hid ((loopW_some (n := m - (J + 1)) (stepW_some (j := A + 2) hmm (by omega) rfl)).symm.trans hl)
                clear hmm hl
                go_wp2_with (go_at_call 101; refine (rof_any _ _ _).mono ?_; rintro e w1 ⟨rfl, rfl⟩)
                go_round
                case rel => exact ⟨J + 1, A + 2, false, by omega, by go_num, by congr 1 <;> omega, rfl, by omega, by omega, HL2, Lib.hid (fun e => by cases e), Lib.hid (fun _ e => by cases e)⟩
                case measure => simp [intOf]; omega
            | false =>
              have hmm : (if (true && blW s R A) = true then A + 1 else A) = A := by rw [hbA]; rfl
              rw [hbA] at tB
              clear hbA
              have HL2 := Lib.hid ((loopW_some (n := m - (J + 1)) (stepW_some (j := A + 1) hmm (by omega) rfl)).symm.trans hl)
              clear hmm hl
              go_wp2_with (go_at_call 101; refine (rof_any _ _ _).mono ?_; rintro e w1 ⟨rfl, rfl⟩)
              go_round
              case rel => exact ⟨J + 1, A + 1, false, by omega, by go_num, by congr 1 <;> omega, rfl, by omega, by omega, HL2, Lib.hid (fun e => by cases e), Lib.hid (fun _ e => by cases e)⟩
              case measure => simp [intOf]; omega
          · have hAlI : ¬ (A : Int) < (R.length : Int) := by omega
            have hAlD : decide (A < R.length) = false := decide_eq_false hAl
            have hmm : (if (true && blW s R A) = true then A + 1 else A) = A := by rw [blW_out (by omega)]; rfl
            have hle : R.length ≤ A := by omega
            have hle2 : (R.length : Int) ≤ (A : Int) := by omega
            have HON := Lib.hid (hl.symm.trans (loopW_none (stepW_none hmm hle)))
            have HY : Hid (wordP L l c m big true = noR) := Lib.hid (by rw [HW.out, arndO_none (by rw [HO.out]; exact HON.out)])
            clear hmm hl
            have hW0 := HW0.out
            clear HC0
            subst hW0
            go_wp2_with (go_at_call 101; refine (rof_any _ _ _).mono ?_; rintro e w1 ⟨rfl, rfl⟩)
            refine bodyPost_ret (v := rngV noR) (by simp [results, Try.results43, go_sem, noR]) rfl ⟨by rw [HY.out], by (repeat (first | with_reducible exact Below.refl _ _ | (with_reducible refine Below.setCell ?_ ?_ _; rotate_left; · (first | exact Nat.le_refl _ | assumption | omega | (simp; done) | (simp; omega))) | (with_reducible refine Below.alloc ?_ ?_ _; rotate_left; · (first | exact Nat.le_refl _ | assumption | omega | (simp; done) | (simp; omega))) | with_reducible refine below_ovr_of ?_ | with_reducible refine drew_below ?_ _ | with_reducible refine Below.drew ?_ | with_reducible assumption))⟩
        | false =>
          have hmm : (if (false && blW s R A) = true then A + 1 else A) = A := by simp
          by_cases hle : R.length ≤ A
          · have hle2 : (R.length : Int) ≤ (A : Int) := by omega
            have HON := Lib.hid (hl.symm.trans (loopW_none (stepW_none hmm hle)))
            have HY : Hid (wordP L l c m big true = noR) := Lib.hid (by rw [HW.out, arndO_none (by rw [HO.out]; exact HON.out)])
            clear hmm hl
            have hW0 := HW0.out
            clear HC0
            subst hW0
            go_wp2_with (go_at_call 101; refine (rof_any _ _ _).mono ?_; rintro e w1 ⟨rfl, rfl⟩)
            refine bodyPost_ret (v := rngV noR) (by simp [results, Try.results43, go_sem, noR]) rfl ⟨by rw [HY.out], by (repeat (first | with_reducible exact Below.refl _ _ | (with_reducible refine Below.setCell ?_ ?_ _; rotate_left; · (first | exact Nat.le_refl _ | assumption | omega | (simp; done) | (simp; omega))) | (with_reducible refine Below.alloc ?_ ?_ _; rotate_left; · (first | exact Nat.le_refl _ | assumption | omega | (simp; done) | (simp; omega))) | with_reducible refine below_ovr_of ?_ | with_reducible refine drew_below ?_ _ | with_reducible refine Below.drew ?_ | with_reducible assumption))⟩
          · have hle2 : ¬ (R.length : Int) ≤ (A : Int) := by omega
            by_cases hAl : A + 1 < R.length
            · have hAlI : (A : Int) + 1 < (R.length : Int) := by omega
              obtain ⟨x, hx⟩ : ∃ x, (R.getD (A + 1) (0, 0)).1 = x := ⟨_, rfl⟩
              obtain ⟨hxs, tB⟩ := blk_at HCH.out hAl hx
              have cA := (HC0.out (A + 1) hAl).1
              rw [hx] at cA
              have hxI : (x : Int) < (s.size : Int) := by omega
              have hx0 : (0 : Int) ≤ (x : Int) := by omega
              clear hx
              cases hbA : blW s R (A + 1) with
              | true =>
                rw [hbA] at tB
                have HBA := Lib.hid hbA
                clear hbA
                have HL2 := Lib.hid ((loopW_some (n := m - (J + 1)) (stepW_some (j := A + 2) hmm (by omega) (by rw [HBA.out]; rfl))).symm.trans hl)
                clear hmm hl
                go_wp2_with (go_at_call 101; refine (rof_any _ _ _).mono ?_; rintro e w1 ⟨rfl, rfl⟩)
                go_round
                case rel => exact ⟨J + 1, A + 2, true, by omega, by go_num, by congr 1 <;> omega, rfl, by omega, by omega, HL2, Lib.hid (fun _ => blW_next HCH.out HBA.out), Lib.hid (fun _ _ => HBA.out.symm)⟩
                case measure => simp [intOf]; omega
              | false =>
                rw [hbA] at tB
                have HBA := Lib.hid hbA
                clear hbA
                have HL2 := Lib.hid ((loopW_some (n := m - (J + 1)) (stepW_some (j := A + 1) hmm (by omega) (by rw [HBA.out]; rfl))).symm.trans hl)
                clear hmm hl
                go_wp2_with (go_at_call 101; refine (rof_any _ _ _).mono ?_; rintro e w1 ⟨rfl, rfl⟩)
                go_round
                case rel => exact ⟨J + 1, A + 1, false, by omega, by go_num, by congr 1 <;> omega, rfl, by omega, by omega, HL2, Lib.hid (fun _ => HBA.out), Lib.hid (fun _ _ => (HIN.out (by simp)).symm)⟩
                case measure => simp [intOf]; omega
            · have hAlI : ¬ (A : Int) + 1 < (R.length : Int) := by omega
              have hAlD : decide (A + 1 < R.length) = false := decide_eq_false hAl
              have HBA : Hid (blW s R (A + 1) = false) := Lib.hid (blW_out (by omega))
              have HL2 := Lib.hid ((loopW_some (n := m - (J + 1)) (stepW_some (j := A + 1) hmm (by omega) (by rw [HBA.out]; rfl))).symm.trans hl)
              clear hmm hl
              go_wp2_with (go_at_call 101; refine (rof_any _ _ _).mono ?_; rintro e w1 ⟨rfl, rfl⟩)
              go_round
              case rel => exact ⟨J + 1, A + 1, false, by omega, by go_num, by congr 1 <;> omega, rfl, by omega, by omega, HL2, Lib.hid (fun _ => HBA.out), Lib.hid (fun _ _ => (HIN.out (by simp)).symm)⟩
              case measure => simp [intOf]; omega
      · have hJI : ¬ (J : Int) < (m : Int) := by omega
        have hl := HL.out
        rw [show m - J = 0 by omega, loopW] at hl
        have hO2 := HO.out
        rw [← hl] at hO2
        obtain ⟨f, hf⟩ : ∃ f, (if (!blW s R k && !blW s R (A - 1) && (decide (0 < k) && blW s R (k - 1))) = true then k - 1 else k) = f := ⟨_, rfl⟩
        obtain ⟨fx, hfx⟩ : ∃ fx, (R.getD f (0, 0)).1 = fx := ⟨_, rfl⟩
        obtain ⟨A5, hA5⟩ : ∃ A5, A - 1 = A5 := ⟨_, rfl⟩
        obtain ⟨fy, hfy⟩ : ∃ fy, (R.getD (A - 1) (0, 0)).2 = fy := ⟨_, rfl⟩
        have HY := Lib.hid (HW.out.trans (arndO_some hO2 hf hfx hfy))
        have htk := HTK.out (by omega)
        rw [hA5] at hfy hf htk
        have hA5l : A5 < R.length := by omega
        have eA : (A : Int) - 1 = (A5 : Int) := by omega
        have eA2 : IntKind.i64.wrap (A5 : Int) = (A5 : Int) := IntWalk.i64_in _ (by omega)
        have hA50 : (0 : Int) ≤ (A5 : Int) := by omega
        have hA5I : (A5 : Int) < (R.length : Int) := by omega
        have cb := (HC0.out A5 hA5l).2
        rw [hfy] at cb
        rw [HAH.out] at hf
        have HFX := Lib.hid hfx
        have HCB := Lib.hid cb
        clear hfx hfy hA5 hl hO2 cb
        cases ah with
        | true =>
          obtain rfl : k = f := by simpa using hf
          clear htk hf
          obtain rfl : fx = fx0 := HFX.out.symm.trans HFX0.out
          go_wp2_with (go_at_call 101; refine (rof_any _ _ _).mono ?_; rintro e w1 ⟨rfl, rfl⟩)
          have hW0 := HW0.out
          have cb := HCB.out
          clear HC0
          subst hW0
          simp at hgW
          go_region_held3 (fun w' => w.heap.size < w'.heap.size ∧ g < w'.heap.size ∧ w'.cell? ⟨w.heap.size, 0, none⟩ = some (.int .i64 l) ∧ w'.cell? ⟨w.heap.size, 1, none⟩ = some (.int .i64 c) ∧ w'.cell? ⟨g, A5 * 2 + 1, none⟩ = some (.int .i64 fy)) (((repeat' apply And.intro) <;> first | assumption | (refine cell_ovr_drew ?_; assumption) | (refine cell_ovr_swap (by assumption) ?_ ?_ <;> (simp; try omega)) | (simp [go_sem]; done) | (simp [go_sem, *]; done) | (simp [go_sem]; omega))) ((go_at_call 102; refine (in_any _ _ _ _).mono ?_; rintro e w1 ⟨rfl, hbl⟩; obtain ⟨x, rfl⟩ := ovr_of_below hbl; clear hbl))
          all_goals go_wp2
          all_goals (refine bodyPost_ret (v := rngV ((0, (l : Int), (fx : Int), (l : Int), (fy : Int)), true)) (by simp [results, Try.results43, go_sem]) rfl ⟨by rw [HY.out], by (repeat (first | with_reducible exact Below.refl _ _ | (with_reducible refine Below.setCell ?_ ?_ _; rotate_left; · (first | exact Nat.le_refl _ | assumption | omega | (simp; done) | (simp; omega))) | (with_reducible refine Below.alloc ?_ ?_ _; rotate_left; · (first | exact Nat.le_refl _ | assumption | omega | (simp; done) | (simp; omega))) | with_reducible refine below_ovr_of ?_ | with_reducible refine drew_below ?_ _ | with_reducible refine Below.drew ?_ | with_reducible assumption))⟩)
        | false =>
          replace htk := htk rfl
          rw [← htk] at hf
          clear htk
          cases tk with
          | true =>
            obtain rfl : k = f := by simpa using hf
            clear hf
            obtain rfl : fx = fx0 := HFX.out.symm.trans HFX0.out
            go_wp2_with (go_at_call 101; refine (rof_any _ _ _).mono ?_; rintro e w1 ⟨rfl, rfl⟩)
            have hW0 := HW0.out
            have cb := HCB.out
            clear HC0
            subst hW0
            simp at hgW
            go_region_held3 (fun w' => w.heap.size < w'.heap.size ∧ g < w'.heap.size ∧ w'.cell? ⟨w.heap.size, 0, none⟩ = some (.int .i64 l) ∧ w'.cell? ⟨w.heap.size, 1, none⟩ = some (.int .i64 c) ∧ w'.cell? ⟨g, A5 * 2 + 1, none⟩ = some (.int .i64 fy)) (((repeat' apply And.intro) <;> first | assumption | (refine cell_ovr_drew ?_; assumption) | (refine cell_ovr_swap (by assumption) ?_ ?_ <;> (simp; try omega)) | (simp [go_sem]; done) | (simp [go_sem, *]; done) | (simp [go_sem]; omega))) ((go_at_call 102; refine (in_any _ _ _ _).mono ?_; rintro e w1 ⟨rfl, hbl⟩; obtain ⟨x, rfl⟩ := ovr_of_below hbl; clear hbl))
            all_goals go_wp2
            all_goals (refine bodyPost_ret (v := rngV ((0, (l : Int), (fx : Int), (l : Int), (fy : Int)), true)) (by simp [results, Try.results43, go_sem]) rfl ⟨by rw [HY.out], by (repeat (first | with_reducible exact Below.refl _ _ | (with_reducible refine Below.setCell ?_ ?_ _; rotate_left; · (first | exact Nat.le_refl _ | assumption | omega | (simp; done) | (simp; omega))) | (with_reducible refine Below.alloc ?_ ?_ _; rotate_left; · (first | exact Nat.le_refl _ | assumption | omega | (simp; done) | (simp; omega))) | with_reducible refine below_ovr_of ?_ | with_reducible refine drew_below ?_ _ | with_reducible refine Below.drew ?_ | with_reducible assumption))⟩)
          | false =>
            by_cases hkp : 0 < k
            · have hkpI : (0 : Int) < (k : Int) := by omega
              obtain ⟨k6, hk6⟩ : ∃ k6, k - 1 = k6 := ⟨_, rfl⟩
              have ek : (k : Int) - 1 = (k6 : Int) := by omega
              have hk60 : (0 : Int) ≤ (k6 : Int) := by omega
              have hk6l : k6 < R.length := by omega
              have hk6I : (k6 : Int) < (R.length : Int) := by omega
              rw [hk6, decide_eq_true hkp] at hf
              clear hk6
              obtain ⟨x, hx⟩ : ∃ x, (R.getD (k6) (0, 0)).1 = x := ⟨_, rfl⟩
              obtain ⟨hxs, tB⟩ := blk_at HCH.out hk6l hx
              have cA := (HC0.out (k6) hk6l).1
              rw [hx] at cA
              have hxI : (x : Int) < (s.size : Int) := by omega
              have hx0 : (0 : Int) ≤ (x : Int) := by omega
              clear hx
              have hcc := HC0.out k6 hk6l
              cases hb6 : blW s R k6 with
              | true =>
                obtain rfl : k6 = f := by rw [hb6] at hf; simpa using hf
                rw [HFX.out] at hcc
                have cF := hcc.1
                have ex := cA.symm.trans cF
                obtain rfl : fx = x := by simp at ex; omega
                rw [hb6] at tB
                clear hf hb6 hcc ex cF
                go_wp2_with (go_at_call 101; refine (rof_any _ _ _).mono ?_; rintro e w1 ⟨rfl, rfl⟩)
                have hW0 := HW0.out
                have cb := HCB.out
                clear HC0
                subst hW0
                simp at hgW
                go_region_held3 (fun w' => w.heap.size < w'.heap.size ∧ g < w'.heap.size ∧ w'.cell? ⟨w.heap.size, 0, none⟩ = some (.int .i64 l) ∧ w'.cell? ⟨w.heap.size, 1, none⟩ = some (.int .i64 c) ∧ w'.cell? ⟨g, A5 * 2 + 1, none⟩ = some (.int .i64 fy)) (((repeat' apply And.intro) <;> first | assumption | (refine cell_ovr_drew ?_; assumption) | (refine cell_ovr_swap (by assumption) ?_ ?_ <;> (simp; try omega)) | (simp [go_sem]; done) | (simp [go_sem, *]; done) | (simp [go_sem]; omega))) ((go_at_call 102; refine (in_any _ _ _ _).mono ?_; rintro e w1 ⟨rfl, hbl⟩; obtain ⟨x, rfl⟩ := ovr_of_below hbl; clear hbl))
                all_goals go_wp2
                all_goals (refine bodyPost_ret (v := rngV ((0, (l : Int), (fx : Int), (l : Int), (fy : Int)), true)) (by simp [results, Try.results43, go_sem]) rfl ⟨by rw [HY.out], by (repeat (first | with_reducible exact Below.refl _ _ | (with_reducible refine Below.setCell ?_ ?_ _; rotate_left; · (first | exact Nat.le_refl _ | assumption | omega | (simp; done) | (simp; omega))) | (with_reducible refine Below.alloc ?_ ?_ _; rotate_left; · (first | exact Nat.le_refl _ | assumption | omega | (simp; done) | (simp; omega))) | with_reducible refine below_ovr_of ?_ | with_reducible refine drew_below ?_ _ | with_reducible refine Below.drew ?_ | with_reducible assumption))⟩)
              | false =>
                obtain rfl : k = f := by rw [hb6] at hf; simpa using hf
                obtain rfl : fx = fx0 := HFX.out.symm.trans HFX0.out
                rw [hb6] at tB
                clear hf hb6 hcc
                go_wp2_with (go_at_call 101; refine (rof_any _ _ _).mono ?_; rintro e w1 ⟨rfl, rfl⟩)
                have hW0 := HW0.out
                have cb := HCB.out
                clear HC0
                subst hW0
                simp at hgW
                go_region_held3 (fun w' => w.heap.size < w'.heap.size ∧ g < w'.heap.size ∧ w'.cell? ⟨w.heap.size, 0, none⟩ = some (.int .i64 l) ∧ w'.cell? ⟨w.heap.size, 1, none⟩ = some (.int .i64 c) ∧ w'.cell? ⟨g, A5 * 2 + 1, none⟩ = some (.int .i64 fy)) (((repeat' apply And.intro) <;> first | assumption | (refine cell_ovr_drew ?_; assumption) | (refine cell_ovr_swap (by assumption) ?_ ?_ <;> (simp; try omega)) | (simp [go_sem]; done) | (simp [go_sem, *]; done) | (simp [go_sem]; omega))) ((go_at_call 102; refine (in_any _ _ _ _).mono ?_; rintro e w1 ⟨rfl, hbl⟩; obtain ⟨x, rfl⟩ := ovr_of_below hbl; clear hbl))
                all_goals go_wp2
                all_goals (refine bodyPost_ret (v := rngV ((0, (l : Int), (fx : Int), (l : Int), (fy : Int)), true)) (by simp [results, Try.results43, go_sem]) rfl ⟨by rw [HY.out], by (repeat (first | with_reducible exact Below.refl _ _ | (with_reducible refine Below.setCell ?_ ?_ _; rotate_left; · (first | exact Nat.le_refl _ | assumption | omega | (simp; done) | (simp; omega))) | (with_reducible refine Below.alloc ?_ ?_ _; rotate_left; · (first | exact Nat.le_refl _ | assumption | omega | (simp; done) | (simp; omega))) | with_reducible refine below_ovr_of ?_ | with_reducible refine drew_below ?_ _ | with_reducible refine Below.drew ?_ | with_reducible assumption))⟩)
            · have hkpI : ¬ (0 : Int) < (k : Int) := by omega
              have hkpD : decide (0 < k) = false := decide_eq_false hkp
              obtain rfl : k = f := by rw [hkpD] at hf; simpa using hf
              clear hf
              obtain rfl : fx = fx0 := HFX.out.symm.trans HFX0.out
              go_wp2_with (go_at_call 101; refine (rof_any _ _ _).mono ?_; rintro e w1 ⟨rfl, rfl⟩)
              have hW0 := HW0.out
              have cb := HCB.out
              clear HC0
              subst hW0
              simp at hgW
              go_region_held3 (fun w' => w.heap.size < w'.heap.size ∧ g < w'.heap.size ∧ w'.cell? ⟨w.heap.size, 0, none⟩ = some (.int .i64 l) ∧ w'.cell? ⟨w.heap.size, 1, none⟩ = some (.int .i64 c) ∧ w'.cell? ⟨g, A5 * 2 + 1, none⟩ = some (.int .i64 fy)) (((repeat' apply And.intro) <;> first | assumption | (refine cell_ovr_drew ?_; assumption) | (refine cell_ovr_swap (by assumption) ?_ ?_ <;> (simp; try omega)) | (simp [go_sem]; done) | (simp [go_sem, *]; done) | (simp [go_sem]; omega))) ((go_at_call 102; refine (in_any _ _ _ _).mono ?_; rintro e w1 ⟨rfl, hbl⟩; obtain ⟨x, rfl⟩ := ovr_of_below hbl; clear hbl))
              all_goals go_wp2
              all_goals (refine bodyPost_ret (v := rngV ((0, (l : Int), (fx : Int), (l : Int), (fy : Int)), true)) (by simp [results, Try.results43, go_sem]) rfl ⟨by rw [HY.out], by (repeat (first | with_reducible exact Below.refl _ _ | (with_reducible refine Below.setCell ?_ ?_ _; rotate_left; · (first | exact Nat.le_refl _ | assumption | omega | (simp; done) | (simp; omega))) | (with_reducible refine Below.alloc ?_ ?_ _; rotate_left; · (first | exact Nat.le_refl _ | assumption | omega | (simp; done) | (simp; omega))) | with_reducible refine below_ovr_of ?_ | with_reducible refine drew_below ?_ _ | with_reducible refine Below.drew ?_ | with_reducible assumption))⟩)
  · rw [wordP_no h]
    exact rwaround_no a cap L pl pc n big w hL h
end Go.Proofs.Ytlbbgocggifjaaa
