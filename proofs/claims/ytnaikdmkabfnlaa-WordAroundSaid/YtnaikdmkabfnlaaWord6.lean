/- The contract of wordobj.Around. Conditions: none beyond what it says. -/
import Derived.Test.YtnaikdmkabfnlaaWord5
namespace Go.Proofs.Ytnaikdmkabfnlaa
open Go.RowKit

theorem cell_al {A A' x1 : World} {o : Obj} {b off : Nat} {v : Value} (h : (ovr A x1).cell? ⟨b, off, none⟩ = some v) (hs : A'.heap.size = A.heap.size) (hg : A.heap.size ≤ b) : ((ovr A' x1).alloc o).drew.cell? ⟨b, off, none⟩ = some v := by
  have e : (ovr A' x1).heap[b]? = (ovr A x1).heap[b]? := by
    simp only [ovr, Array.getElem?_append]
    rw [if_neg (by omega), if_neg (by omega), hs]
  have h' : (ovr A' x1).cell? ⟨b, off, none⟩ = some v := by rw [← h]; simp [World.cell?, e]
  exact (((Below.refl _ (ovr A' x1)).alloc (Nat.le_refl _) o).cell (p := ⟨b, off, none⟩) (World.block_lt_of_cell? _ _ h')).trans h'
theorem cell_al_ovr {A A' x1 x : World} {o : Obj} {b off : Nat} {v : Value} (h : (ovr A x1).cell? ⟨b, off, none⟩ = some v) (hs : A'.heap.size = A.heap.size) (hg : A.heap.size ≤ b) : (ovr ((ovr A' x1).alloc o).drew x).cell? ⟨b, off, none⟩ = some v :=
  (cell?_ovr _ _ _ _ (World.block_lt_of_cell? _ _ (cell_al (A' := A') (o := o) h hs hg))).trans (cell_al h hs hg)
/-- Is run i one of blanks? Of any number. -/
def blZ (s : ByteArray) (R : List (Nat × Nat)) (i : Int) : Bool := decide (0 ≤ i) && blW s R i.toNat
theorem blZ_nat (s : ByteArray) (R : List (Nat × Nat)) (i : Nat) : blZ s R (i : Int) = blW s R i := by simp [blZ]
theorem blZ_no {s : ByteArray} {R : List (Nat × Nat)} {i : Int} (h : i < 0 ∨ (R.length : Int) ≤ i) : blZ s R i = false := by
  rw [blZ]
  rcases h with h | h
  · rw [decide_eq_false (by omega)]; rfl
  · rw [blW, decide_eq_false (show ¬ i.toNat < R.length by omega)]; simp
theorem blZ_yes {s : ByteArray} {R : List (Nat × Nat)} {i : Nat} (h : i < R.length) : blZ s R (i : Int) = blkR s (R.getD i (0, 0)) := by rw [blZ_nat, blW, decide_eq_true h, Bool.true_and]

set_option maxHeartbeats 1000000 in
theorem wblank_any (Bl : Nat) (ra : Option Addr) (rcap : Nat) (s : ByteArray) (R : List (Nat × Nat)) (i : Int) (w : World) (hl : w.cell? ⟨Bl, 0, none⟩ = some (.slice ra R.length rcap)) (ht : TriAt (blkR s) w ra R) :
    Calls Try.prog 76 #[.int .i64 i, .pointer (some ⟨Bl, 0, none⟩)] w fun e w' => e = .returned (.bool (blZ s R i)) ∧ w = w' := by
  by_cases h0 : 0 ≤ i
  · by_cases h1 : i < (R.length : Int)
    · obtain ⟨k, rfl⟩ := Int.eq_ofNat_of_zero_le h0
      obtain ⟨g, rfl, hg, c1, c2, c3⟩ := ht k (by omega)
      have HY := Lib.hid (blZ_yes (s := s) (R := R) (i := k) (by omega))
      obtain ⟨bb, hbb⟩ : ∃ bb, blkR s (R.getD k (0, 0)) = bb := ⟨_, rfl⟩
      rw [hbb] at HY c3
      clear ht hbb c1 c2
      go_enter Try.func76, Try.ntmps76
      go_wp2
      go_ret
      exact ⟨ret_bool (by rw [HY.out]), rfl⟩
    · have HY := Lib.hid (blZ_no (s := s) (R := R) (i := i) (.inr (by omega)))
      have h1d : decide (i < (R.length : Int)) = false := decide_eq_false h1
      clear ht h1
      go_enter Try.func76, Try.ntmps76
      go_wp2
      go_ret
      exact ⟨ret_bool (by rw [HY.out]), rfl⟩
  · have HY := Lib.hid (blZ_no (s := s) (R := R) (i := i) (.inl (by omega)))
    have h0d : decide (0 ≤ i) = false := decide_eq_false h0
    clear ht h0
    go_enter Try.func76, Try.ntmps76
    go_wp2
    go_ret
    exact ⟨ret_bool (by rw [HY.out]), rfl⟩
theorem blZ_pred (s : ByteArray) (R : List (Nat × Nat)) (k : Nat) : blZ s R ((k : Int) - 1) = (decide (0 < k) && blW s R (k - 1)) := by
  rcases Nat.eq_zero_or_pos k with rfl | h
  · simp [blZ]
  · rw [blZ, show ((k : Int) - 1).toNat = k - 1 by omega, decide_eq_true (show (0 : Int) ≤ (k : Int) - 1 by omega), decide_eq_true h]
set_option maxRecDepth 100000 in
set_option maxHeartbeats 8000000 in
theorem waround_any (a : Option Addr) (cap : Nat) (L : List ByteArray) (pl pc n : Int) (big : Bool) (w : World) (hL : LinesAt w a L) (htot : total L ≤ 100000) :
    Calls Try.prog 44 #[.slice a L.length cap, .agg #[.int .i64 pl, .int .i64 pc], .int .i64 n, .bool big] w fun e w' => e = .returned (rngV (wordP L pl pc n big true)) ∧ Below w.heap.size w w' := by
  have hn := hL.2.1
  by_cases h : 1 ≤ n ∧ byteB L pl pc = true ∧ ¬ (ln L pl).size = 0
  · obtain ⟨l, c, m, k, rfl, rfl, rfl, hl, hm, hc, hch, hk, hi, hw⟩ := word_in h big
    replace hw := hw true
    rw [if_pos rfl] at hw
    have hb := byteB_at hl hc
    have hst := size_le_total L l hl
    have hrl := chain_len hch
    have hne : ¬ (L.getD l .empty).size = 0 := by omega
    obtain ⟨k1, k2, k3⟩ := hk
    clear h
    obtain ⟨R, hR⟩ : ∃ R, runF (L.getD l .empty) big 0 0 = R := ⟨_, rfl⟩
    have HRUN := Lib.hid (fun (w0 : World) (h0 : LinesAt w0 a L) => wruns_yes a cap L l c m big w0 h0 htot hl hb (by omega) hne)
    rw [hR] at hw k1 k2 k3 hrl hi hch
    rw [hR, hi] at HRUN
    obtain ⟨s, hs⟩ : ∃ s, L.getD l .empty = s := ⟨_, rfl⟩
    rw [hs] at hw HRUN hch
    have hkI : (k : Int) < (R.length : Int) := by omega
    have hk0 : (0 : Int) ≤ (k : Int) := by omega
    have hk4 : (k : Int) ≤ 100000 := by omega
    have hR4 : (R.length : Int) ≤ 100000 := by omega
    have hR5 : R.length ≤ 100000 := by omega
    have HCH := Lib.hid hch
    clear hb hR hi hc hne hl k2 k3 hch hs
    by_cases hmk : m ≤ R.length
    · have hmI : ¬ ((R.length : Int) < (m : Int)) := by omega
      obtain ⟨ah, hah⟩ : ∃ ah, blW s R k = ah := ⟨_, rfl⟩
      have HAH := Lib.hid hah
      have HAZ := Lib.hid ((blZ_nat s R k).trans hah)
      obtain ⟨O, hO⟩ : ∃ O, loopW (blW s R) R.length (blW s R k) m k = O := ⟨_, rfl⟩
      have HO := Lib.hid hO
      rw [hah] at hO
      have HO2 := Lib.hid hO
      have HW := Lib.hid hw
      clear hah hO hw
      go_enter Try.func44, Try.ntmps44
      go_wp2_with fail
      go_at_call 73; refine (HRUN.out _ (by (repeat (first | assumption | refine LinesAt.ovr ?_ _ | refine LinesAt.alloc ?_ _ | refine LinesAt.drewN ?_ _ | refine LinesAt.drew ?_)))).mono ?_; rintro e w1 ⟨ra, rcap, rfl, ht, hbs, hbl⟩
      obtain ⟨x1, rfl⟩ := ovr_of_below hbl; clear hbl
      have HBS := Lib.hid hbs
      have HT := Lib.hid ht
      clear hbs
      clear ht HRUN
      go_wp2_with fail
      go_at_call 76; refine (wblank_any _ ra rcap s R _ _ (by simp [go_sem]) (HT.out.alloc _)).mono ?_; rw [HAZ.out]; rintro e w1 ⟨rfl, rfl⟩
      go_wp2_with fail
      go_loop [15, 42] (fun q j => ∃ J A : Nat, J ≤ m ∧ j = .int .i64 J ∧ q = .int .i64 A ∧ k + J ≤ A ∧ A ≤ R.length ∧ Hid (J = 0 → A = k) ∧ Hid (loopW (blW s R) R.length ah (m - J) A = O)) (fun _ j => m - (intOf j).toNat)
      case atStart => exact ⟨0, k, Nat.zero_le _, rfl, rfl, by omega, by omega, Lib.hid (fun _ => rfl), Lib.hid HO2.out⟩
      case round =>
        obtain ⟨J, A, hJ, rfl, rfl, hkA, hA, HJ0, HL⟩ := hrel
        have hAZ := blZ_nat s R A
        by_cases hlt : J < m
        · have hJI : (J : Int) < (m : Int) := by omega
          have hl := HL.out
          rw [show m - J = (m - (J + 1)) + 1 by omega] at hl
          cases ah with
          | true =>
            obtain ⟨bA, hbA⟩ : ∃ bA, blW s R A = bA := ⟨_, rfl⟩
            obtain ⟨mm, hmm⟩ : ∃ mm, (if (true && blW s R A) = true then A + 1 else A) = mm := ⟨_, rfl⟩
            have HM := Lib.hid hmm
            have hmm2 : (mm : Int) = (A : Int) + (if bA = true then 1 else 0) := by rw [← hmm, hbA]; cases bA <;> simp
            have HZ := Lib.hid (hAZ.trans hbA)
            by_cases hle : R.length ≤ mm
            · have HON := Lib.hid (hl.symm.trans (loopW_none (stepW_none hmm hle)))
              have HY : Hid (wordP L l c m big true = noR) := Lib.hid (by rw [HW.out, arndO_none (by rw [HO.out]; exact HON.out)])
              clear hmm hl hbA hAZ
              cases bA
              all_goals (
                simp at hmm2
                have hle2 : (R.length : Int) ≤ (mm : Int) := by omega
                rw [hmm2] at hle2
                clear hmm2
                go_wp2_with (go_at_call 76; refine (wblank_any _ ra rcap s R _ _ (by simp [go_sem]) (HT.out.alloc _)).mono ?_; rw [HZ.out]; rintro e w1 ⟨rfl, rfl⟩)
                refine bodyPost_ret (v := rngV noR) (by simp [results, Try.results44, go_sem, noR]) rfl ⟨by rw [HY.out], by (repeat (first | with_reducible exact Below.refl _ _ | (with_reducible refine Below.setCell ?_ ?_ _; rotate_left; · (first | exact Nat.le_refl _ | assumption | omega | (simp; done) | (simp; omega))) | (with_reducible refine Below.alloc ?_ ?_ _; rotate_left; · (first | exact Nat.le_refl _ | assumption | omega | (simp; done) | (simp; omega))) | with_reducible refine below_ovr_of ?_ | with_reducible refine drew_below ?_ _ | with_reducible refine Below.drew ?_ | with_reducible assumption))⟩)
            · have HL2 := Lib.hid ((loopW_some (n := m - (J + 1)) (stepW_some (j := mm + 1) hmm (by omega) (by simp))).symm.trans hl)
              clear hmm hl hbA hAZ
              cases bA
              all_goals (
                simp at hmm2
                have hle2 : ¬ (R.length : Int) ≤ (mm : Int) := by omega
                have hmA : (mm : Int) ≤ 200000 := by omega
                rw [hmm2] at hle2
                have HMM := Lib.hid hmm2
                clear hmm2
                go_wp2_with (go_at_call 76; refine (wblank_any _ ra rcap s R _ _ (by simp [go_sem]) (HT.out.alloc _)).mono ?_; rw [HZ.out]; rintro e w1 ⟨rfl, rfl⟩)
                go_round
                case rel => exact ⟨J + 1, mm + 1, by omega, by go_num, by have := HMM.out; congr 1; omega, by have := HMM.out; omega, by omega, Lib.hid (fun e => by omega), HL2⟩
                case measure => simp [intOf]; omega)
          | false =>
            have hmm : (if (false && blW s R A) = true then A + 1 else A) = A := by simp
            by_cases hle : R.length ≤ A
            · have HON := Lib.hid (hl.symm.trans (loopW_none (stepW_none hmm hle)))
              have HY : Hid (wordP L l c m big true = noR) := Lib.hid (by rw [HW.out, arndO_none (by rw [HO.out]; exact HON.out)])
              have hle2 : (R.length : Int) ≤ (A : Int) := by omega
              clear hmm hl hAZ
              go_wp2_with fail
              refine bodyPost_ret (v := rngV noR) (by simp [results, Try.results44, go_sem, noR]) rfl ⟨by rw [HY.out], by (repeat (first | with_reducible exact Below.refl _ _ | (with_reducible refine Below.setCell ?_ ?_ _; rotate_left; · (first | exact Nat.le_refl _ | assumption | omega | (simp; done) | (simp; omega))) | (with_reducible refine Below.alloc ?_ ?_ _; rotate_left; · (first | exact Nat.le_refl _ | assumption | omega | (simp; done) | (simp; omega))) | with_reducible refine below_ovr_of ?_ | with_reducible refine drew_below ?_ _ | with_reducible refine Below.drew ?_ | with_reducible assumption))⟩
            · have hle2 : ¬ (R.length : Int) ≤ (A : Int) := by omega
              have hA4 : (A : Int) ≤ 200000 := by omega
              cases hbA : blW s R (A + 1) with
              | true =>
                have hA2 : A + 1 < R.length := by
                  simp only [blW, Bool.and_eq_true, decide_eq_true_eq] at hbA
                  exact hbA.1
                have HL2 := Lib.hid ((loopW_some (n := m - (J + 1)) (stepW_some (j := A + 2) hmm (by omega) (by rw [hbA]; rfl))).symm.trans hl)
                have HZ : Hid (blZ s R ((A : Int) + 1) = true) := Lib.hid (by rw [show (A : Int) + 1 = ((A + 1 : Nat) : Int) by omega, blZ_nat, hbA])
                clear hmm hl hAZ hbA
                go_wp2_with (go_at_call 76; refine (wblank_any _ ra rcap s R _ _ (by simp [go_sem]) (HT.out.alloc _)).mono ?_; rw [HZ.out]; rintro e w1 ⟨rfl, rfl⟩)
                go_round
                case rel => exact ⟨J + 1, A + 2, by omega, by go_num, by congr 1 <;> omega, by omega, by omega, Lib.hid (fun e => by omega), HL2⟩
                case measure => simp [intOf]; omega
              | false =>
                have HL2 := Lib.hid ((loopW_some (n := m - (J + 1)) (stepW_some (j := A + 1) hmm (by omega) (by rw [hbA]; rfl))).symm.trans hl)
                have HZ : Hid (blZ s R ((A : Int) + 1) = false) := Lib.hid (by rw [show (A : Int) + 1 = ((A + 1 : Nat) : Int) by omega, blZ_nat, hbA])
                clear hmm hl hAZ hbA
                go_wp2_with (go_at_call 76; refine (wblank_any _ ra rcap s R _ _ (by simp [go_sem]) (HT.out.alloc _)).mono ?_; rw [HZ.out]; rintro e w1 ⟨rfl, rfl⟩)
                go_round
                case rel => exact ⟨J + 1, A + 1, by omega, by go_num, by congr 1, by omega, by omega, Lib.hid (fun e => by omega), HL2⟩
                case measure => simp [intOf]; omega
        · have hJI : ¬ (J : Int) < (m : Int) := by omega
          have hl := HL.out
          rw [show m - J = 0 by omega, loopW] at hl
          have hO2 := HO.out
          rw [← hl] at hO2
          obtain ⟨f, hf⟩ : ∃ f, (if (!blW s R k && !blW s R (A - 1) && (decide (0 < k) && blW s R (k - 1))) = true then k - 1 else k) = f := ⟨_, rfl⟩
          obtain ⟨fx, hfx⟩ : ∃ fx, (R.getD f (0, 0)).1 = fx := ⟨_, rfl⟩
          obtain ⟨A5, hA5⟩ : ∃ A5, A - 1 = A5 := ⟨_, rfl⟩
          obtain ⟨fy, hfy⟩ : ∃ fy, (R.getD (A - 1) (0, 0)).2 = fy := ⟨_, rfl⟩
          have HY := Lib.hid (HW.out.trans (arndO_some hO2 hf hfx hfy))
          rw [hA5] at hfy hf
          have hA5l : A5 < R.length := by omega
          have eA : (A : Int) - 1 = (A5 : Int) := by omega
          have eA2 : IntKind.i64.wrap (A5 : Int) = (A5 : Int) := IntWalk.i64_in _ (by omega)
          have hA50 : (0 : Int) ≤ (A5 : Int) := by omega
          have hA5I : (A5 : Int) < (R.length : Int) := by omega
          have hfl : f < R.length := by rw [← hf]; split <;> omega
          obtain ⟨g, rfl, hg, ca, _, _⟩ := HT.out f hfl
          obtain ⟨g', hgg, _, _, cb, _⟩ := HT.out A5 hA5l
          obtain rfl : g = g' := by simpa using hgg
          have hgb := HBS.out g rfl
          simp at hg hgb
          rw [hfx] at ca
          rw [hfy] at cb
          have HF := Lib.hid hf
          clear hfx hfy hgg hf hA5 hl hO2 hAZ
          have HT3 := HF.out
          rw [HAH.out] at HT3
          obtain ⟨b1, hb1⟩ : ∃ b1, blW s R A5 = b1 := ⟨_, rfl⟩
          obtain ⟨b2, hb2⟩ : ∃ b2, (decide (0 < k) && blW s R (k - 1)) = b2 := ⟨_, rfl⟩
          rw [hb1, hb2] at HT3
          have HZ1 := Lib.hid ((blZ_nat s R A5).trans hb1)
          have HZ2 := Lib.hid ((blZ_pred s R k).trans hb2)
          have hk6 : (!ah && !b1 && b2) = false ∧ f = k ∨ ((!ah && !b1 && b2) = true ∧ (k : Int) - 1 = (f : Int)) := by
            cases hq : (!ah && !b1 && b2) with
            | false => rw [hq] at HT3; exact .inl ⟨rfl, by simpa using HT3.symm⟩
            | true =>
              rw [hq] at HT3
              simp only [Bool.and_eq_true] at hq
              have hb2' := hb2
              rw [hq.2] at hb2'
              simp only [Bool.and_eq_true, decide_eq_true_eq] at hb2'
              rw [if_pos rfl] at HT3
              exact .inr ⟨rfl, by omega⟩
          have hf0 : (0 : Int) ≤ (f : Int) := by omega
          have hfI : (f : Int) < (R.length : Int) := by omega
          clear hb1 hb2 HT3
          rcases hk6 with ⟨hq, hfk⟩ | ⟨hq, hfk⟩
          · subst hfk
            cases ah with
            | true =>
              clear hq
              go_wp2_with fail
              go_region_held3 (fun w' => w.heap.size + 1 + 1 + x1.heap.size < w'.heap.size ∧ g < w'.heap.size ∧ w'.cell? ⟨w.heap.size, 0, none⟩ = some (.int .i64 l) ∧ w'.cell? ⟨w.heap.size, 1, none⟩ = some (.int .i64 c) ∧ w'.cell? ⟨w.heap.size + 1 + 1 + x1.heap.size, 0, none⟩ = some (.slice (some ⟨g, 0, none⟩) R.length rcap) ∧ w'.cell? ⟨g, f * 3, none⟩ = some (.int .i64 fx) ∧ w'.cell? ⟨g, A5 * 3 + 1, none⟩ = some (.int .i64 fy)) (((repeat' apply And.intro) <;> first | assumption | (refine cell_al (by assumption) ?_ ?_ <;> (simp; try omega)) | (refine cell_al_ovr (by assumption) ?_ ?_ <;> (simp; try omega)) | (simp [go_sem]; done) | (simp [go_sem, *]; done) | (simp [go_sem]; omega))) ((go_at_call 74; refine (wwithin_any _ _ _ _ _).mono ?_; rintro e w1 ⟨rfl, hbl⟩; obtain ⟨x, rfl⟩ := ovr_of_below hbl; clear hbl))
              all_goals go_wp2
              all_goals (refine bodyPost_ret (v := rngV ((0, (l : Int), (fx : Int), (l : Int), (fy : Int)), true)) (by simp [results, Try.results44, go_sem]) rfl ⟨by rw [HY.out], by (repeat (first | with_reducible exact Below.refl _ _ | (with_reducible refine Below.setCell ?_ ?_ _; rotate_left; · (first | exact Nat.le_refl _ | assumption | omega | (simp; done) | (simp; omega))) | (with_reducible refine Below.alloc ?_ ?_ _; rotate_left; · (first | exact Nat.le_refl _ | assumption | omega | (simp; done) | (simp; omega))) | with_reducible refine below_ovr_of ?_ | with_reducible refine drew_below ?_ _ | with_reducible refine Below.drew ?_ | with_reducible assumption))⟩)
            | false =>
              cases b1 with
              | true =>
                clear hq
                go_wp2_with fail
                go_at_call 76; refine (wblank_any _ (some ⟨g, 0, none⟩) rcap s R _ _ (by simp [go_sem]) (HT.out.alloc _)).mono ?_; rw [HZ1.out]; rintro e w1 ⟨rfl, rfl⟩
                go_wp2_with fail
                go_region_held3 (fun w' => w.heap.size + 1 + 1 + x1.heap.size < w'.heap.size ∧ g < w'.heap.size ∧ w'.cell? ⟨w.heap.size, 0, none⟩ = some (.int .i64 l) ∧ w'.cell? ⟨w.heap.size, 1, none⟩ = some (.int .i64 c) ∧ w'.cell? ⟨w.heap.size + 1 + 1 + x1.heap.size, 0, none⟩ = some (.slice (some ⟨g, 0, none⟩) R.length rcap) ∧ w'.cell? ⟨g, f * 3, none⟩ = some (.int .i64 fx) ∧ w'.cell? ⟨g, A5 * 3 + 1, none⟩ = some (.int .i64 fy)) (((repeat' apply And.intro) <;> first | assumption | (refine cell_al (by assumption) ?_ ?_ <;> (simp; try omega)) | (refine cell_al_ovr (by assumption) ?_ ?_ <;> (simp; try omega)) | (simp [go_sem]; done) | (simp [go_sem, *]; done) | (simp [go_sem]; omega))) ((go_at_call 74; refine (wwithin_any _ _ _ _ _).mono ?_; rintro e w1 ⟨rfl, hbl⟩; obtain ⟨x, rfl⟩ := ovr_of_below hbl; clear hbl))
                all_goals go_wp2
                all_goals (refine bodyPost_ret (v := rngV ((0, (l : Int), (fx : Int), (l : Int), (fy : Int)), true)) (by simp [results, Try.results44, go_sem]) rfl ⟨by rw [HY.out], by (repeat (first | with_reducible exact Below.refl _ _ | (with_reducible refine Below.setCell ?_ ?_ _; rotate_left; · (first | exact Nat.le_refl _ | assumption | omega | (simp; done) | (simp; omega))) | (with_reducible refine Below.alloc ?_ ?_ _; rotate_left; · (first | exact Nat.le_refl _ | assumption | omega | (simp; done) | (simp; omega))) | with_reducible refine below_ovr_of ?_ | with_reducible refine drew_below ?_ _ | with_reducible refine Below.drew ?_ | with_reducible assumption))⟩)
              | false =>
                have hq2 : b2 = false := by simpa using hq
                subst hq2
                clear hq
                go_wp2_with fail
                go_at_call 76; refine (wblank_any _ (some ⟨g, 0, none⟩) rcap s R _ _ (by simp [go_sem]) (HT.out.alloc _)).mono ?_; rw [HZ1.out]; rintro e w1 ⟨rfl, rfl⟩
                go_wp2_with fail
                go_at_call 76; refine (wblank_any _ (some ⟨g, 0, none⟩) rcap s R _ _ (by simp [go_sem]) (HT.out.alloc _)).mono ?_; rw [HZ2.out]; rintro e w1 ⟨rfl, rfl⟩
                go_wp2_with fail
                go_region_held3 (fun w' => w.heap.size + 1 + 1 + x1.heap.size < w'.heap.size ∧ g < w'.heap.size ∧ w'.cell? ⟨w.heap.size, 0, none⟩ = some (.int .i64 l) ∧ w'.cell? ⟨w.heap.size, 1, none⟩ = some (.int .i64 c) ∧ w'.cell? ⟨w.heap.size + 1 + 1 + x1.heap.size, 0, none⟩ = some (.slice (some ⟨g, 0, none⟩) R.length rcap) ∧ w'.cell? ⟨g, f * 3, none⟩ = some (.int .i64 fx) ∧ w'.cell? ⟨g, A5 * 3 + 1, none⟩ = some (.int .i64 fy)) (((repeat' apply And.intro) <;> first | assumption | (refine cell_al (by assumption) ?_ ?_ <;> (simp; try omega)) | (refine cell_al_ovr (by assumption) ?_ ?_ <;> (simp; try omega)) | (simp [go_sem]; done) | (simp [go_sem, *]; done) | (simp [go_sem]; omega))) ((go_at_call 74; refine (wwithin_any _ _ _ _ _).mono ?_; rintro e w1 ⟨rfl, hbl⟩; obtain ⟨x, rfl⟩ := ovr_of_below hbl; clear hbl))
                all_goals go_wp2
                all_goals (refine bodyPost_ret (v := rngV ((0, (l : Int), (fx : Int), (l : Int), (fy : Int)), true)) (by simp [results, Try.results44, go_sem]) rfl ⟨by rw [HY.out], by (repeat (first | with_reducible exact Below.refl _ _ | (with_reducible refine Below.setCell ?_ ?_ _; rotate_left; · (first | exact Nat.le_refl _ | assumption | omega | (simp; done) | (simp; omega))) | (with_reducible refine Below.alloc ?_ ?_ _; rotate_left; · (first | exact Nat.le_refl _ | assumption | omega | (simp; done) | (simp; omega))) | with_reducible refine below_ovr_of ?_ | with_reducible refine drew_below ?_ _ | with_reducible refine Below.drew ?_ | with_reducible assumption))⟩)
          · simp only [Bool.and_eq_true, Bool.not_eq_true'] at hq
            obtain ⟨⟨hq1, hq2⟩, hq3⟩ := hq
            subst hq1 hq2 hq3
            rw [hfk] at HZ2
            go_wp2_with fail
            go_at_call 76; refine (wblank_any _ (some ⟨g, 0, none⟩) rcap s R _ _ (by simp [go_sem]) (HT.out.alloc _)).mono ?_; rw [HZ1.out]; rintro e w1 ⟨rfl, rfl⟩
            go_wp2_with fail
            go_at_call 76; refine (wblank_any _ (some ⟨g, 0, none⟩) rcap s R _ _ (by simp [go_sem]) (HT.out.alloc _)).mono ?_; rw [HZ2.out]; rintro e w1 ⟨rfl, rfl⟩
            go_wp2_with fail
            go_region_held3 (fun w' => w.heap.size + 1 + 1 + x1.heap.size < w'.heap.size ∧ g < w'.heap.size ∧ w'.cell? ⟨w.heap.size, 0, none⟩ = some (.int .i64 l) ∧ w'.cell? ⟨w.heap.size, 1, none⟩ = some (.int .i64 c) ∧ w'.cell? ⟨w.heap.size + 1 + 1 + x1.heap.size, 0, none⟩ = some (.slice (some ⟨g, 0, none⟩) R.length rcap) ∧ w'.cell? ⟨g, f * 3, none⟩ = some (.int .i64 fx) ∧ w'.cell? ⟨g, A5 * 3 + 1, none⟩ = some (.int .i64 fy)) (((repeat' apply And.intro) <;> first | assumption | (refine cell_al (by assumption) ?_ ?_ <;> (simp; try omega)) | (refine cell_al_ovr (by assumption) ?_ ?_ <;> (simp; try omega)) | (simp [go_sem]; done) | (simp [go_sem, *]; done) | (simp [go_sem]; omega))) ((go_at_call 74; refine (wwithin_any _ _ _ _ _).mono ?_; rintro e w1 ⟨rfl, hbl⟩; obtain ⟨x, rfl⟩ := ovr_of_below hbl; clear hbl))
            all_goals go_wp2
            all_goals (refine bodyPost_ret (v := rngV ((0, (l : Int), (fx : Int), (l : Int), (fy : Int)), true)) (by simp [results, Try.results44, go_sem]) rfl ⟨by rw [HY.out], by (repeat (first | with_reducible exact Below.refl _ _ | (with_reducible refine Below.setCell ?_ ?_ _; rotate_left; · (first | exact Nat.le_refl _ | assumption | omega | (simp; done) | (simp; omega))) | (with_reducible refine Below.alloc ?_ ?_ _; rotate_left; · (first | exact Nat.le_refl _ | assumption | omega | (simp; done) | (simp; omega))) | with_reducible refine below_ovr_of ?_ | with_reducible refine drew_below ?_ _ | with_reducible refine Below.drew ?_ | with_reducible assumption))⟩)
    · have HY : Hid (wordP L l c m big true = noR) := Lib.hid (by rw [hw, arndO_none (loopW_big _ _ (by omega))])
      have hmI : ((R.length : Int) < (m : Int)) := by omega
      clear hw
      go_enter Try.func44, Try.ntmps44
      go_wp2_with (go_at_call 73; refine (HRUN.out _ (by (repeat (first | assumption | refine LinesAt.ovr ?_ _ | refine LinesAt.alloc ?_ _ | refine LinesAt.drewN ?_ _ | refine LinesAt.drew ?_)))).mono ?_; rintro e w1 ⟨ra, rcap, rfl, ht, hbs, hbl⟩; clear ht hbs; obtain ⟨x1, rfl⟩ := ovr_of_below hbl; clear hbl)
      refine bodyPost_ret (v := rngV noR) (by simp [results, Try.results44, go_sem, noR]) rfl ⟨by rw [HY.out], by (repeat (first | with_reducible exact Below.refl _ _ | (with_reducible refine Below.setCell ?_ ?_ _; rotate_left; · (first | exact Nat.le_refl _ | assumption | omega | (simp; done) | (simp; omega))) | (with_reducible refine Below.alloc ?_ ?_ _; rotate_left; · (first | exact Nat.le_refl _ | assumption | omega | (simp; done) | (simp; omega))) | with_reducible refine below_ovr_of ?_ | with_reducible refine drew_below ?_ _ | with_reducible refine Below.drew ?_ | with_reducible assumption))⟩
  · have HY := Lib.hid (wordP_no (big := big) (around := true) h)
    go_enter Try.func44, Try.ntmps44
    go_wp2_with (go_at_call 73; refine (wruns_no _ _ L _ _ _ _ _ (by (repeat (first | assumption | refine LinesAt.ovr ?_ _ | refine LinesAt.alloc ?_ _ | refine LinesAt.drewN ?_ _ | refine LinesAt.drew ?_))) h).mono ?_; rintro e w1 ⟨rfl, hbl⟩; obtain ⟨x, rfl⟩ := ovr_of_below hbl; clear hbl)
    refine bodyPost_ret (v := rngV noR) (by simp [results, Try.results44, go_sem, noR]) rfl ⟨by rw [HY.out], by (repeat (first | with_reducible exact Below.refl _ _ | (with_reducible refine Below.setCell ?_ ?_ _; rotate_left; · (first | exact Nat.le_refl _ | assumption | omega | (simp; done) | (simp; omega))) | (with_reducible refine Below.alloc ?_ ?_ _; rotate_left; · (first | exact Nat.le_refl _ | assumption | omega | (simp; done) | (simp; omega))) | with_reducible refine below_ovr_of ?_ | with_reducible refine drew_below ?_ _ | with_reducible refine Below.drew ?_ | with_reducible assumption))⟩
end Go.Proofs.Ytnaikdmkabfnlaa
