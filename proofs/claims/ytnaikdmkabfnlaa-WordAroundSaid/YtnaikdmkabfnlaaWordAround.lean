/- The walk of the law WordAround. Conditions: none beyond what it says. -/
import Derived.Test.YtnaikdmkabfnlaaWordLaws
import Derived.OpenShut
namespace Go.Proofs.Ytnaikdmkabfnlaa
open Go.RowKit

theorem run_class {s : ByteArray} {big : Bool} {R : List (Nat × Nat)} (h : chainR s big 0 R) {k j : Nat} (hk : k < R.length) (h1 : (R.getD k (0, 0)).1 ≤ j) (h2 : j < (R.getD k (0, 0)).2) : (ofC (byt s j) true == 0) = blW s R k := by
  have g := (chain_at h hk).2.2.2.1 j h1 h2
  rw [blW, decide_eq_true hk, Bool.true_and, blkR]
  simp only [clsB] at g
  have e : ∀ x : Int, (ofC x big == 0) = (ofC x true == 0) := by
    intro x
    by_cases h : x = 32 ∨ x = 9
    · simp only [ofC, if_pos h]
    · simp only [ofC, if_neg h]
      cases big with
      | true => rfl
      | false =>
        simp only [if_true, Bool.false_eq_true, if_false]
        split <;> rfl
  rw [← e, ← e, g]
/-- A word and what is around it. -/
theorem word_one {L : List ByteArray} {pl pc : Int} (h : (1 : Int) ≤ 1 ∧ byteB L pl pc = true ∧ ¬ (ln L pl).size = 0) (big : Bool) : ∃ l c A B : Nat, pl = l ∧ pc = c ∧ l < L.length ∧ c < (L.getD l .empty).size ∧ A < B ∧ B ≤ (L.getD l .empty).size ∧ wordP L l c 1 big false = ((0, (l : Int), (A : Int), (l : Int), (B : Int)), true) ∧
    (((ofC (byt (L.getD l .empty) c) true == 0) = true ∧ ((B < (L.getD l .empty).size ∧ ∃ B2 : Nat, B < B2 ∧ wordP L l c 1 big true = ((0, (l : Int), (A : Int), (l : Int), (B2 : Int)), true)) ∨ (¬ B < (L.getD l .empty).size ∧ wordP L l c 1 big true = ((0, 0, 0, 0, 0), false)))) ∨
     ((ofC (byt (L.getD l .empty) c) true == 0) = false ∧ ∃ A2 B2 : Nat, wordP L l c 1 big true = ((0, (l : Int), (A2 : Int), (l : Int), (B2 : Int)), true) ∧ A2 ≤ A ∧ B ≤ B2 ∧ (A2 = A ∨ B2 = B) ∧ B2 ≤ (L.getD l .empty).size ∧
       ∀ j : Nat, ((A2 ≤ j ∧ j < A) ∨ (B ≤ j ∧ j < B2)) → ofC (byt (L.getD l .empty) j) true = 0)) := by
  obtain ⟨l, c, m, k, rfl, rfl, e3, hl, hm, hc, hch, hk, hi, hw⟩ := word_in h big
  obtain rfl : 1 = m := by omega
  obtain ⟨s, hs⟩ : ∃ s, L.getD l .empty = s := ⟨_, rfl⟩
  obtain ⟨R, hR⟩ : ∃ R, runF (L.getD l .empty) big 0 0 = R := ⟨_, rfl⟩
  rw [hR] at hch hk hi hw
  rw [hs] at hch hc hw
  have hw1 := hw false
  have hw2 := hw true
  rw [if_neg (by decide)] at hw1
  rw [if_pos rfl] at hw2
  obtain ⟨k1, k2, k3⟩ := hk
  have gk := chain_at hch k1
  rw [innrO, if_pos (by omega), show k + 1 - 1 = k by omega] at hw1
  refine ⟨l, c, (R.getD k (0, 0)).1, (R.getD k (0, 0)).2, rfl, rfl, hl, ?_⟩
  rw [hs]
  refine ⟨hc, gk.2.1, gk.2.2.1, hw1, ?_⟩
  have hcl := run_class hch k1 k2 k3
  have e0 : ∀ n i, loopW (blW s R) R.length (blW s R k) (n + 1) i = match stepW (blW s R) R.length (blW s R k) i with | none => none | some j => loopW (blW s R) R.length (blW s R k) n j := fun n i => rfl
  cases hah : blW s R k with
  | true =>
    refine .inl ⟨hcl.trans hah, ?_⟩
    have hmm : (if (blW s R k && blW s R k) = true then k + 1 else k) = k + 1 := by rw [hah]; rfl
    by_cases hl2 : k + 1 < R.length
    · have g := gk.2.2.2.2.1 hl2
      have g2 := chain_at hch hl2
      refine .inl ⟨by omega, (R.getD (k + 1) (0, 0)).2, by omega, ?_⟩
      have hst := stepW_some (b := blW s R) (len := R.length) (ah := blW s R k) (i := k) (j := k + 2) hmm hl2 (by rw [hah]; rfl)
      have hlo : loopW (blW s R) R.length (blW s R k) 1 k = some (k + 2) := by rw [loopW_some hst]; rfl
      exact hw2.trans (arndO_some hlo (f := k) (by rw [hah]; rfl) rfl rfl)
    · have g := gk.2.2.2.2.2.1 (by omega)
      refine .inr ⟨by omega, ?_⟩
      have hst := stepW_none (b := blW s R) (len := R.length) (ah := blW s R k) (i := k) hmm (by omega)
      exact hw2.trans (arndO_none (loopW_none hst))
  | false =>
    refine .inr ⟨hcl.trans hah, ?_⟩
    have hmm : (if (blW s R k && blW s R k) = true then k + 1 else k) = k := by rw [hah]; rfl
    cases hb1 : blW s R (k + 1) with
    | true =>
      have hl2 : k + 1 < R.length := by
        simp only [blW, Bool.and_eq_true, decide_eq_true_eq] at hb1
        exact hb1.1
      have g := gk.2.2.2.2.1 hl2
      have g2 := chain_at hch hl2
      have hst := stepW_some (b := blW s R) (len := R.length) (ah := blW s R k) (i := k) (j := k + 2) hmm k1 (by rw [hah, hb1]; rfl)
      have hlo : loopW (blW s R) R.length (blW s R k) 1 k = some (k + 2) := by rw [loopW_some hst]; rfl
      refine ⟨(R.getD k (0, 0)).1, (R.getD (k + 1) (0, 0)).2, hw2.trans (arndO_some hlo (f := k) (by rw [show k + 2 - 1 = k + 1 by omega, hb1]; simp) rfl rfl), Nat.le_refl _, by omega, .inl rfl, g2.2.2.1, fun j hj => ?_⟩
      have := run_class hch hl2 (j := j) (by omega) (by omega)
      rw [hb1, beq_iff_eq] at this
      exact this
    | false =>
      have hst := stepW_some (b := blW s R) (len := R.length) (ah := blW s R k) (i := k) (j := k + 1) hmm k1 (by rw [hah, hb1]; rfl)
      have hlo : loopW (blW s R) R.length (blW s R k) 1 k = some (k + 1) := by rw [loopW_some hst]; rfl
      by_cases hkp : 0 < k ∧ blW s R (k - 1) = true
      · obtain ⟨hk0, hbk⟩ := hkp
        have gp := chain_at hch (k := k - 1) (by omega)
        have gq := (gp.2.2.2.2.1 (by omega)).1
        rw [show k - 1 + 1 = k by omega] at gq
        refine ⟨(R.getD (k - 1) (0, 0)).1, (R.getD k (0, 0)).2, hw2.trans (arndO_some hlo (f := k - 1) (by rw [show k + 1 - 1 = k by omega, hah, hbk, decide_eq_true hk0]; rfl) rfl (by rw [show k + 1 - 1 = k by omega])), by omega, Nat.le_refl _, .inr rfl, gk.2.2.1, fun j hj => ?_⟩
        have := run_class hch (k := k - 1) (j := j) (by omega) (by omega) (by omega)
        rw [hbk, beq_iff_eq] at this
        exact this
      · refine ⟨(R.getD k (0, 0)).1, (R.getD k (0, 0)).2, hw2.trans (arndO_some hlo (f := k) (by
          rw [if_neg]
          intro e
          simp only [Bool.and_eq_true, decide_eq_true_eq] at e
          exact hkp e.2) rfl (by rw [show k + 1 - 1 = k by omega])), Nat.le_refl _, Nat.le_refl _, .inl rfl, gk.2.2.1, fun j hj => ?_⟩
        omega
set_option maxRecDepth 100000 in
set_option maxHeartbeats 8000000 in
theorem wordAround_walk (a : Option Addr) (cap : Nat) (L : List ByteArray) (sa sb : Int) (big : Bool) (W : World) (hL : LinesAt W a L) (hsa : 0 ≤ sa ∧ sa ≤ 65535) (hsb : 0 ≤ sb ∧ sb ≤ 65535) :
    Calls Try.prog 11 #[.slice a L.length cap, .int .u16 sa, .int .u16 sb, .bool big] W fun e W' => e = .returned (.bool true) ∧ Below W.heap.size W W' := by
  cases hli : textB L with
  | false =>
    go_enter Try.func11, Try.ntmps11
    go_wp2_with (first | (go_at_call 37; refine (known15_any _).mono ?_; rintro e w1 ⟨rfl, hbl⟩; obtain ⟨x, rfl⟩ := ovr_of_below hbl; clear hbl) | (go_at_call 20; refine (text_any _ _ L _ (by (repeat (first | assumption | refine LinesAt.ovr ?_ _ | refine LinesAt.alloc ?_ _ | refine LinesAt.drewN ?_ _ | refine LinesAt.drew ?_)))).mono ?_; rintro e w1 ⟨rfl, rfl⟩))
    go_ret
    exact ⟨rfl, by (repeat (first | exact Below.refl _ _ | refine Below.alloc ?_ (by first | exact Nat.le_refl _ | (simp; done) | (simp; omega)) _ | refine below_ovr_of ?_ | refine drew_below ?_ _ | refine Below.drew ?_ | refine Below.setCell ?_ (by first | exact Nat.le_refl _ | (simp; done) | (simp; omega)) _ | assumption))⟩
  | true =>
    obtain ⟨h0, hn, htot, _⟩ := text_spec hli
    obtain ⟨pl, pc, hsl, hsc, hp_pl⟩ := seat_facts (L := L) (x := sa) (y := sb) h0 hsa.1
    have HSLpl := Lib.hid hsl
    have HSCpl := Lib.hid hsc
    clear hsl hsc
    by_cases h : (1 : Int) ≤ 1 ∧ byteB L pl pc = true ∧ ¬ (ln L pl).size = 0
    · obtain ⟨l, c, A, B, rfl, rfl, hl, hc, hAB, hBs, hw1, hcase⟩ := word_one h big
      obtain ⟨b, off, s, rfl, hb, hcell, hs, HS⟩ := line_facts' hL hl
      rw [HS.out] at hc hBs hcase
      have HR1 := Lib.hid hw1
      have hbt := byt_at' s c hc
      have hlI : (l : Int) < (L.length : Int) := by omega
      have hl0 : (0 : Int) ≤ (l : Int) := by omega
      have hcI : (c : Int) < (s.size : Int) := by omega
      have hc0 : (0 : Int) ≤ (c : Int) := by omega
      rw [hbt] at hcase
      clear h hw1 hbt
      rcases hcase with ⟨t1, hcase⟩ | ⟨t1, A2, B2, hw2, hA2, hB2, hor, hB2s, hbl⟩
      · rcases hcase with ⟨hBs2, B2, hB2, hw2⟩ | ⟨hBs2, hw2⟩
        · have HR2 := Lib.hid hw2
          have hBI : (B : Int) < (s.size : Int) := by omega
          have hq : lessB (l : Int) (B : Int) (l : Int) (B2 : Int) = true := by rw [lessB_eq]; simp; omega
          have HQ := Lib.hid hq
          clear hw2 hq
          go_enter Try.func11, Try.ntmps11
          go_wp2_with (first | (go_at_call 37; refine (known15_any _).mono ?_; rintro e w1 ⟨rfl, hbl⟩; obtain ⟨x, rfl⟩ := ovr_of_below hbl; clear hbl) | (go_at_call 20; refine (text_any _ _ L _ (by (repeat (first | assumption | refine LinesAt.ovr ?_ _ | refine LinesAt.alloc ?_ _ | refine LinesAt.drewN ?_ _ | refine LinesAt.drew ?_)))).mono ?_; rintro e w1 ⟨rfl, rfl⟩) | (go_at_call 22; refine (seat_at _ _ L _ _ _ (by (repeat (first | assumption | refine LinesAt.ovr ?_ _ | refine LinesAt.alloc ?_ _ | refine LinesAt.drewN ?_ _ | refine LinesAt.drew ?_))) h0 hsa hsb HSLpl HSCpl).mono ?_; rintro e w1 ⟨rfl, hbl⟩; obtain ⟨x, rfl⟩ := ovr_of_below hbl; clear hbl) | (go_at_call 42; refine (winner_any _ _ L _ _ _ _ _ (by (repeat (first | assumption | refine LinesAt.ovr ?_ _ | refine LinesAt.alloc ?_ _ | refine LinesAt.drewN ?_ _ | refine LinesAt.drew ?_))) (by omega)).mono ?_; rw [HR1.out]; rintro e w1 ⟨rfl, hbl⟩; obtain ⟨x, rfl⟩ := ovr_of_below hbl; clear hbl) | (go_at_call 44; refine (waround_any _ _ L _ _ _ _ _ (by (repeat (first | assumption | refine LinesAt.ovr ?_ _ | refine LinesAt.alloc ?_ _ | refine LinesAt.drewN ?_ _ | refine LinesAt.drew ?_))) (by omega)).mono ?_; rw [HR2.out]; rintro e w1 ⟨rfl, hbl⟩; obtain ⟨x, rfl⟩ := ovr_of_below hbl; clear hbl) | (go_at_call 46; refine (rof_any _ _ _).mono ?_; rintro e w1 ⟨rfl, rfl⟩) | (go_at_call 47; refine (rless_any _ _ _ _ _).mono ?_; rw [HQ.out]; rintro e w1 ⟨rfl, hbl⟩; obtain ⟨x, rfl⟩ := ovr_of_below hbl; clear hbl))
          go_ret
          exact ⟨rfl, by (repeat (first | exact Below.refl _ _ | refine Below.alloc ?_ (by first | exact Nat.le_refl _ | (simp; done) | (simp; omega)) _ | refine below_ovr_of ?_ | refine drew_below ?_ _ | refine Below.drew ?_ | refine Below.setCell ?_ (by first | exact Nat.le_refl _ | (simp; done) | (simp; omega)) _ | assumption))⟩
        · have HR2 := Lib.hid hw2
          have hBI : ¬ (B : Int) < (s.size : Int) := by omega
          clear hw2
          go_enter Try.func11, Try.ntmps11
          go_wp2_with (first | (go_at_call 37; refine (known15_any _).mono ?_; rintro e w1 ⟨rfl, hbl⟩; obtain ⟨x, rfl⟩ := ovr_of_below hbl; clear hbl) | (go_at_call 20; refine (text_any _ _ L _ (by (repeat (first | assumption | refine LinesAt.ovr ?_ _ | refine LinesAt.alloc ?_ _ | refine LinesAt.drewN ?_ _ | refine LinesAt.drew ?_)))).mono ?_; rintro e w1 ⟨rfl, rfl⟩) | (go_at_call 22; refine (seat_at _ _ L _ _ _ (by (repeat (first | assumption | refine LinesAt.ovr ?_ _ | refine LinesAt.alloc ?_ _ | refine LinesAt.drewN ?_ _ | refine LinesAt.drew ?_))) h0 hsa hsb HSLpl HSCpl).mono ?_; rintro e w1 ⟨rfl, hbl⟩; obtain ⟨x, rfl⟩ := ovr_of_below hbl; clear hbl) | (go_at_call 42; refine (winner_any _ _ L _ _ _ _ _ (by (repeat (first | assumption | refine LinesAt.ovr ?_ _ | refine LinesAt.alloc ?_ _ | refine LinesAt.drewN ?_ _ | refine LinesAt.drew ?_))) (by omega)).mono ?_; rw [HR1.out]; rintro e w1 ⟨rfl, hbl⟩; obtain ⟨x, rfl⟩ := ovr_of_below hbl; clear hbl) | (go_at_call 44; refine (waround_any _ _ L _ _ _ _ _ (by (repeat (first | assumption | refine LinesAt.ovr ?_ _ | refine LinesAt.alloc ?_ _ | refine LinesAt.drewN ?_ _ | refine LinesAt.drew ?_))) (by omega)).mono ?_; rw [HR2.out]; rintro e w1 ⟨rfl, hbl⟩; obtain ⟨x, rfl⟩ := ovr_of_below hbl; clear hbl) | (go_at_call 46; refine (rof_any _ _ _).mono ?_; rintro e w1 ⟨rfl, rfl⟩))
          go_ret
          exact ⟨rfl, by (repeat (first | exact Below.refl _ _ | refine Below.alloc ?_ (by first | exact Nat.le_refl _ | (simp; done) | (simp; omega)) _ | refine below_ovr_of ?_ | refine drew_below ?_ _ | refine Below.drew ?_ | refine Below.setCell ?_ (by first | exact Nat.le_refl _ | (simp; done) | (simp; omega)) _ | assumption))⟩
      · have HR2 := Lib.hid hw2
        have hq1 : lessB (l : Int) (A : Int) (l : Int) (A2 : Int) = false := by rw [lessB_eq]; simp; omega
        have hq2 : lessB (l : Int) (B2 : Int) (l : Int) (B : Int) = false := by rw [lessB_eq]; simp; omega
        have HQ1 := Lib.hid hq1
        have HQ2 := Lib.hid hq2
        have HBL := Lib.hid hbl
        have hA2I : (A2 : Int) ≤ (A : Int) := by omega
        have hAs : A ≤ s.size := by omega
        clear hw2 hq1 hq2 hbl
        have hor2 : (A2 = A) ∨ (((A2 : Int) == (A : Int)) = false ∧ ((A : Int) == (A2 : Int)) = false ∧ B2 = B) := by
          by_cases e : A2 = A
          · exact .inl e
          · exact .inr ⟨beq_eq_false_iff_ne.2 (by omega), beq_eq_false_iff_ne.2 (by omega), by omega⟩
        clear hor
        rcases hor2 with rfl | ⟨hne1, hne2, rfl⟩
        · go_enter Try.func11, Try.ntmps11
          go_wp2_with (first | (go_at_call 37; refine (known15_any _).mono ?_; rintro e w1 ⟨rfl, hbl⟩; obtain ⟨x, rfl⟩ := ovr_of_below hbl; clear hbl) | (go_at_call 20; refine (text_any _ _ L _ (by (repeat (first | assumption | refine LinesAt.ovr ?_ _ | refine LinesAt.alloc ?_ _ | refine LinesAt.drewN ?_ _ | refine LinesAt.drew ?_)))).mono ?_; rintro e w1 ⟨rfl, rfl⟩) | (go_at_call 22; refine (seat_at _ _ L _ _ _ (by (repeat (first | assumption | refine LinesAt.ovr ?_ _ | refine LinesAt.alloc ?_ _ | refine LinesAt.drewN ?_ _ | refine LinesAt.drew ?_))) h0 hsa hsb HSLpl HSCpl).mono ?_; rintro e w1 ⟨rfl, hbl⟩; obtain ⟨x, rfl⟩ := ovr_of_below hbl; clear hbl) | (go_at_call 42; refine (winner_any _ _ L _ _ _ _ _ (by (repeat (first | assumption | refine LinesAt.ovr ?_ _ | refine LinesAt.alloc ?_ _ | refine LinesAt.drewN ?_ _ | refine LinesAt.drew ?_))) (by omega)).mono ?_; rw [HR1.out]; rintro e w1 ⟨rfl, hbl⟩; obtain ⟨x, rfl⟩ := ovr_of_below hbl; clear hbl) | (go_at_call 44; refine (waround_any _ _ L _ _ _ _ _ (by (repeat (first | assumption | refine LinesAt.ovr ?_ _ | refine LinesAt.alloc ?_ _ | refine LinesAt.drewN ?_ _ | refine LinesAt.drew ?_))) (by omega)).mono ?_; rw [HR2.out]; rintro e w1 ⟨rfl, hbl⟩; obtain ⟨x, rfl⟩ := ovr_of_below hbl; clear hbl) | (go_at_call 46; refine (rof_any _ _ _).mono ?_; rintro e w1 ⟨rfl, rfl⟩))
          (go_at_call 47; refine (rless_any _ _ _ _ _).mono ?_; rw [HQ1.out]; rintro e w1 ⟨rfl, hbl⟩; obtain ⟨z1, rfl⟩ := ovr_of_below hbl; clear hbl)
          go_wp2_with fail
          (go_at_call 47; refine (rless_any _ _ _ _ _).mono ?_; rw [HQ2.out]; rintro e w1 ⟨rfl, hbl⟩; obtain ⟨z2, rfl⟩ := ovr_of_below hbl; clear hbl)
          go_wp2_with fail
          refine name_ptr 10 rfl ?_
          intro Bx hBx
          rw [← hBx]
          refine name_ptr 12 rfl ?_
          intro By hBy
          rw [← hBy]
          refine name_world ?_
          intro W0 hW0
          have dx0 : W0.cell? ⟨Bx, 1, none⟩ = some (.int .i64 l) := by subst hW0 hBx; simp [go_sem]
          have dx1 : W0.cell? ⟨Bx, 2, none⟩ = some (.int .i64 A2) := by subst hW0 hBx; simp [go_sem]
          have dx2 : W0.cell? ⟨Bx, 3, none⟩ = some (.int .i64 l) := by subst hW0 hBx; simp [go_sem]
          have dx3 : W0.cell? ⟨Bx, 4, none⟩ = some (.int .i64 B) := by subst hW0 hBx; simp [go_sem]
          have dy2 : W0.cell? ⟨By, 3, none⟩ = some (.int .i64 l) := by subst hW0 hBx hBy; simp [go_sem]
          have dy3 : W0.cell? ⟨By, 4, none⟩ = some (.int .i64 B2) := by subst hW0 hBx hBy; simp [go_sem]
          have hbel : Below W.heap.size W W0 := by rw [hW0]; (repeat (first | with_reducible exact Below.refl _ _ | (with_reducible refine Below.setCell ?_ ?_ _; rotate_left; · (first | exact Nat.le_refl _ | assumption | omega | (simp; done) | (simp; omega))) | (with_reducible refine Below.alloc ?_ ?_ _; rotate_left; · (first | exact Nat.le_refl _ | assumption | omega | (simp; done) | (simp; omega))) | with_reducible refine below_ovr_of ?_ | with_reducible refine drew_below ?_ _ | with_reducible refine Below.drew ?_ | with_reducible assumption))
          have hszW := hbel.size
          clear hW0 hBx hBy
          go_loop [15] (fun i => ∃ j : Nat, A2 ≤ j ∧ j ≤ A2 ∧ i = .int .i64 j) (fun i => A2 - (intOf i).toNat)
          case atStart => exact ⟨A2, Nat.le_refl _, hA2, rfl⟩
          case round =>
            obtain ⟨j, hj1, hj2, rfl⟩ := hrel
            by_cases hlt : j < A2
            · have hjI : (j : Int) < (A2 : Int) := by omega
              have hj0 : (0 : Int) ≤ (j : Int) := by omega
              have hjs : j < s.size := by omega
              have hjsI : (j : Int) < (s.size : Int) := by omega
              have hz := HBL.out j (.inl ⟨hj1, hlt⟩)
              rw [byt_at' s j hjs] at hz
              have hz2 : (ofC (s[j].toNat : Int) true != 0) = false := by rw [hz]; rfl
              clear hz
              try (exfalso; omega)
              all_goals (
                go_wp2_with (go_at_call 46; refine (rof_any _ _ _).mono ?_; rintro e w1 ⟨rfl, rfl⟩)
                go_round
                case rel => exact ⟨j + 1, by omega, by omega, by go_num⟩
                case measure => simp [intOf]; omega)
            · have hjI : ¬ (j : Int) < (A2 : Int) := by omega
              go_wp2
              go_loop [16] (fun i => ∃ j : Nat, B ≤ j ∧ j ≤ B2 ∧ i = .int .i64 j) (fun i => B2 - (intOf i).toNat)
              case atStart => exact ⟨B, Nat.le_refl _, by omega, rfl⟩
              case round =>
                obtain ⟨j', hj1', hj2', rfl⟩ := hrel
                by_cases hlt' : j' < B2
                · have hjI' : (j' : Int) < (B2 : Int) := by omega
                  have hj0' : (0 : Int) ≤ (j' : Int) := by omega
                  have hjs' : j' < s.size := by omega
                  have hjsI' : (j' : Int) < (s.size : Int) := by omega
                  have hz := HBL.out j' (.inr ⟨hj1', hlt'⟩)
                  rw [byt_at' s j' hjs'] at hz
                  have hz2 : (ofC (s[j'].toNat : Int) true != 0) = false := by rw [hz]; rfl
                  clear hz
                  try (exfalso; omega)
                  all_goals (
                    go_wp2_with (go_at_call 46; refine (rof_any _ _ _).mono ?_; rintro e w1 ⟨rfl, rfl⟩)
                    go_round
                    case rel => exact ⟨j' + 1, by omega, by omega, by go_num⟩
                    case measure => simp [intOf]; omega)
                · have hjI' : ¬ (j' : Int) < (B2 : Int) := by omega
                  go_wp2
                  go_ret
                  exact ⟨rfl, by (repeat (first | exact Below.refl _ _ | refine Below.alloc ?_ (by first | exact Nat.le_refl _ | (simp; done) | (simp; omega)) _ | refine below_ovr_of ?_ | refine drew_below ?_ _ | refine Below.drew ?_ | refine Below.setCell ?_ (by first | exact Nat.le_refl _ | (simp; done) | (simp; omega)) _ | assumption))⟩
        · go_enter Try.func11, Try.ntmps11
          go_wp2_with (first | (go_at_call 37; refine (known15_any _).mono ?_; rintro e w1 ⟨rfl, hbl⟩; obtain ⟨x, rfl⟩ := ovr_of_below hbl; clear hbl) | (go_at_call 20; refine (text_any _ _ L _ (by (repeat (first | assumption | refine LinesAt.ovr ?_ _ | refine LinesAt.alloc ?_ _ | refine LinesAt.drewN ?_ _ | refine LinesAt.drew ?_)))).mono ?_; rintro e w1 ⟨rfl, rfl⟩) | (go_at_call 22; refine (seat_at _ _ L _ _ _ (by (repeat (first | assumption | refine LinesAt.ovr ?_ _ | refine LinesAt.alloc ?_ _ | refine LinesAt.drewN ?_ _ | refine LinesAt.drew ?_))) h0 hsa hsb HSLpl HSCpl).mono ?_; rintro e w1 ⟨rfl, hbl⟩; obtain ⟨x, rfl⟩ := ovr_of_below hbl; clear hbl) | (go_at_call 42; refine (winner_any _ _ L _ _ _ _ _ (by (repeat (first | assumption | refine LinesAt.ovr ?_ _ | refine LinesAt.alloc ?_ _ | refine LinesAt.drewN ?_ _ | refine LinesAt.drew ?_))) (by omega)).mono ?_; rw [HR1.out]; rintro e w1 ⟨rfl, hbl⟩; obtain ⟨x, rfl⟩ := ovr_of_below hbl; clear hbl) | (go_at_call 44; refine (waround_any _ _ L _ _ _ _ _ (by (repeat (first | assumption | refine LinesAt.ovr ?_ _ | refine LinesAt.alloc ?_ _ | refine LinesAt.drewN ?_ _ | refine LinesAt.drew ?_))) (by omega)).mono ?_; rw [HR2.out]; rintro e w1 ⟨rfl, hbl⟩; obtain ⟨x, rfl⟩ := ovr_of_below hbl; clear hbl) | (go_at_call 46; refine (rof_any _ _ _).mono ?_; rintro e w1 ⟨rfl, rfl⟩))
          (go_at_call 47; refine (rless_any _ _ _ _ _).mono ?_; rw [HQ1.out]; rintro e w1 ⟨rfl, hbl⟩; obtain ⟨z1, rfl⟩ := ovr_of_below hbl; clear hbl)
          go_wp2_with fail
          (go_at_call 47; refine (rless_any _ _ _ _ _).mono ?_; rw [HQ2.out]; rintro e w1 ⟨rfl, hbl⟩; obtain ⟨z2, rfl⟩ := ovr_of_below hbl; clear hbl)
          go_wp2_with fail
          refine name_ptr 10 rfl ?_
          intro Bx hBx
          rw [← hBx]
          refine name_ptr 12 rfl ?_
          intro By hBy
          rw [← hBy]
          refine name_world ?_
          intro W0 hW0
          have dx0 : W0.cell? ⟨Bx, 1, none⟩ = some (.int .i64 l) := by subst hW0 hBx; simp [go_sem]
          have dx1 : W0.cell? ⟨Bx, 2, none⟩ = some (.int .i64 A) := by subst hW0 hBx; simp [go_sem]
          have dx2 : W0.cell? ⟨Bx, 3, none⟩ = some (.int .i64 l) := by subst hW0 hBx; simp [go_sem]
          have dx3 : W0.cell? ⟨Bx, 4, none⟩ = some (.int .i64 B2) := by subst hW0 hBx; simp [go_sem]
          have dy2 : W0.cell? ⟨By, 3, none⟩ = some (.int .i64 l) := by subst hW0 hBx hBy; simp [go_sem]
          have dy3 : W0.cell? ⟨By, 4, none⟩ = some (.int .i64 B2) := by subst hW0 hBx hBy; simp [go_sem]
          have hbel : Below W.heap.size W W0 := by rw [hW0]; (repeat (first | with_reducible exact Below.refl _ _ | (with_reducible refine Below.setCell ?_ ?_ _; rotate_left; · (first | exact Nat.le_refl _ | assumption | omega | (simp; done) | (simp; omega))) | (with_reducible refine Below.alloc ?_ ?_ _; rotate_left; · (first | exact Nat.le_refl _ | assumption | omega | (simp; done) | (simp; omega))) | with_reducible refine below_ovr_of ?_ | with_reducible refine drew_below ?_ _ | with_reducible refine Below.drew ?_ | with_reducible assumption))
          have hszW := hbel.size
          clear hW0 hBx hBy
          go_loop [15] (fun i => ∃ j : Nat, A2 ≤ j ∧ j ≤ A ∧ i = .int .i64 j) (fun i => A - (intOf i).toNat)
          case atStart => exact ⟨A2, Nat.le_refl _, hA2, rfl⟩
          case round =>
            obtain ⟨j, hj1, hj2, rfl⟩ := hrel
            by_cases hlt : j < A
            · have hjI : (j : Int) < (A : Int) := by omega
              have hj0 : (0 : Int) ≤ (j : Int) := by omega
              have hjs : j < s.size := by omega
              have hjsI : (j : Int) < (s.size : Int) := by omega
              have hz := HBL.out j (.inl ⟨hj1, hlt⟩)
              rw [byt_at' s j hjs] at hz
              have hz2 : (ofC (s[j].toNat : Int) true != 0) = false := by rw [hz]; rfl
              clear hz
              try (exfalso; omega)
              all_goals (
                go_wp2_with (go_at_call 46; refine (rof_any _ _ _).mono ?_; rintro e w1 ⟨rfl, rfl⟩)
                go_round
                case rel => exact ⟨j + 1, by omega, by omega, by go_num⟩
                case measure => simp [intOf]; omega)
            · have hjI : ¬ (j : Int) < (A : Int) := by omega
              go_wp2
              go_loop [16] (fun i => ∃ j : Nat, B2 ≤ j ∧ j ≤ B2 ∧ i = .int .i64 j) (fun i => B2 - (intOf i).toNat)
              case atStart => exact ⟨B2, Nat.le_refl _, by omega, rfl⟩
              case round =>
                obtain ⟨j', hj1', hj2', rfl⟩ := hrel
                by_cases hlt' : j' < B2
                · have hjI' : (j' : Int) < (B2 : Int) := by omega
                  have hj0' : (0 : Int) ≤ (j' : Int) := by omega
                  have hjs' : j' < s.size := by omega
                  have hjsI' : (j' : Int) < (s.size : Int) := by omega
                  have hz := HBL.out j' (.inr ⟨hj1', hlt'⟩)
                  rw [byt_at' s j' hjs'] at hz
                  have hz2 : (ofC (s[j'].toNat : Int) true != 0) = false := by rw [hz]; rfl
                  clear hz
                  try (exfalso; omega)
                  all_goals (
                    go_wp2_with (go_at_call 46; refine (rof_any _ _ _).mono ?_; rintro e w1 ⟨rfl, rfl⟩)
                    go_round
                    case rel => exact ⟨j' + 1, by omega, by omega, by go_num⟩
                    case measure => simp [intOf]; omega)
                · have hjI' : ¬ (j' : Int) < (B2 : Int) := by omega
                  go_wp2
                  go_ret
                  exact ⟨rfl, by (repeat (first | exact Below.refl _ _ | refine Below.alloc ?_ (by first | exact Nat.le_refl _ | (simp; done) | (simp; omega)) _ | refine below_ovr_of ?_ | refine drew_below ?_ _ | refine Below.drew ?_ | refine Below.setCell ?_ (by first | exact Nat.le_refl _ | (simp; done) | (simp; omega)) _ | assumption))⟩
    · have HR1 : Hid (wordP L pl pc 1 big false = ((0, 0, 0, 0, 0), false)) := Lib.hid (wordP_no h)
      have HR2 : Hid (wordP L pl pc 1 big true = ((0, 0, 0, 0, 0), false)) := Lib.hid (wordP_no h)
      clear h
      go_enter Try.func11, Try.ntmps11
      go_wp2_with (first | (go_at_call 37; refine (known15_any _).mono ?_; rintro e w1 ⟨rfl, hbl⟩; obtain ⟨x, rfl⟩ := ovr_of_below hbl; clear hbl) | (go_at_call 20; refine (text_any _ _ L _ (by (repeat (first | assumption | refine LinesAt.ovr ?_ _ | refine LinesAt.alloc ?_ _ | refine LinesAt.drewN ?_ _ | refine LinesAt.drew ?_)))).mono ?_; rintro e w1 ⟨rfl, rfl⟩) | (go_at_call 22; refine (seat_at _ _ L _ _ _ (by (repeat (first | assumption | refine LinesAt.ovr ?_ _ | refine LinesAt.alloc ?_ _ | refine LinesAt.drewN ?_ _ | refine LinesAt.drew ?_))) h0 hsa hsb HSLpl HSCpl).mono ?_; rintro e w1 ⟨rfl, hbl⟩; obtain ⟨x, rfl⟩ := ovr_of_below hbl; clear hbl) | (go_at_call 42; refine (winner_any _ _ L _ _ _ _ _ (by (repeat (first | assumption | refine LinesAt.ovr ?_ _ | refine LinesAt.alloc ?_ _ | refine LinesAt.drewN ?_ _ | refine LinesAt.drew ?_))) (by omega)).mono ?_; rw [HR1.out]; rintro e w1 ⟨rfl, hbl⟩; obtain ⟨x, rfl⟩ := ovr_of_below hbl; clear hbl) | (go_at_call 44; refine (waround_any _ _ L _ _ _ _ _ (by (repeat (first | assumption | refine LinesAt.ovr ?_ _ | refine LinesAt.alloc ?_ _ | refine LinesAt.drewN ?_ _ | refine LinesAt.drew ?_))) (by omega)).mono ?_; rw [HR2.out]; rintro e w1 ⟨rfl, hbl⟩; obtain ⟨x, rfl⟩ := ovr_of_below hbl; clear hbl))
      go_ret
      exact ⟨rfl, by (repeat (first | exact Below.refl _ _ | refine Below.alloc ?_ (by first | exact Nat.le_refl _ | (simp; done) | (simp; omega)) _ | refine below_ovr_of ?_ | refine drew_below ?_ _ | refine Below.drew ?_ | refine Below.setCell ?_ (by first | exact Nat.le_refl _ | (simp; done) | (simp; omega)) _ | assumption))⟩
end Go.Proofs.Ytnaikdmkabfnlaa
