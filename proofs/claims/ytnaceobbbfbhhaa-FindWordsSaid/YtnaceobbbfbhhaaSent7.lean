/- The contracts of the references' motions by sentences: so many. Conditions: none beyond what each says. -/
import Derived.Test.YtnaceobbbfbhhaaSent6
namespace Go.Proofs.Ytnaceobbbfbhhaa
open Go.RowKit Go.Shelf

set_option maxRecDepth 100000 in
set_option maxHeartbeats 8000000 in
theorem rsentNext_any (a : Option Addr) (cap : Nat) (L : List ByteArray) (pl pc n : Int) (op : Bool) (w : World) (hL : LinesAt w a L) (htot : L.length + total L ≤ 100000) (hn2 : n ≤ 9223372036854775807) :
    Calls Try.prog 60 #[.slice a L.length cap, .agg #[.int .i64 pl, .int .i64 pc], .int .i64 n, .bool op] w fun e w' => e = .returned (movV (sentNextP L pl pc n op)) ∧ Below w.heap.size w w' := by
  have hn := hL.2.1
  by_cases h : plcB L pl pc = true ∧ 1 ≤ n
  · have HQ : Hid ((plcB L pl pc && decide (1 ≤ n)) = true) := Lib.hid (by rw [h.1, decide_eq_true h.2]; rfl)
    obtain ⟨l, c, m, rfl, rfl, rfl, hl, hm, hp, _⟩ := sent_in h
    replace hp := hp op
    have HSN := Lib.hid (fun (w0 : World) (h0 : LinesAt w0 a L) => rsent_any a cap L w0 h0 htot)
    have hRl := (sentP_in (L := L)).2
    obtain ⟨R, hR⟩ : ∃ R, sentP L = R := ⟨_, rfl⟩
    rw [hR] at hp HSN hRl
    have hR5 : R.length ≤ 100000 := by omega
    have hBl := behR_len l c R
    have HBH := Lib.hid (fun (w0 : World) (sa : Option Addr) (scap : Nat) (h0 : PairsAt w0 sa R) => rbehind_any sa scap R l c w0 h0 hR5)
    obtain ⟨B, hB⟩ : ∃ B, behR l c R = B := ⟨_, rfl⟩
    rw [hB] at hp HBH hBl
    obtain ⟨e, he⟩ : ∃ e, L.length - 1 = e := ⟨_, rfl⟩
    obtain ⟨b, off, s, rfl, hb, hcell, hs, HS⟩ := line_facts' hL (i := e) (by omega)
    rw [he, HS.out] at hp
    have HE := Lib.hid he
    have HP := Lib.hid hp
    have hB5 : B.length ≤ 100000 := by omega
    obtain ⟨q, hq⟩ : ∃ q, lessB (l : Int) (c : Int) (e : Int) (s.size : Int) = q := ⟨_, rfl⟩
    have HQ2 := Lib.hid hq
    clear h hR hB he hq hp
    go_enter Try.func60, Try.ntmps60
    go_wp2_with (go_at_call 85; refine (rmay_at _ _ L _ _ _ _ (by (repeat (first | assumption | refine LinesAt.ovr ?_ _ | refine LinesAt.alloc ?_ _ | refine LinesAt.drewN ?_ _ | refine LinesAt.drew ?_))) HQ).mono ?_; rintro e w1 ⟨rfl, hbl⟩; obtain ⟨x, rfl⟩ := ovr_of_below hbl; clear hbl)
    go_region_held3 (fun w' => w.heap.size < w'.heap.size ∧ w'.cell? ⟨w.heap.size, 0, none⟩ = some (.int .i64 l) ∧ w'.cell? ⟨w.heap.size, 1, none⟩ = some (.int .i64 c)) (((repeat' apply And.intro) <;> first | assumption | (simp [go_sem]; done) | (simp [go_sem, *]; done) | (simp [go_sem]; omega))) ((first | (go_at_call 57; refine (HSN.out _ (by (repeat (first | assumption | refine LinesAt.ovr ?_ _ | refine LinesAt.alloc ?_ _ | refine LinesAt.drewN ?_ _ | refine LinesAt.drew ?_)))).mono ?_; rintro e1 w1 ⟨v, rfl, hrow, hbl⟩; obtain ⟨sa, scap, rfl, hps⟩ := pairs_of_owns hrow; obtain ⟨y1, rfl⟩ := ovr_of_below hbl; clear hbl hrow) | (go_at_call 87; refine (HBH.out _ _ _ (by (repeat (first | assumption | refine PairsAt.ovr ?_ _ | refine PairsAt.alloc ?_ _ | refine PairsAt.drewN ?_ _ | refine PairsAt.drew ?_)))).mono ?_; rintro e1 w1 ⟨v, rfl, hrow, hbl⟩; obtain ⟨ba, bcap, rfl, hpb⟩ := pairs_of_owns hrow; obtain ⟨y2, rfl⟩ := ovr_of_below hbl; clear hbl hrow)))
    all_goals (go_wp2_with fail)
    all_goals (go_at_call 96; refine (rend_any _ _ L _ (by (repeat (first | assumption | refine LinesAt.ovr ?_ _ | refine LinesAt.alloc ?_ _ | refine LinesAt.drewN ?_ _ | refine LinesAt.drew ?_))) (by omega) HE.out HS.out).mono ?_; rintro e' w1 ⟨rfl, hbl⟩; obtain ⟨y3, rfl⟩ := ovr_of_below hbl; clear hbl)
    obtain ⟨m1, hm1⟩ : ∃ m1, m - 1 = m1 := ⟨_, rfl⟩
    have em : (m : Int) - 1 = (m1 : Int) := by omega
    have hm10 : (0 : Int) ≤ (m1 : Int) := by omega
    rcases (by omega : m1 < B.length ∨ m1 = B.length ∨ B.length < m1) with hc | hc | hc
    · have hb1 : ((B.length : Int) == (m1 : Int)) = false := beq_eq_false_iff_ne.2 (by omega)
      have hb2 : ¬ (B.length : Int) < (m : Int) := by omega
      have hb3 : (m1 : Int) < (B.length : Int) := by omega
      obtain ⟨g, rfl, hg, d0, d1⟩ := (hpb.ovr y3) m1 hc
      obtain ⟨⟨fx, fy⟩, hxy⟩ : ∃ p, B.getD m1 (0, 0) = p := ⟨_, rfl⟩
      rw [hxy] at d0 d1
      simp only at d0 d1
      simp at hg
      have HR : Hid (sentNextP L l c m op = (((fx : Int), (fy : Int), 0, true, -1), true)) := Lib.hid (HP.out.trans (sentNextO_in (by omega) (by rw [hm1, hxy])))
      clear hxy hm1
      cases op
      all_goals (
        go_wp2_with (go_at_call 89; refine (rjump_any _ _ _).mono ?_; rintro e w1 ⟨rfl, hbl⟩; obtain ⟨x, rfl⟩ := ovr_of_below hbl; clear hbl)
        refine bodyPost_ret (v := movV (((fx : Int), (fy : Int), 0, true, -1), true)) (by simp [results, Try.results60, go_sem]) rfl ⟨by rw [HR.out], by (repeat (first | with_reducible exact Below.refl _ _ | (with_reducible refine Below.setCell ?_ ?_ _; rotate_left; · (first | exact Nat.le_refl _ | assumption | omega | (simp; done) | (simp; omega))) | (with_reducible refine Below.alloc ?_ ?_ _; rotate_left; · (first | exact Nat.le_refl _ | assumption | omega | (simp; done) | (simp; omega))) | with_reducible refine below_ovr_of ?_ | with_reducible refine drew_below ?_ _ | with_reducible refine Below.drew ?_ | with_reducible assumption))⟩)
    · subst hc
      have hb2 : (B.length : Int) < (m : Int) := by omega
      cases op with
      | true =>
        cases q with
        | true =>
          have HR := Lib.hid (HP.out.trans (sentNextO_end (by omega) HQ2.out))
          clear hm1
          go_wp2_with (first | (go_at_call 58; refine (rless_at _ _ _ _ _ HQ2).mono ?_; rintro e w1 ⟨rfl, hbl⟩; obtain ⟨x, rfl⟩ := ovr_of_below hbl; clear hbl) | (go_at_call 89; refine (rjump_any _ _ _).mono ?_; rintro e w1 ⟨rfl, hbl⟩; obtain ⟨x, rfl⟩ := ovr_of_below hbl; clear hbl))
          refine bodyPost_ret (v := movV (((e : Int), (s.size : Int), 0, true, -1), true)) (by simp [results, Try.results60, go_sem]) rfl ⟨by rw [HR.out], by (repeat (first | with_reducible exact Below.refl _ _ | (with_reducible refine Below.setCell ?_ ?_ _; rotate_left; · (first | exact Nat.le_refl _ | assumption | omega | (simp; done) | (simp; omega))) | (with_reducible refine Below.alloc ?_ ?_ _; rotate_left; · (first | exact Nat.le_refl _ | assumption | omega | (simp; done) | (simp; omega))) | with_reducible refine below_ovr_of ?_ | with_reducible refine drew_below ?_ _ | with_reducible refine Below.drew ?_ | with_reducible assumption))⟩
        | false =>
          have HR := Lib.hid (HP.out.trans (sentNextO_no (by omega) (fun h => by have := h.2.2; rw [HQ2.out] at this; cases this)))
          clear hm1
          go_wp2_with (first | (go_at_call 58; refine (rless_at _ _ _ _ _ HQ2).mono ?_; rintro e w1 ⟨rfl, hbl⟩; obtain ⟨x, rfl⟩ := ovr_of_below hbl; clear hbl) | (go_at_call 86; refine (rnone_any _).mono ?_; rintro e w1 ⟨rfl, hbl⟩; obtain ⟨x, rfl⟩ := ovr_of_below hbl; clear hbl))
          refine bodyPost_ret (v := movV noMov) (by simp [results, Try.results60, go_sem, noMov]) rfl ⟨by rw [HR.out], by (repeat (first | with_reducible exact Below.refl _ _ | (with_reducible refine Below.setCell ?_ ?_ _; rotate_left; · (first | exact Nat.le_refl _ | assumption | omega | (simp; done) | (simp; omega))) | (with_reducible refine Below.alloc ?_ ?_ _; rotate_left; · (first | exact Nat.le_refl _ | assumption | omega | (simp; done) | (simp; omega))) | with_reducible refine below_ovr_of ?_ | with_reducible refine drew_below ?_ _ | with_reducible refine Below.drew ?_ | with_reducible assumption))⟩
      | false =>
        have HR := Lib.hid (HP.out.trans (sentNextO_no (by omega) (fun h => by cases h.1)))
        clear hm1
        go_wp2_with (go_at_call 86; refine (rnone_any _).mono ?_; rintro e w1 ⟨rfl, hbl⟩; obtain ⟨x, rfl⟩ := ovr_of_below hbl; clear hbl)
        refine bodyPost_ret (v := movV noMov) (by simp [results, Try.results60, go_sem, noMov]) rfl ⟨by rw [HR.out], by (repeat (first | with_reducible exact Below.refl _ _ | (with_reducible refine Below.setCell ?_ ?_ _; rotate_left; · (first | exact Nat.le_refl _ | assumption | omega | (simp; done) | (simp; omega))) | (with_reducible refine Below.alloc ?_ ?_ _; rotate_left; · (first | exact Nat.le_refl _ | assumption | omega | (simp; done) | (simp; omega))) | with_reducible refine below_ovr_of ?_ | with_reducible refine drew_below ?_ _ | with_reducible refine Below.drew ?_ | with_reducible assumption))⟩
    · have hb1 : ((B.length : Int) == (m1 : Int)) = false := beq_eq_false_iff_ne.2 (by omega)
      have hb2 : (B.length : Int) < (m : Int) := by omega
      have HR := Lib.hid (HP.out.trans (sentNextO_no (by omega) (fun h => by omega)))
      clear hm1
      cases op
      all_goals (
        go_wp2_with (go_at_call 86; refine (rnone_any _).mono ?_; rintro e w1 ⟨rfl, hbl⟩; obtain ⟨x, rfl⟩ := ovr_of_below hbl; clear hbl)
        refine bodyPost_ret (v := movV noMov) (by simp [results, Try.results60, go_sem, noMov]) rfl ⟨by rw [HR.out], by (repeat (first | with_reducible exact Below.refl _ _ | (with_reducible refine Below.setCell ?_ ?_ _; rotate_left; · (first | exact Nat.le_refl _ | assumption | omega | (simp; done) | (simp; omega))) | (with_reducible refine Below.alloc ?_ ?_ _; rotate_left; · (first | exact Nat.le_refl _ | assumption | omega | (simp; done) | (simp; omega))) | with_reducible refine below_ovr_of ?_ | with_reducible refine drew_below ?_ _ | with_reducible refine Below.drew ?_ | with_reducible assumption))⟩)
  · have HQ : Hid ((plcB L pl pc && decide (1 ≤ n)) = false) := Lib.hid (by
      rw [Bool.eq_false_iff]; intro e; simp only [Bool.and_eq_true, decide_eq_true_eq] at e; exact h e)
    have HP := Lib.hid (sentNextP_no (op := op) h)
    clear h
    go_enter Try.func60, Try.ntmps60
    go_wp2_with (first | (go_at_call 85; refine (rmay_at _ _ L _ _ _ _ (by (repeat (first | assumption | refine LinesAt.ovr ?_ _ | refine LinesAt.alloc ?_ _ | refine LinesAt.drewN ?_ _ | refine LinesAt.drew ?_))) HQ).mono ?_; rintro e w1 ⟨rfl, hbl⟩; obtain ⟨x, rfl⟩ := ovr_of_below hbl; clear hbl) | (go_at_call 86; refine (rnone_any _).mono ?_; rintro e w1 ⟨rfl, hbl⟩; obtain ⟨x, rfl⟩ := ovr_of_below hbl; clear hbl))
    refine bodyPost_ret (v := movV noMov) (by simp [results, Try.results60, go_sem, noMov]) rfl ⟨by rw [HP.out], by (repeat (first | with_reducible exact Below.refl _ _ | (with_reducible refine Below.setCell ?_ ?_ _; rotate_left; · (first | exact Nat.le_refl _ | assumption | omega | (simp; done) | (simp; omega))) | (with_reducible refine Below.alloc ?_ ?_ _; rotate_left; · (first | exact Nat.le_refl _ | assumption | omega | (simp; done) | (simp; omega))) | with_reducible refine below_ovr_of ?_ | with_reducible refine drew_below ?_ _ | with_reducible refine Below.drew ?_ | with_reducible assumption))⟩

set_option maxRecDepth 100000 in
set_option maxHeartbeats 8000000 in
theorem rsentBack_any (a : Option Addr) (cap : Nat) (L : List ByteArray) (pl pc n : Int) (w : World) (hL : LinesAt w a L) (htot : L.length + total L ≤ 100000) (hn2 : n ≤ 9223372036854775807) :
    Calls Try.prog 62 #[.slice a L.length cap, .agg #[.int .i64 pl, .int .i64 pc], .int .i64 n] w fun e w' => e = .returned (movV (sentBackP L pl pc n)) ∧ Below w.heap.size w w' := by
  have hn := hL.2.1
  by_cases h : plcB L pl pc = true ∧ 1 ≤ n
  · have HQ : Hid ((plcB L pl pc && decide (1 ≤ n)) = true) := Lib.hid (by rw [h.1, decide_eq_true h.2]; rfl)
    obtain ⟨l, c, m, rfl, rfl, rfl, hl, hm, _, hp⟩ := sent_in h
    have HSN := Lib.hid (fun (w0 : World) (h0 : LinesAt w0 a L) => rsent_any a cap L w0 h0 htot)
    have hRl := (sentP_in (L := L)).2
    obtain ⟨R, hR⟩ : ∃ R, sentP L = R := ⟨_, rfl⟩
    rw [hR] at hp HSN hRl
    have hR5 : R.length ≤ 100000 := by omega
    have hBl := ahdR_len l c R
    have HBH := Lib.hid (fun (w0 : World) (sa : Option Addr) (scap : Nat) (h0 : PairsAt w0 sa R) => rahead_any sa scap R l c w0 h0 hR5)
    obtain ⟨B, hB⟩ : ∃ B, ahdR l c R = B := ⟨_, rfl⟩
    rw [hB] at hp HBH hBl
    have HP := Lib.hid hp
    have hB5 : B.length ≤ 100000 := by omega
    clear h hR hB hp
    go_enter Try.func62, Try.ntmps62
    go_wp2_with (go_at_call 85; refine (rmay_at _ _ L _ _ _ _ (by (repeat (first | assumption | refine LinesAt.ovr ?_ _ | refine LinesAt.alloc ?_ _ | refine LinesAt.drewN ?_ _ | refine LinesAt.drew ?_))) HQ).mono ?_; rintro e w1 ⟨rfl, hbl⟩; obtain ⟨x, rfl⟩ := ovr_of_below hbl; clear hbl)
    go_region_held3 (fun w' => w.heap.size < w'.heap.size ∧ w'.cell? ⟨w.heap.size, 0, none⟩ = some (.int .i64 l) ∧ w'.cell? ⟨w.heap.size, 1, none⟩ = some (.int .i64 c)) (((repeat' apply And.intro) <;> first | assumption | (simp [go_sem]; done) | (simp [go_sem, *]; done) | (simp [go_sem]; omega))) ((first | (go_at_call 57; refine (HSN.out _ (by (repeat (first | assumption | refine LinesAt.ovr ?_ _ | refine LinesAt.alloc ?_ _ | refine LinesAt.drewN ?_ _ | refine LinesAt.drew ?_)))).mono ?_; rintro e1 w1 ⟨v, rfl, hrow, hbl⟩; obtain ⟨sa, scap, rfl, hps⟩ := pairs_of_owns hrow; obtain ⟨y1, rfl⟩ := ovr_of_below hbl; clear hbl hrow) | (go_at_call 88; refine (HBH.out _ _ _ (by (repeat (first | assumption | refine PairsAt.ovr ?_ _ | refine PairsAt.alloc ?_ _ | refine PairsAt.drewN ?_ _ | refine PairsAt.drew ?_)))).mono ?_; rintro e1 w1 ⟨v, rfl, hrow, hbl⟩; obtain ⟨ba, bcap, rfl, hpb⟩ := pairs_of_owns hrow; obtain ⟨y2, rfl⟩ := ovr_of_below hbl; clear hbl hrow)))
    obtain ⟨m1, hm1⟩ : ∃ m1, m - 1 = m1 := ⟨_, rfl⟩
    have em : (m : Int) - 1 = (m1 : Int) := by omega
    have hm10 : (0 : Int) ≤ (m1 : Int) := by omega
    by_cases hc : m1 < B.length
    · have hb2 : ¬ (B.length : Int) < (m : Int) := by omega
      have hb3 : (m1 : Int) < (B.length : Int) := by omega
      obtain ⟨g, rfl, hg, d0, d1⟩ := hpb m1 hc
      obtain ⟨⟨fx, fy⟩, hxy⟩ : ∃ p, B.getD m1 (0, 0) = p := ⟨_, rfl⟩
      rw [hxy] at d0 d1
      simp only at d0 d1
      simp at hg
      have HR : Hid (sentBackP L l c m = (((fx : Int), (fy : Int), 0, true, -1), true)) := Lib.hid (by rw [HP.out, sentBackO, if_pos (by omega), hm1, hxy]; rfl)
      clear hxy hm1
      go_wp2_with (go_at_call 89; refine (rjump_any _ _ _).mono ?_; rintro e w1 ⟨rfl, hbl⟩; obtain ⟨x, rfl⟩ := ovr_of_below hbl; clear hbl)
      refine bodyPost_ret (v := movV (((fx : Int), (fy : Int), 0, true, -1), true)) (by simp [results, Try.results62, go_sem]) rfl ⟨by rw [HR.out], by (repeat (first | with_reducible exact Below.refl _ _ | (with_reducible refine Below.setCell ?_ ?_ _; rotate_left; · (first | exact Nat.le_refl _ | assumption | omega | (simp; done) | (simp; omega))) | (with_reducible refine Below.alloc ?_ ?_ _; rotate_left; · (first | exact Nat.le_refl _ | assumption | omega | (simp; done) | (simp; omega))) | with_reducible refine below_ovr_of ?_ | with_reducible refine drew_below ?_ _ | with_reducible refine Below.drew ?_ | with_reducible assumption))⟩
    · have hb2 : (B.length : Int) < (m : Int) := by omega
      have HR : Hid (sentBackP L l c m = noMov) := Lib.hid (by rw [HP.out, sentBackO, if_neg (by omega)])
      clear hm1
      go_wp2_with (go_at_call 86; refine (rnone_any _).mono ?_; rintro e w1 ⟨rfl, hbl⟩; obtain ⟨x, rfl⟩ := ovr_of_below hbl; clear hbl)
      refine bodyPost_ret (v := movV noMov) (by simp [results, Try.results62, go_sem, noMov]) rfl ⟨by rw [HR.out], by (repeat (first | with_reducible exact Below.refl _ _ | (with_reducible refine Below.setCell ?_ ?_ _; rotate_left; · (first | exact Nat.le_refl _ | assumption | omega | (simp; done) | (simp; omega))) | (with_reducible refine Below.alloc ?_ ?_ _; rotate_left; · (first | exact Nat.le_refl _ | assumption | omega | (simp; done) | (simp; omega))) | with_reducible refine below_ovr_of ?_ | with_reducible refine drew_below ?_ _ | with_reducible refine Below.drew ?_ | with_reducible assumption))⟩
  · have HQ : Hid ((plcB L pl pc && decide (1 ≤ n)) = false) := Lib.hid (by
      rw [Bool.eq_false_iff]; intro e; simp only [Bool.and_eq_true, decide_eq_true_eq] at e; exact h e)
    have HP := Lib.hid (sentBackP_no h)
    clear h
    go_enter Try.func62, Try.ntmps62
    go_wp2_with (first | (go_at_call 85; refine (rmay_at _ _ L _ _ _ _ (by (repeat (first | assumption | refine LinesAt.ovr ?_ _ | refine LinesAt.alloc ?_ _ | refine LinesAt.drewN ?_ _ | refine LinesAt.drew ?_))) HQ).mono ?_; rintro e w1 ⟨rfl, hbl⟩; obtain ⟨x, rfl⟩ := ovr_of_below hbl; clear hbl) | (go_at_call 86; refine (rnone_any _).mono ?_; rintro e w1 ⟨rfl, hbl⟩; obtain ⟨x, rfl⟩ := ovr_of_below hbl; clear hbl))
    refine bodyPost_ret (v := movV noMov) (by simp [results, Try.results62, go_sem, noMov]) rfl ⟨by rw [HP.out], by (repeat (first | with_reducible exact Below.refl _ _ | (with_reducible refine Below.setCell ?_ ?_ _; rotate_left; · (first | exact Nat.le_refl _ | assumption | omega | (simp; done) | (simp; omega))) | (with_reducible refine Below.alloc ?_ ?_ _; rotate_left; · (first | exact Nat.le_refl _ | assumption | omega | (simp; done) | (simp; omega))) | with_reducible refine below_ovr_of ?_ | with_reducible refine drew_below ?_ _ | with_reducible refine Below.drew ?_ | with_reducible assumption))⟩
end Go.Proofs.Ytnaceobbbfbhhaa
