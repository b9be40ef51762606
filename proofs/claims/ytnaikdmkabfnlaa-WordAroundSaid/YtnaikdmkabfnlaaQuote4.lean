/- The contracts of what stands in quotes. Conditions: none beyond what each says. -/
import Derived.Test.YtnaikdmkabfnlaaQuote3
namespace Go.Proofs.Ytnaikdmkabfnlaa
open Go.RowKit

theorem qpair_at (a : Option Addr) (cap : Nat) (L : List ByteArray) (pl pc q : Int) (w : World) (hL : LinesAt w a L) (htot : total L ≤ 100000) {r : (Int × Int) × Bool} (h : Hid (pairR L pl pc q = r)) :
    Calls Try.prog 67 #[.slice a L.length cap, .agg #[.int .i64 pl, .int .i64 pc], .int .u8 q] w fun e w' => e = .returned (pairV r) ∧ Below w.heap.size w w' := by
  have e := h.out
  cases hb : byteB L pl pc with
  | false =>
    rw [pairR_no hb] at e
    subst e
    exact qpair_no a cap L pl pc q w hL hb
  | true =>
    have hp : plcB L pl pc = true := by
      cases hp : plcB L pl pc with
      | true => rfl
      | false => rw [byteB_no hp] at hb; cases hb
    obtain ⟨p1, p2, p3, p4⟩ := plcB_spec hp
    obtain ⟨l, rfl⟩ := Int.eq_ofNat_of_zero_le p1
    obtain ⟨c, rfl⟩ := Int.eq_ofNat_of_zero_le p3
    rw [Int.toNat_natCast] at p4
    rw [pairR_yes hb rfl] at e
    subst e
    exact qpair_yes a cap L l c q w hL htot (by omega) (by omega) hb
theorem byteB_spec {L : List ByteArray} {pl pc : Int} (hb : byteB L pl pc = true) : ∃ l c : Nat, pl = l ∧ pc = c ∧ l < L.length ∧ c ≤ (L.getD l .empty).size ∧ plcB L l c = true := by
  have hp : plcB L pl pc = true := by
    cases hp : plcB L pl pc with
    | true => rfl
    | false => rw [byteB_no hp] at hb; cases hb
  obtain ⟨p1, p2, p3, p4⟩ := plcB_spec hp
  obtain ⟨l, rfl⟩ := Int.eq_ofNat_of_zero_le p1
  obtain ⟨c, rfl⟩ := Int.eq_ofNat_of_zero_le p3
  rw [Int.toNat_natCast] at p4
  exact ⟨l, c, rfl, rfl, by omega, by omega, hp⟩
theorem qwithin_any (l c fx fy : Int) (w : World) :
    Calls Try.prog 68 #[.agg #[.int .i64 l, .int .i64 c], .int .i64 fx, .int .i64 fy] w fun e w' => e = .returned (rngV ((0, l, fx, l, fy), true)) ∧ Below w.heap.size w w' := by
  go_enter Try.func68, Try.ntmps68
  go_wp2
  refine bodyPost_ret (v := rngV ((0, l, fx, l, fy), true)) (by simp [results, Try.results68, go_sem]) rfl ⟨rfl, by (repeat (first | with_reducible exact Below.refl _ _ | (with_reducible refine Below.setCell ?_ ?_ _; rotate_left; · (first | exact Nat.le_refl _ | assumption | omega | (simp; done) | (simp; omega))) | (with_reducible refine Below.alloc ?_ ?_ _; rotate_left; · (first | exact Nat.le_refl _ | assumption | omega | (simp; done) | (simp; omega))) | with_reducible refine below_ovr_of ?_ | with_reducible refine drew_below ?_ _ | with_reducible refine Below.drew ?_ | with_reducible assumption))⟩
theorem in_any (l fx fy : Int) (w : World) :
    Calls Try.prog 70 #[.int .i64 l, .int .i64 fx, .int .i64 fy] w fun e w' => e = .returned (rngV ((0, l, fx, l, fy), true)) ∧ Below w.heap.size w w' := by
  go_enter Try.func70, Try.ntmps70
  go_wp2_with (go_at_call 84; refine (char_any _ _ _ _ _).mono ?_; rintro e w1 ⟨rfl, hbl⟩; obtain ⟨x, rfl⟩ := ovr_of_below hbl; clear hbl)
  refine bodyPost_ret (v := rngV ((0, l, fx, l, fy), true)) (by simp [results, Try.results70, go_sem]) rfl ⟨rfl, by (repeat (first | with_reducible exact Below.refl _ _ | (with_reducible refine Below.setCell ?_ ?_ _; rotate_left; · (first | exact Nat.le_refl _ | assumption | omega | (simp; done) | (simp; omega))) | (with_reducible refine Below.alloc ?_ ?_ _; rotate_left; · (first | exact Nat.le_refl _ | assumption | omega | (simp; done) | (simp; omega))) | with_reducible refine below_ovr_of ?_ | with_reducible refine drew_below ?_ _ | with_reducible refine Below.drew ?_ | with_reducible assumption))⟩

set_option maxHeartbeats 1000000 in
theorem qinner_any (a : Option Addr) (cap : Nat) (L : List ByteArray) (pl pc q : Int) (w : World) (hL : LinesAt w a L) (htot : total L ≤ 100000) :
    Calls Try.prog 34 #[.slice a L.length cap, .agg #[.int .i64 pl, .int .i64 pc], .int .u8 q] w fun e w' => e = .returned (rngV (quoteP L pl pc q false)) ∧ Below w.heap.size w w' := by
  cases hb : byteB L pl pc with
  | false =>
    have HQR := Lib.hid (pairR_no (q := q) hb)
    have HY := Lib.hid (quoteP_no (q := q) (around := false) hb)
    clear hb
    go_enter Try.func34, Try.ntmps34
    go_wp2_with (go_at_call 67; refine (qpair_at _ _ L _ _ _ _ (by (repeat (first | assumption | refine LinesAt.ovr ?_ _ | refine LinesAt.alloc ?_ _ | refine LinesAt.drewN ?_ _ | refine LinesAt.drew ?_))) (by omega) HQR).mono ?_; rintro e w1 ⟨rfl, hbl⟩; obtain ⟨x, rfl⟩ := ovr_of_below hbl; clear hbl)
    refine bodyPost_ret (v := rngV noR) (by simp [results, Try.results34, go_sem, noR]) rfl ⟨by rw [HY.out], by (repeat (first | with_reducible exact Below.refl _ _ | (with_reducible refine Below.setCell ?_ ?_ _; rotate_left; · (first | exact Nat.le_refl _ | assumption | omega | (simp; done) | (simp; omega))) | (with_reducible refine Below.alloc ?_ ?_ _; rotate_left; · (first | exact Nat.le_refl _ | assumption | omega | (simp; done) | (simp; omega))) | with_reducible refine below_ovr_of ?_ | with_reducible refine drew_below ?_ _ | with_reducible refine Below.drew ?_ | with_reducible assumption))⟩
  | true =>
    obtain ⟨l, c, rfl, rfl, hl, hc, hp⟩ := byteB_spec hb
    have hqr := pairR_yes (q := q) hb rfl
    have hy := quoteP_yes (q := q) (around := false) hb rfl
    have hst := size_le_total L l hl
    obtain ⟨s, hs⟩ : ∃ s, L.getD l .empty = s := ⟨_, rfl⟩
    rw [hs] at hqr hy hc hst
    cases hT : pairQ s q c with
    | none =>
      rw [hT] at hqr hy
      have HQR : Hid (pairR L l c q = ((0, 0), false)) := Lib.hid hqr
      have HY : Hid (quoteP L l c q false = noR) := Lib.hid hy
      clear hb hqr hy hp hs hT
      go_enter Try.func34, Try.ntmps34
      go_wp2_with (go_at_call 67; refine (qpair_at _ _ L _ _ _ _ (by (repeat (first | assumption | refine LinesAt.ovr ?_ _ | refine LinesAt.alloc ?_ _ | refine LinesAt.drewN ?_ _ | refine LinesAt.drew ?_))) (by omega) HQR).mono ?_; rintro e w1 ⟨rfl, hbl⟩; obtain ⟨x, rfl⟩ := ovr_of_below hbl; clear hbl)
      refine bodyPost_ret (v := rngV noR) (by simp [results, Try.results34, go_sem, noR]) rfl ⟨by rw [HY.out], by (repeat (first | with_reducible exact Below.refl _ _ | (with_reducible refine Below.setCell ?_ ?_ _; rotate_left; · (first | exact Nat.le_refl _ | assumption | omega | (simp; done) | (simp; omega))) | (with_reducible refine Below.alloc ?_ ?_ _; rotate_left; · (first | exact Nat.le_refl _ | assumption | omega | (simp; done) | (simp; omega))) | with_reducible refine below_ovr_of ?_ | with_reducible refine drew_below ?_ _ | with_reducible refine Below.drew ?_ | with_reducible assumption))⟩
    | some p =>
      obtain ⟨fx, fy⟩ := p
      rw [hT] at hqr hy
      obtain ⟨g1, g2, _, _, _⟩ := pairQ_in hT
      simp only at g1 g2
      have HQR : Hid (pairR L l c q = (((fx : Int), (fy : Int)), true)) := Lib.hid hqr
      have HY : Hid (quoteP L l c q false = ((0, (l : Int), (fx : Int) + 1, (l : Int), (fy : Int)), true)) := Lib.hid hy
      have g3 : (fx : Int) ≤ 100000 := by omega
      have g4 : (0 : Int) ≤ (fx : Int) := by omega
      clear hb hqr hy hp hs hT
      go_enter Try.func34, Try.ntmps34
      go_wp2_with (first | (go_at_call 67; refine (qpair_at _ _ L _ _ _ _ (by (repeat (first | assumption | refine LinesAt.ovr ?_ _ | refine LinesAt.alloc ?_ _ | refine LinesAt.drewN ?_ _ | refine LinesAt.drew ?_))) (by omega) HQR).mono ?_; rintro e w1 ⟨rfl, hbl⟩; obtain ⟨x, rfl⟩ := ovr_of_below hbl; clear hbl) | (go_at_call 68; refine (qwithin_any _ _ _ _ _).mono ?_; rintro e w1 ⟨rfl, hbl⟩; obtain ⟨x, rfl⟩ := ovr_of_below hbl; clear hbl))
      refine bodyPost_ret (v := rngV ((0, (l : Int), (fx : Int) + 1, (l : Int), (fy : Int)), true)) (by simp [results, Try.results34, go_sem]) rfl ⟨by rw [HY.out], by (repeat (first | with_reducible exact Below.refl _ _ | (with_reducible refine Below.setCell ?_ ?_ _; rotate_left; · (first | exact Nat.le_refl _ | assumption | omega | (simp; done) | (simp; omega))) | (with_reducible refine Below.alloc ?_ ?_ _; rotate_left; · (first | exact Nat.le_refl _ | assumption | omega | (simp; done) | (simp; omega))) | with_reducible refine below_ovr_of ?_ | with_reducible refine drew_below ?_ _ | with_reducible refine Below.drew ?_ | with_reducible assumption))⟩

set_option maxRecDepth 100000 in
set_option maxHeartbeats 2000000 in
theorem qaround_any (a : Option Addr) (cap : Nat) (L : List ByteArray) (pl pc q : Int) (w : World) (hL : LinesAt w a L) (htot : total L ≤ 100000) :
    Calls Try.prog 36 #[.slice a L.length cap, .agg #[.int .i64 pl, .int .i64 pc], .int .u8 q] w fun e w' => e = .returned (rngV (quoteP L pl pc q true)) ∧ Below w.heap.size w w' := by
  have hn := hL.2.1
  cases hb : byteB L pl pc with
  | false =>
    have HQR := Lib.hid (pairR_no (q := q) hb)
    have HY := Lib.hid (quoteP_no (q := q) (around := true) hb)
    clear hb
    go_enter Try.func36, Try.ntmps36
    go_wp2_with (go_at_call 67; refine (qpair_at _ _ L _ _ _ _ (by (repeat (first | assumption | refine LinesAt.ovr ?_ _ | refine LinesAt.alloc ?_ _ | refine LinesAt.drewN ?_ _ | refine LinesAt.drew ?_))) (by omega) HQR).mono ?_; rintro e w1 ⟨rfl, hbl⟩; obtain ⟨x, rfl⟩ := ovr_of_below hbl; clear hbl)
    refine bodyPost_ret (v := rngV noR) (by simp [results, Try.results36, go_sem, noR]) rfl ⟨by rw [HY.out], by (repeat (first | with_reducible exact Below.refl _ _ | (with_reducible refine Below.setCell ?_ ?_ _; rotate_left; · (first | exact Nat.le_refl _ | assumption | omega | (simp; done) | (simp; omega))) | (with_reducible refine Below.alloc ?_ ?_ _; rotate_left; · (first | exact Nat.le_refl _ | assumption | omega | (simp; done) | (simp; omega))) | with_reducible refine below_ovr_of ?_ | with_reducible refine drew_below ?_ _ | with_reducible refine Below.drew ?_ | with_reducible assumption))⟩
  | true =>
    obtain ⟨l, c, rfl, rfl, hl, hc, hp⟩ := byteB_spec hb
    have hqr := pairR_yes (q := q) hb rfl
    have hy := quoteP_yes (q := q) (around := true) hb rfl
    have hst := size_le_total L l hl
    obtain ⟨b, off, s, rfl, hbb, hcell, hss, HS⟩ := line_facts' hL hl
    rw [HS.out] at hqr hy hc hst
    have hlI : (l : Int) < (L.length : Int) := by omega
    have hl0 : (0 : Int) ≤ (l : Int) := by omega
    cases hT : pairQ s q c with
    | none =>
      rw [hT] at hqr hy
      have HQR : Hid (pairR L l c q = ((0, 0), false)) := Lib.hid hqr
      have HY : Hid (quoteP L l c q true = noR) := Lib.hid hy
      clear hb hqr hy hp hT
      go_enter Try.func36, Try.ntmps36
      go_wp2_with (go_at_call 67; refine (qpair_at _ _ L _ _ _ _ (by (repeat (first | assumption | refine LinesAt.ovr ?_ _ | refine LinesAt.alloc ?_ _ | refine LinesAt.drewN ?_ _ | refine LinesAt.drew ?_))) (by omega) HQR).mono ?_; rintro e w1 ⟨rfl, hbl⟩; obtain ⟨x, rfl⟩ := ovr_of_below hbl; clear hbl)
      refine bodyPost_ret (v := rngV noR) (by simp [results, Try.results36, go_sem, noR]) rfl ⟨by rw [HY.out], by (repeat (first | with_reducible exact Below.refl _ _ | (with_reducible refine Below.setCell ?_ ?_ _; rotate_left; · (first | exact Nat.le_refl _ | assumption | omega | (simp; done) | (simp; omega))) | (with_reducible refine Below.alloc ?_ ?_ _; rotate_left; · (first | exact Nat.le_refl _ | assumption | omega | (simp; done) | (simp; omega))) | with_reducible refine below_ovr_of ?_ | with_reducible refine drew_below ?_ _ | with_reducible refine Below.drew ?_ | with_reducible assumption))⟩
    | some p =>
      obtain ⟨fx, fy⟩ := p
      rw [hT] at hqr hy
      obtain ⟨g1, g2, _, _, _⟩ := pairQ_in hT
      simp only at g1 g2
      have HQR : Hid (pairR L l c q = (((fx : Int), (fy : Int)), true)) := Lib.hid hqr
      obtain ⟨E, hE⟩ : ∃ E, skipF s (fy + 1) = E := ⟨_, rfl⟩
      obtain ⟨F, hF⟩ : ∃ F, (if E = fy + 1 then skipB s fx else fx) = F := ⟨_, rfl⟩
      have HY : Hid (quoteP L l c q true = ((0, (l : Int), (F : Int), (l : Int), (E : Int)), true)) := Lib.hid (hy.trans (by rw [quoteO, if_pos rfl, hE, hF]))
      have HE := Lib.hid hE
      have HF := Lib.hid hF
      have g4 : (0 : Int) ≤ (fy : Int) := by omega
      have g5 : (fy : Int) ≤ 100000 := by omega
      clear hb hqr hy hp hT hE hF
      go_enter Try.func36, Try.ntmps36
      go_wp2_with (go_at_call 67; refine (qpair_at _ _ L _ _ _ _ (by (repeat (first | assumption | refine LinesAt.ovr ?_ _ | refine LinesAt.alloc ?_ _ | refine LinesAt.drewN ?_ _ | refine LinesAt.drew ?_))) (by omega) HQR).mono ?_; rintro e w1 ⟨rfl, hbl⟩; obtain ⟨x, rfl⟩ := ovr_of_below hbl; clear hbl)
      go_loop [12] (fun i => ∃ k : Nat, fy + 1 ≤ k ∧ k ≤ s.size ∧ i = .int .i64 k ∧ Hid (skipF s k = E)) (fun i => s.size - (intOf i).toNat)
      case atStart => exact ⟨fy + 1, Nat.le_refl _, by omega, by go_num, HE⟩
      case round =>
        obtain ⟨k, hk1, hk2, rfl, HK⟩ := hrel
        by_cases hlt : k < s.size
        · have hltI : (k : Int) < (s.size : Int) := by omega
          have hbt := byt_at' s k hlt
          by_cases hbl0 : ofC (s[k].toNat : Int) true = 0
          · have t1 : (ofC (s[k].toNat : Int) true == 0) = true := by rw [beq_iff_eq]; exact hbl0
            have HK2 : Hid (skipF s (k + 1) = E) := Lib.hid (by rw [← skipF_on hlt (by rw [hbt]; exact hbl0)]; exact HK.out)
            clear hbl0 hbt
            go_wp2_with (go_at_call 71; refine (of_any _ _ _).mono ?_; rintro e w1 ⟨rfl, rfl⟩)
            go_round
            case rel => exact ⟨k + 1, by omega, by omega, by go_num, HK2⟩
            case measure => simp [intOf]; omega
          · have t1 : (ofC (s[k].toNat : Int) true == 0) = false := beq_eq_false_iff_ne.2 hbl0
            have e : k = E := by have := HK.out; rwa [skipF_stop hlt (by rw [hbt]; exact hbl0)] at this
            clear hbl0 hbt
            subst e
            go_wp2_with (go_at_call 71; refine (of_any _ _ _).mono ?_; rintro e w1 ⟨rfl, rfl⟩)
            go_loop [8] (fun i => ∃ j : Nat, j ≤ fx ∧ i = .int .i64 j ∧ Hid ((if k = fy + 1 then skipB s j else j) = F)) (fun i => (intOf i).toNat)
            case atStart => exact ⟨fx, Nat.le_refl _, rfl, HF⟩
            case round =>
              obtain ⟨j, hj, rfl, HJ⟩ := hrel
              by_cases hke : k = fy + 1
              · have HJ1 : Hid (skipB s j = F) := Lib.hid (by have := HJ.out; rwa [if_pos hke] at this)
                have tk : ((k : Int) == (fy : Int) + 1) = true := by rw [beq_iff_eq]; omega
                clear HJ
                by_cases hj0 : j = 0
                · subst hj0
                  have e : 0 = F := by have := HJ1.out; rwa [skipB_zero] at this
                  subst e
                  clear hke
                  go_wp2_with (first | (go_at_call 71; refine (of_any _ _ _).mono ?_; rintro e w1 ⟨rfl, rfl⟩) | (go_at_call 68; refine (qwithin_any _ _ _ _ _).mono ?_; rintro e w1 ⟨rfl, hbl⟩; obtain ⟨x, rfl⟩ := ovr_of_below hbl; clear hbl))
                  refine bodyPost_ret (v := rngV ((0, (l : Int), (0 : Nat), (l : Int), (k : Int)), true)) (by simp [results, Try.results36, go_sem]) rfl ⟨by rw [HY.out], by (repeat (first | with_reducible exact Below.refl _ _ | (with_reducible refine Below.setCell ?_ ?_ _; rotate_left; · (first | exact Nat.le_refl _ | assumption | omega | (simp; done) | (simp; omega))) | (with_reducible refine Below.alloc ?_ ?_ _; rotate_left; · (first | exact Nat.le_refl _ | assumption | omega | (simp; done) | (simp; omega))) | with_reducible refine below_ovr_of ?_ | with_reducible refine drew_below ?_ _ | with_reducible refine Below.drew ?_ | with_reducible assumption))⟩
                · obtain ⟨i, rfl⟩ : ∃ i, j = i + 1 := ⟨j - 1, by omega⟩
                  have hi : i < s.size := by omega
                  have hiI : (i : Int) < (s.size : Int) := by omega
                  have hi0 : (0 : Int) ≤ (i : Int) := by omega
                  have ei : ((i + 1 : Nat) : Int) - 1 = (i : Int) := by omega
                  have ei0 : decide ((0 : Int) < ((i + 1 : Nat) : Int)) = true := decide_eq_true (by omega)
                  have hbt := byt_at' s i hi
                  by_cases hbl0 : ofC (s[i].toNat : Int) true = 0
                  · have t2 : (ofC (s[i].toNat : Int) true == 0) = true := by rw [beq_iff_eq]; exact hbl0
                    have HJ2 : Hid ((if k = fy + 1 then skipB s i else i) = F) := Lib.hid (by rw [if_pos hke, ← skipB_on (by rw [hbt]; exact hbl0)]; exact HJ1.out)
                    clear hbl0 hbt HJ1 hke
                    go_wp2_with (go_at_call 71; refine (of_any _ _ _).mono ?_; rintro e w1 ⟨rfl, rfl⟩)
                    go_round
                    case rel => exact ⟨i, by omega, by go_num, HJ2⟩
                    case measure => first | (simp [intOf]; done) | (simp [intOf]; omega)
                  · have t2 : (ofC (s[i].toNat : Int) true == 0) = false := beq_eq_false_iff_ne.2 hbl0
                    have e : i + 1 = F := by have := HJ1.out; rwa [skipB_stop (by rw [hbt]; exact hbl0)] at this
                    subst e
                    clear hbl0 hbt HJ1 hke
                    go_wp2_with (first | (go_at_call 71; refine (of_any _ _ _).mono ?_; rintro e w1 ⟨rfl, rfl⟩) | (go_at_call 68; refine (qwithin_any _ _ _ _ _).mono ?_; rintro e w1 ⟨rfl, hbl⟩; obtain ⟨x, rfl⟩ := ovr_of_below hbl; clear hbl))
                    refine bodyPost_ret (v := rngV ((0, (l : Int), ((i + 1 : Nat) : Int), (l : Int), (k : Int)), true)) (by simp [results, Try.results36, go_sem]) rfl ⟨by rw [HY.out], by (repeat (first | with_reducible exact Below.refl _ _ | (with_reducible refine Below.setCell ?_ ?_ _; rotate_left; · (first | exact Nat.le_refl _ | assumption | omega | (simp; done) | (simp; omega))) | (with_reducible refine Below.alloc ?_ ?_ _; rotate_left; · (first | exact Nat.le_refl _ | assumption | omega | (simp; done) | (simp; omega))) | with_reducible refine below_ovr_of ?_ | with_reducible refine drew_below ?_ _ | with_reducible refine Below.drew ?_ | with_reducible assumption))⟩
              · have e : j = F := by have := HJ.out; rwa [if_neg hke] at this
                have tk : ((k : Int) == (fy : Int) + 1) = false := beq_eq_false_iff_ne.2 (by omega)
                subst e
                clear HJ hke
                go_wp2_with (first | (go_at_call 71; refine (of_any _ _ _).mono ?_; rintro e w1 ⟨rfl, rfl⟩) | (go_at_call 68; refine (qwithin_any _ _ _ _ _).mono ?_; rintro e w1 ⟨rfl, hbl⟩; obtain ⟨x, rfl⟩ := ovr_of_below hbl; clear hbl))
                refine bodyPost_ret (v := rngV ((0, (l : Int), (j : Int), (l : Int), (k : Int)), true)) (by simp [results, Try.results36, go_sem]) rfl ⟨by rw [HY.out], by (repeat (first | with_reducible exact Below.refl _ _ | (with_reducible refine Below.setCell ?_ ?_ _; rotate_left; · (first | exact Nat.le_refl _ | assumption | omega | (simp; done) | (simp; omega))) | (with_reducible refine Below.alloc ?_ ?_ _; rotate_left; · (first | exact Nat.le_refl _ | assumption | omega | (simp; done) | (simp; omega))) | with_reducible refine below_ovr_of ?_ | with_reducible refine drew_below ?_ _ | with_reducible refine Below.drew ?_ | with_reducible assumption))⟩
        · have e : k = E := by have := HK.out; rwa [skipF_end (by omega)] at this
          subst e
          have hge : decide (k < s.size) = false := decide_eq_false hlt
          go_wp2_with (go_at_call 71; refine (of_any _ _ _).mono ?_; rintro e w1 ⟨rfl, rfl⟩)
          go_loop [8] (fun i => ∃ j : Nat, j ≤ fx ∧ i = .int .i64 j ∧ Hid ((if k = fy + 1 then skipB s j else j) = F)) (fun i => (intOf i).toNat)
          case atStart => exact ⟨fx, Nat.le_refl _, rfl, HF⟩
          case round =>
            obtain ⟨j, hj, rfl, HJ⟩ := hrel
            by_cases hke : k = fy + 1
            · have HJ1 : Hid (skipB s j = F) := Lib.hid (by have := HJ.out; rwa [if_pos hke] at this)
              have tk : ((k : Int) == (fy : Int) + 1) = true := by rw [beq_iff_eq]; omega
              clear HJ
              by_cases hj0 : j = 0
              · subst hj0
                have e : 0 = F := by have := HJ1.out; rwa [skipB_zero] at this
                subst e
                clear hke
                go_wp2_with (first | (go_at_call 71; refine (of_any _ _ _).mono ?_; rintro e w1 ⟨rfl, rfl⟩) | (go_at_call 68; refine (qwithin_any _ _ _ _ _).mono ?_; rintro e w1 ⟨rfl, hbl⟩; obtain ⟨x, rfl⟩ := ovr_of_below hbl; clear hbl))
                refine bodyPost_ret (v := rngV ((0, (l : Int), (0 : Nat), (l : Int), (k : Int)), true)) (by simp [results, Try.results36, go_sem]) rfl ⟨by rw [HY.out], by (repeat (first | with_reducible exact Below.refl _ _ | (with_reducible refine Below.setCell ?_ ?_ _; rotate_left; · (first | exact Nat.le_refl _ | assumption | omega | (simp; done) | (simp; omega))) | (with_reducible refine Below.alloc ?_ ?_ _; rotate_left; · (first | exact Nat.le_refl _ | assumption | omega | (simp; done) | (simp; omega))) | with_reducible refine below_ovr_of ?_ | with_reducible refine drew_below ?_ _ | with_reducible refine Below.drew ?_ | with_reducible assumption))⟩
              · obtain ⟨i, rfl⟩ : ∃ i, j = i + 1 := ⟨j - 1, by omega⟩
                have hi : i < s.size := by omega
                have hiI : (i : Int) < (s.size : Int) := by omega
                have hi0 : (0 : Int) ≤ (i : Int) := by omega
                have ei : ((i + 1 : Nat) : Int) - 1 = (i : Int) := by omega
                have ei0 : decide ((0 : Int) < ((i + 1 : Nat) : Int)) = true := decide_eq_true (by omega)
                have hbt := byt_at' s i hi
                by_cases hbl0 : ofC (s[i].toNat : Int) true = 0
                · have t2 : (ofC (s[i].toNat : Int) true == 0) = true := by rw [beq_iff_eq]; exact hbl0
                  have HJ2 : Hid ((if k = fy + 1 then skipB s i else i) = F) := Lib.hid (by rw [if_pos hke, ← skipB_on (by rw [hbt]; exact hbl0)]; exact HJ1.out)
                  clear hbl0 hbt HJ1 hke
                  go_wp2_with (go_at_call 71; refine (of_any _ _ _).mono ?_; rintro e w1 ⟨rfl, rfl⟩)
                  go_round
                  case rel => exact ⟨i, by omega, by go_num, HJ2⟩
                  case measure => first | (simp [intOf]; done) | (simp [intOf]; omega)
                · have t2 : (ofC (s[i].toNat : Int) true == 0) = false := beq_eq_false_iff_ne.2 hbl0
                  have e : i + 1 = F := by have := HJ1.out; rwa [skipB_stop (by rw [hbt]; exact hbl0)] at this
                  subst e
                  clear hbl0 hbt HJ1 hke
                  go_wp2_with (first | (go_at_call 71; refine (of_any _ _ _).mono ?_; rintro e w1 ⟨rfl, rfl⟩) | (go_at_call 68; refine (qwithin_any _ _ _ _ _).mono ?_; rintro e w1 ⟨rfl, hbl⟩; obtain ⟨x, rfl⟩ := ovr_of_below hbl; clear hbl))
                  refine bodyPost_ret (v := rngV ((0, (l : Int), ((i + 1 : Nat) : Int), (l : Int), (k : Int)), true)) (by simp [results, Try.results36, go_sem]) rfl ⟨by rw [HY.out], by (repeat (first | with_reducible exact Below.refl _ _ | (with_reducible refine Below.setCell ?_ ?_ _; rotate_left; · (first | exact Nat.le_refl _ | assumption | omega | (simp; done) | (simp; omega))) | (with_reducible refine Below.alloc ?_ ?_ _; rotate_left; · (first | exact Nat.le_refl _ | assumption | omega | (simp; done) | (simp; omega))) | with_reducible refine below_ovr_of ?_ | with_reducible refine drew_below ?_ _ | with_reducible refine Below.drew ?_ | with_reducible assumption))⟩
            · have e : j = F := by have := HJ.out; rwa [if_neg hke] at this
              have tk : ((k : Int) == (fy : Int) + 1) = false := beq_eq_false_iff_ne.2 (by omega)
              subst e
              clear HJ hke
              go_wp2_with (first | (go_at_call 71; refine (of_any _ _ _).mono ?_; rintro e w1 ⟨rfl, rfl⟩) | (go_at_call 68; refine (qwithin_any _ _ _ _ _).mono ?_; rintro e w1 ⟨rfl, hbl⟩; obtain ⟨x, rfl⟩ := ovr_of_below hbl; clear hbl))
              refine bodyPost_ret (v := rngV ((0, (l : Int), (j : Int), (l : Int), (k : Int)), true)) (by simp [results, Try.results36, go_sem]) rfl ⟨by rw [HY.out], by (repeat (first | with_reducible exact Below.refl _ _ | (with_reducible refine Below.setCell ?_ ?_ _; rotate_left; · (first | exact Nat.le_refl _ | assumption | omega | (simp; done) | (simp; omega))) | (with_reducible refine Below.alloc ?_ ?_ _; rotate_left; · (first | exact Nat.le_refl _ | assumption | omega | (simp; done) | (simp; omega))) | with_reducible refine below_ovr_of ?_ | with_reducible refine drew_below ?_ _ | with_reducible refine Below.drew ?_ | with_reducible assumption))⟩
end Go.Proofs.Ytnaikdmkabfnlaa
