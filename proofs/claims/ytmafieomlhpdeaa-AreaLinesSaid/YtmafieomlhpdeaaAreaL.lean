/- The contracts of area.Lines, area.Visual and of their references. Conditions: none beyond what each says. -/
import Derived.Test.YtmafieomlhpdeaaArea7a
import Derived.Test.YtmafieomlhpdeaaCharsP
import Derived.Test.YtmafieomlhpdeaaVertP
namespace Go.Proofs.Ytmafieomlhpdeaa
open Go.RowKit

def noRng : Rng × Bool := ((0, 0, 0, 0, 0), false)
theorem linesP_no {L : List ByteArray} {pl pc n : Int} (h : ¬ (plcB L pl pc = true ∧ 1 ≤ n ∧ n ≤ L.length - pl)) : linesP L pl pc n = noRng := by rw [linesP, if_neg h]; rfl
theorem linesP_yes {L : List ByteArray} {pl pc n : Int} (h : plcB L pl pc = true ∧ 1 ≤ n ∧ n ≤ L.length - pl) : linesP L pl pc n = ((1, pl, 0, pl + n - 1, 0), true) := by rw [linesP, if_pos h]

set_option maxHeartbeats 1000000 in
theorem alines_any (a : Option Addr) (cap : Nat) (L : List ByteArray) (pl pc n : Int) (w : World) (hL : LinesAt w a L) :
    Calls Try.prog 33 #[.slice a L.length cap, .agg #[.int .i64 pl, .int .i64 pc], .int .i64 n] w fun e w' =>
      e = .returned (areaV (linesP L pl pc n)) ∧ Below w.heap.size w w' := by
  have hn := hL.2.1
  cases hp : plcB L pl pc with
  | false =>
    have HP := Lib.hid (linesP_no (L := L) (pl := pl) (pc := pc) (n := n) (fun e => by rw [hp] at e; simp at e))
    go_enter Try.func33, Try.ntmps33
    go_wp2_with (go_at_call 55; refine (place_any _ _ L _ _ _ (by (repeat (first | assumption | refine LinesAt.ovr ?_ _ | refine LinesAt.alloc ?_ _ | refine LinesAt.drewN ?_ _ | refine LinesAt.drew ?_)))).mono ?_; rintro e w1 ⟨rfl, hbl⟩; obtain ⟨x, rfl⟩ := ovr_of_below hbl; clear hbl)
    refine bodyPost_ret (v := areaV noRng) (by simp [results, Try.results33, go_sem, noRng]) rfl ⟨by rw [HP.out], by (repeat (first | exact Below.refl _ _ | refine Below.alloc ?_ (by first | exact Nat.le_refl _ | (simp; done) | (simp; omega)) _ | refine below_ovr_of ?_ | refine drew_below ?_ _ | refine Below.drew ?_ | refine Below.setCell ?_ (by first | exact Nat.le_refl _ | (simp; done) | (simp; omega)) _ | assumption))⟩
  | true =>
    obtain ⟨p1, p2, p3, p4⟩ := plcB_spec hp
    rcases (by omega : n < 1 ∨ (1 ≤ n ∧ (L.length : Int) - pl < n) ∨ (1 ≤ n ∧ n ≤ (L.length : Int) - pl)) with h1 | ⟨h1, h2⟩ | ⟨h1, h2⟩
    · have HP := Lib.hid (linesP_no (L := L) (pl := pl) (pc := pc) (n := n) (fun e => by omega))
      go_enter Try.func33, Try.ntmps33
      go_wp2_with (go_at_call 55; refine (place_any _ _ L _ _ _ (by (repeat (first | assumption | refine LinesAt.ovr ?_ _ | refine LinesAt.alloc ?_ _ | refine LinesAt.drewN ?_ _ | refine LinesAt.drew ?_)))).mono ?_; rintro e w1 ⟨rfl, hbl⟩; obtain ⟨x, rfl⟩ := ovr_of_below hbl; clear hbl)
      refine bodyPost_ret (v := areaV noRng) (by simp [results, Try.results33, go_sem, noRng]) rfl ⟨by rw [HP.out], by (repeat (first | exact Below.refl _ _ | refine Below.alloc ?_ (by first | exact Nat.le_refl _ | (simp; done) | (simp; omega)) _ | refine below_ovr_of ?_ | refine drew_below ?_ _ | refine Below.drew ?_ | refine Below.setCell ?_ (by first | exact Nat.le_refl _ | (simp; done) | (simp; omega)) _ | assumption))⟩
    · have HP := Lib.hid (linesP_no (L := L) (pl := pl) (pc := pc) (n := n) (fun e => by omega))
      go_enter Try.func33, Try.ntmps33
      go_wp2_with (go_at_call 55; refine (place_any _ _ L _ _ _ (by (repeat (first | assumption | refine LinesAt.ovr ?_ _ | refine LinesAt.alloc ?_ _ | refine LinesAt.drewN ?_ _ | refine LinesAt.drew ?_)))).mono ?_; rintro e w1 ⟨rfl, hbl⟩; obtain ⟨x, rfl⟩ := ovr_of_below hbl; clear hbl)
      refine bodyPost_ret (v := areaV noRng) (by simp [results, Try.results33, go_sem, noRng]) rfl ⟨by rw [HP.out], by (repeat (first | exact Below.refl _ _ | refine Below.alloc ?_ (by first | exact Nat.le_refl _ | (simp; done) | (simp; omega)) _ | refine below_ovr_of ?_ | refine drew_below ?_ _ | refine Below.drew ?_ | refine Below.setCell ?_ (by first | exact Nat.le_refl _ | (simp; done) | (simp; omega)) _ | assumption))⟩
    · have HP := Lib.hid (linesP_yes (L := L) ⟨hp, h1, h2⟩)
      go_enter Try.func33, Try.ntmps33
      go_wp2_with (first | (go_at_call 55; refine (place_any _ _ L _ _ _ (by (repeat (first | assumption | refine LinesAt.ovr ?_ _ | refine LinesAt.alloc ?_ _ | refine LinesAt.drewN ?_ _ | refine LinesAt.drew ?_)))).mono ?_; rintro e w1 ⟨rfl, hbl⟩; obtain ⟨x, rfl⟩ := ovr_of_below hbl; clear hbl) | (go_at_call 67; refine (whole_any _ _ _).mono ?_; rintro e w1 ⟨rfl, hbl⟩; obtain ⟨x, rfl⟩ := ovr_of_below hbl; clear hbl))
      refine bodyPost_ret (v := areaV ((1, pl, 0, pl + n - 1, 0), true)) (by simp [results, Try.results33, go_sem]) rfl ⟨by rw [HP.out], by (repeat (first | exact Below.refl _ _ | refine Below.alloc ?_ (by first | exact Nat.le_refl _ | (simp; done) | (simp; omega)) _ | refine below_ovr_of ?_ | refine drew_below ?_ _ | refine Below.drew ?_ | refine Below.setCell ?_ (by first | exact Nat.le_refl _ | (simp; done) | (simp; omega)) _ | assumption))⟩
set_option maxHeartbeats 1000000 in
theorem ralines_any (a : Option Addr) (cap : Nat) (L : List ByteArray) (pl pc n : Int) (w : World) (hL : LinesAt w a L) :
    Calls Try.prog 34 #[.slice a L.length cap, .agg #[.int .i64 pl, .int .i64 pc], .int .i64 n] w fun e w' =>
      e = .returned (areaV (linesP L pl pc n)) ∧ Below w.heap.size w w' := by
  have hn := hL.2.1
  cases hp : plcB L pl pc with
  | false =>
    have HP := Lib.hid (linesP_no (L := L) (pl := pl) (pc := pc) (n := n) (fun e => by rw [hp] at e; simp at e))
    go_enter Try.func34, Try.ntmps34
    go_wp2_with (go_at_call 68; refine (rplace_any _ _ L _ _ _ (by (repeat (first | assumption | refine LinesAt.ovr ?_ _ | refine LinesAt.alloc ?_ _ | refine LinesAt.drewN ?_ _ | refine LinesAt.drew ?_)))).mono ?_; rintro e w1 ⟨rfl, hbl⟩; obtain ⟨x, rfl⟩ := ovr_of_below hbl; clear hbl)
    refine bodyPost_ret (v := areaV noRng) (by simp [results, Try.results34, go_sem, noRng]) rfl ⟨by rw [HP.out], by (repeat (first | exact Below.refl _ _ | refine Below.alloc ?_ (by first | exact Nat.le_refl _ | (simp; done) | (simp; omega)) _ | refine below_ovr_of ?_ | refine drew_below ?_ _ | refine Below.drew ?_ | refine Below.setCell ?_ (by first | exact Nat.le_refl _ | (simp; done) | (simp; omega)) _ | assumption))⟩
  | true =>
    obtain ⟨p1, p2, p3, p4⟩ := plcB_spec hp
    rcases (by omega : n < 1 ∨ (1 ≤ n ∧ (L.length : Int) - pl < n) ∨ (1 ≤ n ∧ n ≤ (L.length : Int) - pl)) with h1 | ⟨h1, h2⟩ | ⟨h1, h2⟩
    · have HP := Lib.hid (linesP_no (L := L) (pl := pl) (pc := pc) (n := n) (fun e => by omega))
      go_enter Try.func34, Try.ntmps34
      go_wp2_with (go_at_call 68; refine (rplace_any _ _ L _ _ _ (by (repeat (first | assumption | refine LinesAt.ovr ?_ _ | refine LinesAt.alloc ?_ _ | refine LinesAt.drewN ?_ _ | refine LinesAt.drew ?_)))).mono ?_; rintro e w1 ⟨rfl, hbl⟩; obtain ⟨x, rfl⟩ := ovr_of_below hbl; clear hbl)
      refine bodyPost_ret (v := areaV noRng) (by simp [results, Try.results34, go_sem, noRng]) rfl ⟨by rw [HP.out], by (repeat (first | exact Below.refl _ _ | refine Below.alloc ?_ (by first | exact Nat.le_refl _ | (simp; done) | (simp; omega)) _ | refine below_ovr_of ?_ | refine drew_below ?_ _ | refine Below.drew ?_ | refine Below.setCell ?_ (by first | exact Nat.le_refl _ | (simp; done) | (simp; omega)) _ | assumption))⟩
    · have HP := Lib.hid (linesP_no (L := L) (pl := pl) (pc := pc) (n := n) (fun e => by omega))
      go_enter Try.func34, Try.ntmps34
      go_wp2_with (go_at_call 68; refine (rplace_any _ _ L _ _ _ (by (repeat (first | assumption | refine LinesAt.ovr ?_ _ | refine LinesAt.alloc ?_ _ | refine LinesAt.drewN ?_ _ | refine LinesAt.drew ?_)))).mono ?_; rintro e w1 ⟨rfl, hbl⟩; obtain ⟨x, rfl⟩ := ovr_of_below hbl; clear hbl)
      refine bodyPost_ret (v := areaV noRng) (by simp [results, Try.results34, go_sem, noRng]) rfl ⟨by rw [HP.out], by (repeat (first | exact Below.refl _ _ | refine Below.alloc ?_ (by first | exact Nat.le_refl _ | (simp; done) | (simp; omega)) _ | refine below_ovr_of ?_ | refine drew_below ?_ _ | refine Below.drew ?_ | refine Below.setCell ?_ (by first | exact Nat.le_refl _ | (simp; done) | (simp; omega)) _ | assumption))⟩
    · have HP := Lib.hid (linesP_yes (L := L) ⟨hp, h1, h2⟩)
      go_enter Try.func34, Try.ntmps34
      go_wp2_with (first | (go_at_call 68; refine (rplace_any _ _ L _ _ _ (by (repeat (first | assumption | refine LinesAt.ovr ?_ _ | refine LinesAt.alloc ?_ _ | refine LinesAt.drewN ?_ _ | refine LinesAt.drew ?_)))).mono ?_; rintro e w1 ⟨rfl, hbl⟩; obtain ⟨x, rfl⟩ := ovr_of_below hbl; clear hbl) | (go_at_call 69; refine (rwhole_any _ _ _).mono ?_; rintro e w1 ⟨rfl, hbl⟩; obtain ⟨x, rfl⟩ := ovr_of_below hbl; clear hbl))
      refine bodyPost_ret (v := areaV ((1, pl, 0, pl + n - 1, 0), true)) (by simp [results, Try.results34, go_sem]) rfl ⟨by rw [HP.out], by (repeat (first | exact Below.refl _ _ | refine Below.alloc ?_ (by first | exact Nat.le_refl _ | (simp; done) | (simp; omega)) _ | refine below_ovr_of ?_ | refine drew_below ?_ _ | refine Below.drew ?_ | refine Below.setCell ?_ (by first | exact Nat.le_refl _ | (simp; done) | (simp; omega)) _ | assumption))⟩

theorem visualO_3 (L : List ByteArray) (fl fc tl tc : Int) : visualO L 3 fl fc tl tc = ((0, fl, fc, tl, min (tc + 1) (szI L tl)), true) := by simp [visualO]
theorem visualO_4 (L : List ByteArray) (fl fc tl tc : Int) : visualO L 4 fl fc tl tc = ((1, fl, 0, tl, 0), true) := by simp [visualO]
theorem visualO_5 (L : List ByteArray) (fl fc tl tc : Int) : visualO L 5 fl fc tl tc = ((2, fl, min fc tc, tl, max fc tc), true) := by simp [visualO]
theorem visualO_x {L : List ByteArray} {m fl fc tl tc : Int} (h3 : ¬ m = 3) (h4 : ¬ m = 4) (h5 : ¬ m = 5) : visualO L m fl fc tl tc = noRng := by simp [visualO, h3, h4, h5, noRng]
theorem ordB_cols {a b c d fl fc tl tc : Int} (h : ordB a b c d = (fl, fc, tl, tc)) : (fc = b ∧ tc = d) ∨ (fc = d ∧ tc = b) := by
  unfold ordB at h
  by_cases hb : lessB c d a b = true
  · rw [if_pos hb] at h; simp at h; right; exact ⟨h.2.1.symm, h.2.2.2.symm⟩
  · rw [if_neg hb] at h; simp at h; left; exact ⟨h.2.1.symm, h.2.2.2.symm⟩

set_option maxHeartbeats 1000000 in
theorem avisual_no (a : Option Addr) (cap : Nat) (L : List ByteArray) (mode al ac bl bc : Int) (w : World) (hL : LinesAt w a L) (h : plcB L al ac = false ∨ plcB L bl bc = false) :
    Calls Try.prog 35 #[.slice a L.length cap, .int .i64 mode, .agg #[.int .i64 al, .int .i64 ac], .agg #[.int .i64 bl, .int .i64 bc]] w fun e w' =>
      e = .returned (areaV (visualP L mode al ac bl bc)) ∧ Below w.heap.size w w' := by
  have HP := Lib.hid (visualP_no (mode := mode) h)
  cases h1 : plcB L al ac with
  | false =>
    clear h
    go_enter Try.func35, Try.ntmps35
    go_wp2_with (go_at_call 55; refine (place_any _ _ L _ _ _ (by (repeat (first | assumption | refine LinesAt.ovr ?_ _ | refine LinesAt.alloc ?_ _ | refine LinesAt.drewN ?_ _ | refine LinesAt.drew ?_)))).mono ?_; rintro e w1 ⟨rfl, hbl⟩; obtain ⟨x, rfl⟩ := ovr_of_below hbl; clear hbl)
    refine bodyPost_ret (v := areaV noRng) (by simp [results, Try.results35, go_sem, noRng]) rfl ⟨by rw [HP.out]; rfl, by (repeat (first | exact Below.refl _ _ | refine Below.alloc ?_ (by first | exact Nat.le_refl _ | (simp; done) | (simp; omega)) _ | refine below_ovr_of ?_ | refine drew_below ?_ _ | refine Below.drew ?_ | refine Below.setCell ?_ (by first | exact Nat.le_refl _ | (simp; done) | (simp; omega)) _ | assumption))⟩
  | true =>
    have h2 : plcB L bl bc = false := by rcases h with h | h
                                         · rw [h1] at h; simp at h
                                         · exact h
    clear h
    go_enter Try.func35, Try.ntmps35
    go_wp2_with fail
    go_at_call 55; refine (place_any _ _ L _ _ _ (by (repeat (first | assumption | refine LinesAt.ovr ?_ _ | refine LinesAt.alloc ?_ _ | refine LinesAt.drewN ?_ _ | refine LinesAt.drew ?_)))).mono ?_; rintro e w1 ⟨rfl, hbl⟩; obtain ⟨x, rfl⟩ := ovr_of_below hbl; clear hbl
    go_wp2_with fail
    go_at_call 55; refine (place_any _ _ L _ _ _ (by (repeat (first | assumption | refine LinesAt.ovr ?_ _ | refine LinesAt.alloc ?_ _ | refine LinesAt.drewN ?_ _ | refine LinesAt.drew ?_)))).mono ?_; rintro e w1 ⟨rfl, hbl⟩; obtain ⟨x, rfl⟩ := ovr_of_below hbl; clear hbl
    go_wp2_with fail
    refine bodyPost_ret (v := areaV noRng) (by simp [results, Try.results35, go_sem, noRng]) rfl ⟨by rw [HP.out]; rfl, by (repeat (first | exact Below.refl _ _ | refine Below.alloc ?_ (by first | exact Nat.le_refl _ | (simp; done) | (simp; omega)) _ | refine below_ovr_of ?_ | refine drew_below ?_ _ | refine Below.drew ?_ | refine Below.setCell ?_ (by first | exact Nat.le_refl _ | (simp; done) | (simp; omega)) _ | assumption))⟩
set_option maxHeartbeats 1000000 in
theorem ravisual_no (a : Option Addr) (cap : Nat) (L : List ByteArray) (mode al ac bl bc : Int) (w : World) (hL : LinesAt w a L) (h : plcB L al ac = false ∨ plcB L bl bc = false) :
    Calls Try.prog 36 #[.slice a L.length cap, .int .i64 mode, .agg #[.int .i64 al, .int .i64 ac], .agg #[.int .i64 bl, .int .i64 bc]] w fun e w' =>
      e = .returned (areaV (visualP L mode al ac bl bc)) ∧ Below w.heap.size w w' := by
  have HP := Lib.hid (visualP_no (mode := mode) h)
  cases h1 : plcB L al ac with
  | false =>
    clear h
    go_enter Try.func36, Try.ntmps36
    go_wp2_with (go_at_call 68; refine (rplace_any _ _ L _ _ _ (by (repeat (first | assumption | refine LinesAt.ovr ?_ _ | refine LinesAt.alloc ?_ _ | refine LinesAt.drewN ?_ _ | refine LinesAt.drew ?_)))).mono ?_; rintro e w1 ⟨rfl, hbl⟩; obtain ⟨x, rfl⟩ := ovr_of_below hbl; clear hbl)
    refine bodyPost_ret (v := areaV noRng) (by simp [results, Try.results36, go_sem, noRng]) rfl ⟨by rw [HP.out]; rfl, by (repeat (first | exact Below.refl _ _ | refine Below.alloc ?_ (by first | exact Nat.le_refl _ | (simp; done) | (simp; omega)) _ | refine below_ovr_of ?_ | refine drew_below ?_ _ | refine Below.drew ?_ | refine Below.setCell ?_ (by first | exact Nat.le_refl _ | (simp; done) | (simp; omega)) _ | assumption))⟩
  | true =>
    have h2 : plcB L bl bc = false := by rcases h with h | h
                                         · rw [h1] at h; simp at h
                                         · exact h
    clear h
    go_enter Try.func36, Try.ntmps36
    go_wp2_with fail
    go_at_call 68; refine (rplace_any _ _ L _ _ _ (by (repeat (first | assumption | refine LinesAt.ovr ?_ _ | refine LinesAt.alloc ?_ _ | refine LinesAt.drewN ?_ _ | refine LinesAt.drew ?_)))).mono ?_; rintro e w1 ⟨rfl, hbl⟩; obtain ⟨x, rfl⟩ := ovr_of_below hbl; clear hbl
    go_wp2_with fail
    go_at_call 68; refine (rplace_any _ _ L _ _ _ (by (repeat (first | assumption | refine LinesAt.ovr ?_ _ | refine LinesAt.alloc ?_ _ | refine LinesAt.drewN ?_ _ | refine LinesAt.drew ?_)))).mono ?_; rintro e w1 ⟨rfl, hbl⟩; obtain ⟨x, rfl⟩ := ovr_of_below hbl; clear hbl
    go_wp2_with fail
    refine bodyPost_ret (v := areaV noRng) (by simp [results, Try.results36, go_sem, noRng]) rfl ⟨by rw [HP.out]; rfl, by (repeat (first | exact Below.refl _ _ | refine Below.alloc ?_ (by first | exact Nat.le_refl _ | (simp; done) | (simp; omega)) _ | refine below_ovr_of ?_ | refine drew_below ?_ _ | refine Below.drew ?_ | refine Below.setCell ?_ (by first | exact Nat.le_refl _ | (simp; done) | (simp; omega)) _ | assumption))⟩

set_option maxHeartbeats 1000000 in
theorem avisual_3 (a : Option Addr) (cap : Nat) (L : List ByteArray) (al ac bl bc : Int) (w : World) (hL : LinesAt w a L) (h1 : plcB L al ac = true) (h2 : plcB L bl bc = true) :
    Calls Try.prog 35 #[.slice a L.length cap, .int .i64 3, .agg #[.int .i64 al, .int .i64 ac], .agg #[.int .i64 bl, .int .i64 bc]] w fun e w' =>
      e = .returned (areaV (visualP L 3 al ac bl bc)) ∧ Below w.heap.size w w' := by
  obtain ⟨fl, fc, tl, tc, ho, q1, q2, q3⟩ := ordB_facts h1 h2
  have hcols := ordB_cols ho
  have hy := visualP_yes (mode := 3) h1 h2 ho
  have HO := Lib.hid ho
  have HC := Lib.hid hcols
  clear ho hcols
  rw [visualO_3] at hy
  have HP := Lib.hid hy
  clear hy
  go_enter Try.func35, Try.ntmps35
  go_wp2_with fail
  go_at_call 55; refine (place_any _ _ L _ _ _ (by (repeat (first | assumption | refine LinesAt.ovr ?_ _ | refine LinesAt.alloc ?_ _ | refine LinesAt.drewN ?_ _ | refine LinesAt.drew ?_)))).mono ?_; rintro e w1 ⟨rfl, hbl⟩; obtain ⟨x, rfl⟩ := ovr_of_below hbl; clear hbl
  go_wp2_with fail
  go_at_call 55; refine (place_any _ _ L _ _ _ (by (repeat (first | assumption | refine LinesAt.ovr ?_ _ | refine LinesAt.alloc ?_ _ | refine LinesAt.drewN ?_ _ | refine LinesAt.drew ?_)))).mono ?_; rintro e w1 ⟨rfl, hbl⟩; obtain ⟨x, rfl⟩ := ovr_of_below hbl; clear hbl
  go_wp2_with (first | (go_at_call 70; refine (order_any _ _ _ _ _).mono ?_; rw [HO.out]; rintro e w1 ⟨rfl, hbl⟩; obtain ⟨x, rfl⟩ := ovr_of_below hbl; clear hbl) | (go_at_call 71; refine (with_any _ _ L _ _ _ _ _ (by (repeat (first | assumption | refine LinesAt.ovr ?_ _ | refine LinesAt.alloc ?_ _ | refine LinesAt.drewN ?_ _ | refine LinesAt.drew ?_))) q2).mono ?_; rintro e w1 ⟨rfl, hbl⟩; obtain ⟨x, rfl⟩ := ovr_of_below hbl; clear hbl))
  refine bodyPost_ret (v := areaV ((0, fl, fc, tl, min (tc + 1) (szI L tl)), true)) (by simp [results, Try.results35, go_sem]) rfl ⟨by rw [HP.out], by (repeat (first | with_reducible exact Below.refl _ _ | (with_reducible refine Below.setCell ?_ ?_ _; rotate_left; · (first | exact Nat.le_refl _ | assumption | omega | (simp; done) | (simp; omega))) | (with_reducible refine Below.alloc ?_ ?_ _; rotate_left; · (first | exact Nat.le_refl _ | assumption | omega | (simp; done) | (simp; omega))) | with_reducible refine below_ovr_of ?_ | with_reducible refine drew_below ?_ _ | with_reducible refine Below.drew ?_ | with_reducible assumption))⟩

set_option maxHeartbeats 1000000 in
theorem avisual_4 (a : Option Addr) (cap : Nat) (L : List ByteArray) (al ac bl bc : Int) (w : World) (hL : LinesAt w a L) (h1 : plcB L al ac = true) (h2 : plcB L bl bc = true) :
    Calls Try.prog 35 #[.slice a L.length cap, .int .i64 4, .agg #[.int .i64 al, .int .i64 ac], .agg #[.int .i64 bl, .int .i64 bc]] w fun e w' =>
      e = .returned (areaV (visualP L 4 al ac bl bc)) ∧ Below w.heap.size w w' := by
  obtain ⟨fl, fc, tl, tc, ho, q1, q2, q3⟩ := ordB_facts h1 h2
  have hcols := ordB_cols ho
  have hy := visualP_yes (mode := 4) h1 h2 ho
  have HO := Lib.hid ho
  have HC := Lib.hid hcols
  clear ho hcols
  rw [visualO_4] at hy
  have HP := Lib.hid hy
  clear hy
  go_enter Try.func35, Try.ntmps35
  go_wp2_with fail
  go_at_call 55; refine (place_any _ _ L _ _ _ (by (repeat (first | assumption | refine LinesAt.ovr ?_ _ | refine LinesAt.alloc ?_ _ | refine LinesAt.drewN ?_ _ | refine LinesAt.drew ?_)))).mono ?_; rintro e w1 ⟨rfl, hbl⟩; obtain ⟨x, rfl⟩ := ovr_of_below hbl; clear hbl
  go_wp2_with fail
  go_at_call 55; refine (place_any _ _ L _ _ _ (by (repeat (first | assumption | refine LinesAt.ovr ?_ _ | refine LinesAt.alloc ?_ _ | refine LinesAt.drewN ?_ _ | refine LinesAt.drew ?_)))).mono ?_; rintro e w1 ⟨rfl, hbl⟩; obtain ⟨x, rfl⟩ := ovr_of_below hbl; clear hbl
  go_wp2_with (first | (go_at_call 70; refine (order_any _ _ _ _ _).mono ?_; rw [HO.out]; rintro e w1 ⟨rfl, hbl⟩; obtain ⟨x, rfl⟩ := ovr_of_below hbl; clear hbl) | (go_at_call 67; refine (whole_any _ _ _).mono ?_; rintro e w1 ⟨rfl, hbl⟩; obtain ⟨x, rfl⟩ := ovr_of_below hbl; clear hbl))
  refine bodyPost_ret (v := areaV ((1, fl, 0, tl, 0), true)) (by simp [results, Try.results35, go_sem]) rfl ⟨by rw [HP.out], by (repeat (first | with_reducible exact Below.refl _ _ | (with_reducible refine Below.setCell ?_ ?_ _; rotate_left; · (first | exact Nat.le_refl _ | assumption | omega | (simp; done) | (simp; omega))) | (with_reducible refine Below.alloc ?_ ?_ _; rotate_left; · (first | exact Nat.le_refl _ | assumption | omega | (simp; done) | (simp; omega))) | with_reducible refine below_ovr_of ?_ | with_reducible refine drew_below ?_ _ | with_reducible refine Below.drew ?_ | with_reducible assumption))⟩

set_option maxHeartbeats 1000000 in
theorem avisual_5a (a : Option Addr) (cap : Nat) (L : List ByteArray) (al ac bl bc : Int) (w : World) (hL : LinesAt w a L) (h1 : plcB L al ac = true) (h2 : plcB L bl bc = true) (k : ac ≤ bc) :
    Calls Try.prog 35 #[.slice a L.length cap, .int .i64 5, .agg #[.int .i64 al, .int .i64 ac], .agg #[.int .i64 bl, .int .i64 bc]] w fun e w' =>
      e = .returned (areaV (visualP L 5 al ac bl bc)) ∧ Below w.heap.size w w' := by
  obtain ⟨fl, fc, tl, tc, ho, q1, q2, q3⟩ := ordB_facts h1 h2
  have hcols := ordB_cols ho
  have hy := visualP_yes (mode := 5) h1 h2 ho
  have HO := Lib.hid ho
  have HC := Lib.hid hcols
  clear ho hcols
  rw [visualO_5, show min fc tc = ac from by (rcases HC.out with ⟨h, h'⟩ | ⟨h, h'⟩ <;> omega), show max fc tc = bc from by (rcases HC.out with ⟨h, h'⟩ | ⟨h, h'⟩ <;> omega)] at hy
  have HP := Lib.hid hy
  clear hy HC
  go_enter Try.func35, Try.ntmps35
  go_wp2_with fail
  go_at_call 55; refine (place_any _ _ L _ _ _ (by (repeat (first | assumption | refine LinesAt.ovr ?_ _ | refine LinesAt.alloc ?_ _ | refine LinesAt.drewN ?_ _ | refine LinesAt.drew ?_)))).mono ?_; rintro e w1 ⟨rfl, hbl⟩; obtain ⟨x, rfl⟩ := ovr_of_below hbl; clear hbl
  go_wp2_with fail
  go_at_call 55; refine (place_any _ _ L _ _ _ (by (repeat (first | assumption | refine LinesAt.ovr ?_ _ | refine LinesAt.alloc ?_ _ | refine LinesAt.drewN ?_ _ | refine LinesAt.drew ?_)))).mono ?_; rintro e w1 ⟨rfl, hbl⟩; obtain ⟨x, rfl⟩ := ovr_of_below hbl; clear hbl
  go_wp2_with (go_at_call 70; refine (order_any _ _ _ _ _).mono ?_; rw [HO.out]; rintro e w1 ⟨rfl, hbl⟩; obtain ⟨x, rfl⟩ := ovr_of_below hbl; clear hbl)
  go_quiet (fail)
  go_wp2
  all_goals (
    simp [bodyPost, results, Try.results35, go_sem]
    rw [HP.out]
    refine ⟨by simp; try omega, by (repeat (first | with_reducible exact Below.refl _ _ | (with_reducible refine Below.setCell ?_ ?_ _; rotate_left; · (first | exact Nat.le_refl _ | assumption | omega | (simp; done) | (simp; omega))) | (with_reducible refine Below.alloc ?_ ?_ _; rotate_left; · (first | exact Nat.le_refl _ | assumption | omega | (simp; done) | (simp; omega))) | with_reducible refine below_ovr_of ?_ | with_reducible refine drew_below ?_ _ | with_reducible refine Below.drew ?_ | with_reducible assumption))⟩)
set_option maxHeartbeats 1000000 in
theorem avisual_5b (a : Option Addr) (cap : Nat) (L : List ByteArray) (al ac bl bc : Int) (w : World) (hL : LinesAt w a L) (h1 : plcB L al ac = true) (h2 : plcB L bl bc = true) (k : bc < ac) :
    Calls Try.prog 35 #[.slice a L.length cap, .int .i64 5, .agg #[.int .i64 al, .int .i64 ac], .agg #[.int .i64 bl, .int .i64 bc]] w fun e w' =>
      e = .returned (areaV (visualP L 5 al ac bl bc)) ∧ Below w.heap.size w w' := by
  obtain ⟨fl, fc, tl, tc, ho, q1, q2, q3⟩ := ordB_facts h1 h2
  have hcols := ordB_cols ho
  have hy := visualP_yes (mode := 5) h1 h2 ho
  have HO := Lib.hid ho
  have HC := Lib.hid hcols
  clear ho hcols
  rw [visualO_5, show min fc tc = bc from by (rcases HC.out with ⟨h, h'⟩ | ⟨h, h'⟩ <;> omega), show max fc tc = ac from by (rcases HC.out with ⟨h, h'⟩ | ⟨h, h'⟩ <;> omega)] at hy
  have HP := Lib.hid hy
  clear hy HC
  go_enter Try.func35, Try.ntmps35
  go_wp2_with fail
  go_at_call 55; refine (place_any _ _ L _ _ _ (by (repeat (first | assumption | refine LinesAt.ovr ?_ _ | refine LinesAt.alloc ?_ _ | refine LinesAt.drewN ?_ _ | refine LinesAt.drew ?_)))).mono ?_; rintro e w1 ⟨rfl, hbl⟩; obtain ⟨x, rfl⟩ := ovr_of_below hbl; clear hbl
  go_wp2_with fail
  go_at_call 55; refine (place_any _ _ L _ _ _ (by (repeat (first | assumption | refine LinesAt.ovr ?_ _ | refine LinesAt.alloc ?_ _ | refine LinesAt.drewN ?_ _ | refine LinesAt.drew ?_)))).mono ?_; rintro e w1 ⟨rfl, hbl⟩; obtain ⟨x, rfl⟩ := ovr_of_below hbl; clear hbl
  go_wp2_with (go_at_call 70; refine (order_any _ _ _ _ _).mono ?_; rw [HO.out]; rintro e w1 ⟨rfl, hbl⟩; obtain ⟨x, rfl⟩ := ovr_of_below hbl; clear hbl)
  go_quiet (fail)
  go_wp2
  all_goals (
    simp [bodyPost, results, Try.results35, go_sem]
    rw [HP.out]
    refine ⟨by simp; try omega, by (repeat (first | with_reducible exact Below.refl _ _ | (with_reducible refine Below.setCell ?_ ?_ _; rotate_left; · (first | exact Nat.le_refl _ | assumption | omega | (simp; done) | (simp; omega))) | (with_reducible refine Below.alloc ?_ ?_ _; rotate_left; · (first | exact Nat.le_refl _ | assumption | omega | (simp; done) | (simp; omega))) | with_reducible refine below_ovr_of ?_ | with_reducible refine drew_below ?_ _ | with_reducible refine Below.drew ?_ | with_reducible assumption))⟩)

set_option maxHeartbeats 1000000 in
theorem avisual_x (a : Option Addr) (cap : Nat) (L : List ByteArray) (mode : Int) (al ac bl bc : Int) (w : World) (hL : LinesAt w a L) (h1 : plcB L al ac = true) (h2 : plcB L bl bc = true) (k3 : ¬ mode = 3) (k4 : ¬ mode = 4) (k5 : ¬ mode = 5) :
    Calls Try.prog 35 #[.slice a L.length cap, .int .i64 mode, .agg #[.int .i64 al, .int .i64 ac], .agg #[.int .i64 bl, .int .i64 bc]] w fun e w' =>
      e = .returned (areaV (visualP L mode al ac bl bc)) ∧ Below w.heap.size w w' := by
  obtain ⟨fl, fc, tl, tc, ho, q1, q2, q3⟩ := ordB_facts h1 h2
  have hcols := ordB_cols ho
  have hy := visualP_yes (mode := mode) h1 h2 ho
  have HO := Lib.hid ho
  have HC := Lib.hid hcols
  clear ho hcols
  rw [visualO_x k3 k4 k5] at hy
  have HP := Lib.hid hy
  have b3 : (mode == 3) = false := beq_eq_false_iff_ne.2 k3
  have b4 : (mode == 4) = false := beq_eq_false_iff_ne.2 k4
  have b5 : (mode == 5) = false := beq_eq_false_iff_ne.2 k5
  clear hy k3 k4 k5
  go_enter Try.func35, Try.ntmps35
  go_wp2_with fail
  go_at_call 55; refine (place_any _ _ L _ _ _ (by (repeat (first | assumption | refine LinesAt.ovr ?_ _ | refine LinesAt.alloc ?_ _ | refine LinesAt.drewN ?_ _ | refine LinesAt.drew ?_)))).mono ?_; rintro e w1 ⟨rfl, hbl⟩; obtain ⟨x, rfl⟩ := ovr_of_below hbl; clear hbl
  go_wp2_with fail
  go_at_call 55; refine (place_any _ _ L _ _ _ (by (repeat (first | assumption | refine LinesAt.ovr ?_ _ | refine LinesAt.alloc ?_ _ | refine LinesAt.drewN ?_ _ | refine LinesAt.drew ?_)))).mono ?_; rintro e w1 ⟨rfl, hbl⟩; obtain ⟨x, rfl⟩ := ovr_of_below hbl; clear hbl
  go_wp2_with (go_at_call 70; refine (order_any _ _ _ _ _).mono ?_; rw [HO.out]; rintro e w1 ⟨rfl, hbl⟩; obtain ⟨x, rfl⟩ := ovr_of_below hbl; clear hbl)
  refine bodyPost_ret (v := areaV noRng) (by simp [results, Try.results35, go_sem, noRng]) rfl ⟨by rw [HP.out], by (repeat (first | with_reducible exact Below.refl _ _ | (with_reducible refine Below.setCell ?_ ?_ _; rotate_left; · (first | exact Nat.le_refl _ | assumption | omega | (simp; done) | (simp; omega))) | (with_reducible refine Below.alloc ?_ ?_ _; rotate_left; · (first | exact Nat.le_refl _ | assumption | omega | (simp; done) | (simp; omega))) | with_reducible refine below_ovr_of ?_ | with_reducible refine drew_below ?_ _ | with_reducible refine Below.drew ?_ | with_reducible assumption))⟩

theorem avisual_yes (a : Option Addr) (cap : Nat) (L : List ByteArray) (mode al ac bl bc : Int) (w : World) (hL : LinesAt w a L) (h1 : plcB L al ac = true) (h2 : plcB L bl bc = true) :
    Calls Try.prog 35 #[.slice a L.length cap, .int .i64 mode, .agg #[.int .i64 al, .int .i64 ac], .agg #[.int .i64 bl, .int .i64 bc]] w fun e w' =>
      e = .returned (areaV (visualP L mode al ac bl bc)) ∧ Below w.heap.size w w' := by
  by_cases k3 : mode = 3
  · subst k3; exact avisual_3 a cap L al ac bl bc w hL h1 h2
  · by_cases k4 : mode = 4
    · subst k4; exact avisual_4 a cap L al ac bl bc w hL h1 h2
    · by_cases k5 : mode = 5
      · subst k5
        by_cases k : ac ≤ bc
        · exact avisual_5a a cap L al ac bl bc w hL h1 h2 k
        · exact avisual_5b a cap L al ac bl bc w hL h1 h2 (by omega)
      · exact avisual_x a cap L mode al ac bl bc w hL h1 h2 k3 k4 k5
end Go.Proofs.Ytmafieomlhpdeaa
