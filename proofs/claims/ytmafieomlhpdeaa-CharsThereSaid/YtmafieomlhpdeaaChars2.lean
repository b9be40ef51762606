/- More contracts of package chars. Conditions: none beyond what each says. -/
import Derived.Test.YtmafieomlhpdeaaChars
namespace Go.Proofs.Ytmafieomlhpdeaa
open Go.RowKit

/-- What a place and a count come to. -/
theorem may_ways (L : List ByteArray) (pl pc n : Int) : (Hid ((plcB L pl pc && decide (1 ≤ n)) = false) ∧ ¬ (plcB L pl pc = true ∧ 1 ≤ n)) ∨ (Hid ((plcB L pl pc && decide (1 ≤ n)) = true) ∧ plcB L pl pc = true ∧ 1 ≤ n) := by
  by_cases h : plcB L pl pc = true ∧ 1 ≤ n
  · right; exact ⟨Lib.hid (by simp [h.1, h.2]), h⟩
  · left; refine ⟨Lib.hid ?_, h⟩
    rw [Bool.eq_false_iff]; intro e; simp at e; exact h e

set_option maxHeartbeats 1000000 in
theorem czero_any (a : Option Addr) (cap : Nat) (L : List ByteArray) (pl pc : Int) (w : World) (hL : LinesAt w a L) :
    Calls Try.prog 51 #[.slice a L.length cap, .agg #[.int .i64 pl, .int .i64 pc]] w fun e w' =>
      e = .returned (movV (zeroP L pl pc)) ∧ Below w.heap.size w w' := by
  rcases may_ways L pl pc 1 with ⟨HQ, h⟩ | ⟨HQ, hp, _⟩
  · have HP : Hid (zeroP L pl pc = noMov) := Lib.hid (by rw [zeroP, if_neg (fun e => h ⟨e, by omega⟩)])
    clear h
    go_enter Try.func51, Try.ntmps51
    go_wp2_with (go_at_call 61; refine (cfails_any _ _ L _ _ _ _ (by (repeat (first | assumption | refine LinesAt.ovr ?_ _ | refine LinesAt.alloc ?_ _ | refine LinesAt.drewN ?_ _ | refine LinesAt.drew ?_)))).mono ?_; rw [HQ.out]; rintro e w1 ⟨rfl, hbl⟩; obtain ⟨x, rfl⟩ := ovr_of_below hbl; clear hbl)
    refine bodyPost_ret (v := movV noMov) (by simp [results, Try.results51, go_sem, noMov]) rfl ⟨by rw [HP.out], by (repeat (first | exact Below.refl _ _ | refine Below.alloc ?_ (by first | exact Nat.le_refl _ | (simp; done) | (simp; omega)) _ | refine below_ovr_of ?_ | refine drew_below ?_ _ | refine Below.drew ?_ | refine Below.setCell ?_ (by first | exact Nat.le_refl _ | (simp; done) | (simp; omega)) _ | assumption))⟩
  · have HP : Hid (zeroP L pl pc = ((pl, 0, 0, false, -1), true)) := Lib.hid (by rw [zeroP, if_pos hp])
    go_enter Try.func51, Try.ntmps51
    go_wp2_with (first | (go_at_call 61; refine (cfails_any _ _ L _ _ _ _ (by (repeat (first | assumption | refine LinesAt.ovr ?_ _ | refine LinesAt.alloc ?_ _ | refine LinesAt.drewN ?_ _ | refine LinesAt.drew ?_)))).mono ?_; rw [HQ.out]; rintro e w1 ⟨rfl, hbl⟩; obtain ⟨x, rfl⟩ := ovr_of_below hbl; clear hbl) | (go_at_call 63; refine (cto_any _ _ _ _).mono ?_; rintro e w1 ⟨rfl, hbl⟩; obtain ⟨x, rfl⟩ := ovr_of_below hbl; clear hbl))
    refine bodyPost_ret (v := movV ((pl, 0, 0, false, -1), true)) (by simp [results, Try.results51, go_sem]) rfl ⟨by rw [HP.out], by (repeat (first | exact Below.refl _ _ | refine Below.alloc ?_ (by first | exact Nat.le_refl _ | (simp; done) | (simp; omega)) _ | refine below_ovr_of ?_ | refine drew_below ?_ _ | refine Below.drew ?_ | refine Below.setCell ?_ (by first | exact Nat.le_refl _ | (simp; done) | (simp; omega)) _ | assumption))⟩

set_option maxHeartbeats 1000000 in
theorem clast_any (a : Option Addr) (cap : Nat) (L : List ByteArray) (pl pc n : Int) (w : World) (hL : LinesAt w a L) (hn2 : n ≤ 9223372036854775807) :
    Calls Try.prog 38 #[.slice a L.length cap, .agg #[.int .i64 pl, .int .i64 pc], .int .i64 n] w fun e w' =>
      e = .returned (movV (lastP L pl pc n)) ∧ Below w.heap.size w w' := by
  have hn := hL.2.1
  rcases may_ways L pl pc n with ⟨HQ, h⟩ | ⟨HQ, hp, h1⟩
  · have HP : Hid (lastP L pl pc n = noMov) := Lib.hid (by rw [lastP, if_neg (fun e => h ⟨e.1, e.2.1⟩)])
    clear h
    go_enter Try.func38, Try.ntmps38
    go_wp2_with (go_at_call 61; refine (cfails_any _ _ L _ _ _ _ (by (repeat (first | assumption | refine LinesAt.ovr ?_ _ | refine LinesAt.alloc ?_ _ | refine LinesAt.drewN ?_ _ | refine LinesAt.drew ?_)))).mono ?_; rw [HQ.out]; rintro e w1 ⟨rfl, hbl⟩; obtain ⟨x, rfl⟩ := ovr_of_below hbl; clear hbl)
    refine bodyPost_ret (v := movV noMov) (by simp [results, Try.results38, go_sem, noMov]) rfl ⟨by rw [HP.out], by (repeat (first | exact Below.refl _ _ | refine Below.alloc ?_ (by first | exact Nat.le_refl _ | (simp; done) | (simp; omega)) _ | refine below_ovr_of ?_ | refine drew_below ?_ _ | refine Below.drew ?_ | refine Below.setCell ?_ (by first | exact Nat.le_refl _ | (simp; done) | (simp; omega)) _ | assumption))⟩
  · obtain ⟨p1, p2, p3, p4⟩ := plcB_spec hp
    by_cases h2 : n ≤ L.length - pl
    · have hy : lastP L pl pc n = ((pl + n - 1, max (szI L (pl + n - 1) - 1) 0, 1, false, 1073741824), true) := by rw [lastP, if_pos ⟨hp, h1, h2⟩]
      have t0 : 0 ≤ pl + n - 1 := by omega
      have t1 : pl + n - 1 < L.length := by omega
      obtain ⟨b, off, s, rfl, hb, hcell, hs, HS⟩ := line_facts hL t0 t1
      rw [szI_eq HS.out] at hy
      rw [show (pl + n - 1).toNat = (pl + n).toNat - 1 from by omega] at hcell
      have HP := Lib.hid hy
      clear hy
      rcases (by omega : s.size = 0 ∨ 1 ≤ s.size) with k | k
      all_goals (
        go_enter Try.func38, Try.ntmps38
        go_wp2_with (go_at_call 61; refine (cfails_any _ _ L _ _ _ _ (by (repeat (first | assumption | refine LinesAt.ovr ?_ _ | refine LinesAt.alloc ?_ _ | refine LinesAt.drewN ?_ _ | refine LinesAt.drew ?_)))).mono ?_; rw [HQ.out]; rintro e w1 ⟨rfl, hbl⟩; obtain ⟨x, rfl⟩ := ovr_of_below hbl; clear hbl)
        all_goals (simp [bodyPost, results, Try.results38, go_sem])
        all_goals (rw [HP.out]; refine ⟨?_, by (repeat (first | exact Below.refl _ _ | refine Below.alloc ?_ (by first | exact Nat.le_refl _ | (simp; done) | (simp; omega)) _ | refine below_ovr_of ?_ | refine drew_below ?_ _ | refine Below.drew ?_ | refine Below.setCell ?_ (by first | exact Nat.le_refl _ | (simp; done) | (simp; omega)) _ | assumption))⟩; simp only [Int.max_def]; simp only [true_and, and_true]; try omega))
    · have HP : Hid (lastP L pl pc n = noMov) := Lib.hid (by rw [lastP, if_neg (fun e => h2 e.2.2)])
      have h2' : (L.length : Int) - pl < n := by omega
      clear h2
      go_enter Try.func38, Try.ntmps38
      go_wp2_with (go_at_call 61; refine (cfails_any _ _ L _ _ _ _ (by (repeat (first | assumption | refine LinesAt.ovr ?_ _ | refine LinesAt.alloc ?_ _ | refine LinesAt.drewN ?_ _ | refine LinesAt.drew ?_)))).mono ?_; rw [HQ.out]; rintro e w1 ⟨rfl, hbl⟩; obtain ⟨x, rfl⟩ := ovr_of_below hbl; clear hbl)
      refine bodyPost_ret (v := movV noMov) (by simp [results, Try.results38, go_sem, noMov]) rfl ⟨by rw [HP.out], by (repeat (first | exact Below.refl _ _ | refine Below.alloc ?_ (by first | exact Nat.le_refl _ | (simp; done) | (simp; omega)) _ | refine below_ovr_of ?_ | refine drew_below ?_ _ | refine Below.drew ?_ | refine Below.setCell ?_ (by first | exact Nat.le_refl _ | (simp; done) | (simp; omega)) _ | assumption))⟩

set_option maxHeartbeats 1000000 in
theorem cfirst_any (a : Option Addr) (cap : Nat) (L : List ByteArray) (pl pc : Int) (w : World) (hL : LinesAt w a L) :
    Calls Try.prog 53 #[.slice a L.length cap, .agg #[.int .i64 pl, .int .i64 pc]] w fun e w' =>
      e = .returned (movV (firstP L pl pc)) ∧ Below w.heap.size w w' := by
  have hn := hL.2.1
  rcases may_ways L pl pc 1 with ⟨HQ, h⟩ | ⟨HQ, hp, _⟩
  · have HP : Hid (firstP L pl pc = noMov) := Lib.hid (by rw [firstP, if_neg (fun e => h ⟨e, by omega⟩)])
    clear h
    go_enter Try.func53, Try.ntmps53
    go_wp2_with (go_at_call 61; refine (cfails_any _ _ L _ _ _ _ (by (repeat (first | assumption | refine LinesAt.ovr ?_ _ | refine LinesAt.alloc ?_ _ | refine LinesAt.drewN ?_ _ | refine LinesAt.drew ?_)))).mono ?_; rw [HQ.out]; rintro e w1 ⟨rfl, hbl⟩; obtain ⟨x, rfl⟩ := ovr_of_below hbl; clear hbl)
    refine bodyPost_ret (v := movV noMov) (by simp [results, Try.results53, go_sem, noMov]) rfl ⟨by rw [HP.out], by (repeat (first | exact Below.refl _ _ | refine Below.alloc ?_ (by first | exact Nat.le_refl _ | (simp; done) | (simp; omega)) _ | refine below_ovr_of ?_ | refine drew_below ?_ _ | refine Below.drew ?_ | refine Below.setCell ?_ (by first | exact Nat.le_refl _ | (simp; done) | (simp; omega)) _ | assumption))⟩
  · have hy : firstP L pl pc = ((pl, fsI L pl, 0, false, -1), true) := by rw [firstP, if_pos hp]
    obtain ⟨p1, p2, p3, p4⟩ := plcB_spec hp
    obtain ⟨b, off, s, rfl, hb, hcell, hs, HS⟩ := line_facts hL p1 p2
    rw [fsI_eq HS.out] at hy
    have HP := Lib.hid hy
    clear hy p4
    have hsz : w.heap.size < w.heap.size + 1 := by omega
    go_enter Try.func53, Try.ntmps53
    go_wp2_with (go_at_call 61; refine (cfails_any _ _ L _ _ _ _ (by (repeat (first | assumption | refine LinesAt.ovr ?_ _ | refine LinesAt.alloc ?_ _ | refine LinesAt.drewN ?_ _ | refine LinesAt.drew ?_)))).mono ?_; rw [HQ.out]; rintro e w1 ⟨rfl, hbl⟩; obtain ⟨x, rfl⟩ := ovr_of_below hbl; clear hbl)
    go_region_held3 (fun w' => w'.cell? ⟨w.heap.size, 0, none⟩ = some (.int .i64 pl) ∧ w'.cell? ⟨w.heap.size, 1, none⟩ = some (.int .i64 pc) ∧ w'.cell? ⟨b, off + pl.toNat, none⟩ = some (.string s)) (go_split_ands <;> first | assumption | (simp [go_sem]; done) | (simp [go_sem, *]; done) | (simp [go_sem]; omega)) ((first | (go_at_call 76; refine (first_any _ _ (by omega)).mono ?_; rintro e w1 ⟨rfl, rfl⟩) | (go_at_call 63; refine (cto_any _ _ _ _).mono ?_; rintro e w1 ⟨rfl, hbl⟩; obtain ⟨x, rfl⟩ := ovr_of_below hbl; clear hbl)))
    all_goals (
      go_wp2
      refine bodyPost_ret (v := movV ((pl, (firstL s.data.toList : Int), 0, false, -1), true)) (by simp [results, Try.results53, go_sem]) rfl ⟨by rw [HP.out], by (repeat (first | exact Below.refl _ _ | refine Below.alloc ?_ (by first | exact Nat.le_refl _ | (simp; done) | (simp; omega)) _ | refine below_ovr_of ?_ | refine drew_below ?_ _ | refine Below.drew ?_ | refine Below.setCell ?_ (by first | exact Nat.le_refl _ | (simp; done) | (simp; omega)) _ | assumption))⟩)
end Go.Proofs.Ytmafieomlhpdeaa
