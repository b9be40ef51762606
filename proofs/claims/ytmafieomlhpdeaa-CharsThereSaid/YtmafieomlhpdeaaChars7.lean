/- The reference's Column. Conditions: none beyond what it says. -/
import Derived.Test.YtmafieomlhpdeaaChars6
namespace Go.Proofs.Ytmafieomlhpdeaa
open Go.RowKit

set_option maxHeartbeats 1000000 in
theorem rcolumn_any (a : Option Addr) (cap : Nat) (L : List ByteArray) (pl pc n : Int) (w : World) (hL : LinesAt w a L) :
    Calls Try.prog 50 #[.slice a L.length cap, .agg #[.int .i64 pl, .int .i64 pc], .int .i64 n] w fun e w' =>
      e = .returned (movV (columnP L pl pc n)) ∧ Below w.heap.size w w' := by
  have hn := hL.2.1
  rcases may_ways L pl pc n with ⟨HQ, h⟩ | ⟨HQ, hp, h1⟩
  · have HP : Hid (columnP L pl pc n = noMov) := Lib.hid (by rw [columnP, if_neg h])
    clear h
    go_enter Try.func50, Try.ntmps50
    go_wp2_with (first | (go_at_call 57; refine (rmay_any _ _ L _ _ _ _ (by (repeat (first | assumption | refine LinesAt.ovr ?_ _ | refine LinesAt.alloc ?_ _ | refine LinesAt.drewN ?_ _ | refine LinesAt.drew ?_)))).mono ?_; rw [HQ.out]; rintro e w1 ⟨rfl, hbl⟩; obtain ⟨x, rfl⟩ := ovr_of_below hbl; clear hbl) | (go_at_call 58; refine (rnone_any _).mono ?_; rintro e w1 ⟨rfl, hbl⟩; obtain ⟨x, rfl⟩ := ovr_of_below hbl; clear hbl))
    refine bodyPost_ret (v := movV noMov) (by simp [results, Try.results50, go_sem, noMov]) rfl ⟨by rw [HP.out], by (repeat (first | exact Below.refl _ _ | refine Below.alloc ?_ (by first | exact Nat.le_refl _ | (simp; done) | (simp; omega)) _ | refine below_ovr_of ?_ | refine drew_below ?_ _ | refine Below.drew ?_ | refine Below.setCell ?_ (by first | exact Nat.le_refl _ | (simp; done) | (simp; omega)) _ | assumption))⟩
  · obtain ⟨p1, p2, p3, p4⟩ := plcB_spec hp
    obtain ⟨b, off, s, rfl, hb, hcell, hs, HS⟩ := line_facts hL p1 p2
    have hz := szI_eq HS.out
    clear p4
    obtain ⟨m, hm⟩ : ∃ m, min n 1073741824 = m := ⟨_, rfl⟩
    have m1 : 1 ≤ m := by omega
    have m2 : m ≤ 1073741824 := by omega
    have HM := Lib.hid hm
    obtain ⟨M, hM⟩ : ∃ M, max ((s.size : Int) - 1) 0 = M := ⟨_, rfl⟩
    have hw1 : IntKind.i64.wrap (m - 1) = m - 1 := IntWalk.i64_in _ (by omega)
    have HX : Hid (max ((s.size : Int) - 1) 0 = M) := Lib.hid hM
    have q1 : 0 ≤ M := by omega
    rcases (by omega : m - 1 ≤ M ∨ M < m - 1) with k | k
    all_goals (
      have hy : columnP L pl pc n = ((pl, min (m - 1) M, 0, false, m - 1), true) := by rw [columnP, if_pos ⟨hp, h1⟩, hm, hz, hM]
      first | rw [Int.min_eq_left (by omega)] at hy | rw [Int.min_eq_right (by omega)] at hy
      have HP := Lib.hid hy
      clear hy)
    all_goals clear hM hm hz
    all_goals (
      go_enter Try.func50, Try.ntmps50
      go_wp2_with (first | (go_at_call 57; refine (rmay_any _ _ L _ _ _ _ (by (repeat (first | assumption | refine LinesAt.ovr ?_ _ | refine LinesAt.alloc ?_ _ | refine LinesAt.drewN ?_ _ | refine LinesAt.drew ?_)))).mono ?_; rw [HQ.out]; rintro e w1 ⟨rfl, hbl⟩; obtain ⟨x, rfl⟩ := ovr_of_below hbl; clear hbl) | (go_at_call 73; refine (rcapped_at _ _ HM _).mono ?_; rintro e w1 ⟨rfl, rfl⟩))
      go_region_held3 (fun w' => w.heap.size < w'.heap.size ∧ b < w'.heap.size ∧ w'.cell? ⟨w.heap.size, 0, none⟩ = some (.int .i64 pl) ∧ w'.cell? ⟨w.heap.size, 1, none⟩ = some (.int .i64 pc) ∧ w'.cell? ⟨b, off + pl.toNat, none⟩ = some (.string s)) (go_split_ands <;> first | assumption | (simp [go_sem]; done) | (simp [go_sem, *]; done) | (simp [go_sem]; omega)) ((go_at_call 74; refine (rlast_at _ _ HX _ (by omega)).mono ?_; rintro e w1 ⟨rfl, rfl⟩))
      all_goals (
        go_wp2
        simp [bodyPost, results, Try.results50, go_sem]
        rw [HP.out]
        refine ⟨by simp, by (repeat (first | exact Below.refl _ _ | refine Below.alloc ?_ (by first | exact Nat.le_refl _ | (simp; done) | (simp; omega)) _ | refine below_ovr_of ?_ | refine drew_below ?_ _ | refine Below.drew ?_ | refine Below.setCell ?_ (by first | exact Nat.le_refl _ | (simp; done) | (simp; omega)) _ | assumption))⟩))
end Go.Proofs.Ytmafieomlhpdeaa
