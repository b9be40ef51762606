/- The contracts of Column and of the references' Last, Column. Conditions: none beyond what each says. -/
import Derived.Test.YtmafieomlhpdeaaChars4
namespace Go.Proofs.Ytmafieomlhpdeaa
open Go.RowKit

set_option maxHeartbeats 1000000 in
theorem rlastm_any (a : Option Addr) (cap : Nat) (L : List ByteArray) (pl pc n : Int) (w : World) (hL : LinesAt w a L) (hlen : L.length ≤ 1000000) :
    Calls Try.prog 49 #[.slice a L.length cap, .agg #[.int .i64 pl, .int .i64 pc], .int .i64 n] w fun e w' =>
      e = .returned (movV (lastP L pl pc n)) ∧ Below w.heap.size w w' := by
  rcases may_ways L pl pc n with ⟨HQ, h⟩ | ⟨HQ, hp, h1⟩
  · have HP : Hid (lastP L pl pc n = noMov) := Lib.hid (by rw [lastP, if_neg (fun e => h ⟨e.1, e.2.1⟩)])
    clear h
    go_enter Try.func49, Try.ntmps49
    go_wp2
    (refine wp_region_ovr (by kernel_rfl) (by kernel_rfl) ?_; (repeat (go_big_quiet_step (first | (go_at_call 57; exact quiet_ovr (rmay_at _ _ L _ _ _ _ (by (repeat (first | assumption | refine LinesAt.ovr ?_ _ | refine LinesAt.alloc ?_ _ | refine LinesAt.drewN ?_ _ | refine LinesAt.drew ?_))) HQ)) | (go_at_call 73; exact quiet_same (rcapped_any _ _))))); refine wpQuiet_nil ?_; rintro _ ⟨zq, rfl⟩)
    go_wp2_with (go_at_call 58; refine (rnone_any _).mono ?_; rintro e w1 ⟨rfl, hbl⟩; obtain ⟨x, rfl⟩ := ovr_of_below hbl; clear hbl)
    refine bodyPost_ret (v := movV noMov) (by simp [results, Try.results49, go_sem, noMov]) rfl ⟨by rw [HP.out], by (repeat (first | exact Below.refl _ _ | refine Below.alloc ?_ (by first | exact Nat.le_refl _ | (simp; done) | (simp; omega)) _ | refine below_ovr_of ?_ | refine drew_below ?_ _ | refine Below.drew ?_ | refine Below.setCell ?_ (by first | exact Nat.le_refl _ | (simp; done) | (simp; omega)) _ | assumption))⟩
  · obtain ⟨p1, p2, p3, p4⟩ := plcB_spec hp
    obtain ⟨m, hm⟩ : ∃ m, min n 1073741824 = m := ⟨_, rfl⟩
    have m1 : 1 ≤ m := by omega
    have m2 : m ≤ 1073741824 := by omega
    have hw1 : IntKind.i64.wrap (pl + m) = pl + m := IntWalk.i64_in _ (by omega)
    have hw2 : IntKind.i64.wrap (pl + m - 1) = pl + m - 1 := IntWalk.i64_in _ (by omega)
    by_cases h2 : n ≤ L.length - pl
    · have hy : lastP L pl pc n = ((pl + n - 1, max (szI L (pl + n - 1) - 1) 0, 1, false, 1073741824), true) := by rw [lastP, if_pos ⟨hp, h1, h2⟩]
      have hmn : m = n := by omega
      have t0 : 0 ≤ pl + n - 1 := by omega
      have t1 : pl + n - 1 < L.length := by omega
      have t2 : pl + m - 1 < L.length := by omega
      obtain ⟨b, off, s, rfl, hb, hcell, hs, HS⟩ := line_facts hL t0 t1
      rw [szI_eq HS.out] at hy
      rw [show (pl + n - 1).toNat = (pl + n).toNat - 1 from by omega] at hcell
      have HP := Lib.hid hy
      have HM := Lib.hid hm
      clear hy hm hmn
      go_enter Try.func49, Try.ntmps49
      go_wp2
      (refine wp_region_ovr (by kernel_rfl) (by kernel_rfl) ?_; (repeat (go_big_quiet_step (first | (go_at_call 57; exact quiet_ovr (rmay_at _ _ L _ _ _ _ (by (repeat (first | assumption | refine LinesAt.ovr ?_ _ | refine LinesAt.alloc ?_ _ | refine LinesAt.drewN ?_ _ | refine LinesAt.drew ?_))) HQ)) | (go_at_call 73; exact quiet_same (rcapped_at _ _ HM _))))); refine wpQuiet_nil ?_; rintro _ ⟨zq, rfl⟩)
      go_wp2_with (go_at_call 74; refine (rlast_any _ _ (by omega)).mono ?_; rintro e w1 ⟨rfl, rfl⟩)
      refine bodyPost_ret (v := movV ((pl + n - 1, max ((s.size : Int) - 1) 0, 1, false, 1073741824), true)) (by simp [results, Try.results49, go_sem]) rfl ⟨by rw [HP.out], by (repeat (first | exact Below.refl _ _ | refine Below.alloc ?_ (by first | exact Nat.le_refl _ | (simp; done) | (simp; omega)) _ | refine below_ovr_of ?_ | refine drew_below ?_ _ | refine Below.drew ?_ | refine Below.setCell ?_ (by first | exact Nat.le_refl _ | (simp; done) | (simp; omega)) _ | assumption))⟩
    · have HP : Hid (lastP L pl pc n = noMov) := Lib.hid (by rw [lastP, if_neg (fun e => h2 e.2.2)])
      have h2' : (L.length : Int) ≤ pl + m - 1 := by omega
      have HM := Lib.hid hm
      clear h2 hm
      go_enter Try.func49, Try.ntmps49
      go_wp2
      (refine wp_region_ovr (by kernel_rfl) (by kernel_rfl) ?_; (repeat (go_big_quiet_step (first | (go_at_call 57; exact quiet_ovr (rmay_at _ _ L _ _ _ _ (by (repeat (first | assumption | refine LinesAt.ovr ?_ _ | refine LinesAt.alloc ?_ _ | refine LinesAt.drewN ?_ _ | refine LinesAt.drew ?_))) HQ)) | (go_at_call 73; exact quiet_same (rcapped_at _ _ HM _))))); refine wpQuiet_nil ?_; rintro _ ⟨zq, rfl⟩)
      go_wp2_with (go_at_call 58; refine (rnone_any _).mono ?_; rintro e w1 ⟨rfl, hbl⟩; obtain ⟨x, rfl⟩ := ovr_of_below hbl; clear hbl)
      refine bodyPost_ret (v := movV noMov) (by simp [results, Try.results49, go_sem, noMov]) rfl ⟨by rw [HP.out], by (repeat (first | exact Below.refl _ _ | refine Below.alloc ?_ (by first | exact Nat.le_refl _ | (simp; done) | (simp; omega)) _ | refine below_ovr_of ?_ | refine drew_below ?_ _ | refine Below.drew ?_ | refine Below.setCell ?_ (by first | exact Nat.le_refl _ | (simp; done) | (simp; omega)) _ | assumption))⟩

theorem rlast_at (s : ByteArray) (M : Int) (h : Hid (max ((s.size : Int) - 1) 0 = M)) (w : World) (hs : s.size ≤ 140737488351232) : Calls Try.prog 74 #[.string s] w fun e w' => e = .returned (.int .i64 M) ∧ w = w' := by
  have := rlast_any s w hs
  rw [h.out] at this
  exact this
/-- A column, what is gone to. -/
theorem column_ways (L : List ByteArray) (pl pc n N : Int) (s : ByteArray) (hp : plcB L pl pc = true) (h1 : 1 ≤ n) (hN : min n 1073741824 = N) (hz : szI L pl = (s.size : Int)) :
    (s.size = 0 ∧ N ≤ 1 ∧ Hid (columnP L pl pc n = ((pl, 0, 0, false, N - 1), true))) ∨ (s.size = 0 ∧ 2 ≤ N ∧ Hid (columnP L pl pc n = ((pl, 0, 0, false, N - 1), true))) ∨ (1 ≤ s.size ∧ N - 1 ≤ (s.size : Int) - 1 ∧ Hid (columnP L pl pc n = ((pl, N - 1, 0, false, N - 1), true))) ∨
      (1 ≤ s.size ∧ (s.size : Int) - 1 < N - 1 ∧ Hid (columnP L pl pc n = ((pl, (s.size : Int) - 1, 0, false, N - 1), true))) := by
  have hy : columnP L pl pc n = ((pl, min (N - 1) (max ((s.size : Int) - 1) 0), 0, false, N - 1), true) := by rw [columnP, if_pos ⟨hp, h1⟩, hN, hz]
  rcases (by omega : (s.size = 0 ∧ N ≤ 1) ∨ (s.size = 0 ∧ 2 ≤ N) ∨ (1 ≤ s.size ∧ N - 1 ≤ (s.size : Int) - 1) ∨ (1 ≤ s.size ∧ (s.size : Int) - 1 < N - 1)) with ⟨k, k2⟩ | ⟨k, k2⟩ | ⟨k, k2⟩ | ⟨k, k2⟩
  · left; refine ⟨k, k2, Lib.hid ?_⟩; rw [hy, show min (N - 1) (max ((s.size : Int) - 1) 0) = 0 from by omega]
  · right; left; refine ⟨k, k2, Lib.hid ?_⟩; rw [hy, show min (N - 1) (max ((s.size : Int) - 1) 0) = 0 from by omega]
  · right; right; left; refine ⟨k, k2, Lib.hid ?_⟩; rw [hy, show min (N - 1) (max ((s.size : Int) - 1) 0) = N - 1 from by omega]
  · right; right; right; refine ⟨k, k2, Lib.hid ?_⟩; rw [hy, show min (N - 1) (max ((s.size : Int) - 1) 0) = (s.size : Int) - 1 from by omega]

end Go.Proofs.Ytmafieomlhpdeaa
