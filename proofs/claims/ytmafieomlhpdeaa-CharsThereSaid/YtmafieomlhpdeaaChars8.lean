/- The contract of Column. Conditions: none beyond what it says. -/
import Derived.Test.YtmafieomlhpdeaaChars6
namespace Go.Proofs.Ytmafieomlhpdeaa
open Go.RowKit

set_option maxHeartbeats 1000000 in
theorem ccolumn_small (a : Option Addr) (cap : Nat) (L : List ByteArray) (pl pc n : Int) (w : World) (hL : LinesAt w a L) (kn : n ≤ 1073741824) :
    Calls Try.prog 37 #[.slice a L.length cap, .agg #[.int .i64 pl, .int .i64 pc], .int .i64 n] w fun e w' =>
      e = .returned (movV (columnP L pl pc n)) ∧ Below w.heap.size w w' := by
  have hn := hL.2.1
  have hN : min n 1073741824 = n := by omega
  rcases may_ways L pl pc n with ⟨HQ, h⟩ | ⟨HQ, hp, h1⟩
  · have HP : Hid (columnP L pl pc n = noMov) := Lib.hid (by rw [columnP, if_neg h])
    clear h
    go_enter Try.func37, Try.ntmps37
    go_wp2_with (go_at_call 61; refine (cfails_any _ _ L _ _ _ _ (by (repeat (first | assumption | refine LinesAt.ovr ?_ _ | refine LinesAt.alloc ?_ _ | refine LinesAt.drewN ?_ _ | refine LinesAt.drew ?_)))).mono ?_; rw [HQ.out]; rintro e w1 ⟨rfl, hbl⟩; obtain ⟨x, rfl⟩ := ovr_of_below hbl; clear hbl)
    refine bodyPost_ret (v := movV noMov) (by simp [results, Try.results37, go_sem, noMov]) rfl ⟨by rw [HP.out], by (repeat (first | exact Below.refl _ _ | refine Below.alloc ?_ (by first | exact Nat.le_refl _ | (simp; done) | (simp; omega)) _ | refine below_ovr_of ?_ | refine drew_below ?_ _ | refine Below.drew ?_ | refine Below.setCell ?_ (by first | exact Nat.le_refl _ | (simp; done) | (simp; omega)) _ | assumption))⟩
  · obtain ⟨p1, p2, p3, p4⟩ := plcB_spec hp
    obtain ⟨b, off, s, rfl, hb, hcell, hs, HS⟩ := line_facts hL p1 p2
    have hz := szI_eq HS.out
    clear p4
    rcases column_ways L pl pc n _ s hp h1 hN hz with ⟨k, k2, HP⟩ | ⟨k, k2, HP⟩ | ⟨k, k2, HP⟩ | ⟨k, k2, HP⟩
    all_goals (
      have hw1 : IntKind.i64.wrap (n - 1) = n - 1 := IntWalk.i64_in _ (by omega)
      have hw2 : IntKind.i64.wrap ((s.size : Int) - 1) = (s.size : Int) - 1 := IntWalk.i64_in _ (by omega)
      clear hz hN
      go_enter Try.func37, Try.ntmps37
      go_wp2_with (go_at_call 61; refine (cfails_any _ _ L _ _ _ _ (by (repeat (first | assumption | refine LinesAt.ovr ?_ _ | refine LinesAt.alloc ?_ _ | refine LinesAt.drewN ?_ _ | refine LinesAt.drew ?_)))).mono ?_; rw [HQ.out]; rintro e w1 ⟨rfl, hbl⟩; obtain ⟨x, rfl⟩ := ovr_of_below hbl; clear hbl)
      go_region_held3 (fun w' => w.heap.size < w'.heap.size ∧ b < w'.heap.size ∧ w'.cell? ⟨w.heap.size, 0, none⟩ = some (.int .i64 pl) ∧ w'.cell? ⟨w.heap.size, 1, none⟩ = some (.int .i64 pc) ∧ w'.cell? ⟨b, off + pl.toNat, none⟩ = some (.string s)) (go_split_ands <;> first | assumption | (simp [go_sem]; done) | (simp [go_sem, *]; done) | (simp [go_sem]; omega)) ((go_at_call 63; refine (cto_any _ _ _ _).mono ?_; rintro e w1 ⟨rfl, hbl⟩; obtain ⟨x, rfl⟩ := ovr_of_below hbl; clear hbl))
      all_goals (
        go_wp2
        simp [bodyPost, results, Try.results37, go_sem]
        rw [HP.out]
        refine ⟨by simp; try omega, by (repeat (first | exact Below.refl _ _ | refine Below.alloc ?_ (by first | exact Nat.le_refl _ | (simp; done) | (simp; omega)) _ | refine below_ovr_of ?_ | refine drew_below ?_ _ | refine Below.drew ?_ | refine Below.setCell ?_ (by first | exact Nat.le_refl _ | (simp; done) | (simp; omega)) _ | assumption))⟩))
end Go.Proofs.Ytmafieomlhpdeaa
