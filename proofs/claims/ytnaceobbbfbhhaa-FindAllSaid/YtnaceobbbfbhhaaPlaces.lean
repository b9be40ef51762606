/- The contract of foolscaphelp.Places; a list's beginning. Conditions: none beyond what each says. -/
import Derived.Test.YtnaceobbbfbhhaaBase0
import Derived.Test.YtnaceobbbfbhhaaRuns
namespace Go.Proofs.Ytnaceobbbfbhhaa
open Go.RowKit

theorem pairs_take {w : World} {a : Option Addr} {R : List (Nat × Nat)} (h : PairsAt w a R) (k : Nat) : PairsAt w a (R.take k) := fun i hi => by
  rw [List.length_take] at hi
  have e : (R.take k).getD i (0, 0) = R.getD i (0, 0) := by
    rw [List.getD_eq_getElem?_getD, List.getD_eq_getElem?_getD, List.getElem?_take_of_lt (by omega)]
  rw [e]
  exact h i (by omega)
set_option maxRecDepth 100000 in
set_option maxHeartbeats 2000000 in
theorem places_at (a b : Option Addr) (ca cb : Nat) (R : List (Nat × Nat)) (hR : R.length ≤ 100000) (w : World) (ha : PairsAt w a R) (hb : PairsAt w b R) : Calls Try.prog 42 #[.slice a R.length ca, .slice b R.length cb] w fun e w' =>
    e = .returned (.bool true) ∧ Below w.heap.size w w' := by
  go_enter Try.func42, Try.ntmps42
  go_wp2
  go_loopw [5] (fun i wr => ∃ k : Nat, k ≤ R.length ∧ i = .int .i64 k ∧ ∃ x, wr = ovr w x) (fun i _ => R.length - (intOf i).toNat)
  case atStart => exact ⟨0, Nat.zero_le _, rfl, { w with heap := #[] }, by simp [ovr]⟩
  case round =>
    obtain ⟨k, hk, rfl, z, rfl⟩ := hrel
    by_cases hlt : k < R.length
    · have hltI : (k : Int) < (R.length : Int) := by omega
      have hk0 : (0 : Int) ≤ (k : Int) := by omega
      obtain ⟨g, rfl, hg, c0, c1⟩ := ha k hlt
      obtain ⟨g2, rfl, hg2, d0, d1⟩ := hb k hlt
      obtain ⟨⟨fx, fy⟩, hxy⟩ : ∃ p, R.getD k (0, 0) = p := ⟨_, rfl⟩
      rw [hxy] at c0 c1 d0 d1
      simp only at c0 c1 d0 d1
      clear hxy
      go_wp2
      (refine wp_region_ovr (by kernel_rfl) (by kernel_rfl) ?_; (repeat (go_big_quiet_step (fail))); refine wpQuiet_nil ?_; rintro _ ⟨zq, rfl⟩)
      go_wp2
      go_roundw
      case rel => exact ⟨k + 1, by omega, by go_num, ovr_of_below (by (repeat (first | exact Below.refl _ _ | refine Below.alloc ?_ (by first | exact Nat.le_refl _ | (simp; done) | (simp; omega)) _ | refine below_ovr_of ?_ | refine drew_below ?_ _ | refine Below.drew ?_ | refine Below.setCell ?_ (by first | exact Nat.le_refl _ | (simp; done) | (simp; omega)) _ | assumption)))⟩
      case measure => simp [intOf]; omega
    · go_wp2
      go_ret
      exact ⟨rfl, by (repeat (first | exact Below.refl _ _ | refine Below.alloc ?_ (by first | exact Nat.le_refl _ | (simp; done) | (simp; omega)) _ | refine below_ovr_of ?_ | refine drew_below ?_ _ | refine Below.drew ?_ | refine Below.setCell ?_ (by first | exact Nat.le_refl _ | (simp; done) | (simp; omega)) _ | assumption))⟩
end Go.Proofs.Ytnaceobbbfbhhaa
