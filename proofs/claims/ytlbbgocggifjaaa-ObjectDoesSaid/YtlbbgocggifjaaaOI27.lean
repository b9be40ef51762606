/- The reference's find: the run that a column is in. Conditions: none beyond what it says. -/
import Derived.Test.YtlbbgocggifjaaaOI8
import Derived.Test.YtlbbgocggifjaaaOI4
import Derived.Test.YtlbbgocggifjaaaOI24
namespace Go.Proofs.Ytlbbgocggifjaaa
open Go.RowKit Go.Shelf

/-- The run that a column is in, as the reference finds it. -/
def findR (R : List (Nat × Nat)) (c : Nat) : Option Nat := R.findIdx? (fun p => decide (p.1 ≤ c) && decide (c < p.2))
set_option maxRecDepth 100000 in
set_option maxHeartbeats 2000000 in
theorem rfind_any (a : Option Addr) (cap : Nat) (R : List (Nat × Nat)) (hR : R.length ≤ 100000) (c k : Nat) (w : World) (ha : PairsAt w a R) (hk : k < R.length) (hk2 : (R.getD k (0, 0)).1 ≤ c ∧ c < (R.getD k (0, 0)).2) (hlast : ∀ j, j < k → ¬ c < (R.getD j (0, 0)).2) :
    Calls Try.prog 107 #[.slice a R.length cap, .int .i64 c] w fun e w' => e = .returned (.int .i64 k) ∧ w = w' := by
  rcases ha.split with rfl | ⟨g, rfl, hg, h0, hc⟩
  · simp at hk
  · have HC := Lib.hid hc
    have HL := Lib.hid hlast
    have HK2 := Lib.hid hk2
    clear hc hlast hk2 ha
    go_enter Try.func107, Try.ntmps107
    go_wp2
    go_loop [5] (fun i => ∃ j : Nat, j ≤ k ∧ i = .int .i64 j) (fun i => R.length - (intOf i).toNat)
    case atStart => exact ⟨0, Nat.zero_le _, rfl⟩
    case round =>
      obtain ⟨j, hj, rfl⟩ := hrel
      have hjl : j < R.length := by omega
      have hjI : (j : Int) < (R.length : Int) := by omega
      have hj0 : (0 : Int) ≤ (j : Int) := by omega
      obtain ⟨c1, c2⟩ := HC.out j hjl
      obtain ⟨⟨fx, fy⟩, hxy⟩ : ∃ p, R.getD j (0, 0) = p := ⟨_, rfl⟩
      rw [hxy] at c1 c2
      simp only at c1 c2
      by_cases hjk : j = k
      · have h1 := HK2.out
        rw [← hjk, hxy] at h1
        have h2 : (fx : Int) ≤ (c : Int) := by omega
        have h3 : (c : Int) < (fy : Int) := by omega
        clear h1 hxy
        subst hjk
        go_wp2
        go_ret
        exact ⟨rfl, rfl⟩
      · have h1 := HL.out j (by omega)
        rw [hxy] at h1
        have h3 : ¬ (c : Int) < (fy : Int) := by omega
        have h3' : decide (c < fy) = false := decide_eq_false (by omega)
        clear h1 hxy
        go_wp2
        all_goals (
          go_round
          case rel => exact ⟨j + 1, by omega, by go_num⟩
          case measure => simp [intOf]; omega)
end Go.Proofs.Ytlbbgocggifjaaa
