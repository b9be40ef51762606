/- The contract of foolscaphelp.Strings. Conditions: none beyond what it says. -/
import Derived.Test.YtlbbgocggifjaaaBase0
namespace Go.Proofs.Ytlbbgocggifjaaa
open Go.RowKit

set_option maxHeartbeats 400000 in
theorem strings_any (a a' : Option Addr) (c c' : Nat) (L M : List ByteArray) (w : World) (hL : LinesAt w a L) (hM : LinesAt w a' M) :
    Calls Try.prog 93 #[.slice a L.length c, .slice a' M.length c'] w fun e w' => e = .returned (.bool (sameB L M)) ∧ Below w.heap.size w w' := by
  have h1 := hL.2.1
  have h2 := hM.2.1
  by_cases hn : L.length = M.length
  · have hd : ((L.length : Int) != (M.length : Int)) = false := by rw [bne_eq_false_iff_eq]; omega
    have hspL := hL.split
    have hspM := hM.split
    rcases hspL with hnil | ⟨b, off, rfl, hb, hpos, hcell, hsz⟩
    · have hy := Lib.hid (sameB_nil hnil hn)
      have h0 : M.length = 0 := by rw [← hn, hnil]; rfl
      subst hnil
      rw [h0]
      clear hn hd h1 h2
      go_enter Try.func93, Try.ntmps93
      go_wp2
      go_loop [5] (fun i => i = .int .i64 0) (fun i => 0)
      case atStart => rfl
      case round =>
        subst hrel
        go_wp2
        go_ret
        exact ⟨ret_bool hy.out.symm, Below.refl _ _⟩
    · rcases hspM with hnil | ⟨b', off', rfl, hb', hpos', hcell', hsz'⟩
      · exact absurd hn (by rw [hnil]; simp; intro e; rw [e] at hpos; simp at hpos)
      · have HC := Lib.hid hcell
        have HC' := Lib.hid hcell'
        have HN := Lib.hid hn
        clear hcell hcell' hsz hsz' hL hM hn
        go_enter Try.func93, Try.ntmps93
        go_wp2
        go_loopw [5] (fun i wr => ∃ k : Nat, k ≤ L.length ∧ i = .int .i64 k ∧ (∀ j, j < k → L.getD j .empty = M.getD j .empty) ∧ ∃ n, wr = w.drewN n) (fun i _ => L.length - (intOf i).toNat)
        case atStart => exact ⟨0, Nat.zero_le _, rfl, fun j hj => absurd hj (by omega), 0, rfl⟩
        case round =>
          obtain ⟨k, hk, rfl, hall, n, rfl⟩ := hrel
          have HA := Lib.hid hall
          clear hall
          by_cases hlt : k < L.length
          · have hlt' : k < M.length := by rw [← HN.out]; exact hlt
            have g := HC.out k hlt
            have g' := HC'.out k hlt'
            obtain ⟨s, hs⟩ : ∃ s, L.getD k .empty = s := ⟨_, rfl⟩
            obtain ⟨s', hs'⟩ : ∃ s, M.getD k .empty = s := ⟨_, rfl⟩
            rw [hs] at g
            rw [hs'] at g'
            have HE := Lib.hid hs
            have HE' := Lib.hid hs'
            clear hs hs'
            have i1 : (k : Int) < (L.length : Int) := by omega
            have i2 : (k : Int) < (M.length : Int) := by omega
            have i0 : (0 : Int) ≤ (k : Int) := by omega
            go_wp2
            go_quiet (fail)
            cases hb : (s.toList == s'.toList) with
            | true =>
              have hb2 : (!s.toList == s'.toList) = false := by simp [hb]
              go_wp2
              go_roundw
              case rel => exact ⟨k + 1, by omega, by go_num, fun j hj => by
                  by_cases hjk : j = k
                  · subst hjk; rw [HE.out, HE'.out]; exact toList_inj (beq_iff_eq.1 hb)
                  · exact HA.out j (by omega), _, rfl⟩
              case measure => simp [intOf]; omega
            | false =>
              have hb2 : (!s.toList == s'.toList) = true := by simp [hb]
              go_wp2
              go_ret
              exact ⟨ret_bool (sameB_at (j := k) (by rw [HE.out, HE'.out]; intro e; rw [e] at hb; simp at hb)).symm, by (repeat (first | exact Below.refl _ _ | refine Below.alloc ?_ (by first | exact Nat.le_refl _ | (simp; done) | (simp; omega)) _ | refine below_ovr_of ?_ | refine drew_below ?_ _ | refine Below.drew ?_ | refine Below.setCell ?_ (by first | exact Nat.le_refl _ | (simp; done) | (simp; omega)) _ | assumption))⟩
          · have hy := Lib.hid (sameB_yes HN.out (fun j hj => HA.out j (by omega)))
            go_wp2
            go_ret
            exact ⟨ret_bool (by rw [hy.out]), by (repeat (first | exact Below.refl _ _ | refine Below.alloc ?_ (by first | exact Nat.le_refl _ | (simp; done) | (simp; omega)) _ | refine below_ovr_of ?_ | refine drew_below ?_ _ | refine Below.drew ?_ | refine Below.setCell ?_ (by first | exact Nat.le_refl _ | (simp; done) | (simp; omega)) _ | assumption))⟩
  · have hd : ((L.length : Int) != (M.length : Int)) = true := by rw [bne_iff_ne]; omega
    have hy := Lib.hid (sameB_no (L := L) (M := M) (fun h => hn (by rw [h])))
    go_enter Try.func93, Try.ntmps93
    go_wp2
    go_ret
    exact ⟨ret_bool (by rw [hy.out]), by (repeat (first | exact Below.refl _ _ | refine Below.alloc ?_ (by first | exact Nat.le_refl _ | (simp; done) | (simp; omega)) _ | refine below_ovr_of ?_ | refine drew_below ?_ _ | refine Below.drew ?_ | refine Below.setCell ?_ (by first | exact Nat.le_refl _ | (simp; done) | (simp; omega)) _ | assumption))⟩
end Go.Proofs.Ytlbbgocggifjaaa
