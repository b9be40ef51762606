/- The contracts of the functions over whole texts: Size, Strings, Equal, Same. Conditions: none beyond what each says. -/
import Derived.Test.YtjkilpnbaaiglaaBase
namespace Go.Proofs.Ytjkilpnbaaiglaa
open Go.RowKit

set_option maxHeartbeats 400000 in
theorem size_any (a : Option Addr) (c : Nat) (L : List ByteArray) (w : World) (hL : LinesAt w a L) (h4 : L.length ≤ 100000) (h12 : total L ≤ 1000000) :
    Calls Try.prog 23 #[.slice a L.length c] w fun e w' => e = .returned (.int .i64 (total L + L.length)) ∧ w = w' := by
  have HL := Lib.hid hL
  clear hL
  go_enter Try.func23, Try.ntmps23
  go_wp2
  go_loop [3, 8] (fun n i => ∃ k : Nat, k ≤ L.length ∧ i = .int .i64 k ∧ n = .int .i64 (total (L.take k) + k) ∧ total (L.take k) ≤ 1000000) (fun _ i => L.length - (intOf i).toNat)
  case atStart => exact ⟨0, Nat.zero_le _, rfl, by simp [total], by simp [total]⟩
  case round =>
    obtain ⟨k, hk, rfl, rfl, ht⟩ := hrel
    by_cases hlt : k < L.length
    · obtain ⟨b, off, rfl, hb, g, gs⟩ := HL.out.line hlt
      obtain ⟨s, hs⟩ : ∃ s, L.getD k .empty = s := ⟨_, rfl⟩
      have hts := total_snoc L k hlt
      have htl := total_take_le L (k + 1)
      rw [hs] at g gs hts
      have HT := Lib.hid hts
      have hb2 : total (L.take k) + s.size ≤ 1000000 := by omega
      clear hs hts htl
      go_wp2
      go_round
      case rel => exact ⟨k + 1, by omega, by go_num, by rw [HT.out]; simp; omega, by rw [HT.out]; exact hb2⟩
      case measure => simp [intOf]; omega
    · go_wp2
      go_ret
      exact ⟨ret_int (by rw [List.take_of_length_le (by omega)]; omega), rfl⟩

set_option maxHeartbeats 400000 in
theorem rsize_any (a : Option Addr) (c : Nat) (L : List ByteArray) (w : World) (hL : LinesAt w a L) (h4 : L.length ≤ 100000) (h12 : total L ≤ 1000000) :
    Calls Try.prog 24 #[.slice a L.length c] w fun e w' => e = .returned (.int .i64 (total L + L.length)) ∧ w = w' := by
  have HL := Lib.hid hL
  clear hL
  go_enter Try.func24, Try.ntmps24
  go_wp2
  go_loop [3, 4] (fun n i => ∃ k : Nat, k ≤ L.length ∧ i = .int .i64 k ∧ n = .int .i64 (total (L.take k) + k) ∧ total (L.take k) ≤ 1000000) (fun _ i => L.length - (intOf i).toNat)
  case atStart => exact ⟨0, Nat.zero_le _, rfl, by simp [total], by simp [total]⟩
  case round =>
    obtain ⟨k, hk, rfl, rfl, ht⟩ := hrel
    by_cases hlt : k < L.length
    · obtain ⟨b, off, rfl, hb, g, gs⟩ := HL.out.line hlt
      obtain ⟨s, hs⟩ : ∃ s, L.getD k .empty = s := ⟨_, rfl⟩
      have hts := total_snoc L k hlt
      have htl := total_take_le L (k + 1)
      rw [hs] at g gs hts
      have HT := Lib.hid hts
      have hb2 : total (L.take k) + s.size ≤ 1000000 := by omega
      clear hs hts htl
      go_wp2
      go_round
      case rel => exact ⟨k + 1, by omega, by go_num, by rw [HT.out]; simp; omega, by rw [HT.out]; exact hb2⟩
      case measure => simp [intOf]; omega
    · go_wp2
      go_ret
      exact ⟨ret_int (by rw [List.take_of_length_le (by omega)]; omega), rfl⟩

set_option maxHeartbeats 400000 in
theorem strings_any (a a' : Option Addr) (c c' : Nat) (L M : List ByteArray) (w : World) (hL : LinesAt w a L) (hM : LinesAt w a' M) :
    Calls Try.prog 26 #[.slice a L.length c, .slice a' M.length c'] w fun e w' => e = .returned (.bool (sameB L M)) ∧ Below w.heap.size w w' := by
  have h1 := hL.2.1
  have h2 := hM.2.1
  by_cases hn : L.length = M.length
  · have hd : ((L.length : Int) != (M.length : Int)) = false := by rw [bne_eq_false_iff_eq]; omega
    have hspL := hL.split
    have hspM := hM.split
    rcases hspL with hnil | ⟨b, off, rfl, hb, hpos, hcell, hsz⟩
    · have hy := Lib.hid (sameB_nil hnil hn)
      have h0 : M.length = 0 := by rw [← hn, hnil]; rfl
      subst hnil
      rw [h0]
      clear hn hd h1 h2
      go_enter Try.func26, Try.ntmps26
      go_wp2
      go_loop [5] (fun i => i = .int .i64 0) (fun i => 0)
      case atStart => rfl
      case round =>
        subst hrel
        go_wp2
        go_ret
        exact ⟨ret_bool hy.out.symm, Below.refl _ _⟩
    · rcases hspM with hnil | ⟨b', off', rfl, hb', hpos', hcell', hsz'⟩
      · exact absurd hn (by rw [hnil]; simp; intro e; rw [e] at hpos; simp at hpos)
      · have HC := Lib.hid hcell
        have HC' := Lib.hid hcell'
        have HN := Lib.hid hn
        clear hcell hcell' hsz hsz' hL hM hn
        go_enter Try.func26, Try.ntmps26
        go_wp2
        go_loopw [5] (fun i wr => ∃ k : Nat, k ≤ L.length ∧ i = .int .i64 k ∧ (∀ j, j < k → L.getD j .empty = M.getD j .empty) ∧ ∃ n, wr = w.drewN n) (fun i _ => L.length - (intOf i).toNat)
        case atStart => exact ⟨0, Nat.zero_le _, rfl, fun j hj => absurd hj (by omega), 0, rfl⟩
        case round =>
          obtain ⟨k, hk, rfl, hall, n, rfl⟩ := hrel
          have HA := Lib.hid hall
          clear hall
          by_cases hlt : k < L.length
          · have hlt' : k < M.length := by rw [← HN.out]; exact hlt
            have g := HC.out k hlt
            have g' := HC'.out k hlt'
            obtain ⟨s, hs⟩ : ∃ s, L.getD k .empty = s := ⟨_, rfl⟩
            obtain ⟨s', hs'⟩ : ∃ s, M.getD k .empty = s := ⟨_, rfl⟩
            rw [hs] at g
            rw [hs'] at g'
            have HE := Lib.hid hs
            have HE' := Lib.hid hs'
            clear hs hs'
            have i1 : (k : Int) < (L.length : Int) := by omega
            have i2 : (k : Int) < (M.length : Int) := by omega
            have i0 : (0 : Int) ≤ (k : Int) := by omega
            go_wp2
            go_quiet (fail)
            cases hb : (s.toList == s'.toList) with
            | true =>
              have hb2 : (!s.toList == s'.toList) = false := by simp [hb]
              go_wp2
              go_roundw
              case rel => exact ⟨k + 1, by omega, by go_num, fun j hj => by
                  by_cases hjk : j = k
                  · subst hjk; rw [HE.out, HE'.out]; exact toList_inj (beq_iff_eq.1 hb)
                  · exact HA.out j (by omega), _, rfl⟩
              case measure => simp [intOf]; omega
            | false =>
              have hb2 : (!s.toList == s'.toList) = true := by simp [hb]
              go_wp2
              go_ret
              exact ⟨ret_bool (sameB_at (j := k) (by rw [HE.out, HE'.out]; intro e; rw [e] at hb; simp at hb)).symm, by (repeat (first | exact Below.refl _ _ | refine Below.alloc ?_ (by first | exact Nat.le_refl _ | (simp; done) | (simp; omega)) _ | refine below_ovr_of ?_ | refine drew_below ?_ _ | refine Below.drew ?_ | refine Below.setCell ?_ (by first | exact Nat.le_refl _ | (simp; done) | (simp; omega)) _ | assumption))⟩
          · have hy := Lib.hid (sameB_yes HN.out (fun j hj => HA.out j (by omega)))
            go_wp2
            go_ret
            exact ⟨ret_bool (by rw [hy.out]), by (repeat (first | exact Below.refl _ _ | refine Below.alloc ?_ (by first | exact Nat.le_refl _ | (simp; done) | (simp; omega)) _ | refine below_ovr_of ?_ | refine drew_below ?_ _ | refine Below.drew ?_ | refine Below.setCell ?_ (by first | exact Nat.le_refl _ | (simp; done) | (simp; omega)) _ | assumption))⟩
  · have hd : ((L.length : Int) != (M.length : Int)) = true := by rw [bne_iff_ne]; omega
    have hy := Lib.hid (sameB_no (L := L) (M := M) (fun h => hn (by rw [h])))
    go_enter Try.func26, Try.ntmps26
    go_wp2
    go_ret
    exact ⟨ret_bool (by rw [hy.out]), by (repeat (first | exact Below.refl _ _ | refine Below.alloc ?_ (by first | exact Nat.le_refl _ | (simp; done) | (simp; omega)) _ | refine below_ovr_of ?_ | refine drew_below ?_ _ | refine Below.drew ?_ | refine Below.setCell ?_ (by first | exact Nat.le_refl _ | (simp; done) | (simp; omega)) _ | assumption))⟩
end Go.Proofs.Ytjkilpnbaaiglaa
