/- The contracts of the program's and the references' smallest functions: classes, light texts. Conditions: none beyond what each says. -/
import Derived.Test.YtlbbgocggifjaaaRows
import Derived.Test.YtlbbgocggifjaaaWorld
import Derived.Test.YtlbbgocggifjaaaPlain
namespace Go.Proofs.Ytlbbgocggifjaaa
open Go.RowKit

set_option maxHeartbeats 400000 in
theorem of_any (c : Int) (big : Bool) (w : World) :
    Calls Try.prog 103 #[.int .u8 c, .bool big] w fun e w' => e = .returned (.int .i64 (ofC c big)) ∧ w = w' := by
  go_enter Try.func103, Try.ntmps103
  go_wp2
  all_goals (go_ret; refine ⟨?_, rfl⟩; simp_all [ofC]; try omega)

set_option maxHeartbeats 400000 in
theorem rof_any (c : Int) (big : Bool) (w : World) :
    Calls Try.prog 101 #[.int .u8 c, .bool big] w fun e w' => e = .returned (.int .i64 (ofC c big)) ∧ w = w' := by
  go_enter Try.func101, Try.ntmps101
  go_wp2
  all_goals (go_ret; refine ⟨?_, rfl⟩; simp_all [ofC]; try omega)

set_option maxHeartbeats 400000 in
theorem light_any (a : Option Addr) (c : Nat) (L : List ByteArray) (w : World) (hL : LinesAt w a L) :
    Calls Try.prog 22 #[.slice a L.length c] w fun e w' => e = .returned (.bool (lightB L)) ∧ w = w' := by
  have h0 := hL.2.1
  by_cases h40 : L.length ≤ 40
  · rcases hL.split with hnil | ⟨b, off, rfl, hb, hpos, hcell, hsz⟩
    · subst hnil
      have hy := Lib.hid (light_yes (L := []) (by simp [total, noLF]))
      go_enter Try.func22, Try.ntmps22
      go_wp2
      go_loop [4] (fun i => i = .int .i64 0) (fun i => 0)
      case atStart => rfl
      case round =>
        subst hrel
        go_wp2
        go_ret
        exact ⟨ret_bool (by rw [hy.out]), rfl⟩
    · have HC := Lib.hid hcell
      have HS := Lib.hid hsz
      clear hcell hsz hL
      go_enter Try.func22, Try.ntmps22
      go_wp2
      go_loop [3, 4] (fun n i => ∃ k : Nat, k ≤ L.length ∧ i = .int .i64 k ∧ n = .int .i64 (total (L.take k)) ∧ total (L.take k) ≤ 1200 ∧ noLF (L.take k)) (fun _ i => L.length - (intOf i).toNat)
      case atStart => exact ⟨0, Nat.zero_le _, rfl, by simp [total], by simp [total], by simp [noLF]⟩
      case round =>
        obtain ⟨k, hk, rfl, rfl, ht, hn⟩ := hrel
        have HN := Lib.hid hn
        clear hn
        by_cases hlt : k < L.length
        · obtain ⟨s, hs⟩ : ∃ s, L.getD k .empty = s := ⟨_, rfl⟩
          have g := HC.out k hlt
          have gs := HS.out k hlt
          have hts := total_snoc L k hlt
          rw [hs] at g gs hts
          have HE := Lib.hid hs
          have HT := Lib.hid hts
          clear hs hts
          by_cases h12 : total (L.take k) + s.size ≤ 1200
          · have h12' : (total (L.take k) : Int) + (s.size : Int) ≤ 1200 := by omega
            go_wp2
            go_loop [5] (fun j => ∃ i : Nat, i ≤ s.size ∧ j = .int .i64 i ∧ cleanTo s i) (fun j => s.size - (intOf j).toNat)
            case atStart => exact ⟨0, Nat.zero_le _, rfl, cleanTo_zero s⟩
            case round =>
              obtain ⟨i, hi, rfl, hcl⟩ := hrel
              have HCL := Lib.hid hcl
              clear hcl
              by_cases hil : i < s.size
              · cases hb : ((s[i].toNat : Int) == 10) with
                | true =>
                  go_wp2
                  go_ret
                  exact ⟨ret_bool (light_no (fun h => noLF_not hlt (by rw [HE.out]; exact lf_at hil hb) h.2.2)).symm, rfl⟩
                | false =>
                  go_wp2
                  go_round
                  case rel => exact ⟨i + 1, by omega, by go_num, cleanTo_snoc hil HCL.out hb⟩
                  case measure => simp [intOf]; omega
              · go_wp2
                go_round
                case rel => exact ⟨k + 1, by omega, by go_num, by rw [HT.out]; go_num, by rw [HT.out]; exact h12, noLF_snoc hlt HN.out (by rw [HE.out]; exact cleanTo_all (by omega) HCL.out)⟩
                case measure => simp [intOf]; omega
          · have h12' : ¬ (total (L.take k) : Int) + (s.size : Int) ≤ 1200 := by omega
            go_wp2
            go_ret
            exact ⟨ret_bool (light_no (fun h => h12 (by have := total_take_le L (k + 1); have := HT.out; omega))).symm, rfl⟩
        · go_wp2
          go_ret
          exact ⟨ret_bool (light_yes ⟨h40, by rw [List.take_of_length_le (by omega)] at ht; exact ht, by have := HN.out; rw [List.take_of_length_le (by omega)] at this; exact this⟩).symm, rfl⟩
  · have hy := Lib.hid (light_no (L := L) (fun h => h40 h.1))
    have h41 : (40 : Int) < (L.length : Int) := by omega
    go_enter Try.func22, Try.ntmps22
    go_wp2
    go_ret
    exact ⟨ret_bool (by rw [hy.out]), rfl⟩
end Go.Proofs.Ytlbbgocggifjaaa
