/- The contract of Enclosing. Conditions: none beyond what it says. -/
import Derived.Test.YtlbbgocggifjaaaBelV
import Derived.Test.YtlbbgocggifjaaaMatch
namespace Go.Proofs.Ytlbbgocggifjaaa
open Go.RowKit

abbrev Enc := ((Int × Int) × (Int × Int)) × Bool
abbrev encV (r : Enc) : Value := .tuple #[.agg #[.int .i64 r.1.1.1, .int .i64 r.1.1.2], .agg #[.int .i64 r.1.2.1, .int .i64 r.1.2.2], .bool r.2]
attribute [go_sem] encV
def noEnc : Enc := (((0, 0), (0, 0)), false)
def encR (L : List ByteArray) : Option (Nat × Nat) → Enc
  | none => noEnc
  | some (j, t) => (((((plcOf L j).1 : Int), ((plcOf L j).2 : Int)), (((plcOf L t).1 : Int), ((plcOf L t).2 : Int))), true)
def enclP (L : List ByteArray) (pl pc open' n : Int) : Enc :=
  if plcB L pl pc = true ∧ 1 ≤ n ∧ (kindP open').2.2.1 = true then
    encR L (encF (flat L) (kindP open').1 (kindP open').2.1 (idx L pl.toNat pc.toNat) n (if pc < (ln L pl).size then idx L pl.toNat pc.toNat + 1 else idx L pl.toNat pc.toNat))
  else noEnc
theorem enclP_no {L : List ByteArray} {pl pc o n : Int} (h : ¬ (plcB L pl pc = true ∧ 1 ≤ n ∧ (kindP o).2.2.1 = true)) : enclP L pl pc o n = noEnc := by rw [enclP, if_neg h]


set_option maxHeartbeats 1000000 in
theorem encl_no (a : Option Addr) (cap : Nat) (L : List ByteArray) (pl pc o n : Int) (w : World) (hL : LinesAt w a L) (h : ¬ (plcB L pl pc = true ∧ 1 ≤ n ∧ (kindP o).2.2.1 = true)) :
    Calls Try.prog 50 #[.slice a L.length cap, .agg #[.int .i64 pl, .int .i64 pc], .int .u8 o, .int .i64 n] w fun e w' => e = .returned (encV (enclP L pl pc o n)) ∧ Below w.heap.size w w' := by
  have HP := Lib.hid (enclP_no h)
  obtain ⟨⟨k1, k2, k3, k4⟩, hkk⟩ : ∃ r, kindP o = r := ⟨_, rfl⟩
  rw [hkk] at h
  have HK := Lib.hid hkk
  clear hkk
  by_cases h1 : 1 ≤ n
  · cases k3 with
    | false =>
      clear h
      go_enter Try.func50, Try.ntmps50
      go_wp2_with (go_at_call 48; refine (kind_ways _ _ HK).mono ?_; rintro e w1 ⟨rfl, rfl⟩)
      refine bodyPost_ret (v := encV noEnc) (by simp [results, Try.results50, go_sem, noEnc]) rfl ⟨by rw [HP.out], by (repeat (first | with_reducible exact Below.refl _ _ | (with_reducible refine Below.setCell ?_ ?_ _; rotate_left; · (first | exact Nat.le_refl _ | assumption | omega | (simp; done) | (simp; omega))) | (with_reducible refine Below.alloc ?_ ?_ _; rotate_left; · (first | exact Nat.le_refl _ | assumption | omega | (simp; done) | (simp; omega))) | with_reducible refine below_ovr_of ?_ | with_reducible refine drew_below ?_ _ | with_reducible refine Below.drew ?_ | with_reducible assumption))⟩
    | true =>
      cases hp : plcB L pl pc with
      | true => exact absurd ⟨hp, h1, rfl⟩ h
      | false =>
        clear h
        go_enter Try.func50, Try.ntmps50
        go_wp2_with (first | (go_at_call 48; refine (kind_ways _ _ HK).mono ?_; rintro e w1 ⟨rfl, rfl⟩) | (go_at_call 109; refine (place_any _ _ L _ _ _ (by (repeat (first | assumption | refine LinesAt.ovr ?_ _ | refine LinesAt.alloc ?_ _ | refine LinesAt.drewN ?_ _ | refine LinesAt.drew ?_)))).mono ?_; rintro e w1 ⟨rfl, hbl⟩; obtain ⟨x, rfl⟩ := ovr_of_below hbl; clear hbl))
        refine bodyPost_ret (v := encV noEnc) (by simp [results, Try.results50, go_sem, noEnc]) rfl ⟨by rw [HP.out], by (repeat (first | with_reducible exact Below.refl _ _ | (with_reducible refine Below.setCell ?_ ?_ _; rotate_left; · (first | exact Nat.le_refl _ | assumption | omega | (simp; done) | (simp; omega))) | (with_reducible refine Below.alloc ?_ ?_ _; rotate_left; · (first | exact Nat.le_refl _ | assumption | omega | (simp; done) | (simp; omega))) | with_reducible refine below_ovr_of ?_ | with_reducible refine drew_below ?_ _ | with_reducible refine Below.drew ?_ | with_reducible assumption))⟩
  · have h1' : n < 1 := by omega
    clear h h1
    go_enter Try.func50, Try.ntmps50
    go_wp2_with (go_at_call 48; refine (kind_ways _ _ HK).mono ?_; rintro e w1 ⟨rfl, rfl⟩)
    refine bodyPost_ret (v := encV noEnc) (by simp [results, Try.results50, go_sem, noEnc]) rfl ⟨by rw [HP.out], by (repeat (first | with_reducible exact Below.refl _ _ | (with_reducible refine Below.setCell ?_ ?_ _; rotate_left; · (first | exact Nat.le_refl _ | assumption | omega | (simp; done) | (simp; omega))) | (with_reducible refine Below.alloc ?_ ?_ _; rotate_left; · (first | exact Nat.le_refl _ | assumption | omega | (simp; done) | (simp; omega))) | with_reducible refine below_ovr_of ?_ | with_reducible refine drew_below ?_ _ | with_reducible refine Below.drew ?_ | with_reducible assumption))⟩
end Go.Proofs.Ytlbbgocggifjaaa
