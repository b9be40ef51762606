/- The contracts of a bracket's kind. Conditions: none beyond what each says. -/
import Derived.Test.YtlbbgocggifjaaaPairP
import Derived.Test.YtlbbgocggifjaaaLine
namespace Go.Proofs.Ytlbbgocggifjaaa
open Go.RowKit

set_option maxHeartbeats 1000000 in
theorem kind_any (c : Int) (w : World) : Calls Try.prog 48 #[.int .u8 c] w fun e w' =>
    e = .returned (.tuple #[.int .u8 (kindP c).1, .int .u8 (kindP c).2.1, .bool (kindP c).2.2.1, .bool (kindP c).2.2.2]) ∧ w = w' := by
  by_cases k40 : c = 40
  · subst k40
    have HP : Hid (kindP 40 = (40, 41, true, true)) := Lib.hid (by decide)
    go_enter Try.func48, Try.ntmps48
    go_wp2
    exact bodyPost_ret (v := .tuple #[.int .u8 40, .int .u8 41, .bool true, .bool true]) (by simp [results, Try.results48, go_sem]) rfl ⟨by rw [HP.out], rfl⟩
  by_cases k41 : c = 41
  · subst k41
    have HP : Hid (kindP 41 = (40, 41, false, true)) := Lib.hid (by decide)
    go_enter Try.func48, Try.ntmps48
    go_wp2
    exact bodyPost_ret (v := .tuple #[.int .u8 40, .int .u8 41, .bool false, .bool true]) (by simp [results, Try.results48, go_sem]) rfl ⟨by rw [HP.out], rfl⟩
  by_cases k91 : c = 91
  · subst k91
    have HP : Hid (kindP 91 = (91, 93, true, true)) := Lib.hid (by decide)
    go_enter Try.func48, Try.ntmps48
    go_wp2
    exact bodyPost_ret (v := .tuple #[.int .u8 91, .int .u8 93, .bool true, .bool true]) (by simp [results, Try.results48, go_sem]) rfl ⟨by rw [HP.out], rfl⟩
  by_cases k93 : c = 93
  · subst k93
    have HP : Hid (kindP 93 = (91, 93, false, true)) := Lib.hid (by decide)
    go_enter Try.func48, Try.ntmps48
    go_wp2
    exact bodyPost_ret (v := .tuple #[.int .u8 91, .int .u8 93, .bool false, .bool true]) (by simp [results, Try.results48, go_sem]) rfl ⟨by rw [HP.out], rfl⟩
  by_cases k123 : c = 123
  · subst k123
    have HP : Hid (kindP 123 = (123, 125, true, true)) := Lib.hid (by decide)
    go_enter Try.func48, Try.ntmps48
    go_wp2
    exact bodyPost_ret (v := .tuple #[.int .u8 123, .int .u8 125, .bool true, .bool true]) (by simp [results, Try.results48, go_sem]) rfl ⟨by rw [HP.out], rfl⟩
  by_cases k125 : c = 125
  · subst k125
    have HP : Hid (kindP 125 = (123, 125, false, true)) := Lib.hid (by decide)
    go_enter Try.func48, Try.ntmps48
    go_wp2
    exact bodyPost_ret (v := .tuple #[.int .u8 123, .int .u8 125, .bool false, .bool true]) (by simp [results, Try.results48, go_sem]) rfl ⟨by rw [HP.out], rfl⟩
  have HP : Hid (kindP c = (0, 0, false, false)) := Lib.hid (by simp [kindP, k40, k41, k91, k93, k123, k125])
  have b1 : (c == 40) = false := beq_eq_false_iff_ne.2 k40
  have b2 : (c == 41) = false := beq_eq_false_iff_ne.2 k41
  have b3 : (c == 91) = false := beq_eq_false_iff_ne.2 k91
  have b4 : (c == 93) = false := beq_eq_false_iff_ne.2 k93
  have b5 : (c == 123) = false := beq_eq_false_iff_ne.2 k123
  have b6 : (c == 125) = false := beq_eq_false_iff_ne.2 k125
  clear k40 k41 k91 k93 k123 k125
  go_enter Try.func48, Try.ntmps48
  go_wp2
  exact bodyPost_ret (v := .tuple #[.int .u8 0, .int .u8 0, .bool false, .bool false]) (by simp [results, Try.results48, go_sem]) rfl ⟨by rw [HP.out], rfl⟩
set_option maxHeartbeats 1000000 in
theorem rkind_any (c : Int) (w : World) : Calls Try.prog 49 #[.int .u8 c] w fun e w' =>
    e = .returned (.tuple #[.int .u8 (kindP c).1, .int .u8 (kindP c).2.1, .bool (kindP c).2.2.1, .bool (kindP c).2.2.2]) ∧ w = w' := by
  by_cases k40 : c = 40
  · subst k40
    have HP : Hid (kindP 40 = (40, 41, true, true)) := Lib.hid (by decide)
    go_enter Try.func49, Try.ntmps49
    go_wp2
    exact bodyPost_ret (v := .tuple #[.int .u8 40, .int .u8 41, .bool true, .bool true]) (by simp [results, Try.results49, go_sem]) rfl ⟨by rw [HP.out], rfl⟩
  by_cases k41 : c = 41
  · subst k41
    have HP : Hid (kindP 41 = (40, 41, false, true)) := Lib.hid (by decide)
    go_enter Try.func49, Try.ntmps49
    go_wp2
    exact bodyPost_ret (v := .tuple #[.int .u8 40, .int .u8 41, .bool false, .bool true]) (by simp [results, Try.results49, go_sem]) rfl ⟨by rw [HP.out], rfl⟩
  by_cases k91 : c = 91
  · subst k91
    have HP : Hid (kindP 91 = (91, 93, true, true)) := Lib.hid (by decide)
    go_enter Try.func49, Try.ntmps49
    go_wp2
    exact bodyPost_ret (v := .tuple #[.int .u8 91, .int .u8 93, .bool true, .bool true]) (by simp [results, Try.results49, go_sem]) rfl ⟨by rw [HP.out], rfl⟩
  by_cases k93 : c = 93
  · subst k93
    have HP : Hid (kindP 93 = (91, 93, false, true)) := Lib.hid (by decide)
    go_enter Try.func49, Try.ntmps49
    go_wp2
    exact bodyPost_ret (v := .tuple #[.int .u8 91, .int .u8 93, .bool false, .bool true]) (by simp [results, Try.results49, go_sem]) rfl ⟨by rw [HP.out], rfl⟩
  by_cases k123 : c = 123
  · subst k123
    have HP : Hid (kindP 123 = (123, 125, true, true)) := Lib.hid (by decide)
    go_enter Try.func49, Try.ntmps49
    go_wp2
    exact bodyPost_ret (v := .tuple #[.int .u8 123, .int .u8 125, .bool true, .bool true]) (by simp [results, Try.results49, go_sem]) rfl ⟨by rw [HP.out], rfl⟩
  by_cases k125 : c = 125
  · subst k125
    have HP : Hid (kindP 125 = (123, 125, false, true)) := Lib.hid (by decide)
    go_enter Try.func49, Try.ntmps49
    go_wp2
    exact bodyPost_ret (v := .tuple #[.int .u8 123, .int .u8 125, .bool false, .bool true]) (by simp [results, Try.results49, go_sem]) rfl ⟨by rw [HP.out], rfl⟩
  have HP : Hid (kindP c = (0, 0, false, false)) := Lib.hid (by simp [kindP, k40, k41, k91, k93, k123, k125])
  have b1 : (c == 40) = false := beq_eq_false_iff_ne.2 k40
  have b2 : (c == 41) = false := beq_eq_false_iff_ne.2 k41
  have b3 : (c == 91) = false := beq_eq_false_iff_ne.2 k91
  have b4 : (c == 93) = false := beq_eq_false_iff_ne.2 k93
  have b5 : (c == 123) = false := beq_eq_false_iff_ne.2 k123
  have b6 : (c == 125) = false := beq_eq_false_iff_ne.2 k125
  clear k40 k41 k91 k93 k123 k125
  go_enter Try.func49, Try.ntmps49
  go_wp2
  exact bodyPost_ret (v := .tuple #[.int .u8 0, .int .u8 0, .bool false, .bool false]) (by simp [results, Try.results49, go_sem]) rfl ⟨by rw [HP.out], rfl⟩
end Go.Proofs.Ytlbbgocggifjaaa
