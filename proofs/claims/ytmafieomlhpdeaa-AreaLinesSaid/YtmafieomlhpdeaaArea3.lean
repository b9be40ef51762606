/- The contracts of area.Of and of its reference, by the ways of a motion. Conditions: none beyond what it says. -/
import Derived.Test.YtmafieomlhpdeaaArea
namespace Go.Proofs.Ytmafieomlhpdeaa
open Go.RowKit

theorem areaO_2 (L : List ByteArray) (fl fc tl tc : Int) : areaO L fl fc tl tc 2 = ((1, fl, 0, tl, 0), true) := by simp [areaO]
theorem areaO_x {L : List ByteArray} {fl fc tl tc way : Int} (n2 : ¬ way = 2) (n1 : ¬ way = 1) (n0 : ¬ way = 0) : areaO L fl fc tl tc way = ((0, 0, 0, 0, 0), false) := by simp [areaO, n2, n1, n0]
theorem areaO_1 {L : List ByteArray} {fl fc tl tc z : Int} (h : min (tc + 1) (szI L tl) = z) : areaO L fl fc tl tc 1 = someR fl fc tl z := by simp [areaO, h]
theorem areaO_0 {L : List ByteArray} {fl fc tl tc : Int} (h : ¬ (fl < tl ∧ tc = 0)) : areaO L fl fc tl tc 0 = someR fl fc tl tc := by simp [areaO, h]
theorem areaO_0l {L : List ByteArray} {fl fc tl tc : Int} (h : fl < tl ∧ tc = 0) (h2 : fc ≤ fsI L fl) : areaO L fl fc tl tc 0 = ((1, fl, 0, tl - 1, 0), true) := by simp [areaO, h, h2]
theorem areaO_0c {L : List ByteArray} {fl fc tl tc : Int} (h : fl < tl ∧ tc = 0) (h2 : ¬ fc ≤ fsI L fl) : areaO L fl fc tl tc 0 = someR fl fc (tl - 1) (szI L (tl - 1)) := by simp [areaO, h, h2]
theorem someR_eq (a b : Int) : someR a b a b = ((0, 0, 0, 0, 0), false) := by simp [someR]
theorem someR_eq2 {a b d : Int} (h : b = d) : someR a b a d = ((0, 0, 0, 0, 0), false) := by simp [someR, h]
theorem someR_ne1 {a b c d : Int} (h : ¬ a = c) : someR a b c d = ((0, a, b, c, d), true) := by simp [someR, h]
theorem someR_ne2 {a b d : Int} (h : ¬ b = d) : someR a b a d = ((0, a, b, a, d), true) := by simp [someR, h]
theorem pos_ways (a b c d : Int) : (a = c ∧ b = d) ∨ (a = c ∧ ¬ b = d) ∨ ¬ a = c := by omega
theorem pos_ways2 (a b c d : Int) : (a = c ∧ b = d) ∨ (a = c ∧ ¬ b = d) ∨ ¬ a = c := by omega

set_option maxHeartbeats 1000000 in
theorem areaOf_no (a : Option Addr) (cap : Nat) (L : List ByteArray) (pl pc ml mc way : Int) (jump : Bool) (want : Int) (w : World) (hL : LinesAt w a L) (h : plcB L pl pc = false ∨ plcB L ml mc = false) :
    Calls Try.prog 66 #[.slice a L.length cap, .agg #[.int .i64 pl, .int .i64 pc], .agg #[.int .i64 ml, .int .i64 mc, .int .i64 way, .bool jump, .int .i64 want]] w fun e w' =>
      e = .returned (.tuple #[.agg #[.int .i64 0, .int .i64 0, .int .i64 0, .int .i64 0, .int .i64 0], .bool false]) ∧ Below w.heap.size w w' := by
  cases h1 : plcB L pl pc with
  | false =>
    go_enter Try.func66, Try.ntmps66
    go_wp2_with (go_at_call 55; refine (place_any _ _ L _ _ _ (by (repeat (first | assumption | refine LinesAt.ovr ?_ _ | refine LinesAt.alloc ?_ _ | refine LinesAt.drewN ?_ _ | refine LinesAt.drew ?_)))).mono ?_; rintro e w1 ⟨rfl, hbl⟩; obtain ⟨x, rfl⟩ := ovr_of_below hbl; clear hbl)
    refine bodyPost_ret (v := .tuple #[.agg #[.int .i64 0, .int .i64 0, .int .i64 0, .int .i64 0, .int .i64 0], .bool false]) (by simp [results, Try.results66, go_sem]) rfl ⟨rfl, by (repeat (first | exact Below.refl _ _ | refine Below.alloc ?_ (by first | exact Nat.le_refl _ | (simp; done) | (simp; omega)) _ | refine below_ovr_of ?_ | refine drew_below ?_ _ | refine Below.drew ?_ | refine Below.setCell ?_ (by first | exact Nat.le_refl _ | (simp; done) | (simp; omega)) _ | assumption))⟩
  | true =>
    have h2 : plcB L ml mc = false := by rcases h with h | h; (rw [h1] at h; cases h); exact h
    clear h
    go_enter Try.func66, Try.ntmps66
    go_wp2_with fail
    go_at_call 55; refine (place_any _ _ L _ _ _ (by (repeat (first | assumption | refine LinesAt.ovr ?_ _ | refine LinesAt.alloc ?_ _ | refine LinesAt.drewN ?_ _ | refine LinesAt.drew ?_)))).mono ?_; rintro e w1 ⟨rfl, hbl⟩; obtain ⟨x, rfl⟩ := ovr_of_below hbl; clear hbl
    go_wp2_with fail
    go_at_call 55; refine (place_any _ _ L _ _ _ (by (repeat (first | assumption | refine LinesAt.ovr ?_ _ | refine LinesAt.alloc ?_ _ | refine LinesAt.drewN ?_ _ | refine LinesAt.drew ?_)))).mono ?_; rintro e w1 ⟨rfl, hbl⟩; obtain ⟨x, rfl⟩ := ovr_of_below hbl; clear hbl
    go_wp2_with fail
    refine bodyPost_ret (v := .tuple #[.agg #[.int .i64 0, .int .i64 0, .int .i64 0, .int .i64 0, .int .i64 0], .bool false]) (by simp [results, Try.results66, go_sem]) rfl ⟨rfl, by (repeat (first | exact Below.refl _ _ | refine Below.alloc ?_ (by first | exact Nat.le_refl _ | (simp; done) | (simp; omega)) _ | refine below_ovr_of ?_ | refine drew_below ?_ _ | refine Below.drew ?_ | refine Below.setCell ?_ (by first | exact Nat.le_refl _ | (simp; done) | (simp; omega)) _ | assumption))⟩

set_option maxHeartbeats 1000000 in
theorem areaOf_w2 (a : Option Addr) (cap : Nat) (L : List ByteArray) (pl pc ml mc : Int) (jump : Bool) (want : Int) (fl fc tl tc : Int) (w : World) (hL : LinesAt w a L) (h1 : plcB L pl pc = true) (h2 : plcB L ml mc = true)
    (ho : ordB pl pc ml mc = (fl, fc, tl, tc)) (q1 : plcB L fl fc = true) (q2 : plcB L tl tc = true) :
    Calls Try.prog 66 #[.slice a L.length cap, .agg #[.int .i64 pl, .int .i64 pc], .agg #[.int .i64 ml, .int .i64 mc, .int .i64 2, .bool jump, .int .i64 want]] w fun e w' =>
      e = .returned (.tuple #[.agg #[.int .i64 (areaO L fl fc tl tc 2).1.1, .int .i64 (areaO L fl fc tl tc 2).1.2.1, .int .i64 (areaO L fl fc tl tc 2).1.2.2.1, .int .i64 (areaO L fl fc tl tc 2).1.2.2.2.1, .int .i64 (areaO L fl fc tl tc 2).1.2.2.2.2], .bool (areaO L fl fc tl tc 2).2]) ∧ Below w.heap.size w w' := by
  have _u : _ ∧ _ ∧ _ := ⟨h1, q1, q2⟩
  clear _u
  have HY := Lib.hid (areaO_2 L fl fc tl tc)
  go_enter Try.func66, Try.ntmps66
  go_wp2_with fail
  go_at_call 55; refine (place_any _ _ L _ _ _ (by (repeat (first | assumption | refine LinesAt.ovr ?_ _ | refine LinesAt.alloc ?_ _ | refine LinesAt.drewN ?_ _ | refine LinesAt.drew ?_)))).mono ?_; rintro e w1 ⟨rfl, hbl⟩; obtain ⟨x, rfl⟩ := ovr_of_below hbl; clear hbl
  go_wp2_with fail
  go_at_call 55; refine (place_any _ _ L _ _ _ (by (repeat (first | assumption | refine LinesAt.ovr ?_ _ | refine LinesAt.alloc ?_ _ | refine LinesAt.drewN ?_ _ | refine LinesAt.drew ?_)))).mono ?_; rintro e w1 ⟨rfl, hbl⟩; obtain ⟨x, rfl⟩ := ovr_of_below hbl; clear hbl
  go_wp2_with (first | (go_at_call 70; refine (order_any _ _ _ _ _).mono ?_; rintro e w1 ⟨rfl, hbl⟩; obtain ⟨x, rfl⟩ := ovr_of_below hbl; clear hbl) | (go_at_call 67; refine (whole_any _ _ _).mono ?_; rintro e w1 ⟨rfl, hbl⟩; obtain ⟨x, rfl⟩ := ovr_of_below hbl; clear hbl))
  rw [HY.out]
  refine bodyPost_ret (v := .tuple #[.agg #[.int .i64 1, .int .i64 fl, .int .i64 0, .int .i64 tl, .int .i64 0], .bool true]) (by simp [results, Try.results66, go_sem]) rfl ⟨rfl, by (repeat (first | exact Below.refl _ _ | refine Below.alloc ?_ (by first | exact Nat.le_refl _ | (simp; done) | (simp; omega)) _ | refine below_ovr_of ?_ | refine drew_below ?_ _ | refine Below.drew ?_ | refine Below.setCell ?_ (by first | exact Nat.le_refl _ | (simp; done) | (simp; omega)) _ | assumption))⟩
set_option maxHeartbeats 1000000 in
theorem areaOf_wx (a : Option Addr) (cap : Nat) (L : List ByteArray) (pl pc ml mc way : Int) (jump : Bool) (want : Int) (fl fc tl tc : Int) (w : World) (hL : LinesAt w a L) (h1 : plcB L pl pc = true) (h2 : plcB L ml mc = true)
    (ho : ordB pl pc ml mc = (fl, fc, tl, tc)) (q1 : plcB L fl fc = true) (q2 : plcB L tl tc = true) (n2 : ¬ way = 2) (n1 : ¬ way = 1) (n0 : ¬ way = 0) :
    Calls Try.prog 66 #[.slice a L.length cap, .agg #[.int .i64 pl, .int .i64 pc], .agg #[.int .i64 ml, .int .i64 mc, .int .i64 way, .bool jump, .int .i64 want]] w fun e w' =>
      e = .returned (.tuple #[.agg #[.int .i64 (areaO L fl fc tl tc way).1.1, .int .i64 (areaO L fl fc tl tc way).1.2.1, .int .i64 (areaO L fl fc tl tc way).1.2.2.1, .int .i64 (areaO L fl fc tl tc way).1.2.2.2.1, .int .i64 (areaO L fl fc tl tc way).1.2.2.2.2], .bool (areaO L fl fc tl tc way).2]) ∧ Below w.heap.size w w' := by
  have _u : _ ∧ _ ∧ _ := ⟨h1, q1, q2⟩
  clear _u
  have HY := Lib.hid (areaO_x (L := L) (fl := fl) (fc := fc) (tl := tl) (tc := tc) n2 n1 n0)
  go_enter Try.func66, Try.ntmps66
  go_wp2_with fail
  go_at_call 55; refine (place_any _ _ L _ _ _ (by (repeat (first | assumption | refine LinesAt.ovr ?_ _ | refine LinesAt.alloc ?_ _ | refine LinesAt.drewN ?_ _ | refine LinesAt.drew ?_)))).mono ?_; rintro e w1 ⟨rfl, hbl⟩; obtain ⟨x, rfl⟩ := ovr_of_below hbl; clear hbl
  go_wp2_with fail
  go_at_call 55; refine (place_any _ _ L _ _ _ (by (repeat (first | assumption | refine LinesAt.ovr ?_ _ | refine LinesAt.alloc ?_ _ | refine LinesAt.drewN ?_ _ | refine LinesAt.drew ?_)))).mono ?_; rintro e w1 ⟨rfl, hbl⟩; obtain ⟨x, rfl⟩ := ovr_of_below hbl; clear hbl
  go_wp2_with (go_at_call 70; refine (order_any _ _ _ _ _).mono ?_; rintro e w1 ⟨rfl, hbl⟩; obtain ⟨x, rfl⟩ := ovr_of_below hbl; clear hbl)
  rw [HY.out]
  refine bodyPost_ret (v := .tuple #[.agg #[.int .i64 0, .int .i64 0, .int .i64 0, .int .i64 0, .int .i64 0], .bool false]) (by simp [results, Try.results66, go_sem]) rfl ⟨rfl, by (repeat (first | exact Below.refl _ _ | refine Below.alloc ?_ (by first | exact Nat.le_refl _ | (simp; done) | (simp; omega)) _ | refine below_ovr_of ?_ | refine drew_below ?_ _ | refine Below.drew ?_ | refine Below.setCell ?_ (by first | exact Nat.le_refl _ | (simp; done) | (simp; omega)) _ | assumption))⟩
set_option maxHeartbeats 1000000 in
theorem areaOf_w1 (a : Option Addr) (cap : Nat) (L : List ByteArray) (pl pc ml mc : Int) (jump : Bool) (want : Int) (fl fc tl tc : Int) (w : World) (hL : LinesAt w a L) (h1 : plcB L pl pc = true) (h2 : plcB L ml mc = true)
    (ho : ordB pl pc ml mc = (fl, fc, tl, tc)) (q1 : plcB L fl fc = true) (q2 : plcB L tl tc = true) :
    Calls Try.prog 66 #[.slice a L.length cap, .agg #[.int .i64 pl, .int .i64 pc], .agg #[.int .i64 ml, .int .i64 mc, .int .i64 1, .bool jump, .int .i64 want]] w fun e w' =>
      e = .returned (.tuple #[.agg #[.int .i64 (areaO L fl fc tl tc 1).1.1, .int .i64 (areaO L fl fc tl tc 1).1.2.1, .int .i64 (areaO L fl fc tl tc 1).1.2.2.1, .int .i64 (areaO L fl fc tl tc 1).1.2.2.2.1, .int .i64 (areaO L fl fc tl tc 1).1.2.2.2.2], .bool (areaO L fl fc tl tc 1).2]) ∧ Below w.heap.size w w' := by
  have _u : _ ∧ _ ∧ _ := ⟨h1, q1, q2⟩
  clear _u
  obtain ⟨z, hz⟩ : ∃ t, min (tc + 1) (szI L tl) = t := ⟨_, rfl⟩
  have HY := Lib.hid (areaO_1 (fl := fl) (fc := fc) hz)
  rcases pos_ways fl fc tl z with ⟨rfl, rfl⟩ | ⟨rfl, hne⟩ | hne
  · have HR := Lib.hid (someR_eq fl fc)
    go_enter Try.func66, Try.ntmps66
    go_wp2_with fail
    go_at_call 55; refine (place_any _ _ L _ _ _ (by (repeat (first | assumption | refine LinesAt.ovr ?_ _ | refine LinesAt.alloc ?_ _ | refine LinesAt.drewN ?_ _ | refine LinesAt.drew ?_)))).mono ?_; rintro e w1 ⟨rfl, hbl⟩; obtain ⟨x, rfl⟩ := ovr_of_below hbl; clear hbl
    go_wp2_with fail
    go_at_call 55; refine (place_any _ _ L _ _ _ (by (repeat (first | assumption | refine LinesAt.ovr ?_ _ | refine LinesAt.alloc ?_ _ | refine LinesAt.drewN ?_ _ | refine LinesAt.drew ?_)))).mono ?_; rintro e w1 ⟨rfl, hbl⟩; obtain ⟨x, rfl⟩ := ovr_of_below hbl; clear hbl
    go_wp2_with (first | (go_at_call 70; refine (order_any _ _ _ _ _).mono ?_; rintro e w1 ⟨rfl, hbl⟩; obtain ⟨x, rfl⟩ := ovr_of_below hbl; clear hbl) | (go_at_call 71; refine (with_any _ _ L _ _ _ _ _ (by (repeat (first | assumption | refine LinesAt.ovr ?_ _ | refine LinesAt.alloc ?_ _ | refine LinesAt.drewN ?_ _ | refine LinesAt.drew ?_))) q2).mono ?_; rintro e w1 ⟨rfl, hbl⟩; obtain ⟨x, rfl⟩ := ovr_of_below hbl; clear hbl))
    rw [HY.out, HR.out]
    refine bodyPost_ret (v := .tuple #[.agg #[.int .i64 0, .int .i64 0, .int .i64 0, .int .i64 0, .int .i64 0], .bool false]) (by simp [results, Try.results66, go_sem]) rfl ⟨rfl, by (repeat (first | exact Below.refl _ _ | refine Below.alloc ?_ (by first | exact Nat.le_refl _ | (simp; done) | (simp; omega)) _ | refine below_ovr_of ?_ | refine drew_below ?_ _ | refine Below.drew ?_ | refine Below.setCell ?_ (by first | exact Nat.le_refl _ | (simp; done) | (simp; omega)) _ | assumption))⟩
  · have HR := Lib.hid (someR_ne2 (a := fl) hne)
    go_enter Try.func66, Try.ntmps66
    go_wp2_with fail
    go_at_call 55; refine (place_any _ _ L _ _ _ (by (repeat (first | assumption | refine LinesAt.ovr ?_ _ | refine LinesAt.alloc ?_ _ | refine LinesAt.drewN ?_ _ | refine LinesAt.drew ?_)))).mono ?_; rintro e w1 ⟨rfl, hbl⟩; obtain ⟨x, rfl⟩ := ovr_of_below hbl; clear hbl
    go_wp2_with fail
    go_at_call 55; refine (place_any _ _ L _ _ _ (by (repeat (first | assumption | refine LinesAt.ovr ?_ _ | refine LinesAt.alloc ?_ _ | refine LinesAt.drewN ?_ _ | refine LinesAt.drew ?_)))).mono ?_; rintro e w1 ⟨rfl, hbl⟩; obtain ⟨x, rfl⟩ := ovr_of_below hbl; clear hbl
    go_wp2_with (first | (go_at_call 70; refine (order_any _ _ _ _ _).mono ?_; rintro e w1 ⟨rfl, hbl⟩; obtain ⟨x, rfl⟩ := ovr_of_below hbl; clear hbl) | (go_at_call 71; refine (with_any _ _ L _ _ _ _ _ (by (repeat (first | assumption | refine LinesAt.ovr ?_ _ | refine LinesAt.alloc ?_ _ | refine LinesAt.drewN ?_ _ | refine LinesAt.drew ?_))) q2).mono ?_; rintro e w1 ⟨rfl, hbl⟩; obtain ⟨x, rfl⟩ := ovr_of_below hbl; clear hbl))
    rw [HY.out, HR.out]
    refine bodyPost_ret (v := .tuple #[.agg #[.int .i64 0, .int .i64 fl, .int .i64 fc, .int .i64 fl, .int .i64 z], .bool true]) (by simp [results, Try.results66, go_sem]) rfl ⟨rfl, by (repeat (first | exact Below.refl _ _ | refine Below.alloc ?_ (by first | exact Nat.le_refl _ | (simp; done) | (simp; omega)) _ | refine below_ovr_of ?_ | refine drew_below ?_ _ | refine Below.drew ?_ | refine Below.setCell ?_ (by first | exact Nat.le_refl _ | (simp; done) | (simp; omega)) _ | assumption))⟩
  · have HR := Lib.hid (someR_ne1 (b := fc) (d := z) hne)
    go_enter Try.func66, Try.ntmps66
    go_wp2_with fail
    go_at_call 55; refine (place_any _ _ L _ _ _ (by (repeat (first | assumption | refine LinesAt.ovr ?_ _ | refine LinesAt.alloc ?_ _ | refine LinesAt.drewN ?_ _ | refine LinesAt.drew ?_)))).mono ?_; rintro e w1 ⟨rfl, hbl⟩; obtain ⟨x, rfl⟩ := ovr_of_below hbl; clear hbl
    go_wp2_with fail
    go_at_call 55; refine (place_any _ _ L _ _ _ (by (repeat (first | assumption | refine LinesAt.ovr ?_ _ | refine LinesAt.alloc ?_ _ | refine LinesAt.drewN ?_ _ | refine LinesAt.drew ?_)))).mono ?_; rintro e w1 ⟨rfl, hbl⟩; obtain ⟨x, rfl⟩ := ovr_of_below hbl; clear hbl
    go_wp2_with (first | (go_at_call 70; refine (order_any _ _ _ _ _).mono ?_; rintro e w1 ⟨rfl, hbl⟩; obtain ⟨x, rfl⟩ := ovr_of_below hbl; clear hbl) | (go_at_call 71; refine (with_any _ _ L _ _ _ _ _ (by (repeat (first | assumption | refine LinesAt.ovr ?_ _ | refine LinesAt.alloc ?_ _ | refine LinesAt.drewN ?_ _ | refine LinesAt.drew ?_))) q2).mono ?_; rintro e w1 ⟨rfl, hbl⟩; obtain ⟨x, rfl⟩ := ovr_of_below hbl; clear hbl))
    rw [HY.out, HR.out]
    refine bodyPost_ret (v := .tuple #[.agg #[.int .i64 0, .int .i64 fl, .int .i64 fc, .int .i64 tl, .int .i64 z], .bool true]) (by simp [results, Try.results66, go_sem]) rfl ⟨rfl, by (repeat (first | exact Below.refl _ _ | refine Below.alloc ?_ (by first | exact Nat.le_refl _ | (simp; done) | (simp; omega)) _ | refine below_ovr_of ?_ | refine drew_below ?_ _ | refine Below.drew ?_ | refine Below.setCell ?_ (by first | exact Nat.le_refl _ | (simp; done) | (simp; omega)) _ | assumption))⟩
set_option maxHeartbeats 1000000 in
theorem areaOf_w0a (a : Option Addr) (cap : Nat) (L : List ByteArray) (pl pc ml mc : Int) (jump : Bool) (want : Int) (fl fc tl tc : Int) (w : World) (hL : LinesAt w a L) (h1 : plcB L pl pc = true) (h2 : plcB L ml mc = true)
    (ho : ordB pl pc ml mc = (fl, fc, tl, tc)) (q1 : plcB L fl fc = true) (q2 : plcB L tl tc = true) (hb : fl < tl) (hc : ¬ tc = 0) :
    Calls Try.prog 66 #[.slice a L.length cap, .agg #[.int .i64 pl, .int .i64 pc], .agg #[.int .i64 ml, .int .i64 mc, .int .i64 0, .bool jump, .int .i64 want]] w fun e w' =>
      e = .returned (.tuple #[.agg #[.int .i64 (areaO L fl fc tl tc 0).1.1, .int .i64 (areaO L fl fc tl tc 0).1.2.1, .int .i64 (areaO L fl fc tl tc 0).1.2.2.1, .int .i64 (areaO L fl fc tl tc 0).1.2.2.2.1, .int .i64 (areaO L fl fc tl tc 0).1.2.2.2.2], .bool (areaO L fl fc tl tc 0).2]) ∧ Below w.heap.size w w' := by
  have _u : _ ∧ _ ∧ _ := ⟨h1, q1, q2⟩
  clear _u
  have HY := Lib.hid (areaO_0 (L := L) (fl := fl) (fc := fc) (tl := tl) (tc := tc) (fun h => hc h.2))
  rcases pos_ways fl fc tl tc with ⟨rfl, rfl⟩ | ⟨rfl, hne⟩ | hne
  · omega
  · omega
  · have HR := Lib.hid (someR_ne1 (b := fc) (d := tc) hne)
    go_enter Try.func66, Try.ntmps66
    go_wp2_with fail
    go_at_call 55; refine (place_any _ _ L _ _ _ (by (repeat (first | assumption | refine LinesAt.ovr ?_ _ | refine LinesAt.alloc ?_ _ | refine LinesAt.drewN ?_ _ | refine LinesAt.drew ?_)))).mono ?_; rintro e w1 ⟨rfl, hbl⟩; obtain ⟨x, rfl⟩ := ovr_of_below hbl; clear hbl
    go_wp2_with fail
    go_at_call 55; refine (place_any _ _ L _ _ _ (by (repeat (first | assumption | refine LinesAt.ovr ?_ _ | refine LinesAt.alloc ?_ _ | refine LinesAt.drewN ?_ _ | refine LinesAt.drew ?_)))).mono ?_; rintro e w1 ⟨rfl, hbl⟩; obtain ⟨x, rfl⟩ := ovr_of_below hbl; clear hbl
    go_wp2_with (go_at_call 70; refine (order_any _ _ _ _ _).mono ?_; rintro e w1 ⟨rfl, hbl⟩; obtain ⟨x, rfl⟩ := ovr_of_below hbl; clear hbl)
    rw [HY.out, HR.out]
    refine bodyPost_ret (v := .tuple #[.agg #[.int .i64 0, .int .i64 fl, .int .i64 fc, .int .i64 tl, .int .i64 tc], .bool true]) (by simp [results, Try.results66, go_sem]) rfl ⟨rfl, by (repeat (first | exact Below.refl _ _ | refine Below.alloc ?_ (by first | exact Nat.le_refl _ | (simp; done) | (simp; omega)) _ | refine below_ovr_of ?_ | refine drew_below ?_ _ | refine Below.drew ?_ | refine Below.setCell ?_ (by first | exact Nat.le_refl _ | (simp; done) | (simp; omega)) _ | assumption))⟩
set_option maxHeartbeats 1000000 in
theorem areaOf_w0b (a : Option Addr) (cap : Nat) (L : List ByteArray) (pl pc ml mc : Int) (jump : Bool) (want : Int) (fl fc tl tc : Int) (w : World) (hL : LinesAt w a L) (h1 : plcB L pl pc = true) (h2 : plcB L ml mc = true)
    (ho : ordB pl pc ml mc = (fl, fc, tl, tc)) (q1 : plcB L fl fc = true) (q2 : plcB L tl tc = true) (hb : ¬ fl < tl) :
    Calls Try.prog 66 #[.slice a L.length cap, .agg #[.int .i64 pl, .int .i64 pc], .agg #[.int .i64 ml, .int .i64 mc, .int .i64 0, .bool jump, .int .i64 want]] w fun e w' =>
      e = .returned (.tuple #[.agg #[.int .i64 (areaO L fl fc tl tc 0).1.1, .int .i64 (areaO L fl fc tl tc 0).1.2.1, .int .i64 (areaO L fl fc tl tc 0).1.2.2.1, .int .i64 (areaO L fl fc tl tc 0).1.2.2.2.1, .int .i64 (areaO L fl fc tl tc 0).1.2.2.2.2], .bool (areaO L fl fc tl tc 0).2]) ∧ Below w.heap.size w w' := by
  have _u : _ ∧ _ ∧ _ := ⟨h1, q1, q2⟩
  clear _u
  have HY := Lib.hid (areaO_0 (L := L) (fl := fl) (fc := fc) (tl := tl) (tc := tc) (fun h => hb h.1))
  rcases pos_ways fl fc tl tc with ⟨rfl, rfl⟩ | ⟨rfl, hne⟩ | hne
  · have HR := Lib.hid (someR_eq fl fc)
    go_enter Try.func66, Try.ntmps66
    go_wp2_with fail
    go_at_call 55; refine (place_any _ _ L _ _ _ (by (repeat (first | assumption | refine LinesAt.ovr ?_ _ | refine LinesAt.alloc ?_ _ | refine LinesAt.drewN ?_ _ | refine LinesAt.drew ?_)))).mono ?_; rintro e w1 ⟨rfl, hbl⟩; obtain ⟨x, rfl⟩ := ovr_of_below hbl; clear hbl
    go_wp2_with fail
    go_at_call 55; refine (place_any _ _ L _ _ _ (by (repeat (first | assumption | refine LinesAt.ovr ?_ _ | refine LinesAt.alloc ?_ _ | refine LinesAt.drewN ?_ _ | refine LinesAt.drew ?_)))).mono ?_; rintro e w1 ⟨rfl, hbl⟩; obtain ⟨x, rfl⟩ := ovr_of_below hbl; clear hbl
    go_wp2_with (go_at_call 70; refine (order_any _ _ _ _ _).mono ?_; rintro e w1 ⟨rfl, hbl⟩; obtain ⟨x, rfl⟩ := ovr_of_below hbl; clear hbl)
    rw [HY.out, HR.out]
    refine bodyPost_ret (v := .tuple #[.agg #[.int .i64 0, .int .i64 0, .int .i64 0, .int .i64 0, .int .i64 0], .bool false]) (by simp [results, Try.results66, go_sem]) rfl ⟨rfl, by (repeat (first | exact Below.refl _ _ | refine Below.alloc ?_ (by first | exact Nat.le_refl _ | (simp; done) | (simp; omega)) _ | refine below_ovr_of ?_ | refine drew_below ?_ _ | refine Below.drew ?_ | refine Below.setCell ?_ (by first | exact Nat.le_refl _ | (simp; done) | (simp; omega)) _ | assumption))⟩
  · have HR := Lib.hid (someR_ne2 (a := fl) hne)
    go_enter Try.func66, Try.ntmps66
    go_wp2_with fail
    go_at_call 55; refine (place_any _ _ L _ _ _ (by (repeat (first | assumption | refine LinesAt.ovr ?_ _ | refine LinesAt.alloc ?_ _ | refine LinesAt.drewN ?_ _ | refine LinesAt.drew ?_)))).mono ?_; rintro e w1 ⟨rfl, hbl⟩; obtain ⟨x, rfl⟩ := ovr_of_below hbl; clear hbl
    go_wp2_with fail
    go_at_call 55; refine (place_any _ _ L _ _ _ (by (repeat (first | assumption | refine LinesAt.ovr ?_ _ | refine LinesAt.alloc ?_ _ | refine LinesAt.drewN ?_ _ | refine LinesAt.drew ?_)))).mono ?_; rintro e w1 ⟨rfl, hbl⟩; obtain ⟨x, rfl⟩ := ovr_of_below hbl; clear hbl
    go_wp2_with (go_at_call 70; refine (order_any _ _ _ _ _).mono ?_; rintro e w1 ⟨rfl, hbl⟩; obtain ⟨x, rfl⟩ := ovr_of_below hbl; clear hbl)
    rw [HY.out, HR.out]
    refine bodyPost_ret (v := .tuple #[.agg #[.int .i64 0, .int .i64 fl, .int .i64 fc, .int .i64 fl, .int .i64 tc], .bool true]) (by simp [results, Try.results66, go_sem]) rfl ⟨rfl, by (repeat (first | exact Below.refl _ _ | refine Below.alloc ?_ (by first | exact Nat.le_refl _ | (simp; done) | (simp; omega)) _ | refine below_ovr_of ?_ | refine drew_below ?_ _ | refine Below.drew ?_ | refine Below.setCell ?_ (by first | exact Nat.le_refl _ | (simp; done) | (simp; omega)) _ | assumption))⟩
  · have HR := Lib.hid (someR_ne1 (b := fc) (d := tc) hne)
    go_enter Try.func66, Try.ntmps66
    go_wp2_with fail
    go_at_call 55; refine (place_any _ _ L _ _ _ (by (repeat (first | assumption | refine LinesAt.ovr ?_ _ | refine LinesAt.alloc ?_ _ | refine LinesAt.drewN ?_ _ | refine LinesAt.drew ?_)))).mono ?_; rintro e w1 ⟨rfl, hbl⟩; obtain ⟨x, rfl⟩ := ovr_of_below hbl; clear hbl
    go_wp2_with fail
    go_at_call 55; refine (place_any _ _ L _ _ _ (by (repeat (first | assumption | refine LinesAt.ovr ?_ _ | refine LinesAt.alloc ?_ _ | refine LinesAt.drewN ?_ _ | refine LinesAt.drew ?_)))).mono ?_; rintro e w1 ⟨rfl, hbl⟩; obtain ⟨x, rfl⟩ := ovr_of_below hbl; clear hbl
    go_wp2_with (go_at_call 70; refine (order_any _ _ _ _ _).mono ?_; rintro e w1 ⟨rfl, hbl⟩; obtain ⟨x, rfl⟩ := ovr_of_below hbl; clear hbl)
    rw [HY.out, HR.out]
    refine bodyPost_ret (v := .tuple #[.agg #[.int .i64 0, .int .i64 fl, .int .i64 fc, .int .i64 tl, .int .i64 tc], .bool true]) (by simp [results, Try.results66, go_sem]) rfl ⟨rfl, by (repeat (first | exact Below.refl _ _ | refine Below.alloc ?_ (by first | exact Nat.le_refl _ | (simp; done) | (simp; omega)) _ | refine below_ovr_of ?_ | refine drew_below ?_ _ | refine Below.drew ?_ | refine Below.setCell ?_ (by first | exact Nat.le_refl _ | (simp; done) | (simp; omega)) _ | assumption))⟩
end Go.Proofs.Ytmafieomlhpdeaa
