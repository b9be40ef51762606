/- The contracts of the references' motions within a line. Conditions: none beyond what each says. -/
import Derived.Test.YtmafieomlhpdeaaChars2
import Derived.Test.YtmafieomlhpdeaaVert4
import Derived.IntWalk
namespace Go.Proofs.Ytmafieomlhpdeaa
open Go.RowKit

set_option maxHeartbeats 1000000 in
theorem rto_any (l c : Int) (w : World) : Calls Try.prog 64 #[.int .i64 l, .int .i64 c] w fun e w' =>
    e = .returned (movV ((l, c, 0, false, -1), true)) ∧ Below w.heap.size w w' := by
  go_enter Try.func64, Try.ntmps64
  go_wp2
  refine bodyPost_ret (v := movV ((l, c, 0, false, -1), true)) (by simp [results, Try.results64, go_sem]) rfl ⟨rfl, by (repeat (first | exact Below.refl _ _ | refine Below.alloc ?_ (by first | exact Nat.le_refl _ | (simp; done) | (simp; omega)) _ | refine below_ovr_of ?_ | refine drew_below ?_ _ | refine Below.drew ?_ | refine Below.setCell ?_ (by first | exact Nat.le_refl _ | (simp; done) | (simp; omega)) _ | assumption))⟩

set_option maxHeartbeats 1000000 in
theorem rzero_any (a : Option Addr) (cap : Nat) (L : List ByteArray) (pl pc : Int) (w : World) (hL : LinesAt w a L) :
    Calls Try.prog 52 #[.slice a L.length cap, .agg #[.int .i64 pl, .int .i64 pc]] w fun e w' =>
      e = .returned (movV (zeroP L pl pc)) ∧ Below w.heap.size w w' := by
  rcases may_ways L pl pc 1 with ⟨HQ, h⟩ | ⟨HQ, hp, _⟩
  · have HP : Hid (zeroP L pl pc = noMov) := Lib.hid (by rw [zeroP, if_neg (fun e => h ⟨e, by omega⟩)])
    clear h
    go_enter Try.func52, Try.ntmps52
    go_wp2_with (first | (go_at_call 57; refine (rmay_any _ _ L _ _ _ _ (by (repeat (first | assumption | refine LinesAt.ovr ?_ _ | refine LinesAt.alloc ?_ _ | refine LinesAt.drewN ?_ _ | refine LinesAt.drew ?_)))).mono ?_; rw [HQ.out]; rintro e w1 ⟨rfl, hbl⟩; obtain ⟨x, rfl⟩ := ovr_of_below hbl; clear hbl) | (go_at_call 58; refine (rnone_any _).mono ?_; rintro e w1 ⟨rfl, hbl⟩; obtain ⟨x, rfl⟩ := ovr_of_below hbl; clear hbl))
    refine bodyPost_ret (v := movV noMov) (by simp [results, Try.results52, go_sem, noMov]) rfl ⟨by rw [HP.out], by (repeat (first | exact Below.refl _ _ | refine Below.alloc ?_ (by first | exact Nat.le_refl _ | (simp; done) | (simp; omega)) _ | refine below_ovr_of ?_ | refine drew_below ?_ _ | refine Below.drew ?_ | refine Below.setCell ?_ (by first | exact Nat.le_refl _ | (simp; done) | (simp; omega)) _ | assumption))⟩
  · have HP : Hid (zeroP L pl pc = ((pl, 0, 0, false, -1), true)) := Lib.hid (by rw [zeroP, if_pos hp])
    go_enter Try.func52, Try.ntmps52
    go_wp2_with (first | (go_at_call 57; refine (rmay_any _ _ L _ _ _ _ (by (repeat (first | assumption | refine LinesAt.ovr ?_ _ | refine LinesAt.alloc ?_ _ | refine LinesAt.drewN ?_ _ | refine LinesAt.drew ?_)))).mono ?_; rw [HQ.out]; rintro e w1 ⟨rfl, hbl⟩; obtain ⟨x, rfl⟩ := ovr_of_below hbl; clear hbl) | (go_at_call 64; refine (rto_any _ _ _).mono ?_; rintro e w1 ⟨rfl, hbl⟩; obtain ⟨x, rfl⟩ := ovr_of_below hbl; clear hbl))
    refine bodyPost_ret (v := movV ((pl, 0, 0, false, -1), true)) (by simp [results, Try.results52, go_sem]) rfl ⟨by rw [HP.out], by (repeat (first | exact Below.refl _ _ | refine Below.alloc ?_ (by first | exact Nat.le_refl _ | (simp; done) | (simp; omega)) _ | refine below_ovr_of ?_ | refine drew_below ?_ _ | refine Below.drew ?_ | refine Below.setCell ?_ (by first | exact Nat.le_refl _ | (simp; done) | (simp; omega)) _ | assumption))⟩

set_option maxHeartbeats 1000000 in
theorem rfirstOf_any (a : Option Addr) (cap : Nat) (L : List ByteArray) (pl pc : Int) (w : World) (hL : LinesAt w a L) :
    Calls Try.prog 54 #[.slice a L.length cap, .agg #[.int .i64 pl, .int .i64 pc]] w fun e w' =>
      e = .returned (movV (firstP L pl pc)) ∧ Below w.heap.size w w' := by
  have hn := hL.2.1
  rcases may_ways L pl pc 1 with ⟨HQ, h⟩ | ⟨HQ, hp, _⟩
  · have HP : Hid (firstP L pl pc = noMov) := Lib.hid (by rw [firstP, if_neg (fun e => h ⟨e, by omega⟩)])
    clear h
    go_enter Try.func54, Try.ntmps54
    go_wp2_with (first | (go_at_call 57; refine (rmay_any _ _ L _ _ _ _ (by (repeat (first | assumption | refine LinesAt.ovr ?_ _ | refine LinesAt.alloc ?_ _ | refine LinesAt.drewN ?_ _ | refine LinesAt.drew ?_)))).mono ?_; rw [HQ.out]; rintro e w1 ⟨rfl, hbl⟩; obtain ⟨x, rfl⟩ := ovr_of_below hbl; clear hbl) | (go_at_call 58; refine (rnone_any _).mono ?_; rintro e w1 ⟨rfl, hbl⟩; obtain ⟨x, rfl⟩ := ovr_of_below hbl; clear hbl))
    refine bodyPost_ret (v := movV noMov) (by simp [results, Try.results54, go_sem, noMov]) rfl ⟨by rw [HP.out], by (repeat (first | exact Below.refl _ _ | refine Below.alloc ?_ (by first | exact Nat.le_refl _ | (simp; done) | (simp; omega)) _ | refine below_ovr_of ?_ | refine drew_below ?_ _ | refine Below.drew ?_ | refine Below.setCell ?_ (by first | exact Nat.le_refl _ | (simp; done) | (simp; omega)) _ | assumption))⟩
  · have hy : firstP L pl pc = ((pl, fsI L pl, 0, false, -1), true) := by rw [firstP, if_pos hp]
    obtain ⟨p1, p2, p3, p4⟩ := plcB_spec hp
    obtain ⟨b, off, s, rfl, hb, hcell, hs, HS⟩ := line_facts hL p1 p2
    rw [fsI_eq HS.out] at hy
    have HP := Lib.hid hy
    clear hy p4
    go_enter Try.func54, Try.ntmps54
    go_wp2_with (go_at_call 57; refine (rmay_any _ _ L _ _ _ _ (by (repeat (first | assumption | refine LinesAt.ovr ?_ _ | refine LinesAt.alloc ?_ _ | refine LinesAt.drewN ?_ _ | refine LinesAt.drew ?_)))).mono ?_; rw [HQ.out]; rintro e w1 ⟨rfl, hbl⟩; obtain ⟨x, rfl⟩ := ovr_of_below hbl; clear hbl)
    go_region_held3 (fun w' => w'.cell? ⟨w.heap.size, 0, none⟩ = some (.int .i64 pl) ∧ w'.cell? ⟨w.heap.size, 1, none⟩ = some (.int .i64 pc) ∧ w'.cell? ⟨b, off + pl.toNat, none⟩ = some (.string s)) (go_split_ands <;> first | assumption | (simp [go_sem]; done) | (simp [go_sem, *]; done) | (simp [go_sem]; omega)) ((first | (go_at_call 22; refine (rfirst_any _ _ (by omega)).mono ?_; rintro e w1 ⟨rfl, rfl⟩) | (go_at_call 64; refine (rto_any _ _ _).mono ?_; rintro e w1 ⟨rfl, hbl⟩; obtain ⟨x, rfl⟩ := ovr_of_below hbl; clear hbl)))
    all_goals (
      go_wp2
      refine bodyPost_ret (v := movV ((pl, (firstL s.data.toList : Int), 0, false, -1), true)) (by simp [results, Try.results54, go_sem]) rfl ⟨by rw [HP.out], by (repeat (first | exact Below.refl _ _ | refine Below.alloc ?_ (by first | exact Nat.le_refl _ | (simp; done) | (simp; omega)) _ | refine below_ovr_of ?_ | refine drew_below ?_ _ | refine Below.drew ?_ | refine Below.setCell ?_ (by first | exact Nat.le_refl _ | (simp; done) | (simp; omega)) _ | assumption))⟩)

set_option maxHeartbeats 1000000 in
theorem rleft_any (a : Option Addr) (cap : Nat) (L : List ByteArray) (pl pc n : Int) (w : World) (hL : LinesAt w a L) (hsz : ∀ s ∈ L, s.size ≤ 100000) :
    Calls Try.prog 47 #[.slice a L.length cap, .agg #[.int .i64 pl, .int .i64 pc], .int .i64 n] w fun e w' =>
      e = .returned (movV (leftP L pl pc n)) ∧ Below w.heap.size w w' := by
  rcases may_ways L pl pc n with ⟨HQ, h⟩ | ⟨HQ, hp, h1⟩
  · have HP : Hid (leftP L pl pc n = noMov) := Lib.hid (by rw [leftP, if_neg (fun e => h ⟨e.1, e.2.1⟩)])
    clear h hsz
    go_enter Try.func47, Try.ntmps47
    go_wp2_with (first | (go_at_call 57; refine (rmay_any _ _ L _ _ _ _ (by (repeat (first | assumption | refine LinesAt.ovr ?_ _ | refine LinesAt.alloc ?_ _ | refine LinesAt.drewN ?_ _ | refine LinesAt.drew ?_)))).mono ?_; rw [HQ.out]; rintro e w1 ⟨rfl, hbl⟩; obtain ⟨x, rfl⟩ := ovr_of_below hbl; clear hbl) | (go_at_call 58; refine (rnone_any _).mono ?_; rintro e w1 ⟨rfl, hbl⟩; obtain ⟨x, rfl⟩ := ovr_of_below hbl; clear hbl))
    refine bodyPost_ret (v := movV noMov) (by simp [results, Try.results47, go_sem, noMov]) rfl ⟨by rw [HP.out], by (repeat (first | exact Below.refl _ _ | refine Below.alloc ?_ (by first | exact Nat.le_refl _ | (simp; done) | (simp; omega)) _ | refine below_ovr_of ?_ | refine drew_below ?_ _ | refine Below.drew ?_ | refine Below.setCell ?_ (by first | exact Nat.le_refl _ | (simp; done) | (simp; omega)) _ | assumption))⟩
  · obtain ⟨p1, p2, p3, p4⟩ := plcB_spec hp
    have hz := size_getD_le hsz pl.toNat
    clear hsz
    by_cases h0 : pc = 0
    · have HP : Hid (leftP L pl pc n = noMov) := Lib.hid (by rw [leftP, if_neg]; rintro ⟨_, _, h⟩; exact h h0)
      subst h0
      go_enter Try.func47, Try.ntmps47
      go_wp2_with (first | (go_at_call 57; refine (rmay_any _ _ L _ _ _ _ (by (repeat (first | assumption | refine LinesAt.ovr ?_ _ | refine LinesAt.alloc ?_ _ | refine LinesAt.drewN ?_ _ | refine LinesAt.drew ?_)))).mono ?_; rw [HQ.out]; rintro e w1 ⟨rfl, hbl⟩; obtain ⟨x, rfl⟩ := ovr_of_below hbl; clear hbl) | (go_at_call 58; refine (rnone_any _).mono ?_; rintro e w1 ⟨rfl, hbl⟩; obtain ⟨x, rfl⟩ := ovr_of_below hbl; clear hbl))
      refine bodyPost_ret (v := movV noMov) (by simp [results, Try.results47, go_sem, noMov]) rfl ⟨by rw [HP.out], by (repeat (first | exact Below.refl _ _ | refine Below.alloc ?_ (by first | exact Nat.le_refl _ | (simp; done) | (simp; omega)) _ | refine below_ovr_of ?_ | refine drew_below ?_ _ | refine Below.drew ?_ | refine Below.setCell ?_ (by first | exact Nat.le_refl _ | (simp; done) | (simp; omega)) _ | assumption))⟩
    · have hy : leftP L pl pc n = ((pl, max (pc - n) 0, 0, false, -1), true) := by rw [leftP, if_pos ⟨hp, h1, h0⟩]
      have hb : (pc == 0) = false := beq_eq_false_iff_ne.2 h0
      obtain ⟨m, hm⟩ : ∃ m, min n 1073741824 = m := ⟨_, rfl⟩
      have m1 : 1 ≤ m := by omega
      have m2 : m ≤ 1073741824 := by omega
      rw [show max (pc - n) 0 = max (pc - m) 0 from by omega] at hy
      have HM := Lib.hid hm
      have hw1 : IntKind.i64.wrap (pc - m) = pc - m := IntWalk.i64_in _ (by omega)
      clear h0 hm p4
      rcases (by omega : m ≤ pc ∨ pc < m) with k | k
      · rw [show max (pc - m) 0 = pc - m from by omega] at hy
        have HP := Lib.hid hy
        clear hy
        have k0 : 0 ≤ pc - m := by omega
        go_enter Try.func47, Try.ntmps47
        go_wp2_with (go_at_call 57; refine (rmay_any _ _ L _ _ _ _ (by (repeat (first | assumption | refine LinesAt.ovr ?_ _ | refine LinesAt.alloc ?_ _ | refine LinesAt.drewN ?_ _ | refine LinesAt.drew ?_)))).mono ?_; rw [HQ.out]; rintro e w1 ⟨rfl, hbl⟩; obtain ⟨x, rfl⟩ := ovr_of_below hbl; clear hbl)
        go_region_held3 (fun w' => w'.cell? ⟨w.heap.size, 0, none⟩ = some (.int .i64 pl) ∧ w'.cell? ⟨w.heap.size, 1, none⟩ = some (.int .i64 pc)) (go_split_ands <;> first | assumption | (simp [go_sem]; done) | (simp [go_sem, *]; done) | (simp [go_sem]; omega)) ((first | (go_at_call 73; refine (rcapped_at _ _ HM _).mono ?_; rintro e w1 ⟨rfl, rfl⟩) | (go_at_call 64; refine (rto_any _ _ _).mono ?_; rintro e w1 ⟨rfl, hbl⟩; obtain ⟨x, rfl⟩ := ovr_of_below hbl; clear hbl)))
        all_goals (
          go_wp2
          refine bodyPost_ret (v := movV ((pl, pc - m, 0, false, -1), true)) (by simp [results, Try.results47, go_sem]) rfl ⟨by rw [HP.out], by (repeat (first | exact Below.refl _ _ | refine Below.alloc ?_ (by first | exact Nat.le_refl _ | (simp; done) | (simp; omega)) _ | refine below_ovr_of ?_ | refine drew_below ?_ _ | refine Below.drew ?_ | refine Below.setCell ?_ (by first | exact Nat.le_refl _ | (simp; done) | (simp; omega)) _ | assumption))⟩)
      · rw [show max (pc - m) 0 = 0 from by omega] at hy
        have HP := Lib.hid hy
        clear hy
        have k0 : pc - m < 0 := by omega
        go_enter Try.func47, Try.ntmps47
        go_wp2_with (go_at_call 57; refine (rmay_any _ _ L _ _ _ _ (by (repeat (first | assumption | refine LinesAt.ovr ?_ _ | refine LinesAt.alloc ?_ _ | refine LinesAt.drewN ?_ _ | refine LinesAt.drew ?_)))).mono ?_; rw [HQ.out]; rintro e w1 ⟨rfl, hbl⟩; obtain ⟨x, rfl⟩ := ovr_of_below hbl; clear hbl)
        go_region_held3 (fun w' => w'.cell? ⟨w.heap.size, 0, none⟩ = some (.int .i64 pl) ∧ w'.cell? ⟨w.heap.size, 1, none⟩ = some (.int .i64 pc)) (go_split_ands <;> first | assumption | (simp [go_sem]; done) | (simp [go_sem, *]; done) | (simp [go_sem]; omega)) ((first | (go_at_call 73; refine (rcapped_at _ _ HM _).mono ?_; rintro e w1 ⟨rfl, rfl⟩) | (go_at_call 64; refine (rto_any _ _ _).mono ?_; rintro e w1 ⟨rfl, hbl⟩; obtain ⟨x, rfl⟩ := ovr_of_below hbl; clear hbl)))
        all_goals (
          go_wp2
          refine bodyPost_ret (v := movV ((pl, 0, 0, false, -1), true)) (by simp [results, Try.results47, go_sem]) rfl ⟨by rw [HP.out], by (repeat (first | exact Below.refl _ _ | refine Below.alloc ?_ (by first | exact Nat.le_refl _ | (simp; done) | (simp; omega)) _ | refine below_ovr_of ?_ | refine drew_below ?_ _ | refine Below.drew ?_ | refine Below.setCell ?_ (by first | exact Nat.le_refl _ | (simp; done) | (simp; omega)) _ | assumption))⟩)
end Go.Proofs.Ytmafieomlhpdeaa
