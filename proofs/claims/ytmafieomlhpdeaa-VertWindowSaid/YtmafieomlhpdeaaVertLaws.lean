/- Layer 9: the chapter's example, the comparison of motions. Conditions: none. -/
import Derived.Test.YtmafieomlhpdeaaVert2
import Derived.Test.YtmafieomlhpdeaaVert3
import Derived.Test.YtmafieomlhpdeaaVert5
import Derived.Test.YtmafieomlhpdeaaVert6
namespace Go.Proofs.Ytmafieomlhpdeaa
open Go.RowKit

set_option maxHeartbeats 1000000 in
theorem known9_any (w : World) : Calls Try.prog 15 #[] w fun e w' => e = .returned (.bool true) ∧ Below w.heap.size w w' := by
  have e1 : vertP [⟨#[97, 98, 99]⟩, ⟨#[97]⟩, ⟨#[32, 98, 99]⟩] 0 2 2 2 false = ((2, 2, 2, false, 2), true) := by decide
  have e2 : vertP [⟨#[97, 98, 99]⟩, ⟨#[97]⟩, ⟨#[32, 98, 99]⟩] 0 2 3 2 false = ((0, 0, 0, false, 0), false) := by decide
  have e3 : gotoP [⟨#[97, 98, 99]⟩, ⟨#[97]⟩, ⟨#[32, 98, 99]⟩] 0 0 3 = ((2, 1, 2, true, -1), true) := by decide
  have e4 : screenP [⟨#[97, 98, 99]⟩, ⟨#[97]⟩, ⟨#[32, 98, 99]⟩] 0 0 0 77 1 = ((1, 0, 2, true, -1), true) := by decide
  have hl : LinesAt (w.alloc (.cells #[.string ⟨#[97, 98, 99]⟩, .string ⟨#[97]⟩, .string ⟨#[32, 98, 99]⟩] 9)) (some ⟨w.heap.size, 0, none⟩) [⟨#[97, 98, 99]⟩, ⟨#[97]⟩, ⟨#[32, 98, 99]⟩] := lines_new _ _ _ (by decide) (by decide) rfl rfl
  go_enter Try.func15, Try.ntmps15
  go_wp2_with (first
    | (go_at_call 30; refine (vdown_any _ _ [⟨#[97, 98, 99]⟩, ⟨#[97]⟩, ⟨#[32, 98, 99]⟩] _ _ _ _ _ (by (repeat (first | assumption | refine LinesAt.ovr ?_ _ | refine LinesAt.alloc ?_ _ | refine LinesAt.drewN ?_ _ | refine LinesAt.drew ?_))) (by decide)).mono ?_; rintro e w1 ⟨rfl, hbl⟩; obtain ⟨x1, rfl⟩ := ovr_of_below hbl; clear hbl)
    | (go_at_call 21; refine (vgoto_any _ _ [⟨#[97, 98, 99]⟩, ⟨#[97]⟩, ⟨#[32, 98, 99]⟩] _ _ _ _ (by (repeat (first | assumption | refine LinesAt.ovr ?_ _ | refine LinesAt.alloc ?_ _ | refine LinesAt.drewN ?_ _ | refine LinesAt.drew ?_)))).mono ?_; rintro e w1 ⟨rfl, hbl⟩; obtain ⟨x1, rfl⟩ := ovr_of_below hbl; clear hbl)
    | (go_at_call 18; refine (vscreen_any _ _ [⟨#[97, 98, 99]⟩, ⟨#[97]⟩, ⟨#[32, 98, 99]⟩] _ _ _ _ _ _ (by (repeat (first | assumption | refine LinesAt.ovr ?_ _ | refine LinesAt.alloc ?_ _ | refine LinesAt.drewN ?_ _ | refine LinesAt.drew ?_))) (by decide)).mono ?_; rintro e w1 ⟨rfl, hbl⟩; obtain ⟨x1, rfl⟩ := ovr_of_below hbl; clear hbl))
  go_ret
  exact ⟨rfl, by (repeat (first | exact Below.refl _ _ | refine Below.alloc ?_ (by first | exact Nat.le_refl _ | (simp; done) | (simp; omega)) _ | refine below_ovr_of ?_ | refine drew_below ?_ _ | refine Below.drew ?_ | refine Below.setCell ?_ (by first | exact Nat.le_refl _ | (simp; done) | (simp; omega)) _ | assumption))⟩

/-- A motion held against itself. -/
theorem same9_any (a b c : Int) (j : Bool) (t : Int) (ok : Bool) (w : World) :
    Calls Try.prog 20 #[.agg #[.int .i64 a, .int .i64 b, .int .i64 c, .bool j, .int .i64 t], .bool ok, .agg #[.int .i64 a, .int .i64 b, .int .i64 c, .bool j, .int .i64 t], .bool ok] w fun e w' =>
      e = .returned (.bool true) ∧ Below w.heap.size w w' := by
  go_enter Try.func20, Try.ntmps20
  go_wp2
  go_ret
  exact ⟨ret_bool (by simp), by (repeat (first | exact Below.refl _ _ | refine Below.alloc ?_ (by first | exact Nat.le_refl _ | (simp; done) | (simp; omega)) _ | refine below_ovr_of ?_ | refine drew_below ?_ _ | refine Below.drew ?_ | refine Below.setCell ?_ (by first | exact Nat.le_refl _ | (simp; done) | (simp; omega)) _ | assumption))⟩

theorem seat_at (a : Option Addr) (cap : Nat) (L : List ByteArray) (x y : Int) (w : World) (hL : LinesAt w a L) (h0 : 0 < L.length) (hx : 0 ≤ x ∧ x ≤ 65535) (hy : 0 ≤ y ∧ y ≤ 65535) {l c : Int} (hl : Hid (seatL L x = l)) (hc : Hid (seatC L x y = c)) :
    Calls Try.prog 17 #[.slice a L.length cap, .int .u16 x, .int .u16 y] w fun e w' => e = .returned (.agg #[.int .i64 l, .int .i64 c]) ∧ Below w.heap.size w w' := by
  have := seat_any a cap L x y w hL h0 hx hy
  rw [hl.out, hc.out] at this
  exact this
/-- The block of a literal slice in slot t, under a name; the world too. -/
theorem name_block {P : Program} {c : Code} {Q : Exit → Act → World → Prop} {a : Act} {w : World} (t : Nat) {b n m : Nat} (_h : a.tmps.getD t undef = Value.slice (some ⟨b, 0, none⟩) n m) (k : ∀ W0 B, W0 = w → B = b → c.wp P Q a W0) : c.wp P Q a w := k w b rfl rfl
theorem name_ptr {P : Program} {c : Code} {Q : Exit → Act → World → Prop} {a : Act} {w : World} (t : Nat) {b : Nat} (_h : a.tmps.getD t undef = Value.pointer (some ⟨b, 0, none⟩)) (k : ∀ B, B = b → c.wp P Q a w) : c.wp P Q a w := k b rfl
theorem cell_keep9 {w w' : World} {b o : Nat} {v : Value} (hb : Below w.heap.size w w') (h : w.cell? ⟨b, o, none⟩ = some v) : w'.cell? ⟨b, o, none⟩ = some v :=
  (hb.cell (p := ⟨b, o, none⟩) (World.block_lt_of_cell? w _ h)).trans h
theorem cell_lt9 {w : World} {b o : Nat} {v : Value} (h : w.cell? ⟨b, o, none⟩ = some v) : b < w.heap.size := World.block_lt_of_cell? w _ h

theorem gotoP_at {L : List ByteArray} {i : Int} (h0 : 0 ≤ i) (h1 : i < L.length) : gotoP L 0 0 (i + 1) = ((i, fsI L i, 2, true, -1), true) := by
  rw [gotoP, if_pos ⟨plcB_mk (by omega) (by omega) (by omega) (by unfold szI; omega), by omega⟩, lineM_yes ⟨by omega, by omega⟩, firstM, show i + 1 - 1 = i from by omega]
theorem gotoP_ok {L : List ByteArray} (hL : 0 < L.length) (n : Int) : ∃ r, gotoP L 0 0 n = (r, decide (1 ≤ n) && decide (n ≤ L.length)) := by
  refine ⟨(gotoP L 0 0 n).1, Prod.ext rfl ?_⟩
  rw [gotoP]
  have hp : plcB L 0 0 = true := plcB_mk (by omega) (by omega) (by omega) (by unfold szI; omega)
  by_cases h1 : 1 ≤ n
  · rw [if_pos ⟨hp, h1⟩]
    by_cases h2 : n ≤ L.length
    · rw [lineM_yes ⟨by omega, by omega⟩]; simp [firstM, h1, h2]
    · rw [lineM_no (by omega)]; simp [noMov, h2]
  · rw [if_neg (fun e => h1 e.2)]; simp [noMov, h1]

set_option maxHeartbeats 1000000 in
theorem vertGoto_walk (a : Option Addr) (cap : Nat) (L : List ByteArray) (n : Int) (W : World) (hL : LinesAt W a L) (hn : (Lit.int .i64 n).wf = true) :
    Calls Try.prog 4 #[.slice a L.length cap, .int .i64 n] W fun e W' => e = .returned (.bool true) ∧ Below W.heap.size W W' := by
  have _u := hn
  clear _u hn
  cases hli : textB L with
  | false =>
    go_enter Try.func4, Try.ntmps4
    go_wp2_with (first | (go_at_call 15; refine (known9_any _).mono ?_; rintro e w1 ⟨rfl, hbl⟩; obtain ⟨x, rfl⟩ := ovr_of_below hbl; clear hbl) | (go_at_call 16; refine (text_any _ _ L _ (by (repeat (first | assumption | refine LinesAt.ovr ?_ _ | refine LinesAt.alloc ?_ _ | refine LinesAt.drewN ?_ _ | refine LinesAt.drew ?_)))).mono ?_; rintro e w1 ⟨rfl, rfl⟩))
    go_ret
    exact ⟨rfl, by (repeat (first | exact Below.refl _ _ | refine Below.alloc ?_ (by first | exact Nat.le_refl _ | (simp; done) | (simp; omega)) _ | refine below_ovr_of ?_ | refine drew_below ?_ _ | refine Below.drew ?_ | refine Below.setCell ?_ (by first | exact Nat.le_refl _ | (simp; done) | (simp; omega)) _ | assumption))⟩
  | true =>
    obtain ⟨h0, hn, htot, _⟩ := text_spec hli
    obtain ⟨⟨r1, r2, r3, r4, r5⟩, hr⟩ := gotoP_ok h0 n
    have HR := Lib.hid hr
    clear hr
    go_enter Try.func4, Try.ntmps4
    go_wp2_with (first | (go_at_call 15; refine (known9_any _).mono ?_; rintro e w1 ⟨rfl, hbl⟩; obtain ⟨x, rfl⟩ := ovr_of_below hbl; clear hbl) | (go_at_call 16; refine (text_any _ _ L _ (by (repeat (first | assumption | refine LinesAt.ovr ?_ _ | refine LinesAt.alloc ?_ _ | refine LinesAt.drewN ?_ _ | refine LinesAt.drew ?_)))).mono ?_; rintro e w1 ⟨rfl, rfl⟩))
    refine name_world ?_
    intro W0 hW0
    have hL0 : LinesAt W0 a L := by rw [hW0]; (repeat (first | assumption | refine LinesAt.ovr ?_ _ | refine LinesAt.alloc ?_ _ | refine LinesAt.drewN ?_ _ | refine LinesAt.drew ?_))
    have hbel : Below W.heap.size W W0 := by rw [hW0]; (repeat (first | exact Below.refl _ _ | refine Below.alloc ?_ (by first | exact Nat.le_refl _ | (simp; done) | (simp; omega)) _ | refine below_ovr_of ?_ | refine drew_below ?_ _ | refine Below.drew ?_ | refine Below.setCell ?_ (by first | exact Nat.le_refl _ | (simp; done) | (simp; omega)) _ | assumption))
    have hszW := hbel.size
    clear hW0
    go_loopw [5] (fun i wr => ∃ k : Nat, k ≤ L.length ∧ i = .int .i64 k ∧ ∃ x, wr = ovr W0 x) (fun i _ => L.length - (intOf i).toNat)
    case atStart => exact ⟨0, by omega, rfl, { W0 with heap := #[] }, by simp [ovr]⟩
    case round =>
      obtain ⟨k, hk, rfl, y, rfl⟩ := hrel
      by_cases hlt : k < L.length
      · have hkI : (k : Int) < (L.length : Int) := by omega
        obtain ⟨b, off, s, rfl, hb, hcell, hs, HS⟩ := line_facts hL0 (t := (k : Int)) (by omega) hkI
        have hg := gotoP_at (L := L) (i := (k : Int)) (by omega) hkI
        rw [fsI_eq HS.out] at hg
        rw [Int.toNat_natCast] at hcell
        have HG := Lib.hid hg
        clear hg
        go_wp2_with (go_at_call 21; refine (vgoto_any _ _ L _ _ _ _ (by (repeat (first | assumption | refine LinesAt.ovr ?_ _ | refine LinesAt.alloc ?_ _ | refine LinesAt.drewN ?_ _ | refine LinesAt.drew ?_)))).mono ?_; rw [HG.out]; rintro e w1 ⟨rfl, hbl⟩; obtain ⟨x, rfl⟩ := ovr_of_below hbl; clear hbl)
        (refine wp_region_ovr (by kernel_rfl) (by kernel_rfl) ?_; (repeat (go_big_quiet_step ((go_at_call 22; exact quiet_same (rfirst_any _ _ (by omega)))))); refine wpQuiet_nil ?_; rintro _ ⟨zq, rfl⟩)
        go_wp2
        go_roundw
        case rel => exact ⟨k + 1, by omega, by go_num, ovr_of_below (by (repeat (first | exact Below.refl _ _ | refine Below.alloc ?_ (by first | exact Nat.le_refl _ | (simp; done) | (simp; omega)) _ | refine below_ovr_of ?_ | refine drew_below ?_ _ | refine Below.drew ?_ | refine Below.setCell ?_ (by first | exact Nat.le_refl _ | (simp; done) | (simp; omega)) _ | assumption)))⟩
        case measure => simp [intOf]; omega
      · have hkI : ¬ (k : Int) < (L.length : Int) := by omega
        rcases (by omega : n < 1 ∨ (1 ≤ n ∧ n ≤ (L.length : Int)) ∨ (1 ≤ n ∧ (L.length : Int) < n)) with h1 | ⟨h1, h2⟩ | ⟨h1, h2⟩
        all_goals (
          go_wp2_with (go_at_call 21; refine (vgoto_any _ _ L _ _ _ _ (by (repeat (first | assumption | refine LinesAt.ovr ?_ _ | refine LinesAt.alloc ?_ _ | refine LinesAt.drewN ?_ _ | refine LinesAt.drew ?_)))).mono ?_; rw [HR.out]; rintro e w1 ⟨rfl, hbl⟩; obtain ⟨x, rfl⟩ := ovr_of_below hbl; clear hbl)
          go_ret
          exact ⟨ret_bool (by simp; try omega), by (repeat (first | exact Below.refl _ _ | refine Below.alloc ?_ (by first | exact Nat.le_refl _ | (simp; done) | (simp; omega)) _ | refine below_ovr_of ?_ | refine drew_below ?_ _ | refine Below.drew ?_ | refine Below.setCell ?_ (by first | exact Nat.le_refl _ | (simp; done) | (simp; omega)) _ | assumption))⟩)
end Go.Proofs.Ytmafieomlhpdeaa
