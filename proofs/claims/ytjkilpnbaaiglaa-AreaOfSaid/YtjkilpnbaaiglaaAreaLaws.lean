/- The walks of the laws AreaTurned and AreaBreaks. Conditions: none beyond what each says. -/
import Derived.Test.YtjkilpnbaaiglaaArea7
namespace Go.Proofs.Ytjkilpnbaaiglaa
open Go.RowKit

set_option maxHeartbeats 1000000 in
theorem areaTurned_walk (a : Option Addr) (cap : Nat) (L : List ByteArray) (sa sb sc sd way : Int) (W : World) (hL : LinesAt W a L) (ha : 0 ≤ sa ∧ sa ≤ 65535) (hb : 0 ≤ sb ∧ sb ≤ 65535) (hc : 0 ≤ sc ∧ sc ≤ 65535) (hd : 0 ≤ sd ∧ sd ≤ 65535) (hw : 0 ≤ way ∧ way ≤ 255) :
    Calls Try.prog 12 #[.slice a L.length cap, .int .u16 sa, .int .u16 sb, .int .u16 sc, .int .u16 sd, .int .u8 way] W fun e W' => e = .returned (.bool true) ∧ Below W.heap.size W W' := by
  obtain ⟨hw0, hw1⟩ := hw
  cases hli : textB L with
  | false =>
    go_enter Try.func12, Try.ntmps12
    go_wp2_with (first
      | (go_at_call 35; refine (known27_any _).mono ?_; rintro e w1 ⟨rfl, hbl⟩; obtain ⟨x, rfl⟩ := ovr_of_below hbl; clear hbl)
      | (go_at_call 27; refine (text_any _ _ L _ (by (repeat (first | assumption | refine LinesAt.ovr ?_ _ | refine LinesAt.alloc ?_ _ | refine LinesAt.drewN ?_ _ | refine LinesAt.drew ?_)))).mono ?_; rintro e w1 ⟨rfl, rfl⟩))
    go_ret
    exact ⟨rfl, by (repeat (first | exact Below.refl _ _ | refine Below.alloc ?_ (by first | exact Nat.le_refl _ | (simp; done) | (simp; omega)) _ | refine below_ovr_of ?_ | refine drew_below ?_ _ | refine Below.drew ?_ | refine Below.setCell ?_ (by first | exact Nat.le_refl _ | (simp; done) | (simp; omega)) _ | assumption))⟩
  | true =>
    obtain ⟨h0, hn, htot, _⟩ := text_spec hli
    go_enter Try.func12, Try.ntmps12
    go_wp2_with (first
      | (go_at_call 35; refine (known27_any _).mono ?_; rintro e w1 ⟨rfl, hbl⟩; obtain ⟨x, rfl⟩ := ovr_of_below hbl; clear hbl)
      | (go_at_call 27; refine (text_any _ _ L _ (by (repeat (first | assumption | refine LinesAt.ovr ?_ _ | refine LinesAt.alloc ?_ _ | refine LinesAt.drewN ?_ _ | refine LinesAt.drew ?_)))).mono ?_; rintro e w1 ⟨rfl, rfl⟩))
    go_at_call 33; refine (seat_any _ _ L _ _ _ (by (repeat (first | assumption | refine LinesAt.ovr ?_ _ | refine LinesAt.alloc ?_ _ | refine LinesAt.drewN ?_ _ | refine LinesAt.drew ?_))) h0 ha hb).mono ?_; rintro e w1 ⟨rfl, hbl⟩; obtain ⟨x1, rfl⟩ := ovr_of_below hbl; clear hbl
    go_wp2_with fail
    go_at_call 33; refine (seat_any _ _ L _ _ _ (by (repeat (first | assumption | refine LinesAt.ovr ?_ _ | refine LinesAt.alloc ?_ _ | refine LinesAt.drewN ?_ _ | refine LinesAt.drew ?_))) h0 hc hd).mono ?_; rintro e w1 ⟨rfl, hbl⟩; obtain ⟨x2, rfl⟩ := ovr_of_below hbl; clear hbl
    go_wp2_with fail
    go_at_call 36; refine (areaOf_any _ _ L _ _ _ _ _ _ _ _ (by (repeat (first | assumption | refine LinesAt.ovr ?_ _ | refine LinesAt.alloc ?_ _ | refine LinesAt.drewN ?_ _ | refine LinesAt.drew ?_)))).mono ?_; rw [areaP_sym]; rintro e w1 ⟨rfl, hbl⟩; obtain ⟨x3, rfl⟩ := ovr_of_below hbl; clear hbl
    go_wp2_with fail
    go_at_call 36; refine (areaOf_any _ _ L _ _ _ _ _ _ _ _ (by (repeat (first | assumption | refine LinesAt.ovr ?_ _ | refine LinesAt.alloc ?_ _ | refine LinesAt.drewN ?_ _ | refine LinesAt.drew ?_)))).mono ?_; rintro e w1 ⟨rfl, hbl⟩; obtain ⟨x4, rfl⟩ := ovr_of_below hbl; clear hbl
    go_wp2_with fail
    go_ret
    exact ⟨rfl, by (repeat (first | exact Below.refl _ _ | refine Below.alloc ?_ (by first | exact Nat.le_refl _ | (simp; done) | (simp; omega)) _ | refine below_ovr_of ?_ | refine drew_below ?_ _ | refine Below.drew ?_ | refine Below.setCell ?_ (by first | exact Nat.le_refl _ | (simp; done) | (simp; omega)) _ | assumption))⟩

theorem seat_facts {L : List ByteArray} {x y : Int} (h : 0 < L.length) (hx : 0 ≤ x) : ∃ l c, seatL L x = l ∧ seatC L x y = c ∧ plcB L l c = true := ⟨_, _, rfl, rfl, seat_plc h hx⟩
theorem areaBreaks_plain {L : List ByteArray} {pl pc l : Int} (h : plcB L pl pc = true) (h1 : pl < l) (h2 : l < L.length) :
    areaP L pl pc l 0 0 = (if pc ≤ fsI L pl then ((1, pl, 0, l - 1, 0), true) else someR pl pc (l - 1) (szI L (l - 1))) := by
  have q := plcB_spec h
  have hp : plcB L l 0 = true := plcB_mk (by omega) h2 (by omega) (by unfold szI; omega)
  have ho : ordB pl pc l 0 = (pl, pc, l, 0) := ordB_no (by simp [lessB]; omega)
  rw [areaP_yes h hp ho]
  simp [areaO, h1]
end Go.Proofs.Ytjkilpnbaaiglaa
