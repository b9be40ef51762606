/- The walk of the law ParaEmpty. Conditions: none beyond what it says. -/
import Derived.Test.YtnaceobbbfbhhaaParaLaws
import Derived.Test.YtnaceobbbfbhhaaParaEmpty1
import Derived.Test.YtnaceobbbfbhhaaParaEmpty2
import Derived.Test.YtnaceobbbfbhhaaParaEmpty3
namespace Go.Proofs.Ytnaceobbbfbhhaa
open Go.RowKit

set_option maxRecDepth 100000 in
theorem paraEmpty_walk (a : Option Addr) (cap : Nat) (L : List ByteArray) (x : Int) (W : World) (hL : LinesAt W a L) (hx : 0 ≤ x ∧ x ≤ 255) :
    Calls Try.prog 15 #[.slice a L.length cap, .int .u8 x] W fun e W' => e = .returned (.bool true) ∧ Below W.heap.size W W' := by
  cases hli : textB L with
  | false =>
    go_enter Try.func15, Try.ntmps15
    go_wp2_with (first | (go_at_call 49; refine (known10_any _).mono ?_; rintro e w1 ⟨rfl, hbl⟩; obtain ⟨x, rfl⟩ := ovr_of_below hbl; clear hbl) | (go_at_call 35; refine (text_any _ _ L _ (by (repeat (first | assumption | refine LinesAt.ovr ?_ _ | refine LinesAt.alloc ?_ _ | refine LinesAt.drewN ?_ _ | refine LinesAt.drew ?_)))).mono ?_; rintro e w1 ⟨rfl, rfl⟩))
    go_ret
    exact ⟨rfl, by (repeat (first | exact Below.refl _ _ | refine Below.alloc ?_ (by first | exact Nat.le_refl _ | (simp; done) | (simp; omega)) _ | refine below_ovr_of ?_ | refine drew_below ?_ _ | refine Below.drew ?_ | refine Below.setCell ?_ (by first | exact Nat.le_refl _ | (simp; done) | (simp; omega)) _ | assumption))⟩
  | true =>
    obtain ⟨h0, hn4, htot, _⟩ := text_spec hli
    obtain ⟨hx0, hx1⟩ := hx
    obtain ⟨l, hat⟩ : ∃ l : Nat, x % (L.length : Int) = l := Int.eq_ofNat_of_zero_le (Int.emod_nonneg _ (by omega))
    have hl : l < L.length := by have := Int.emod_lt_of_pos x (show (0 : Int) < L.length by omega); omega
    rcases next_ways hl with h1 | ⟨i, c, h1, h2, h3, h4 | h4⟩ <;> rcases back_ways hl with ⟨g0, g1⟩ | ⟨g0, j, d, g1, g2, g3, g4 | g4⟩
    · exact paraEmpty_noMov_noMov a cap L x W hL hli hx0 hx1 l _ hat hl rfl h1 g0 g1
    · exact paraEmpty_noMov_e a cap L x W hL hli hx0 hx1 l _ hat hl rfl h1 g0 j d g1 g2 g3 g4
    · exact paraEmpty_noMov_z a cap L x W hL hli hx0 hx1 l _ hat hl rfl h1 g0 j d g1 g2 g3 g4
    · exact paraEmpty_e_noMov a cap L x W hL hli hx0 hx1 l _ hat hl rfl i c h1 h2 h3 h4 g0 g1
    · exact paraEmpty_e_e a cap L x W hL hli hx0 hx1 l _ hat hl rfl i c h1 h2 h3 h4 g0 j d g1 g2 g3 g4
    · exact paraEmpty_e_z a cap L x W hL hli hx0 hx1 l _ hat hl rfl i c h1 h2 h3 h4 g0 j d g1 g2 g3 g4
    · exact paraEmpty_l_noMov a cap L x W hL hli hx0 hx1 l _ hat hl rfl i c h1 h2 h3 h4 g0 g1
    · exact paraEmpty_l_e a cap L x W hL hli hx0 hx1 l _ hat hl rfl i c h1 h2 h3 h4 g0 j d g1 g2 g3 g4
    · exact paraEmpty_l_z a cap L x W hL hli hx0 hx1 l _ hat hl rfl i c h1 h2 h3 h4 g0 j d g1 g2 g3 g4
end Go.Proofs.Ytnaceobbbfbhhaa
