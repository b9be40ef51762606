/- The contract of area.Of. Conditions: none beyond what each says. -/
import Derived.Test.YtmafieomlhpdeaaArea4
namespace Go.Proofs.Ytmafieomlhpdeaa
open Go.RowKit

/-- A range, and whether there is one, as a value. -/
abbrev areaV (r : Rng × Bool) : Value := .tuple #[.agg #[.int .i64 r.1.1, .int .i64 r.1.2.1, .int .i64 r.1.2.2.1, .int .i64 r.1.2.2.2.1, .int .i64 r.1.2.2.2.2], .bool r.2]
attribute [go_sem] areaV

theorem areaOf_any (a : Option Addr) (cap : Nat) (L : List ByteArray) (pl pc ml mc way : Int) (jump : Bool) (want : Int) (w : World) (hL : LinesAt w a L) :
    Calls Try.prog 66 #[.slice a L.length cap, .agg #[.int .i64 pl, .int .i64 pc], .agg #[.int .i64 ml, .int .i64 mc, .int .i64 way, .bool jump, .int .i64 want]] w fun e w' =>
      e = .returned (areaV (areaP L pl pc ml mc way)) ∧ Below w.heap.size w w' := by
  cases h1 : plcB L pl pc with
  | false => rw [areaP_no (.inl h1)]; exact areaOf_no a cap L pl pc ml mc way jump want w hL (.inl h1)
  | true =>
    cases h2 : plcB L ml mc with
    | false => rw [areaP_no (.inr h2)]; exact areaOf_no a cap L pl pc ml mc way jump want w hL (.inr h2)
    | true =>
      obtain ⟨fl, fc, tl, tc, ho, q1, q2, _⟩ := ordB_facts h1 h2
      rw [areaP_yes h1 h2 ho]
      by_cases n2 : way = 2
      · subst n2; exact areaOf_w2 a cap L pl pc ml mc jump want fl fc tl tc w hL h1 h2 ho q1 q2
      · by_cases n1 : way = 1
        · subst n1; exact areaOf_w1 a cap L pl pc ml mc jump want fl fc tl tc w hL h1 h2 ho q1 q2
        · by_cases n0 : way = 0
          · subst n0
            by_cases hb : fl < tl
            · by_cases hc : tc = 0
              · subst hc
                by_cases hf : fc ≤ fsI L fl
                · exact areaOf_w0l a cap L pl pc ml mc jump want fl fc tl w hL h1 h2 ho q1 q2 hb hf
                · exact areaOf_w0c a cap L pl pc ml mc jump want fl fc tl w hL h1 h2 ho q1 q2 hb hf
              · exact areaOf_w0a a cap L pl pc ml mc jump want fl fc tl tc w hL h1 h2 ho q1 q2 hb hc
            · exact areaOf_w0b a cap L pl pc ml mc jump want fl fc tl tc w hL h1 h2 ho q1 q2 hb
          · exact areaOf_wx a cap L pl pc ml mc way jump want fl fc tl tc w hL h1 h2 ho q1 q2 n2 n1 n0

set_option maxHeartbeats 1000000 in
theorem known27_any (w : World) : Calls Try.prog 32 #[] w fun e w' => e = .returned (.bool true) ∧ Below w.heap.size w w' := by
  have e1 : areaP [⟨#[97, 98]⟩, ⟨#[99, 100]⟩] 0 1 1 0 0 = ((0, 0, 1, 0, 2), true) := by decide
  have e2 : areaP [⟨#[97, 98]⟩, ⟨#[99, 100]⟩] 0 0 1 0 0 = ((1, 0, 0, 0, 0), true) := by decide
  have e3 : areaP [⟨#[97, 98]⟩, ⟨#[99, 100]⟩] 0 0 0 0 0 = ((0, 0, 0, 0, 0), false) := by decide
  have hl : LinesAt (w.alloc (.cells #[.string ⟨#[97, 98]⟩, .string ⟨#[99, 100]⟩] 9)) (some ⟨w.heap.size, 0, none⟩) [⟨#[97, 98]⟩, ⟨#[99, 100]⟩] := lines_new _ _ _ (by decide) (by decide) rfl rfl
  go_enter Try.func32, Try.ntmps32
  go_wp2_with (go_at_call 66; refine (areaOf_any _ _ [⟨#[97, 98]⟩, ⟨#[99, 100]⟩] _ _ _ _ _ _ _ _ (by (repeat (first | assumption | refine LinesAt.ovr ?_ _ | refine LinesAt.alloc ?_ _ | refine LinesAt.drewN ?_ _ | refine LinesAt.drew ?_)))).mono ?_; rintro e w1 ⟨rfl, hbl⟩; obtain ⟨x1, rfl⟩ := ovr_of_below hbl; clear hbl)
  go_ret
  exact ⟨rfl, by (repeat (first | exact Below.refl _ _ | refine Below.alloc ?_ (by first | exact Nat.le_refl _ | (simp; done) | (simp; omega)) _ | refine below_ovr_of ?_ | refine drew_below ?_ _ | refine Below.drew ?_ | refine Below.setCell ?_ (by first | exact Nat.le_refl _ | (simp; done) | (simp; omega)) _ | assumption))⟩
end Go.Proofs.Ytmafieomlhpdeaa
