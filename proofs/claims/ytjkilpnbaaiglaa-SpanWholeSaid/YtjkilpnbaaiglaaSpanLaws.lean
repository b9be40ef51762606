/- The walks of foolscaplaw6.known and of the laws SpanOrders and SpanWhole. Conditions: none beyond what each says. -/
import Derived.Test.YtjkilpnbaaiglaaSpan2
import Derived.Test.YtjkilpnbaaiglaaLists
namespace Go.Proofs.Ytjkilpnbaaiglaa
open Go.RowKit

set_option maxHeartbeats 1000000 in
theorem known6_any (w : World) : Calls Try.prog 28 #[] w fun e w' => e = .returned (.bool true) ∧ Below w.heap.size w w' := by
  have e1 : ordB 1 0 0 0 = (0, 0, 1, 0) := by decide
  have e2 : validB [⟨#[97, 98]⟩, ⟨#[99, 100]⟩] 0 0 1 1 1 = true := by decide
  have e3 : spanT [⟨#[97, 98]⟩, ⟨#[99, 100]⟩] 0 0 1 1 1 = [⟨#[98]⟩, ⟨#[99]⟩] := by decide +kernel
  have e4 : sameB [⟨#[98]⟩, ⟨#[99]⟩] [⟨#[98]⟩, ⟨#[99]⟩] = true := by decide
  have e5 : lessB 0 0 1 0 = true := by decide
  have e6 : validB [⟨#[97, 98]⟩, ⟨#[99, 100]⟩] 0 0 0 5 0 = false := by decide
  go_enter Try.func28, Try.ntmps28
  go_wp2_with fail
  go_at_call 29; refine (order_any _ _ _ _ _).mono ?_; rintro e w1 ⟨rfl, hbl⟩; obtain ⟨x, rfl⟩ := ovr_of_below hbl; clear hbl
  go_wp2_with fail
  have hl : LinesAt (w.alloc (.cells #[.string ⟨#[97, 98]⟩, .string ⟨#[99, 100]⟩] 9)) (some ⟨w.heap.size, 0, none⟩) [⟨#[97, 98]⟩, ⟨#[99, 100]⟩] := lines_new _ _ _ (by decide) (by decide) rfl rfl
  go_at_call 41; refine (valid_any _ _ [⟨#[97, 98]⟩, ⟨#[99, 100]⟩] _ _ _ _ _ _ (by (repeat (first | assumption | refine LinesAt.ovr ?_ _ | refine LinesAt.alloc ?_ _ | refine LinesAt.drewN ?_ _ | refine LinesAt.drew ?_)))).mono ?_; rintro e w1 ⟨rfl, hbl⟩; obtain ⟨x1, rfl⟩ := ovr_of_below hbl; clear hbl
  go_wp2_with fail
  go_at_call 34; refine (spanText_any _ _ [⟨#[97, 98]⟩, ⟨#[99, 100]⟩] _ _ _ _ _ _ (by (repeat (first | assumption | refine LinesAt.ovr ?_ _ | refine LinesAt.alloc ?_ _ | refine LinesAt.drewN ?_ _ | refine LinesAt.drew ?_))) (by decide)).mono ?_; rintro e w1 ⟨a1, c1, rfl, hbl, hl1⟩; obtain ⟨x2, rfl⟩ := ovr_of_below hbl; clear hbl
  rw [e3] at hl1 ⊢
  go_wp2_with fail
  go_at_call 26; refine (strings_any _ _ _ _ [⟨#[98]⟩, ⟨#[99]⟩] [⟨#[98]⟩, ⟨#[99]⟩] _ (by (repeat (first | assumption | refine LinesAt.ovr ?_ _ | refine LinesAt.alloc ?_ _ | refine LinesAt.drewN ?_ _ | refine LinesAt.drew ?_))) (lines_new _ _ _ (by decide) (by decide) rfl (by simp))).mono ?_; rintro e w1 ⟨rfl, hbl⟩; obtain ⟨x3, rfl⟩ := ovr_of_below hbl; clear hbl
  go_wp2_with (first
    | (go_at_call 31; refine (less_any _ _ _ _ _).mono ?_; rintro e w1 ⟨rfl, hbl⟩; obtain ⟨x4, rfl⟩ := ovr_of_below hbl; clear hbl)
    | (go_at_call 41; refine (valid_any _ _ [⟨#[97, 98]⟩, ⟨#[99, 100]⟩] _ _ _ _ _ _ (by (repeat (first | assumption | refine LinesAt.ovr ?_ _ | refine LinesAt.alloc ?_ _ | refine LinesAt.drewN ?_ _ | refine LinesAt.drew ?_)))).mono ?_; rintro e w1 ⟨rfl, hbl⟩; obtain ⟨x5, rfl⟩ := ovr_of_below hbl; clear hbl))
  go_ret
  exact ⟨rfl, by (repeat (first | exact Below.refl _ _ | refine Below.alloc ?_ (by first | exact Nat.le_refl _ | (simp; done) | (simp; omega)) _ | refine below_ovr_of ?_ | refine drew_below ?_ _ | refine Below.drew ?_ | refine Below.setCell ?_ (by first | exact Nat.le_refl _ | (simp; done) | (simp; omega)) _ | assumption))⟩

theorem lessB_irrefl (a b : Int) : lessB a b a b = false := by simp [lessB]

set_option maxHeartbeats 1000000 in
theorem spanOrders_walk (a b c d : Int) (line : Bool) (W : World) (_h1 : (Lit.int .i64 a).wf = true) (_h2 : (Lit.int .i64 b).wf = true) (_h3 : (Lit.int .i64 c).wf = true) (_h4 : (Lit.int .i64 d).wf = true) :
    Calls Try.prog 8 #[.agg #[.int .i64 a, .int .i64 b], .agg #[.int .i64 c, .int .i64 d], .bool line] W fun e W' => e = .returned (.bool true) ∧ Below W.heap.size W W' := by
  have hi := lessB_irrefl a b
  clear _h1 _h2 _h3 _h4
  cases line
  all_goals (
    go_enter Try.func8, Try.ntmps8
    go_wp2_with (first
      | (go_at_call 28; refine (known6_any _).mono ?_; rintro e w1 ⟨rfl, hbl⟩; obtain ⟨x, rfl⟩ := ovr_of_below hbl; clear hbl)
      | (go_at_call 29; refine (order_any _ _ _ _ _).mono ?_; rintro e w1 ⟨rfl, hbl⟩; obtain ⟨y, rfl⟩ := ovr_of_below hbl; clear hbl)
      | (go_at_call 30; refine (rorder_any _ _ _ _ _).mono ?_; rintro e w1 ⟨rfl, hbl⟩; obtain ⟨z, rfl⟩ := ovr_of_below hbl; clear hbl))
    (refine wp_region_ovr (by kernel_rfl) (by kernel_rfl) ?_; (repeat (go_big_quiet_step (first | (go_at_call 31; exact quiet_ovr (less_any _ _ _ _ _)) | (go_at_call 32; exact quiet_ovr (rless_any _ _ _ _ _))))); refine wpQuiet_nil ?_; rintro _ ⟨zq, rfl⟩)
    go_wp2
    go_ret
    exact ⟨rfl, by (repeat (first | exact Below.refl _ _ | refine Below.alloc ?_ (by first | exact Nat.le_refl _ | (simp; done) | (simp; omega)) _ | refine below_ovr_of ?_ | refine drew_below ?_ _ | refine Below.drew ?_ | refine Below.setCell ?_ (by first | exact Nat.le_refl _ | (simp; done) | (simp; omega)) _ | assumption))⟩)

theorem spanT_whole {L : List ByteArray} {k : Nat} (h : k + 1 = L.length) : spanT L 0 0 0 k (L.getD k .empty).size = L ∧ spanT L 1 0 0 k 0 = L ∧ ((∀ s ∈ L, s.size ≤ 1048576) → spanT L 2 0 0 k 1048576 = L) := by
  have hk : (0 : Int) ≤ (k : Int) := by omega
  have hkl : (k : Int) < (L.length : Int) := by omega
  have key : ∀ (kk fc tc : Int), validB L kk 0 fc k tc = true → (∀ j, j < L.length → cutL L kk 0 fc k tc j = L.getD j .empty) → spanT L kk 0 fc k tc = L := by
    intro kk fc tc hv hc
    rw [show (0 : Int) = ((0 : Nat) : Int) from rfl] at hv ⊢
    rw [spanT_yes hv]
    apply List.ext_getElem
    · simp; omega
    · intro j h1 h2
      simp only [List.getElem_map, List.getElem_range, Nat.zero_add]
      have := hc j h2
      rw [List.getD_eq_getElem?_getD, List.getElem?_eq_getElem h2] at this
      simpa using this
  have ext : ∀ s : ByteArray, s.extract 0 s.size = s := fun s => ByteArray.extract_zero_size
  refine ⟨key 0 0 _ ?_ ?_, key 1 0 0 ?_ ?_, fun hs => key 2 0 1048576 ?_ ?_⟩
  · rw [validB_char (by omega) hk hkl]
    simp [plcB, lessB]
    omega
  · intro j hj
    have hc : colsP (L.getD j .empty).size 0 0 0 k (L.getD k .empty).size j = (0, ((L.getD j .empty).size : Int)) := by
      rw [colsP_char]
      by_cases hjk : (j : Int) = (k : Int)
      · have : j = k := by omega
        subst this
        simp
      · simp [hjk]
    unfold cutL
    rw [hc]
    exact ext _
  · rw [validB_line (by omega) hk hkl]
  · intro j hj
    simp [cutL, colsP, ext]
  · rw [validB_block (by omega) hk hkl]; decide
  · intro j hj
    have hs' := hs _ (getD_mem L .empty j hj)
    have hc : colsP (L.getD j .empty).size 2 0 0 k 1048576 j = (0, ((L.getD j .empty).size : Int)) := by
      rw [colsP_block]
      refine Prod.ext ?_ ?_
      · show min 0 _ = (0 : Int); omega
      · show min 1048576 _ + 1 = _; omega
    unfold cutL
    rw [hc]
    exact ext _

set_option maxHeartbeats 1000000 in
theorem spanWhole_walk (a : Option Addr) (cap : Nat) (L : List ByteArray) (W : World) (hL : LinesAt W a L) :
    Calls Try.prog 10 #[.slice a L.length cap] W fun e W' => e = .returned (.bool true) ∧ Below W.heap.size W W' := by
  cases hli : textB L with
  | false =>
    go_enter Try.func10, Try.ntmps10
    go_wp2_with (first
      | (go_at_call 28; refine (known6_any _).mono ?_; rintro e w1 ⟨rfl, hbl⟩; obtain ⟨x, rfl⟩ := ovr_of_below hbl; clear hbl)
      | (go_at_call 27; refine (text_any _ _ L _ (by (repeat (first | assumption | refine LinesAt.ovr ?_ _ | refine LinesAt.alloc ?_ _ | refine LinesAt.drewN ?_ _ | refine LinesAt.drew ?_)))).mono ?_; rintro e w1 ⟨rfl, rfl⟩))
    go_ret
    exact ⟨rfl, by (repeat (first | exact Below.refl _ _ | refine Below.alloc ?_ (by first | exact Nat.le_refl _ | (simp; done) | (simp; omega)) _ | refine below_ovr_of ?_ | refine drew_below ?_ _ | refine Below.drew ?_ | refine Below.setCell ?_ (by first | exact Nat.le_refl _ | (simp; done) | (simp; omega)) _ | assumption))⟩
  | true =>
    obtain ⟨h0, hn, htot, _⟩ := text_spec hli
    obtain ⟨k, hk⟩ : ∃ k : Nat, k + 1 = L.length := ⟨L.length - 1, by omega⟩
    have hw := spanT_whole hk
    have hsz : ∀ s ∈ L, s.size ≤ 1048576 := by
      intro s hs
      obtain ⟨i, hi, rfl⟩ := List.getElem_of_mem hs
      have := size_le_total L i hi
      rw [List.getD_eq_getElem?_getD, List.getElem?_eq_getElem hi] at this
      simp at this
      omega
    obtain ⟨hw1, hw2, hw3⟩ := hw
    have hw3 := hw3 hsz
    have hsr : sameB L L = true := by simp [sameB]
    have hkl : k < L.length := by omega
    obtain ⟨b, off, rfl, hb, hcell, hs⟩ := hL.line hkl
    generalize L.getD k .empty = s at hcell hs hw1
    have hkI : (L.length : Int) - 1 = (k : Int) := by omega
    have hk1 : (k : Int) < (L.length : Int) := by omega
    have HK := Lib.hid hk
    have H1 := Lib.hid hw1
    have H2 := Lib.hid hw2
    have H3 := Lib.hid hw3
    clear hk hw1 hw2 hw3 hsz
    go_enter Try.func10, Try.ntmps10
    go_wp2_with (first
      | (go_at_call 28; refine (known6_any _).mono ?_; rintro e w1 ⟨rfl, hbl⟩; obtain ⟨x, rfl⟩ := ovr_of_below hbl; clear hbl)
      | (go_at_call 27; refine (text_any _ _ L _ (by (repeat (first | assumption | refine LinesAt.ovr ?_ _ | refine LinesAt.alloc ?_ _ | refine LinesAt.drewN ?_ _ | refine LinesAt.drew ?_)))).mono ?_; rintro e w1 ⟨rfl, rfl⟩))
    go_at_call 34; refine (spanText_any _ _ L _ _ _ _ _ _ (by (repeat (first | assumption | refine LinesAt.ovr ?_ _ | refine LinesAt.alloc ?_ _ | refine LinesAt.drewN ?_ _ | refine LinesAt.drew ?_))) (by omega)).mono ?_; rw [H1.out]; rintro e w1 ⟨a1, c1, rfl, hbl, hl1⟩; obtain ⟨x1, rfl⟩ := ovr_of_below hbl; clear hbl
    go_wp2_with fail
    go_at_call 34; refine (spanText_any _ _ L _ _ _ _ _ _ (by (repeat (first | assumption | refine LinesAt.ovr ?_ _ | refine LinesAt.alloc ?_ _ | refine LinesAt.drewN ?_ _ | refine LinesAt.drew ?_))) (by omega)).mono ?_; rw [H2.out]; rintro e w1 ⟨a2, c2, rfl, hbl, hl2⟩; obtain ⟨x2, rfl⟩ := ovr_of_below hbl; clear hbl
    go_wp2_with fail
    go_at_call 34; refine (spanText_any _ _ L _ _ _ _ _ _ (by (repeat (first | assumption | refine LinesAt.ovr ?_ _ | refine LinesAt.alloc ?_ _ | refine LinesAt.drewN ?_ _ | refine LinesAt.drew ?_))) (by omega)).mono ?_; rw [H3.out]; rintro e w1 ⟨a3, c3, rfl, hbl, hl3⟩; obtain ⟨x3, rfl⟩ := ovr_of_below hbl; clear hbl
    go_wp2_with fail
    go_at_call 26; refine (strings_any _ _ _ _ L L _ (by (repeat (first | assumption | refine LinesAt.ovr ?_ _ | refine LinesAt.alloc ?_ _ | refine LinesAt.drewN ?_ _ | refine LinesAt.drew ?_))) (by (repeat (first | assumption | refine LinesAt.ovr ?_ _ | refine LinesAt.alloc ?_ _ | refine LinesAt.drewN ?_ _ | refine LinesAt.drew ?_)))).mono ?_; rintro e w1 ⟨rfl, hbl⟩; obtain ⟨x4, rfl⟩ := ovr_of_below hbl; clear hbl
    go_wp2_with fail
    go_at_call 26; refine (strings_any _ _ _ _ L L _ (by (repeat (first | assumption | refine LinesAt.ovr ?_ _ | refine LinesAt.alloc ?_ _ | refine LinesAt.drewN ?_ _ | refine LinesAt.drew ?_))) (by (repeat (first | assumption | refine LinesAt.ovr ?_ _ | refine LinesAt.alloc ?_ _ | refine LinesAt.drewN ?_ _ | refine LinesAt.drew ?_)))).mono ?_; rintro e w1 ⟨rfl, hbl⟩; obtain ⟨x5, rfl⟩ := ovr_of_below hbl; clear hbl
    go_wp2_with fail
    go_at_call 26; refine (strings_any _ _ _ _ L L _ (by (repeat (first | assumption | refine LinesAt.ovr ?_ _ | refine LinesAt.alloc ?_ _ | refine LinesAt.drewN ?_ _ | refine LinesAt.drew ?_))) (by (repeat (first | assumption | refine LinesAt.ovr ?_ _ | refine LinesAt.alloc ?_ _ | refine LinesAt.drewN ?_ _ | refine LinesAt.drew ?_)))).mono ?_; rintro e w1 ⟨rfl, hbl⟩; obtain ⟨x6, rfl⟩ := ovr_of_below hbl; clear hbl
    go_wp2_with fail
    go_ret
    exact ⟨rfl, by (repeat (first | exact Below.refl _ _ | refine Below.alloc ?_ (by first | exact Nat.le_refl _ | (simp; done) | (simp; omega)) _ | refine below_ovr_of ?_ | refine drew_below ?_ _ | refine Below.drew ?_ | refine Below.setCell ?_ (by first | exact Nat.le_refl _ | (simp; done) | (simp; omega)) _ | assumption))⟩
end Go.Proofs.Ytjkilpnbaaiglaa
