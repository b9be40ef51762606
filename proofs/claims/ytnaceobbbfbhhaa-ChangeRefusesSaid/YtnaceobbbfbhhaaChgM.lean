/- Layer 21: changes that may be asked. Conditions: none beyond what each says. -/
import Derived.Test.YtnaceobbbfbhhaaChgR
import Derived.Test.YtnaceobbbfbhhaaBase0
namespace Go.Proofs.Ytnaceobbbfbhhaa
open Go.RowKit Go.Shelf

/-- Changes that may be asked: few, and light. -/
def LightC (cs : List Chg) : Prop := cs.length ≤ 12 ∧ ∀ i, i < cs.length → lightB (cs.getD i (0, [], [])).2.1 = true ∧ lightB (cs.getD i (0, [], [])).2.2 = true
/-- A truth value, which true means so much. -/
def BoolOf (e : Ending) (P : Prop) : Prop := ∃ q, e = .returned (.bool q) ∧ (q = true → P)
theorem sizeP_total : ∀ (L : List ByteArray), sizeP L = total L + L.length
  | [] => rfl
  | s :: L => by
    have h := sizeP_total L
    have e1 : sizeP (s :: L) = s.size + 1 + sizeP L := by simp [sizeP]
    have e2 : total (s :: L) = s.size + total L := by simp [total]
    rw [e1, e2, h, List.length_cons]; omega
theorem light_size {L : List ByteArray} (h : lightB L = true) : sizeP L ≤ 1240 := by
  obtain ⟨h1, h2, _⟩ := light_spec h
  rw [sizeP_total]; omega
theorem lightC_size : ∀ {cs : List Chg}, (∀ i, i < cs.length → lightB (cs.getD i (0, [], [])).2.1 = true ∧ lightB (cs.getD i (0, [], [])).2.2 = true) → sizeC cs ≤ 2480 * cs.length
  | [], _ => by simp [sizeC]
  | c :: cs, h => by
    have h0 := h 0 (by simp)
    have h1 := lightC_size (cs := cs) (fun i hi => by have := h (i + 1) (by simpa using hi); simpa using this)
    have a := light_size h0.1
    have b := light_size h0.2
    simp only [List.getD_cons_zero] at a b
    rw [sizeC_cons, List.length_cons]; omega
set_option maxRecDepth 100000 in
set_option maxHeartbeats 2000000 in
theorem light21_any (b : Option Addr) (cc : Nat) (cs : List Chg) (w : World) (hC : ChgsAt w b cs) (hn : cs.length ≤ 140737488351232) : Calls Try.prog 23 #[.slice b cs.length cc] w fun e w' => BoolOf e (LightC cs) ∧ Below w.heap.size w w' := by
  have HC := Lib.hid hC
  clear hC
  by_cases h12 : cs.length ≤ 12
  · have h12I : ¬ (12 : Int) < (cs.length : Int) := by omega
    go_enter Try.func23, Try.ntmps23
    go_wp2_with fail
    go_loopw [3] (fun i wr => ∃ k : Nat, k ≤ cs.length ∧ i = .int .i64 k ∧ (∃ x, wr = ovr w x) ∧ Hid (∀ j, j < k → lightB (cs.getD j (0, [], [])).2.1 = true ∧ lightB (cs.getD j (0, [], [])).2.2 = true)) (fun i _ => cs.length - (intOf i).toNat)
    case atStart => exact ⟨0, Nat.zero_le _, rfl, ⟨{ w with heap := #[] }, by simp [ovr]⟩, Lib.hid (fun j hj => by omega)⟩
    case round =>
      obtain ⟨k, hk, rfl, ⟨z, rfl⟩, HJ⟩ := hrel
      by_cases hlt : k < cs.length
      · have hltI : (k : Int) < (cs.length : Int) := by omega
        have hk0 : (0 : Int) ≤ (k : Int) := by omega
        obtain ⟨g, off, rfl, hg, e0, ⟨ao, co, e1, hO, hOc⟩, ⟨an, cn, e2, hN, hNc⟩⟩ := HC.out k hlt
        have HJ2 : Hid (lightB (cs.getD k (0, [], [])).2.1 = true → lightB (cs.getD k (0, [], [])).2.2 = true → ∀ j, j < k + 1 → lightB (cs.getD j (0, [], [])).2.1 = true ∧ lightB (cs.getD j (0, [], [])).2.2 = true) := Lib.hid (fun h1 h2 j hj => by
          by_cases e : j = k
          · subst e; exact ⟨h1, h2⟩
          · exact HJ.out j (by omega))
        obtain ⟨⟨at_, O, N⟩, hcc⟩ : ∃ c, cs.getD k (0, [], []) = c := ⟨_, rfl⟩
        have HJ3 : Hid (lightB O = true → lightB N = true → ∀ j, j < k + 1 → lightB (cs.getD j (0, [], [])).2.1 = true ∧ lightB (cs.getD j (0, [], [])).2.2 = true) := Lib.hid (by have := HJ2.out; rw [hcc] at this; exact this)
        rw [hcc] at e0 e1 e2 hO hN hOc hNc
        simp only at e0 e1 e2 hO hN hOc hNc
        clear hcc HC HJ2 HJ
        obtain ⟨q1, hq1⟩ : ∃ q, lightB O = q := ⟨_, rfl⟩
        obtain ⟨q2, hq2⟩ : ∃ q, lightB N = q := ⟨_, rfl⟩
        have HQ1 := Lib.hid hq1
        have HQ2 := Lib.hid hq2
        clear hq1 hq2
        go_wp2_with fail
        go_at_call 22; refine (light_any _ _ O _ (by (repeat (first | assumption | refine LinesAt.ovr ?_ _ | refine LinesAt.alloc ?_ _ | refine LinesAt.drewN ?_ _ | refine LinesAt.drew ?_)))).mono ?_; rw [HQ1.out]; rintro e w1 ⟨rfl, rfl⟩
        cases q1 with
        | false =>
          go_wp2_with fail
          go_ret
          exact ⟨⟨_, rfl, by simp⟩, by (repeat (first | with_reducible exact Below.refl _ _ | (with_reducible refine Below.setCell ?_ ?_ _; rotate_left; · (first | exact Nat.le_refl _ | assumption | omega | (simp; done) | (simp; omega))) | (with_reducible refine Below.alloc ?_ ?_ _; rotate_left; · (first | exact Nat.le_refl _ | assumption | omega | (simp; done) | (simp; omega))) | with_reducible refine below_ovr_of ?_ | with_reducible refine drew_below ?_ _ | with_reducible refine Below.drew ?_ | with_reducible assumption))⟩
        | true =>
          go_wp2_with fail
          go_at_call 22; refine (light_any _ _ N _ (by (repeat (first | assumption | refine LinesAt.ovr ?_ _ | refine LinesAt.alloc ?_ _ | refine LinesAt.drewN ?_ _ | refine LinesAt.drew ?_)))).mono ?_; rw [HQ2.out]; rintro e w1 ⟨rfl, rfl⟩
          cases q2 with
          | false =>
            go_wp2_with fail
            go_ret
            exact ⟨⟨_, rfl, by simp⟩, by (repeat (first | with_reducible exact Below.refl _ _ | (with_reducible refine Below.setCell ?_ ?_ _; rotate_left; · (first | exact Nat.le_refl _ | assumption | omega | (simp; done) | (simp; omega))) | (with_reducible refine Below.alloc ?_ ?_ _; rotate_left; · (first | exact Nat.le_refl _ | assumption | omega | (simp; done) | (simp; omega))) | with_reducible refine below_ovr_of ?_ | with_reducible refine drew_below ?_ _ | with_reducible refine Below.drew ?_ | with_reducible assumption))⟩
          | true =>
            go_wp2_with fail
            go_roundw
            case rel => exact ⟨k + 1, by omega, by go_num, ovr_of_below (by (repeat (first | with_reducible exact Below.refl _ _ | (with_reducible refine Below.setCell ?_ ?_ _; rotate_left; · (first | exact Nat.le_refl _ | assumption | omega | (simp; done) | (simp; omega))) | (with_reducible refine Below.alloc ?_ ?_ _; rotate_left; · (first | exact Nat.le_refl _ | assumption | omega | (simp; done) | (simp; omega))) | with_reducible refine below_ovr_of ?_ | with_reducible refine drew_below ?_ _ | with_reducible refine Below.drew ?_ | with_reducible assumption))), Lib.hid (HJ3.out HQ1.out HQ2.out)⟩
            case measure => simp [intOf]; omega
      · have hltI : ¬ (k : Int) < (cs.length : Int) := by omega
        go_wp2_with fail
        go_ret
        exact ⟨⟨_, rfl, fun _ => ⟨h12, fun j hj => HJ.out j (by omega)⟩⟩, by (repeat (first | with_reducible exact Below.refl _ _ | (with_reducible refine Below.setCell ?_ ?_ _; rotate_left; · (first | exact Nat.le_refl _ | assumption | omega | (simp; done) | (simp; omega))) | (with_reducible refine Below.alloc ?_ ?_ _; rotate_left; · (first | exact Nat.le_refl _ | assumption | omega | (simp; done) | (simp; omega))) | with_reducible refine below_ovr_of ?_ | with_reducible refine drew_below ?_ _ | with_reducible refine Below.drew ?_ | with_reducible assumption))⟩
  · have h12I : (12 : Int) < (cs.length : Int) := by omega
    go_enter Try.func23, Try.ntmps23
    go_wp2_with fail
    go_ret
    exact ⟨⟨_, rfl, by simp⟩, by (repeat (first | with_reducible exact Below.refl _ _ | (with_reducible refine Below.setCell ?_ ?_ _; rotate_left; · (first | exact Nat.le_refl _ | assumption | omega | (simp; done) | (simp; omega))) | (with_reducible refine Below.alloc ?_ ?_ _; rotate_left; · (first | exact Nat.le_refl _ | assumption | omega | (simp; done) | (simp; omega))) | with_reducible refine below_ovr_of ?_ | with_reducible refine drew_below ?_ _ | with_reducible refine Below.drew ?_ | with_reducible assumption))⟩
end Go.Proofs.Ytnaceobbbfbhhaa
