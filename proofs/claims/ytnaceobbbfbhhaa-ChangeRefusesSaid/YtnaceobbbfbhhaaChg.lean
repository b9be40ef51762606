/- The contracts of what changes are made of: sizes, comparisons, clones of lines. Conditions: lengths that a machine bears. -/
import Derived.Test.YtnaceobbbfbhhaaChgP
namespace Go.Proofs.Ytnaceobbbfbhhaa
open Go.RowKit

set_option maxRecDepth 100000 in
set_option maxHeartbeats 2000000 in
theorem csize_any (a : Option Addr) (cap : Nat) (L : List ByteArray) (w : World) (hL : LinesAt w a L) (hs : sizeP L ≤ 100000) : Calls Try.prog 76 #[.slice a L.length cap] w fun e w' => e = .returned (.int .i64 ((sizeP L : Nat) : Int)) ∧ w = w' := by
  have hlen := len_sizeP L
  have HL := Lib.hid hL
  clear hL
  go_enter Try.func76, Try.ntmps76
  go_wp2
  go_loop [3, 8] (fun v i => ∃ k : Nat, k ≤ L.length ∧ i = .int .i64 k ∧ v = .int .i64 ((sizeP (L.take k) : Nat) : Int)) (fun _ i => L.length - (intOf i).toNat)
  case atStart => exact ⟨0, Nat.zero_le _, rfl, rfl⟩
  case round =>
    obtain ⟨k, hk, rfl, rfl⟩ := hrel
    by_cases hlt : k < L.length
    · have hltI : (k : Int) < (L.length : Int) := by omega
      have hk0 : (0 : Int) ≤ (k : Int) := by omega
      obtain ⟨b, off, s, rfl, hbw, hcell, hss, HS⟩ := line_facts' HL.out hlt
      have hst := sizeP_snoc L k hlt
      have hbk := sizeP_take L (k + 1)
      rw [HS.out] at hst
      obtain ⟨M, hM⟩ : ∃ M, sizeP (L.take k) = M := ⟨_, rfl⟩
      rw [hM] at hst ⊢
      rw [hst] at hbk
      have HST := Lib.hid hst
      have hMb : (M : Int) + ((s.size : Int) + 1) ≤ 100000 := by omega
      have hM0 : (0 : Int) ≤ (M : Int) := by omega
      clear hst hM hbk
      go_wp2
      go_round
      case rel => exact ⟨k + 1, by omega, by go_num, by rw [HST.out]; congr 1⟩
      case measure => simp [intOf]; omega
    · have hltI : ¬ (k : Int) < (L.length : Int) := by omega
      rw [List.take_of_length_le (by omega)]
      go_wp2
      go_ret
      exact ⟨rfl, rfl⟩
set_option maxRecDepth 100000 in
set_option maxHeartbeats 2000000 in
theorem rsize_any (a : Option Addr) (cap : Nat) (L : List ByteArray) (w : World) (hL : LinesAt w a L) (hs : sizeP L ≤ 100000) : Calls Try.prog 34 #[.slice a L.length cap] w fun e w' => e = .returned (.int .i64 ((sizeP L : Nat) : Int)) ∧ w = w' := by
  have hlen := len_sizeP L
  have HL := Lib.hid hL
  clear hL
  go_enter Try.func34, Try.ntmps34
  go_wp2
  go_loop [3, 4] (fun v i => ∃ k : Nat, k ≤ L.length ∧ i = .int .i64 k ∧ v = .int .i64 ((sizeP (L.take k) : Nat) : Int)) (fun _ i => L.length - (intOf i).toNat)
  case atStart => exact ⟨0, Nat.zero_le _, rfl, rfl⟩
  case round =>
    obtain ⟨k, hk, rfl, rfl⟩ := hrel
    by_cases hlt : k < L.length
    · have hltI : (k : Int) < (L.length : Int) := by omega
      have hk0 : (0 : Int) ≤ (k : Int) := by omega
      obtain ⟨b, off, s, rfl, hbw, hcell, hss, HS⟩ := line_facts' HL.out hlt
      have hst := sizeP_snoc L k hlt
      have hbk := sizeP_take L (k + 1)
      rw [HS.out] at hst
      obtain ⟨M, hM⟩ : ∃ M, sizeP (L.take k) = M := ⟨_, rfl⟩
      rw [hM] at hst ⊢
      rw [hst] at hbk
      have HST := Lib.hid hst
      have hMb : (M : Int) + ((s.size : Int) + 1) ≤ 100000 := by omega
      have hM0 : (0 : Int) ≤ (M : Int) := by omega
      clear hst hM hbk
      go_wp2
      go_round
      case rel => exact ⟨k + 1, by omega, by go_num, by rw [HST.out]; congr 1⟩
      case measure => simp [intOf]; omega
    · have hltI : ¬ (k : Int) < (L.length : Int) := by omega
      rw [List.take_of_length_le (by omega)]
      go_wp2
      go_ret
      exact ⟨rfl, rfl⟩
/-- Do two texts have the same lines? -/
def eqB (A B : List ByteArray) : Bool := decide (A = B)
theorem eqB_len {A B : List ByteArray} (h : ¬ A.length = B.length) : eqB A B = false := decide_eq_false (fun e => h (by rw [e]))
theorem eqB_at {A B : List ByteArray} {k : Nat} (h : ¬ (A.getD k .empty).toList = (B.getD k .empty).toList) : eqB A B = false := decide_eq_false (fun e => h (by rw [e]))
theorem eqB_all {A B : List ByteArray} (hl : A.length = B.length) (h : ∀ j, j < A.length → (A.getD j .empty).toList = (B.getD j .empty).toList) : eqB A B = true := decide_eq_true (by
  refine List.ext_getElem hl fun j h1 h2 => ?_
  have := h j h1
  rw [List.getD_eq_getElem?_getD, List.getD_eq_getElem?_getD, List.getElem?_eq_getElem h1, List.getElem?_eq_getElem h2] at this
  exact toList_inj this)
set_option maxRecDepth 100000 in
set_option maxHeartbeats 2000000 in
theorem equal_any (a b : Option Addr) (ca cb : Nat) (A B : List ByteArray) (w : World) (hA : LinesAt w a A) (hB : LinesAt w b B) (hl : A.length ≤ 100000) : Calls Try.prog 112 #[.slice a A.length ca, .slice b B.length cb] w fun e w' => e = .returned (.bool (eqB A B)) ∧ Below w.heap.size w w' := by
  have hAn := hA.2.1
  have hBn := hB.2.1
  by_cases hlen : A.length = B.length
  · have HA := Lib.hid hA
    have HB := Lib.hid hB
    have HLEN := Lib.hid hlen
    have hneI : ((A.length : Int) != (B.length : Int)) = false := by rw [bne_eq_false_iff_eq]; omega
    clear hA hB hlen
    go_enter Try.func112, Try.ntmps112
    go_wp2
    go_loopw [13] (fun i wr => ∃ k : Nat, k ≤ A.length ∧ i = .int .i64 k ∧ (∃ x, wr = ovr w x) ∧ Hid (∀ j, j < k → (A.getD j .empty).toList = (B.getD j .empty).toList)) (fun i _ => A.length - (intOf i).toNat)
    case atStart => exact ⟨0, Nat.zero_le _, rfl, ⟨{ w with heap := #[] }, by simp [ovr]⟩, Lib.hid (fun j h => by omega)⟩
    case round =>
      obtain ⟨k, hk, rfl, ⟨z, rfl⟩, HJ⟩ := hrel
      by_cases hlt : k < A.length
      · have hlen := HLEN.out
        have hltI : (k : Int) < (A.length : Int) := by omega
        have hltB : (k : Int) < (B.length : Int) := by omega
        have hk0 : (0 : Int) ≤ (k : Int) := by omega
        obtain ⟨g, off, s, rfl, hg, hcell, hs, HS⟩ := line_facts' HA.out hlt
        obtain ⟨g2, off2, s2, rfl, hg2, hcell2, hs2, HS2⟩ := line_facts' HB.out (i := k) (by omega)
        clear hlen
        cases hne : (s.toList == s2.toList) with
        | false =>
          have HY : Hid (eqB A B = false) := Lib.hid (eqB_at (k := k) (by rw [HS.out, HS2.out]; simpa using hne))
          go_wp2
          (refine wp_region_ovr (by kernel_rfl) (by kernel_rfl) ?_; (repeat (go_big_quiet_step (fail))); refine wpQuiet_nil ?_; rintro _ ⟨zq, rfl⟩)
          go_wp2
          go_ret
          exact ⟨ret_bool HY.out.symm, by (repeat (first | with_reducible exact Below.refl _ _ | (with_reducible refine Below.setCell ?_ ?_ _; rotate_left; · (first | exact Nat.le_refl _ | assumption | omega | (simp; done) | (simp; omega))) | (with_reducible refine Below.alloc ?_ ?_ _; rotate_left; · (first | exact Nat.le_refl _ | assumption | omega | (simp; done) | (simp; omega))) | with_reducible refine below_ovr_of ?_ | with_reducible refine drew_below ?_ _ | with_reducible refine Below.drew ?_ | with_reducible assumption))⟩
        | true =>
          have HJ2 : Hid (∀ j, j < k + 1 → (A.getD j .empty).toList = (B.getD j .empty).toList) := Lib.hid (fun j hj => by
            by_cases e : j = k
            · subst e; rw [HS.out, HS2.out]; simpa using hne
            · exact HJ.out j (by omega))
          clear HJ
          go_wp2
          (refine wp_region_ovr (by kernel_rfl) (by kernel_rfl) ?_; (repeat (go_big_quiet_step (fail))); refine wpQuiet_nil ?_; rintro _ ⟨zq, rfl⟩)
          go_wp2
          go_roundw
          case rel => exact ⟨k + 1, by omega, by go_num, ovr_of_below (by (repeat (first | with_reducible exact Below.refl _ _ | (with_reducible refine Below.setCell ?_ ?_ _; rotate_left; · (first | exact Nat.le_refl _ | assumption | omega | (simp; done) | (simp; omega))) | (with_reducible refine Below.alloc ?_ ?_ _; rotate_left; · (first | exact Nat.le_refl _ | assumption | omega | (simp; done) | (simp; omega))) | with_reducible refine below_ovr_of ?_ | with_reducible refine drew_below ?_ _ | with_reducible refine Below.drew ?_ | with_reducible assumption))), HJ2⟩
          case measure => simp [intOf]; omega
      · have hltI : ¬ (k : Int) < (A.length : Int) := by omega
        have HY : Hid (eqB A B = true) := Lib.hid (eqB_all HLEN.out (fun j hj => HJ.out j (by omega)))
        go_wp2
        go_ret
        exact ⟨ret_bool HY.out.symm, by (repeat (first | with_reducible exact Below.refl _ _ | (with_reducible refine Below.setCell ?_ ?_ _; rotate_left; · (first | exact Nat.le_refl _ | assumption | omega | (simp; done) | (simp; omega))) | (with_reducible refine Below.alloc ?_ ?_ _; rotate_left; · (first | exact Nat.le_refl _ | assumption | omega | (simp; done) | (simp; omega))) | with_reducible refine below_ovr_of ?_ | with_reducible refine drew_below ?_ _ | with_reducible refine Below.drew ?_ | with_reducible assumption))⟩
  · have hneI : ((A.length : Int) != (B.length : Int)) = true := by rw [bne_iff_ne]; omega
    have HY := Lib.hid (eqB_len hlen)
    clear hlen
    go_enter Try.func112, Try.ntmps112
    go_wp2
    go_ret
    exact ⟨ret_bool HY.out.symm, Below.refl _ _⟩
set_option maxRecDepth 100000 in
set_option maxHeartbeats 2000000 in
theorem same19_any (a b : Option Addr) (ca cb : Nat) (A B : List ByteArray) (w : World) (hA : LinesAt w a A) (hB : LinesAt w b B) (hl : A.length ≤ 100000) : Calls Try.prog 114 #[.slice a A.length ca, .slice b B.length cb] w fun e w' => e = .returned (.bool (eqB A B)) ∧ Below w.heap.size w w' := by
  have hAn := hA.2.1
  have hBn := hB.2.1
  by_cases hlen : A.length = B.length
  · have HA := Lib.hid hA
    have HB := Lib.hid hB
    have HLEN := Lib.hid hlen
    have hneI : ((A.length : Int) != (B.length : Int)) = false := by rw [bne_eq_false_iff_eq]; omega
    clear hA hB hlen
    go_enter Try.func114, Try.ntmps114
    go_wp2
    go_loopw [5] (fun i wr => ∃ k : Nat, k ≤ A.length ∧ i = .int .i64 k ∧ (∃ x, wr = ovr w x) ∧ Hid (∀ j, j < k → (A.getD j .empty).toList = (B.getD j .empty).toList)) (fun i _ => A.length - (intOf i).toNat)
    case atStart => exact ⟨0, Nat.zero_le _, rfl, ⟨{ w with heap := #[] }, by simp [ovr]⟩, Lib.hid (fun j h => by omega)⟩
    case round =>
      obtain ⟨k, hk, rfl, ⟨z, rfl⟩, HJ⟩ := hrel
      by_cases hlt : k < A.length
      · have hlen := HLEN.out
        have hltI : (k : Int) < (A.length : Int) := by omega
        have hltB : (k : Int) < (B.length : Int) := by omega
        have hk0 : (0 : Int) ≤ (k : Int) := by omega
        obtain ⟨g, off, s, rfl, hg, hcell, hs, HS⟩ := line_facts' HA.out hlt
        obtain ⟨g2, off2, s2, rfl, hg2, hcell2, hs2, HS2⟩ := line_facts' HB.out (i := k) (by omega)
        clear hlen
        cases hne : (s.toList == s2.toList) with
        | false =>
          have HY : Hid (eqB A B = false) := Lib.hid (eqB_at (k := k) (by rw [HS.out, HS2.out]; simpa using hne))
          go_wp2
          (refine wp_region_ovr (by kernel_rfl) (by kernel_rfl) ?_; (repeat (go_big_quiet_step (fail))); refine wpQuiet_nil ?_; rintro _ ⟨zq, rfl⟩)
          go_wp2
          go_ret
          exact ⟨ret_bool HY.out.symm, by (repeat (first | with_reducible exact Below.refl _ _ | (with_reducible refine Below.setCell ?_ ?_ _; rotate_left; · (first | exact Nat.le_refl _ | assumption | omega | (simp; done) | (simp; omega))) | (with_reducible refine Below.alloc ?_ ?_ _; rotate_left; · (first | exact Nat.le_refl _ | assumption | omega | (simp; done) | (simp; omega))) | with_reducible refine below_ovr_of ?_ | with_reducible refine drew_below ?_ _ | with_reducible refine Below.drew ?_ | with_reducible assumption))⟩
        | true =>
          have HJ2 : Hid (∀ j, j < k + 1 → (A.getD j .empty).toList = (B.getD j .empty).toList) := Lib.hid (fun j hj => by
            by_cases e : j = k
            · subst e; rw [HS.out, HS2.out]; simpa using hne
            · exact HJ.out j (by omega))
          clear HJ
          go_wp2
          (refine wp_region_ovr (by kernel_rfl) (by kernel_rfl) ?_; (repeat (go_big_quiet_step (fail))); refine wpQuiet_nil ?_; rintro _ ⟨zq, rfl⟩)
          go_wp2
          go_roundw
          case rel => exact ⟨k + 1, by omega, by go_num, ovr_of_below (by (repeat (first | with_reducible exact Below.refl _ _ | (with_reducible refine Below.setCell ?_ ?_ _; rotate_left; · (first | exact Nat.le_refl _ | assumption | omega | (simp; done) | (simp; omega))) | (with_reducible refine Below.alloc ?_ ?_ _; rotate_left; · (first | exact Nat.le_refl _ | assumption | omega | (simp; done) | (simp; omega))) | with_reducible refine below_ovr_of ?_ | with_reducible refine drew_below ?_ _ | with_reducible refine Below.drew ?_ | with_reducible assumption))), HJ2⟩
          case measure => simp [intOf]; omega
      · have hltI : ¬ (k : Int) < (A.length : Int) := by omega
        have HY : Hid (eqB A B = true) := Lib.hid (eqB_all HLEN.out (fun j hj => HJ.out j (by omega)))
        go_wp2
        go_ret
        exact ⟨ret_bool HY.out.symm, by (repeat (first | with_reducible exact Below.refl _ _ | (with_reducible refine Below.setCell ?_ ?_ _; rotate_left; · (first | exact Nat.le_refl _ | assumption | omega | (simp; done) | (simp; omega))) | (with_reducible refine Below.alloc ?_ ?_ _; rotate_left; · (first | exact Nat.le_refl _ | assumption | omega | (simp; done) | (simp; omega))) | with_reducible refine below_ovr_of ?_ | with_reducible refine drew_below ?_ _ | with_reducible refine Below.drew ?_ | with_reducible assumption))⟩
  · have hneI : ((A.length : Int) != (B.length : Int)) = true := by rw [bne_iff_ne]; omega
    have HY := Lib.hid (eqB_len hlen)
    clear hlen
    go_enter Try.func114, Try.ntmps114
    go_wp2
    go_ret
    exact ⟨ret_bool HY.out.symm, Below.refl _ _⟩
set_option maxRecDepth 100000 in
set_option maxHeartbeats 2000000 in
theorem strings_any (a b : Option Addr) (ca cb : Nat) (A B : List ByteArray) (w : World) (hA : LinesAt w a A) (hB : LinesAt w b B) (hl : A.length ≤ 100000) : Calls Try.prog 27 #[.slice a A.length ca, .slice b B.length cb] w fun e w' => e = .returned (.bool (eqB A B)) ∧ Below w.heap.size w w' := by
  have hAn := hA.2.1
  have hBn := hB.2.1
  by_cases hlen : A.length = B.length
  · have HA := Lib.hid hA
    have HB := Lib.hid hB
    have HLEN := Lib.hid hlen
    have hneI : ((A.length : Int) != (B.length : Int)) = false := by rw [bne_eq_false_iff_eq]; omega
    clear hA hB hlen
    go_enter Try.func27, Try.ntmps27
    go_wp2
    go_loopw [5] (fun i wr => ∃ k : Nat, k ≤ A.length ∧ i = .int .i64 k ∧ (∃ x, wr = ovr w x) ∧ Hid (∀ j, j < k → (A.getD j .empty).toList = (B.getD j .empty).toList)) (fun i _ => A.length - (intOf i).toNat)
    case atStart => exact ⟨0, Nat.zero_le _, rfl, ⟨{ w with heap := #[] }, by simp [ovr]⟩, Lib.hid (fun j h => by omega)⟩
    case round =>
      obtain ⟨k, hk, rfl, ⟨z, rfl⟩, HJ⟩ := hrel
      by_cases hlt : k < A.length
      · have hlen := HLEN.out
        have hltI : (k : Int) < (A.length : Int) := by omega
        have hltB : (k : Int) < (B.length : Int) := by omega
        have hk0 : (0 : Int) ≤ (k : Int) := by omega
        obtain ⟨g, off, s, rfl, hg, hcell, hs, HS⟩ := line_facts' HA.out hlt
        obtain ⟨g2, off2, s2, rfl, hg2, hcell2, hs2, HS2⟩ := line_facts' HB.out (i := k) (by omega)
        clear hlen
        cases hne : (s.toList == s2.toList) with
        | false =>
          have HY : Hid (eqB A B = false) := Lib.hid (eqB_at (k := k) (by rw [HS.out, HS2.out]; simpa using hne))
          go_wp2
          (refine wp_region_ovr (by kernel_rfl) (by kernel_rfl) ?_; (repeat (go_big_quiet_step (fail))); refine wpQuiet_nil ?_; rintro _ ⟨zq, rfl⟩)
          go_wp2
          go_ret
          exact ⟨ret_bool HY.out.symm, by (repeat (first | with_reducible exact Below.refl _ _ | (with_reducible refine Below.setCell ?_ ?_ _; rotate_left; · (first | exact Nat.le_refl _ | assumption | omega | (simp; done) | (simp; omega))) | (with_reducible refine Below.alloc ?_ ?_ _; rotate_left; · (first | exact Nat.le_refl _ | assumption | omega | (simp; done) | (simp; omega))) | with_reducible refine below_ovr_of ?_ | with_reducible refine drew_below ?_ _ | with_reducible refine Below.drew ?_ | with_reducible assumption))⟩
        | true =>
          have HJ2 : Hid (∀ j, j < k + 1 → (A.getD j .empty).toList = (B.getD j .empty).toList) := Lib.hid (fun j hj => by
            by_cases e : j = k
            · subst e; rw [HS.out, HS2.out]; simpa using hne
            · exact HJ.out j (by omega))
          clear HJ
          go_wp2
          (refine wp_region_ovr (by kernel_rfl) (by kernel_rfl) ?_; (repeat (go_big_quiet_step (fail))); refine wpQuiet_nil ?_; rintro _ ⟨zq, rfl⟩)
          go_wp2
          go_roundw
          case rel => exact ⟨k + 1, by omega, by go_num, ovr_of_below (by (repeat (first | with_reducible exact Below.refl _ _ | (with_reducible refine Below.setCell ?_ ?_ _; rotate_left; · (first | exact Nat.le_refl _ | assumption | omega | (simp; done) | (simp; omega))) | (with_reducible refine Below.alloc ?_ ?_ _; rotate_left; · (first | exact Nat.le_refl _ | assumption | omega | (simp; done) | (simp; omega))) | with_reducible refine below_ovr_of ?_ | with_reducible refine drew_below ?_ _ | with_reducible refine Below.drew ?_ | with_reducible assumption))), HJ2⟩
          case measure => simp [intOf]; omega
      · have hltI : ¬ (k : Int) < (A.length : Int) := by omega
        have HY : Hid (eqB A B = true) := Lib.hid (eqB_all HLEN.out (fun j hj => HJ.out j (by omega)))
        go_wp2
        go_ret
        exact ⟨ret_bool HY.out.symm, by (repeat (first | with_reducible exact Below.refl _ _ | (with_reducible refine Below.setCell ?_ ?_ _; rotate_left; · (first | exact Nat.le_refl _ | assumption | omega | (simp; done) | (simp; omega))) | (with_reducible refine Below.alloc ?_ ?_ _; rotate_left; · (first | exact Nat.le_refl _ | assumption | omega | (simp; done) | (simp; omega))) | with_reducible refine below_ovr_of ?_ | with_reducible refine drew_below ?_ _ | with_reducible refine Below.drew ?_ | with_reducible assumption))⟩
  · have hneI : ((A.length : Int) != (B.length : Int)) = true := by rw [bne_iff_ne]; omega
    have HY := Lib.hid (eqB_len hlen)
    clear hlen
    go_enter Try.func27, Try.ntmps27
    go_wp2
    go_ret
    exact ⟨ret_bool HY.out.symm, Below.refl _ _⟩
set_option maxRecDepth 100000 in
set_option maxHeartbeats 2000000 in
theorem clone_any (a : Option Addr) (cap : Nat) (L : List ByteArray) (w : World) (hL : LinesAt w a L) (hl : L.length ≤ 100000) : Calls Try.prog 73 #[.slice a L.length cap] w fun e w' =>
    ∃ v, e = .returned v ∧ w'.ownsRow w.heap.size 9 1 v L.length (L.map Value.string) ∧ Below w.heap.size w w' := by
  obtain ⟨i0, hi, hz0, hz1, hz2⟩ := info_parts infoStr
  have hsrc := Src.of_lines hL
  cases a with
  | none =>
    have h0 : L = [] := by
      rcases hL.split with h | ⟨_, _, e, _⟩
      · exact h
      · cases e
    subst h0
    have hnil := fun w0 : World => Lib.run_eql_slice_nil (P := Try.prog) w0 22 9 none 0 cap 0 0 Try.underlying22
    simp only [List.length_nil]
    go_enter Try.func73, Try.ntmps73
    go_wp2
    go_ret
    exact ⟨_, rfl, World.ownsRow_nil _ _ _ _, Below.refl _ _⟩
  | some p =>
    have hn : L.length ≤ 140737488351232 := hL.2.1
    have hnil := fun w0 : World => Lib.run_eql_slice_nil (P := Try.prog) w0 22 9 (some p) L.length cap 0 0 Try.underlying22
    go_enter Try.func73, Try.ntmps73
    go_wp2_with (at_builtin; refine wpList_append_src _ rfl _ _ 22 rfl w.heap.size 9 i0 (.string ⟨#[]⟩) 1 16 Try.underlying22 hi hz0 hz1 hz2 rfl (by decide) _ _ _ rfl (World.ownsRow_made w #[] 0 (Nat.le_refl _) (Nat.zero_le _) rfl) _ _ _ _ rfl (hsrc.below ((Below.refl _ _).alloc (Nat.le_refl _) _) (Nat.le_refl _)) (by unfold maxLen; omega) (by omega) (by simp) ?_; intro v' w2 hown' hgrow _)
    go_ret
    refine ⟨_, rfl, by simpa using hown', ((Below.refl _ _).alloc (Nat.le_refl _) _).grown hgrow (by simp) (fun r e => ?_)⟩
    have e2 : some w.heap.size = some r := e
    cases e2
    exact Nat.le_refl _
end Go.Proofs.Ytnaceobbbfbhhaa
