/- Do changes fit, of both. Conditions: lengths that a machine bears. -/
import Derived.Test.YtnaceobbbfbhhaaChgD
namespace Go.Proofs.Ytnaceobbbfbhhaa
open Go.RowKit Go.Shelf

theorem fits_ways {M : List ByteArray} {cs : List Chg} {k : Nat} {R : Bool} (hk : k < cs.length) (hR : fitsP M (cs.drop k) = R) (hs : sizeP M + sizeC (cs.drop k) ≤ 100000) :
    sizeP M + sizeP (cs.getD k (0, [], [])).2.1 + sizeP (cs.getD k (0, [], [])).2.2 ≤ 100000 ∧ ((applyP M (cs.getD k (0, [], [])) = none ∧ R = false) ∨
    ∃ M', applyP M (cs.getD k (0, [], [])) = some M' ∧ sizeP M' ≤ 100000 ∧ ((4096 < sizeP M' ∧ R = false) ∨ (sizeP M' ≤ 4096 ∧ fitsP M' (cs.drop (k + 1)) = R ∧ sizeP M' + sizeC (cs.drop (k + 1)) ≤ 100000))) := by
  rw [drop_at hk] at hR hs
  rw [sizeC_cons] at hs
  refine ⟨by omega, ?_⟩
  rw [fitsP] at hR
  cases h : applyP M (cs.getD k (0, [], [])) with
  | none => rw [h] at hR; exact .inl ⟨rfl, hR.symm⟩
  | some M' =>
    rw [h] at hR
    simp only at hR
    have := applyP_size h
    refine .inr ⟨M', rfl, by omega, ?_⟩
    by_cases h4 : sizeP M' ≤ 4096
    · rw [if_pos h4] at hR; exact .inr ⟨h4, hR, by omega⟩
    · rw [if_neg h4] at hR; exact .inl ⟨by omega, hR.symm⟩
theorem fits_end {M : List ByteArray} {cs : List Chg} {k : Nat} {R : Bool} (hk : ¬ k < cs.length) (hR : fitsP M (cs.drop k) = R) : R = true := by
  rw [List.drop_eq_nil_of_le (by omega)] at hR
  exact hR.symm
set_option maxRecDepth 100000 in
set_option maxHeartbeats 4000000 in
theorem pfits_any (a b : Option Addr) (cap cc : Nat) (L : List ByteArray) (cs : List Chg) (w : World) (hL : LinesAt w a L) (hc : L.length ≤ cap) (hC : ChgsAt w b cs) (hs : sizeP L + sizeC cs ≤ 100000) (hn : cs.length ≤ 100000)
    (hw : ∀ c ∈ cs, -9223372036854775808 ≤ c.1 ∧ c.1 ≤ 9223372036854775807) :
    Calls Try.prog 28 #[.slice a L.length cap, .slice b cs.length cc] w fun e w' => e = .returned (.bool (fitsP L cs)) ∧ Below w.heap.size w w' := by
  have lL := len_sizeP L
  obtain ⟨R, hR⟩ : ∃ R, fitsP L cs = R := ⟨_, rfl⟩
  rw [hR]
  have HC := Lib.hid hC
  have HW := Lib.hid hw
  have HR := Lib.hid hR
  have HS := Lib.hid hs
  clear hC hw hR
  go_enter Try.func28, Try.ntmps28
  go_wp2_with fail
  go_loopw [5, 13] (fun v i wr => ∃ (k : Nat) (M : List ByteArray) (ma : Option Addr) (mc : Nat), k ≤ cs.length ∧ i = .int .i64 k ∧ v = .slice ma M.length mc ∧ LinesAt wr ma M ∧ M.length ≤ mc ∧ (∃ x, wr = ovr w x) ∧ Hid (fitsP M (cs.drop k) = R ∧ sizeP M + sizeC (cs.drop k) ≤ 100000)) (fun _ i _ => cs.length - (intOf i).toNat)
  case atStart => exact ⟨0, L, a, cap, Nat.zero_le _, rfl, rfl, hL, hc, ⟨{ w with heap := #[] }, by simp [ovr]⟩, Lib.hid ⟨by rw [List.drop_zero]; exact HR.out, by rw [List.drop_zero]; exact HS.out⟩⟩
  case round =>
    obtain ⟨k, M, ma, mc, hk, rfl, rfl, hM, hMc, ⟨z, rfl⟩, HM⟩ := hrel
    by_cases hlt : k < cs.length
    · obtain ⟨hz, hway⟩ := fits_ways hlt HM.out.1 HM.out.2
      obtain ⟨g, off, rfl, hg, e0, ⟨ao, co, e1, hO, hOc⟩, ⟨an, cn, e2, hN, hNc⟩⟩ := (HC.out.ovr z) k hlt
      have hwk := HW.out (cs.getD k (0, [], [])) (by rw [List.getD_eq_getElem?_getD, List.getElem?_eq_getElem hlt]; exact List.getElem_mem hlt)
      have hltI : (k : Int) < (cs.length : Int) := by omega
      have hk0 : (0 : Int) ≤ (k : Int) := by omega
      clear HC HW
      obtain ⟨⟨at_, O, N⟩, hcc⟩ : ∃ c, cs.getD k (0, [], []) = c := ⟨_, rfl⟩
      rw [hcc] at hz hway e0 e1 e2 hO hN hOc hNc hwk
      clear hcc
      go_wp2_with fail
      go_at_call 74; refine (papply_any _ _ _ _ _ _ M O N at_ _ (by (repeat (first | assumption | refine LinesAt.ovr ?_ _ | refine LinesAt.alloc ?_ _ | refine LinesAt.drewN ?_ _ | refine LinesAt.drew ?_))) hMc (by (repeat (first | assumption | refine LinesAt.ovr ?_ _ | refine LinesAt.alloc ?_ _ | refine LinesAt.drewN ?_ _ | refine LinesAt.drew ?_))) (by (repeat (first | assumption | refine LinesAt.ovr ?_ _ | refine LinesAt.alloc ?_ _ | refine LinesAt.drewN ?_ _ | refine LinesAt.drew ?_))) hz hwk).mono ?_
      rintro e w1 ⟨⟨v, rfl, hv⟩, hbl⟩
      rcases hway with ⟨hno, hRn⟩ | ⟨M', hyes, hb', hway2⟩
      · rw [hno] at hv
        have hv' : v = .tuple #[.slice none 0 0, .bool false] := hv
        subst hv'
        subst hRn
        obtain ⟨y1, rfl⟩ := ovr_of_below hbl
        clear hbl hv
        go_wp2_with fail
        go_ret
        exact ⟨rfl, by (repeat (first | with_reducible exact Below.refl _ _ | (with_reducible refine Below.setCell ?_ ?_ _; rotate_left; · (first | exact Nat.le_refl _ | assumption | omega | (simp; done) | (simp; omega))) | (with_reducible refine Below.alloc ?_ ?_ _; rotate_left; · (first | exact Nat.le_refl _ | assumption | omega | (simp; done) | (simp; omega))) | with_reducible refine below_ovr_of ?_ | with_reducible refine drew_below ?_ _ | with_reducible refine Below.drew ?_ | with_reducible assumption))⟩
      · rw [hyes] at hv
        obtain ⟨a', c', rfl, hM', hMc'⟩ := hv
        obtain ⟨y1, rfl⟩ := ovr_of_below hbl
        clear hbl
        rcases hway2 with ⟨h4, hRn⟩ | ⟨h4, hR', hs'⟩
        · subst hRn
          have h4I : (4096 : Int) < ((sizeP M' : Nat) : Int) := by omega
          go_wp2_with fail
          go_at_call 76; refine (csize_any _ _ M' _ hM' hb').mono ?_
          rintro e w1 ⟨rfl, rfl⟩
          go_wp2_with fail
          go_ret
          exact ⟨rfl, by (repeat (first | with_reducible exact Below.refl _ _ | (with_reducible refine Below.setCell ?_ ?_ _; rotate_left; · (first | exact Nat.le_refl _ | assumption | omega | (simp; done) | (simp; omega))) | (with_reducible refine Below.alloc ?_ ?_ _; rotate_left; · (first | exact Nat.le_refl _ | assumption | omega | (simp; done) | (simp; omega))) | with_reducible refine below_ovr_of ?_ | with_reducible refine drew_below ?_ _ | with_reducible refine Below.drew ?_ | with_reducible assumption))⟩
        · have h4I : ¬ (4096 : Int) < ((sizeP M' : Nat) : Int) := by omega
          go_wp2_with fail
          go_at_call 76; refine (csize_any _ _ M' _ hM' hb').mono ?_
          rintro e w1 ⟨rfl, rfl⟩
          go_wp2_with fail
          go_roundw
          case rel => exact ⟨k + 1, M', a', c', by omega, by go_num, rfl, hM', hMc', ovr_of_below (by (repeat (first | with_reducible exact Below.refl _ _ | (with_reducible refine Below.setCell ?_ ?_ _; rotate_left; · (first | exact Nat.le_refl _ | assumption | omega | (simp; done) | (simp; omega))) | (with_reducible refine Below.alloc ?_ ?_ _; rotate_left; · (first | exact Nat.le_refl _ | assumption | omega | (simp; done) | (simp; omega))) | with_reducible refine below_ovr_of ?_ | with_reducible refine drew_below ?_ _ | with_reducible refine Below.drew ?_ | with_reducible assumption))), Lib.hid ⟨hR', hs'⟩⟩
          case measure => simp [intOf]; omega
    · have hRe := fits_end hlt HM.out.1
      subst hRe
      have hltI : ¬ (k : Int) < (cs.length : Int) := by omega
      go_wp2_with fail
      go_ret
      exact ⟨rfl, by (repeat (first | with_reducible exact Below.refl _ _ | (with_reducible refine Below.setCell ?_ ?_ _; rotate_left; · (first | exact Nat.le_refl _ | assumption | omega | (simp; done) | (simp; omega))) | (with_reducible refine Below.alloc ?_ ?_ _; rotate_left; · (first | exact Nat.le_refl _ | assumption | omega | (simp; done) | (simp; omega))) | with_reducible refine below_ovr_of ?_ | with_reducible refine drew_below ?_ _ | with_reducible refine Below.drew ?_ | with_reducible assumption))⟩
set_option maxRecDepth 100000 in
set_option maxHeartbeats 4000000 in
theorem rfits_any (a b : Option Addr) (cap cc : Nat) (L : List ByteArray) (cs : List Chg) (w : World) (hL : LinesAt w a L) (hc : L.length ≤ cap) (hC : ChgsAt w b cs) (hs : sizeP L + sizeC cs ≤ 100000) (hn : cs.length ≤ 100000)
    (hw : ∀ c ∈ cs, -9223372036854775808 ≤ c.1 ∧ c.1 ≤ 9223372036854775807) :
    Calls Try.prog 29 #[.slice a L.length cap, .slice b cs.length cc] w fun e w' => e = .returned (.bool (fitsP L cs)) ∧ Below w.heap.size w w' := by
  have lL := len_sizeP L
  obtain ⟨R, hR⟩ : ∃ R, fitsP L cs = R := ⟨_, rfl⟩
  rw [hR]
  have HC := Lib.hid hC
  have HW := Lib.hid hw
  have HR := Lib.hid hR
  have HS := Lib.hid hs
  clear hC hw hR
  go_enter Try.func29, Try.ntmps29
  go_wp2_with fail
  go_loopw [5, 6] (fun v i wr => ∃ (k : Nat) (M : List ByteArray) (ma : Option Addr) (mc : Nat), k ≤ cs.length ∧ i = .int .i64 k ∧ v = .slice ma M.length mc ∧ LinesAt wr ma M ∧ M.length ≤ mc ∧ (∃ x, wr = ovr w x) ∧ Hid (fitsP M (cs.drop k) = R ∧ sizeP M + sizeC (cs.drop k) ≤ 100000)) (fun _ i _ => cs.length - (intOf i).toNat)
  case atStart => exact ⟨0, L, a, cap, Nat.zero_le _, rfl, rfl, hL, hc, ⟨{ w with heap := #[] }, by simp [ovr]⟩, Lib.hid ⟨by rw [List.drop_zero]; exact HR.out, by rw [List.drop_zero]; exact HS.out⟩⟩
  case round =>
    obtain ⟨k, M, ma, mc, hk, rfl, rfl, hM, hMc, ⟨z, rfl⟩, HM⟩ := hrel
    by_cases hlt : k < cs.length
    · obtain ⟨hz, hway⟩ := fits_ways hlt HM.out.1 HM.out.2
      obtain ⟨g, off, rfl, hg, e0, ⟨ao, co, e1, hO, hOc⟩, ⟨an, cn, e2, hN, hNc⟩⟩ := (HC.out.ovr z) k hlt
      have hwk := HW.out (cs.getD k (0, [], [])) (by rw [List.getD_eq_getElem?_getD, List.getElem?_eq_getElem hlt]; exact List.getElem_mem hlt)
      have hltI : (k : Int) < (cs.length : Int) := by omega
      have hk0 : (0 : Int) ≤ (k : Int) := by omega
      clear HC HW
      obtain ⟨⟨at_, O, N⟩, hcc⟩ : ∃ c, cs.getD k (0, [], []) = c := ⟨_, rfl⟩
      rw [hcc] at hz hway e0 e1 e2 hO hN hOc hNc hwk
      clear hcc
      go_wp2_with fail
      go_at_call 75; refine (rone_any _ _ _ _ _ _ M O N at_ _ (by (repeat (first | assumption | refine LinesAt.ovr ?_ _ | refine LinesAt.alloc ?_ _ | refine LinesAt.drewN ?_ _ | refine LinesAt.drew ?_))) hMc (by (repeat (first | assumption | refine LinesAt.ovr ?_ _ | refine LinesAt.alloc ?_ _ | refine LinesAt.drewN ?_ _ | refine LinesAt.drew ?_))) (by (repeat (first | assumption | refine LinesAt.ovr ?_ _ | refine LinesAt.alloc ?_ _ | refine LinesAt.drewN ?_ _ | refine LinesAt.drew ?_))) hz hwk).mono ?_
      rintro e w1 ⟨⟨v, rfl, hv⟩, hbl⟩
      rcases hway with ⟨hno, hRn⟩ | ⟨M', hyes, hb', hway2⟩
      · rw [hno] at hv
        have hv' : v = .tuple #[.slice none 0 0, .bool false] := hv
        subst hv'
        subst hRn
        obtain ⟨y1, rfl⟩ := ovr_of_below hbl
        clear hbl hv
        go_wp2_with fail
        go_ret
        exact ⟨rfl, by (repeat (first | with_reducible exact Below.refl _ _ | (with_reducible refine Below.setCell ?_ ?_ _; rotate_left; · (first | exact Nat.le_refl _ | assumption | omega | (simp; done) | (simp; omega))) | (with_reducible refine Below.alloc ?_ ?_ _; rotate_left; · (first | exact Nat.le_refl _ | assumption | omega | (simp; done) | (simp; omega))) | with_reducible refine below_ovr_of ?_ | with_reducible refine drew_below ?_ _ | with_reducible refine Below.drew ?_ | with_reducible assumption))⟩
      · rw [hyes] at hv
        obtain ⟨a', c', rfl, hM', hMc', _⟩ := hv
        obtain ⟨y1, rfl⟩ := ovr_of_below hbl
        clear hbl
        rcases hway2 with ⟨h4, hRn⟩ | ⟨h4, hR', hs'⟩
        · subst hRn
          have h4I : (4096 : Int) < ((sizeP M' : Nat) : Int) := by omega
          go_wp2_with fail
          go_at_call 34; refine (rsize_any _ _ M' _ hM' hb').mono ?_
          rintro e w1 ⟨rfl, rfl⟩
          go_wp2_with fail
          go_ret
          exact ⟨rfl, by (repeat (first | with_reducible exact Below.refl _ _ | (with_reducible refine Below.setCell ?_ ?_ _; rotate_left; · (first | exact Nat.le_refl _ | assumption | omega | (simp; done) | (simp; omega))) | (with_reducible refine Below.alloc ?_ ?_ _; rotate_left; · (first | exact Nat.le_refl _ | assumption | omega | (simp; done) | (simp; omega))) | with_reducible refine below_ovr_of ?_ | with_reducible refine drew_below ?_ _ | with_reducible refine Below.drew ?_ | with_reducible assumption))⟩
        · have h4I : ¬ (4096 : Int) < ((sizeP M' : Nat) : Int) := by omega
          go_wp2_with fail
          go_at_call 34; refine (rsize_any _ _ M' _ hM' hb').mono ?_
          rintro e w1 ⟨rfl, rfl⟩
          go_wp2_with fail
          go_roundw
          case rel => exact ⟨k + 1, M', a', c', by omega, by go_num, rfl, hM', hMc', ovr_of_below (by (repeat (first | with_reducible exact Below.refl _ _ | (with_reducible refine Below.setCell ?_ ?_ _; rotate_left; · (first | exact Nat.le_refl _ | assumption | omega | (simp; done) | (simp; omega))) | (with_reducible refine Below.alloc ?_ ?_ _; rotate_left; · (first | exact Nat.le_refl _ | assumption | omega | (simp; done) | (simp; omega))) | with_reducible refine below_ovr_of ?_ | with_reducible refine drew_below ?_ _ | with_reducible refine Below.drew ?_ | with_reducible assumption))), Lib.hid ⟨hR', hs'⟩⟩
          case measure => simp [intOf]; omega
    · have hRe := fits_end hlt HM.out.1
      subst hRe
      have hltI : ¬ (k : Int) < (cs.length : Int) := by omega
      go_wp2_with fail
      go_ret
      exact ⟨rfl, by (repeat (first | with_reducible exact Below.refl _ _ | (with_reducible refine Below.setCell ?_ ?_ _; rotate_left; · (first | exact Nat.le_refl _ | assumption | omega | (simp; done) | (simp; omega))) | (with_reducible refine Below.alloc ?_ ?_ _; rotate_left; · (first | exact Nat.le_refl _ | assumption | omega | (simp; done) | (simp; omega))) | with_reducible refine below_ovr_of ?_ | with_reducible refine drew_below ?_ _ | with_reducible refine Below.drew ?_ | with_reducible assumption))⟩
end Go.Proofs.Ytnaceobbbfbhhaa
