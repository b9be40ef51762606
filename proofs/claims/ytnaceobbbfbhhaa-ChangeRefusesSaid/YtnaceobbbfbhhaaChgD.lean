/- Apply of many changes. Conditions: lengths that a machine bears. -/
import Derived.Test.YtnaceobbbfbhhaaChgB
import Derived.Test.YtnaceobbbfbhhaaChgQ
namespace Go.Proofs.Ytnaceobbbfbhhaa
open Go.RowKit Go.Shelf

set_option maxRecDepth 100000 in
set_option maxHeartbeats 4000000 in
theorem applies_any (a b : Option Addr) (cap cc : Nat) (L : List ByteArray) (cs : List Chg) (w : World) (hL : LinesAt w a L) (_hc : L.length ≤ cap) (hC : ChgsAt w b cs) (hs : sizeP L + sizeC cs ≤ 100000) (hn : cs.length ≤ 100000)
    (hw : ∀ c ∈ cs, -9223372036854775808 ≤ c.1 ∧ c.1 ≤ 9223372036854775807) :
    Calls Try.prog 25 #[.slice a L.length cap, .slice b cs.length cc] w fun e w' => (∃ v, e = .returned v ∧ AppV w' (applyAll L cs) v) ∧ Below w.heap.size w w' := by
  have lL := len_sizeP L
  obtain ⟨R, hR⟩ : ∃ R, applyAll L cs = R := ⟨_, rfl⟩
  rw [hR]
  have HC := Lib.hid hC
  have HW := Lib.hid hw
  have HR := Lib.hid hR
  have HS := Lib.hid hs
  clear hC hw hR
  go_enter Try.func25, Try.ntmps25
  go_wp2_with fail
  go_at_call 73; refine (clone_any _ _ L _ (by (repeat (first | assumption | refine LinesAt.ovr ?_ _ | refine LinesAt.alloc ?_ _ | refine LinesAt.drewN ?_ _ | refine LinesAt.drew ?_))) (by omega)).mono ?_; rintro e w1 ⟨v, rfl, hrow, hbl⟩; obtain ⟨ra, rc, rfl, hRL, hRc⟩ := lines_of_owns hrow rfl (by omega); obtain ⟨y1, rfl⟩ := ovr_of_below hbl; clear hbl hrow
  go_wp2_with fail
  go_loopw [6, 15] (fun v i wr => ∃ (k : Nat) (M : List ByteArray) (ma : Option Addr) (mc : Nat), k ≤ cs.length ∧ i = .int .i64 k ∧ v = .slice ma M.length mc ∧ LinesAt wr ma M ∧ M.length ≤ mc ∧ (∃ x, wr = ovr w x) ∧ Hid (applyAll M (cs.drop k) = R ∧ sizeP M + sizeC (cs.drop k) ≤ 100000)) (fun _ i _ => cs.length - (intOf i).toNat)
  case atStart => exact ⟨0, L, ra, rc, Nat.zero_le _, rfl, rfl, hRL, hRc, ovr_of_below (by (repeat (first | with_reducible exact Below.refl _ _ | (with_reducible refine Below.setCell ?_ ?_ _; rotate_left; · (first | exact Nat.le_refl _ | assumption | omega | (simp; done) | (simp; omega))) | (with_reducible refine Below.alloc ?_ ?_ _; rotate_left; · (first | exact Nat.le_refl _ | assumption | omega | (simp; done) | (simp; omega))) | with_reducible refine below_ovr_of ?_ | with_reducible refine drew_below ?_ _ | with_reducible refine Below.drew ?_ | with_reducible assumption))), Lib.hid ⟨by rw [List.drop_zero]; exact HR.out, by rw [List.drop_zero]; exact HS.out⟩⟩
  case round =>
    obtain ⟨k, M, ma, mc, hk, rfl, rfl, hM, hMc, ⟨z, rfl⟩, HM⟩ := hrel
    by_cases hlt : k < cs.length
    · obtain ⟨hz, hway⟩ := round_ways hlt HM.out.1 HM.out.2
      obtain ⟨g, off, rfl, hg, e0, ⟨ao, co, e1, hO, hOc⟩, ⟨an, cn, e2, hN, hNc⟩⟩ := (HC.out.ovr z) k hlt
      have hwk := HW.out (cs.getD k (0, [], [])) (by rw [List.getD_eq_getElem?_getD, List.getElem?_eq_getElem hlt]; exact List.getElem_mem hlt)
      have hltI : (k : Int) < (cs.length : Int) := by omega
      have hk0 : (0 : Int) ≤ (k : Int) := by omega
      clear HC HW
      obtain ⟨⟨at_, O, N⟩, hcc⟩ : ∃ c, cs.getD k (0, [], []) = c := ⟨_, rfl⟩
      rw [hcc] at hz hway e0 e1 e2 hO hN hOc hNc hwk
      clear hcc
      go_wp2_with fail
      go_at_call 74; refine (papply_any _ _ _ _ _ _ M O N at_ _ (by (repeat (first | assumption | refine LinesAt.ovr ?_ _ | refine LinesAt.alloc ?_ _ | refine LinesAt.drewN ?_ _ | refine LinesAt.drew ?_))) hMc (by (repeat (first | assumption | refine LinesAt.ovr ?_ _ | refine LinesAt.alloc ?_ _ | refine LinesAt.drewN ?_ _ | refine LinesAt.drew ?_))) (by (repeat (first | assumption | refine LinesAt.ovr ?_ _ | refine LinesAt.alloc ?_ _ | refine LinesAt.drewN ?_ _ | refine LinesAt.drew ?_))) hz hwk).mono ?_
      rintro e w1 ⟨⟨v, rfl, hv⟩, hbl⟩
      rcases hway with ⟨hno, hRn⟩ | ⟨M', hyes, hR', hs'⟩
      · rw [hno] at hv
        have hv' : v = .tuple #[.slice none 0 0, .bool false] := hv
        subst hv'
        obtain ⟨y1, rfl⟩ := ovr_of_below hbl
        clear hbl hv
        go_wp2_with fail
        go_ret2
        exact ⟨⟨_, rfl, by rw [hRn]; rfl⟩, by (repeat (first | with_reducible exact Below.refl _ _ | (with_reducible refine Below.setCell ?_ ?_ _; rotate_left; · (first | exact Nat.le_refl _ | assumption | omega | (simp; done) | (simp; omega))) | (with_reducible refine Below.alloc ?_ ?_ _; rotate_left; · (first | exact Nat.le_refl _ | assumption | omega | (simp; done) | (simp; omega))) | with_reducible refine below_ovr_of ?_ | with_reducible refine drew_below ?_ _ | with_reducible refine Below.drew ?_ | with_reducible assumption))⟩
      · rw [hyes] at hv
        obtain ⟨a', c', rfl, hM', hMc'⟩ := hv
        obtain ⟨y1, rfl⟩ := ovr_of_below hbl
        clear hbl
        go_wp2_with fail
        go_roundw
        case rel => exact ⟨k + 1, M', a', c', by omega, by go_num, rfl, hM', hMc', ovr_of_below (by (repeat (first | with_reducible exact Below.refl _ _ | (with_reducible refine Below.setCell ?_ ?_ _; rotate_left; · (first | exact Nat.le_refl _ | assumption | omega | (simp; done) | (simp; omega))) | (with_reducible refine Below.alloc ?_ ?_ _; rotate_left; · (first | exact Nat.le_refl _ | assumption | omega | (simp; done) | (simp; omega))) | with_reducible refine below_ovr_of ?_ | with_reducible refine drew_below ?_ _ | with_reducible refine Below.drew ?_ | with_reducible assumption))), Lib.hid ⟨hR', hs'⟩⟩
        case measure => simp [intOf]; omega
    · have hRe := round_end hlt HM.out.1
      have hltI : ¬ (k : Int) < (cs.length : Int) := by omega
      go_wp2_with fail
      go_ret2
      exact ⟨⟨_, rfl, by first | exact ⟨_, _, rfl, hM, hMc⟩ | (rw [hRe]; exact ⟨_, _, rfl, hM, hMc⟩)⟩, by (repeat (first | with_reducible exact Below.refl _ _ | (with_reducible refine Below.setCell ?_ ?_ _; rotate_left; · (first | exact Nat.le_refl _ | assumption | omega | (simp; done) | (simp; omega))) | (with_reducible refine Below.alloc ?_ ?_ _; rotate_left; · (first | exact Nat.le_refl _ | assumption | omega | (simp; done) | (simp; omega))) | with_reducible refine below_ovr_of ?_ | with_reducible refine drew_below ?_ _ | with_reducible refine Below.drew ?_ | with_reducible assumption))⟩
end Go.Proofs.Ytnaceobbbfbhhaa
