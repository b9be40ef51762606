/- Changes held against one another, a change's growth. Conditions: lengths that a machine bears. -/
import Derived.Test.YtnaceobbbfbhhaaChgD
namespace Go.Proofs.Ytnaceobbbfbhhaa
open Go.RowKit

theorem eqB_refl (A : List ByteArray) : eqB A A = true := decide_eq_true rfl
set_option maxRecDepth 100000 in
set_option maxHeartbeats 2000000 in
theorem grow_any (ao an : Option Addr) (co cn : Nat) (O N : List ByteArray) (at_ : Int) (w : World) (hO : LinesAt w ao O) (hN : LinesAt w an N) (h1 : sizeP O ≤ 100000) (h2 : sizeP N ≤ 100000) :
    Calls Try.prog 33 #[.agg #[.int .i64 at_, .slice ao O.length co, .slice an N.length cn]] w fun e w' => e = .returned (.int .i64 (((sizeP N : Nat) : Int) - ((sizeP O : Nat) : Int))) ∧ Below w.heap.size w w' := by
  have HO := Lib.hid hO
  have HN := Lib.hid hN
  have hw1 : IntKind.i64.wrap (((sizeP N : Nat) : Int) - ((sizeP O : Nat) : Int)) = ((sizeP N : Nat) : Int) - ((sizeP O : Nat) : Int) := IntWalk.i64_in _ (by omega)
  clear hO hN
  go_enter Try.func33, Try.ntmps33
  go_wp2_with fail
  (refine wp_region_ovr (by kernel_rfl) (by kernel_rfl) ?_; (repeat (go_big_quiet_step ((first | (go_at_call 76; with_reducible exact quiet_same (csize_any an cn N _ (LinesAt.ovr (LinesAt.alloc HN.out _) _) h2)) | (go_at_call 76; with_reducible exact quiet_same (csize_any ao co O _ (LinesAt.ovr (LinesAt.alloc HO.out _) _) h1)))))); refine wpQuiet_nil ?_; rintro _ ⟨zq, rfl⟩)
  go_wp2_with fail
  go_ret
  exact ⟨ret_int (by simp), by (repeat (first | with_reducible exact Below.refl _ _ | (with_reducible refine Below.setCell ?_ ?_ _; rotate_left; · (first | exact Nat.le_refl _ | assumption | omega | (simp; done) | (simp; omega))) | (with_reducible refine Below.alloc ?_ ?_ _; rotate_left; · (first | exact Nat.le_refl _ | assumption | omega | (simp; done) | (simp; omega))) | with_reducible refine below_ovr_of ?_ | with_reducible refine drew_below ?_ _ | with_reducible refine Below.drew ?_ | with_reducible assumption))⟩
set_option maxRecDepth 100000 in
set_option maxHeartbeats 2000000 in
theorem change_same (ao an bo bn : Option Addr) (co cn do_ dn : Nat) (O N : List ByteArray) (at_ : Int) (w : World) (hO : LinesAt w ao O) (hN : LinesAt w an N) (hO2 : LinesAt w bo O) (hN2 : LinesAt w bn N) (h1 : O.length ≤ 100000) (h2 : N.length ≤ 100000) :
    Calls Try.prog 77 #[.agg #[.int .i64 at_, .slice ao O.length co, .slice an N.length cn], .agg #[.int .i64 at_, .slice bo O.length do_, .slice bn N.length dn]] w fun e w' => e = .returned (.bool true) ∧ Below w.heap.size w w' := by
  go_enter Try.func77, Try.ntmps77
  go_wp2_with fail
  go_at_call 27; refine (strings_any _ _ _ _ O O _ (by (repeat (first | assumption | refine LinesAt.ovr ?_ _ | refine LinesAt.alloc ?_ _ | refine LinesAt.drewN ?_ _ | refine LinesAt.drew ?_))) (by (repeat (first | assumption | refine LinesAt.ovr ?_ _ | refine LinesAt.alloc ?_ _ | refine LinesAt.drewN ?_ _ | refine LinesAt.drew ?_))) h1).mono ?_; rw [eqB_refl]; rintro e w1 ⟨rfl, hbl⟩; obtain ⟨x1, rfl⟩ := ovr_of_below hbl; clear hbl
  go_wp2_with fail
  go_at_call 27; refine (strings_any _ _ _ _ N N _ (by (repeat (first | assumption | refine LinesAt.ovr ?_ _ | refine LinesAt.alloc ?_ _ | refine LinesAt.drewN ?_ _ | refine LinesAt.drew ?_))) (by (repeat (first | assumption | refine LinesAt.ovr ?_ _ | refine LinesAt.alloc ?_ _ | refine LinesAt.drewN ?_ _ | refine LinesAt.drew ?_))) h2).mono ?_; rw [eqB_refl]; rintro e w1 ⟨rfl, hbl⟩; obtain ⟨x2, rfl⟩ := ovr_of_below hbl; clear hbl
  go_wp2_with fail
  go_ret
  exact ⟨by simp, by (repeat (first | with_reducible exact Below.refl _ _ | (with_reducible refine Below.setCell ?_ ?_ _; rotate_left; · (first | exact Nat.le_refl _ | assumption | omega | (simp; done) | (simp; omega))) | (with_reducible refine Below.alloc ?_ ?_ _; rotate_left; · (first | exact Nat.le_refl _ | assumption | omega | (simp; done) | (simp; omega))) | with_reducible refine below_ovr_of ?_ | with_reducible refine drew_below ?_ _ | with_reducible refine Below.drew ?_ | with_reducible assumption))⟩
set_option maxRecDepth 100000 in
set_option maxHeartbeats 2000000 in
theorem changes_same (a b : Option Addr) (ca cb : Nat) (cs : List Chg) (w : World) (hA : ChgsAt w a cs) (hB : ChgsAt w b cs) (hn : cs.length ≤ 100000) (hs : sizeC cs ≤ 100000) :
    Calls Try.prog 30 #[.slice a cs.length ca, .slice b cs.length cb] w fun e w' => e = .returned (.bool true) ∧ Below w.heap.size w w' := by
  have HA := Lib.hid hA
  have HB := Lib.hid hB
  clear hA hB
  go_enter Try.func30, Try.ntmps30
  go_wp2_with fail
  go_loopw [5] (fun i wr => ∃ k : Nat, k ≤ cs.length ∧ i = .int .i64 k ∧ ∃ x, wr = ovr w x) (fun i _ => cs.length - (intOf i).toNat)
  case atStart => exact ⟨0, Nat.zero_le _, rfl, { w with heap := #[] }, by simp [ovr]⟩
  case round =>
    obtain ⟨k, hk, rfl, z, rfl⟩ := hrel
    by_cases hlt : k < cs.length
    · have hltI : (k : Int) < (cs.length : Int) := by omega
      have hk0 : (0 : Int) ≤ (k : Int) := by omega
      obtain ⟨g, off, rfl, hg, e0, ⟨ao, co, e1, hO, hOc⟩, ⟨an, cn, e2, hN, hNc⟩⟩ := HA.out k hlt
      obtain ⟨g', off', rfl, hg', f0, ⟨bo, do_, f1, hO', hOc'⟩, ⟨bn, dn, f2, hN', hNc'⟩⟩ := HB.out k hlt
      have hl1 : (cs.getD k (0, [], [])).2.1.length ≤ 100000 ∧ (cs.getD k (0, [], [])).2.2.length ≤ 100000 := by
        have := sizeC_get hlt
        have q1 := len_sizeP (cs.getD k (0, [], [])).2.1
        have q2 := len_sizeP (cs.getD k (0, [], [])).2.2
        omega
      obtain ⟨⟨at_, O, N⟩, hcc⟩ : ∃ c, cs.getD k (0, [], []) = c := ⟨_, rfl⟩
      rw [hcc] at e0 e1 e2 hO hN hOc hNc f0 f1 f2 hO' hN' hOc' hNc' hl1
      obtain ⟨hl1, hl2⟩ := hl1
      simp only at e0 e1 e2 hO hN hOc hNc f0 f1 f2 hO' hN' hOc' hNc' hl1 hl2
      clear hcc HA HB
      go_wp2_with fail
      (refine wp_region_ovr (by kernel_rfl) (by kernel_rfl) ?_; (repeat (go_big_quiet_step ((go_at_call 77; exact quiet_ovr (change_same _ _ _ _ _ _ _ _ O N _ _ (by (repeat (first | assumption | refine LinesAt.ovr ?_ _ | refine LinesAt.alloc ?_ _ | refine LinesAt.drewN ?_ _ | refine LinesAt.drew ?_))) (by (repeat (first | assumption | refine LinesAt.ovr ?_ _ | refine LinesAt.alloc ?_ _ | refine LinesAt.drewN ?_ _ | refine LinesAt.drew ?_))) (by (repeat (first | assumption | refine LinesAt.ovr ?_ _ | refine LinesAt.alloc ?_ _ | refine LinesAt.drewN ?_ _ | refine LinesAt.drew ?_))) (by (repeat (first | assumption | refine LinesAt.ovr ?_ _ | refine LinesAt.alloc ?_ _ | refine LinesAt.drewN ?_ _ | refine LinesAt.drew ?_))) hl1 hl2))))); refine wpQuiet_nil ?_; rintro _ ⟨zq, rfl⟩)
      go_wp2_with fail
      go_roundw
      case rel => exact ⟨k + 1, by omega, by go_num, ovr_of_below (by (repeat (first | with_reducible exact Below.refl _ _ | (with_reducible refine Below.setCell ?_ ?_ _; rotate_left; · (first | exact Nat.le_refl _ | assumption | omega | (simp; done) | (simp; omega))) | (with_reducible refine Below.alloc ?_ ?_ _; rotate_left; · (first | exact Nat.le_refl _ | assumption | omega | (simp; done) | (simp; omega))) | with_reducible refine below_ovr_of ?_ | with_reducible refine drew_below ?_ _ | with_reducible refine Below.drew ?_ | with_reducible assumption)))⟩
      case measure => simp [intOf]; omega
    · have hltI : ¬ (k : Int) < (cs.length : Int) := by omega
      go_wp2_with fail
      go_ret
      exact ⟨rfl, by (repeat (first | with_reducible exact Below.refl _ _ | (with_reducible refine Below.setCell ?_ ?_ _; rotate_left; · (first | exact Nat.le_refl _ | assumption | omega | (simp; done) | (simp; omega))) | (with_reducible refine Below.alloc ?_ ?_ _; rotate_left; · (first | exact Nat.le_refl _ | assumption | omega | (simp; done) | (simp; omega))) | with_reducible refine below_ovr_of ?_ | with_reducible refine drew_below ?_ _ | with_reducible refine Below.drew ?_ | with_reducible assumption))⟩
end Go.Proofs.Ytnaceobbbfbhhaa
