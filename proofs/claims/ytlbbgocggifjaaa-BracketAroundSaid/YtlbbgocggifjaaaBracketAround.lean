/- The walk of the law BracketAround. Conditions: none beyond what it says. -/
import Derived.Test.YtlbbgocggifjaaaBracketLaws
import Derived.Test.YtlbbgocggifjaaaRText
import Derived.Test.YtlbbgocggifjaaaBrkJoinP
import Derived.Deep.RegionHeld3
import Derived.Deep.CutRange
import Derived.OpenShut
import Derived.Laws.IdiomStrings
namespace Go.Proofs.Ytlbbgocggifjaaa
open Go.RowKit

theorem cell_ovrB {W x : World} {b o : Nat} {v : Value} (h : W.cell? ⟨b, o, none⟩ = some v) : (ovr W x).cell? ⟨b, o, none⟩ = some v :=
  ((below_ovr W x).cell (p := ⟨b, o, none⟩) (World.block_lt_of_cell? W _ h)).trans h
theorem lines_out {w w' : World} {R : List ByteArray} {e : Ending} (h : LinesOut w R e w') : ∃ a c y, e = .returned (.slice a R.length c) ∧ ovr w y = w' ∧ LinesAt w' a R := by
  obtain ⟨a, c, h1, h2, h3⟩ := h
  obtain ⟨y, hy⟩ := ovr_of_below h2
  exact ⟨a, c, y, h1, hy.symm, h3⟩
theorem calls_at5 {P : Program} {f : FuncId} {s x0 x1 x2 x3 x4 : Value} {w : World} {R : Ending → World → Prop} (h : Calls P f #[s, .agg #[x0, x1, x2, x3, x4]] w R) : Calls P f #[s, .agg #[x0, x1, x2, x3, x4]] w R := h
theorem conv_one (z : UInt8) (w : World) (b : Nat) (h : w.cell? ⟨b, 0, none⟩ = some (.int .u8 (z.toNat : Int))) : (convert 44 9 (.slice (some ⟨b, 0, none⟩) 1 1)).run Try.prog w = .ok (.string ⟨#[z]⟩) w :=
  run_convert_bytes_back w 44 9 5 ⟨b, 0, none⟩ 1 [z] Try.underlying44 Try.underlying5 Try.underlying9 (fun j hj => by
    obtain rfl : j = 0 := by simpa using hj
    simpa [Addr.add] using h)
set_option maxRecDepth 100000 in
set_option maxHeartbeats 8000000 in
theorem bracketAround_at0 (a : Option Addr) (cap : Nat) (L : List ByteArray) (sa sb sk sn : Int) (W : World) (hL : LinesAt W a L) (hsa : 0 ≤ sa ∧ sa ≤ 65535) (hsb : 0 ≤ sb ∧ sb ≤ 65535) (hsk : 0 ≤ sk ∧ sk ≤ 255) (hsn : 0 ≤ sn ∧ sn ≤ 255) (hk3 : sk % 3 = 0) (hli : textB L = true) :
    Calls Try.prog 12 #[.slice a L.length cap, .int .u16 sa, .int .u16 sb, .int .u8 sk, .int .u8 sn] W fun e W' => e = .returned (.bool true) ∧ Below W.heap.size W W' := by
  obtain ⟨h0, hn, htot, _⟩ := text_spec hli
  obtain ⟨pl, pc, hsl, hsc, hp_pl⟩ := seat_facts (L := L) (x := sa) (y := sb) h0 hsa.1
  have HSLpl := Lib.hid hsl
  have HSCpl := Lib.hid hsc
  have HLI := Lib.hid hli
  have hk3' : sk.tmod 3 = 0 := by rw [Int.tmod_eq_emod_of_nonneg hsk.1, hk3]
  obtain ⟨m, hm⟩ : ∃ m : Nat, sn % 3 = m := ⟨(sn % 3).toNat, by omega⟩
  have hm3 : sn.tmod 3 = (m : Int) := by rw [Int.tmod_eq_emod_of_nonneg hsn.1, hm]
  have hmlt : m < 3 := by omega
  have hLn : L.length ≤ 100000 := by omega
  have hLt : L.length + total L ≤ 100000 := by omega
  have ho : ((({ data := #[40, 91, 123] } : ByteArray)[0].toNat : Nat) : Int) = 40 := by decide
  have hc : ((({ data := #[41, 93, 125] } : ByteArray)[0].toNat : Nat) : Int) = 41 := by decide
  clear hsl hsc hli hm hk3
  rcases bracket_two L pl pc 40 ((m : Int) + 1) with ⟨hb1, hb2⟩ | ⟨fl, fc, tl, tc, hbb, he, hb1, hb2⟩
  · have HB1 := Lib.hid hb1
    have HB2 := Lib.hid hb2
    clear hb1 hb2
    go_enter Try.func12, Try.ntmps12
    go_wp2_with (first | (go_at_call 53; refine (known17_any _).mono ?_; rintro e w1 ⟨rfl, hbl⟩; obtain ⟨x, rfl⟩ := ovr_of_below hbl; clear hbl) | (go_at_call 30; refine (text_any _ _ L _ (by (repeat (first | assumption | refine LinesAt.ovr ?_ _ | refine LinesAt.alloc ?_ _ | refine LinesAt.drewN ?_ _ | refine LinesAt.drew ?_)))).mono ?_; rw [HLI.out]; rintro e w1 ⟨rfl, rfl⟩) | (go_at_call 31; refine (seat_at _ _ L _ _ _ (by (repeat (first | assumption | refine LinesAt.ovr ?_ _ | refine LinesAt.alloc ?_ _ | refine LinesAt.drewN ?_ _ | refine LinesAt.drew ?_))) h0 hsa hsb HSLpl HSCpl).mono ?_; rintro e w1 ⟨rfl, hbl⟩; obtain ⟨x, rfl⟩ := ovr_of_below hbl; clear hbl))
    go_at_call 54; refine (binner_any _ _ L _ _ _ _ _ (by (repeat (first | assumption | refine LinesAt.ovr ?_ _ | refine LinesAt.alloc ?_ _ | refine LinesAt.drewN ?_ _ | refine LinesAt.drew ?_))) (by omega) (by omega)).mono ?_; rw [HB1.out]; rintro e w1 ⟨rfl, hbl⟩; obtain ⟨x1, rfl⟩ := ovr_of_below hbl; clear hbl
    go_wp2_with fail
    go_at_call 56; refine (baround_any _ _ L _ _ _ _ _ (by (repeat (first | assumption | refine LinesAt.ovr ?_ _ | refine LinesAt.alloc ?_ _ | refine LinesAt.drewN ?_ _ | refine LinesAt.drew ?_))) (by omega) (by omega)).mono ?_; rw [HB2.out]; rintro e w1 ⟨rfl, hbl⟩; obtain ⟨x2, rfl⟩ := ovr_of_below hbl; clear hbl
    go_wp2
    go_ret
    exact ⟨by simp, by (repeat (first | with_reducible exact Below.refl _ _ | (with_reducible refine Below.setCell ?_ ?_ _; rotate_left; · (first | exact Nat.le_refl _ | assumption | omega | (simp; done) | (simp; omega))) | (with_reducible refine Below.alloc ?_ ?_ _; rotate_left; · (first | exact Nat.le_refl _ | assumption | omega | (simp; done) | (simp; omega))) | with_reducible refine below_ovr_of ?_ | with_reducible refine drew_below ?_ _ | with_reducible refine Below.drew ?_ | with_reducible assumption))⟩
  · have hbj := bracket_join (L := L) (pl := pl) (pc := pc) (n := (m : Int) + 1) (o := 40) (s := 41) (by decide) (by decide) hbb he
    obtain ⟨f, t, A, B, q, rfl, rfl, hv1, hv2, hA, hB, hlA, hlB, hqL, hsA, hsB, hJ⟩ := hbj
    obtain ⟨N, hN⟩ : ∃ N, q + 1 = N := ⟨_, rfl⟩
    rw [hN] at hlA hlB hqL hJ
    have hN1 : 1 ≤ N := by omega
    clear hN
    obtain ⟨fc1, hfc1⟩ : ∃ v, fc + 1 = v := ⟨_, rfl⟩
    obtain ⟨tc1, htc1⟩ : ∃ v, tc + 1 = v := ⟨_, rfl⟩
    rw [hfc1] at hb1 hA hv1
    rw [htc1] at hb2 hB hv2
    clear hfc1 htc1
    have HB1 := Lib.hid hb1
    have HB2 := Lib.hid hb2
    have HA := Lib.hid hA
    have HBB := Lib.hid hB
    have HSA := Lib.hid hsA
    have HSB := Lib.hid hsB
    have HJ := Lib.hid hJ
    have HV1 := Lib.hid hv1
    have HV2 := Lib.hid hv2
    have HLA := Lib.hid hlA
    have HLB := Lib.hid hlB
    clear hb1 hb2 hA hB hsA hsB hJ hv1 hv2 hbb he hlA hlB
    go_enter Try.func12, Try.ntmps12
    go_wp2_with (first | (go_at_call 53; refine (known17_any _).mono ?_; rintro e w1 ⟨rfl, hbl⟩; obtain ⟨x, rfl⟩ := ovr_of_below hbl; clear hbl) | (go_at_call 30; refine (text_any _ _ L _ (by (repeat (first | assumption | refine LinesAt.ovr ?_ _ | refine LinesAt.alloc ?_ _ | refine LinesAt.drewN ?_ _ | refine LinesAt.drew ?_)))).mono ?_; rw [HLI.out]; rintro e w1 ⟨rfl, rfl⟩) | (go_at_call 31; refine (seat_at _ _ L _ _ _ (by (repeat (first | assumption | refine LinesAt.ovr ?_ _ | refine LinesAt.alloc ?_ _ | refine LinesAt.drewN ?_ _ | refine LinesAt.drew ?_))) h0 hsa hsb HSLpl HSCpl).mono ?_; rintro e w1 ⟨rfl, hbl⟩; obtain ⟨x, rfl⟩ := ovr_of_below hbl; clear hbl))
    go_at_call 54; refine (binner_any _ _ L _ _ _ _ _ (by (repeat (first | assumption | refine LinesAt.ovr ?_ _ | refine LinesAt.alloc ?_ _ | refine LinesAt.drewN ?_ _ | refine LinesAt.drew ?_))) (by omega) (by omega)).mono ?_; rw [HB1.out]; rintro e w1 ⟨rfl, hbl⟩; obtain ⟨x1, rfl⟩ := ovr_of_below hbl; clear hbl
    go_wp2_with fail
    go_at_call 56; refine (baround_any _ _ L _ _ _ _ _ (by (repeat (first | assumption | refine LinesAt.ovr ?_ _ | refine LinesAt.alloc ?_ _ | refine LinesAt.drewN ?_ _ | refine LinesAt.drew ?_))) (by omega) (by omega)).mono ?_; rw [HB2.out]; rintro e w1 ⟨rfl, hbl⟩; obtain ⟨x2, rfl⟩ := ovr_of_below hbl; clear hbl
    go_upto_region 12 with fail
    refine name_ptr4 16 rfl ?_
    intro P2 hP2
    refine name_ptr4 14 rfl ?_
    intro P1 hP1
    rw [← hP2, ← hP1]
    refine name_world ?_
    intro W0 hW
    have gP10 : W0.cell? ⟨P1, 0, none⟩ = some (.int .i64 0) := by subst hW hP1 hP2; simp [go_sem]
    have gP11 : W0.cell? ⟨P1, 1, none⟩ = some (.int .i64 (f : Int)) := by subst hW hP1 hP2; simp [go_sem]
    have gP12 : W0.cell? ⟨P1, 2, none⟩ = some (.int .i64 fc1) := by subst hW hP1 hP2; simp [go_sem]
    have gP13 : W0.cell? ⟨P1, 3, none⟩ = some (.int .i64 (t : Int)) := by subst hW hP1 hP2; simp [go_sem]
    have gP14 : W0.cell? ⟨P1, 4, none⟩ = some (.int .i64 tc) := by subst hW hP1 hP2; simp [go_sem]
    have gP20 : W0.cell? ⟨P2, 0, none⟩ = some (.int .i64 0) := by subst hW hP1 hP2; simp [go_sem]
    have gP21 : W0.cell? ⟨P2, 1, none⟩ = some (.int .i64 (f : Int)) := by subst hW hP1 hP2; simp [go_sem]
    have gP22 : W0.cell? ⟨P2, 2, none⟩ = some (.int .i64 fc) := by subst hW hP1 hP2; simp [go_sem]
    have gP23 : W0.cell? ⟨P2, 3, none⟩ = some (.int .i64 (t : Int)) := by subst hW hP1 hP2; simp [go_sem]
    have gP24 : W0.cell? ⟨P2, 4, none⟩ = some (.int .i64 tc1) := by subst hW hP1 hP2; simp [go_sem]
    have hL0 : LinesAt W0 a L := by subst hW; (repeat (first | assumption | refine LinesAt.ovr ?_ _ | refine LinesAt.alloc ?_ _ | refine LinesAt.drewN ?_ _ | refine LinesAt.drew ?_))
    have hb0 : Below W.heap.size W W0 := by subst hW; (repeat (first | with_reducible exact Below.refl _ _ | (with_reducible refine Below.setCell ?_ ?_ _; rotate_left; · (first | exact Nat.le_refl _ | assumption | omega | (simp; done) | (simp; omega))) | (with_reducible refine Below.alloc ?_ ?_ _; rotate_left; · (first | exact Nat.le_refl _ | assumption | omega | (simp; done) | (simp; omega))) | with_reducible refine below_ovr_of ?_ | with_reducible refine drew_below ?_ _ | with_reducible refine Below.drew ?_ | with_reducible assumption))
    have lP1 := cell_lt4 gP10
    have lP2 := cell_lt4 gP20
    have hb0s := hb0.size
    clear hW hP1 hP2
    go_cut [18, 19] from 69 to 74 (fun v1 v2 wx => ∃ a1 c1 a2 c2, v1 = .slice a1 N c1 ∧ v2 = .slice a2 N c2 ∧ LinesAt wx a1 A ∧ LinesAt wx a2 B ∧ Below W.heap.size W wx)
    case first =>
      go_region_held3 (fun w' => w'.cell? ⟨P1, 0, none⟩ = some (.int .i64 0) ∧ w'.cell? ⟨P1, 1, none⟩ = some (.int .i64 (f : Int)) ∧ w'.cell? ⟨P1, 2, none⟩ = some (.int .i64 fc1) ∧ w'.cell? ⟨P1, 3, none⟩ = some (.int .i64 (t : Int)) ∧ w'.cell? ⟨P1, 4, none⟩ = some (.int .i64 tc) ∧ w'.cell? ⟨P2, 0, none⟩ = some (.int .i64 0) ∧ w'.cell? ⟨P2, 1, none⟩ = some (.int .i64 (f : Int)) ∧ w'.cell? ⟨P2, 2, none⟩ = some (.int .i64 fc) ∧ w'.cell? ⟨P2, 3, none⟩ = some (.int .i64 (t : Int)) ∧ w'.cell? ⟨P2, 4, none⟩ = some (.int .i64 tc1)) ((go_split_ands; (repeat' apply And.intro) <;> first | assumption | (refine cell_ovrB ?_; assumption) | (simp [go_sem]; done) | (simp [go_sem, *]; done) | (simp [go_sem]; omega))) ((first | (go_at_call 57; with_reducible refine calls_at5 (x2 := .int .i64 fc1) ?_; refine (rtext_char _ _ L f fc1 t tc _ (by (repeat (first | assumption | refine LinesAt.ovr ?_ _ | refine LinesAt.alloc ?_ _ | refine LinesAt.drewN ?_ _ | refine LinesAt.drew ?_))) hLn HV1.out).mono ?_; rw [HA.out]; intro e w1 hlo; obtain ⟨aa1, cc1, y1, rfl, rfl, hll1⟩ := lines_out hlo; clear hlo) | (go_at_call 57; with_reducible refine calls_at5 (x2 := .int .i64 fc) ?_; refine (rtext_char _ _ L f fc t tc1 _ (by (repeat (first | assumption | refine LinesAt.ovr ?_ _ | refine LinesAt.alloc ?_ _ | refine LinesAt.drewN ?_ _ | refine LinesAt.drew ?_))) hLn HV2.out).mono ?_; rw [HBB.out]; intro e w1 hlo; obtain ⟨aa2, cc2, y2, rfl, rfl, hll2⟩ := lines_out hlo; clear hlo)))
      all_goals (
        go_wp2_with fail
        go_meet
        case rel => exact ⟨_, _, _, _, by rw [HLA.out], by rw [HLB.out], by (repeat (first | assumption | refine LinesAt.ovr ?_ _ | refine LinesAt.alloc ?_ _ | refine LinesAt.drewN ?_ _ | refine LinesAt.drew ?_)), by (repeat (first | assumption | refine LinesAt.ovr ?_ _ | refine LinesAt.alloc ?_ _ | refine LinesAt.drewN ?_ _ | refine LinesAt.drew ?_)), by (repeat (first | with_reducible exact Below.refl _ _ | (with_reducible refine Below.setCell ?_ ?_ _; rotate_left; · (first | exact Nat.le_refl _ | assumption | omega | (simp; done) | (simp; omega))) | (with_reducible refine Below.alloc ?_ ?_ _; rotate_left; · (first | exact Nat.le_refl _ | assumption | omega | (simp; done) | (simp; omega))) | with_reducible refine below_ovr_of ?_ | with_reducible refine drew_below ?_ _ | with_reducible refine Below.drew ?_ | with_reducible assumption))⟩)
    obtain ⟨a1, c1, a2, c2, rfl, rfl, hLA, hLB, hbV⟩ := hcut
    rename World => V
    have hbVs := hbV.size
    go_wp2_with fail
    go_loopw [20, 21, 22] (fun s t i wr => ∃ k : Nat, k ≤ N ∧ i = .int .i64 k ∧ s = .string (joinB A k) ∧ t = .string (joinB B k) ∧ ∃ x, wr = ovr V x) (fun _ _ i _ => N - (intOf i).toNat)
    case atStart => exact ⟨0, Nat.zero_le _, rfl, rfl, rfl, { V with heap := #[] }, by simp [ovr]⟩
    case round =>
      obtain ⟨k, hk, rfl, rfl, rfl, z, rfl⟩ := hrel
      have hz1 := joinB_le (k := k) HSA.out htot (by omega)
      have hz2 := joinB_le (k := k) HSB.out htot (by omega)
      obtain ⟨SA, hSA⟩ : ∃ S, joinB A k = S := ⟨_, rfl⟩
      obtain ⟨SB, hSB⟩ : ∃ S, joinB B k = S := ⟨_, rfl⟩
      rw [hSA] at hz1 ⊢
      rw [hSB] at hz2 ⊢
      by_cases hlt : k < N
      · have hltI : (k : Int) < (N : Int) := by omega
        have hk0 : (0 : Int) ≤ (k : Int) := by omega
        obtain ⟨b1, off1, rfl, hb1, hcell1, hs1⟩ := hLA.line (i := k) (by rw [HLA.out]; exact hlt)
        obtain ⟨b2, off2, rfl, hb2, hcell2, hs2⟩ := hLB.line (i := k) (by rw [HLB.out]; exact hlt)
        have hy1 := HSA.out k
        have hy2 := HSB.out k
        have HN1 : Hid (joinB A (k + 1) = SA ++ A.getD k .empty ++ ⟨#[10]⟩) := Lib.hid (by rw [joinB, hSA])
        have HN2 : Hid (joinB B (k + 1) = SB ++ B.getD k .empty ++ ⟨#[10]⟩) := Lib.hid (by rw [joinB, hSB])
        obtain ⟨u1, hu1⟩ : ∃ u, A.getD k .empty = u := ⟨_, rfl⟩
        obtain ⟨u2, hu2⟩ : ∃ u, B.getD k .empty = u := ⟨_, rfl⟩
        rw [hu1] at hcell1 hs1 hy1 HN1
        rw [hu2] at hcell2 hs2 hy2 HN2
        have w1 : ¬ (9223372036854775807 < SA.size + u1.size) := by omega
        have w2 : ¬ (9223372036854775807 < SA.size + u1.size + 1) := by omega
        have w3 : ¬ (9223372036854775807 < SB.size + u2.size) := by omega
        have w4 : ¬ (9223372036854775807 < SB.size + u2.size + 1) := by omega
        clear hSA hSB hu1 hu2
        go_wp2
        go_quiet (fail)
        go_wp2_with fail
        go_roundw
        case rel => exact ⟨k + 1, by omega, by go_num, by rw [HN1.out], by rw [HN2.out], _, rfl⟩
        case measure => simp [intOf] <;> omega
      · obtain rfl : k = N := by omega
        have hj := HJ.out
        rw [hSA, hSB] at hj
        have hpos : 1 ≤ SA.size := by rw [← hSA]; exact joinB_pos hN1
        obtain ⟨E, hE⟩ : ∃ E, SA.extract 0 (SA.size - 1) = E := ⟨_, rfl⟩
        have hEs : E.size ≤ SA.size := by rw [← hE]; exact size_extract_le _ _ _
        rw [hE] at hj
        have HJ2 := Lib.hid hj
        have hT : ((SA.size : Int) - 1).toNat = SA.size - 1 := by omega
        have hp0 : (0 : Int) ≤ (SA.size : Int) - 1 := by omega
        have hp1 : (SA.size : Int) - 1 ≤ (SA.size : Int) := by omega
        have w1 : ¬ (9223372036854775807 < 1 + E.size) := by omega
        have w2 : ¬ (9223372036854775807 < 1 + E.size + 1) := by omega
        have w3 : ¬ (9223372036854775807 < 1 + E.size + 1 + 1) := by omega
        clear hj hSA hSB hk
        have hnn : ¬ (k : Int) < (k : Int) := by omega
        go_wp2_with fail
        refine name_world ?_
        intro X hX
        have hbX : Below W.heap.size W X := by rw [hX]; (repeat (first | with_reducible exact Below.refl _ _ | (with_reducible refine Below.setCell ?_ ?_ _; rotate_left; · (first | exact Nat.le_refl _ | assumption | omega | (simp; done) | (simp; omega))) | (with_reducible refine Below.alloc ?_ ?_ _; rotate_left; · (first | exact Nat.le_refl _ | assumption | omega | (simp; done) | (simp; omega))) | with_reducible refine below_ovr_of ?_ | with_reducible refine drew_below ?_ _ | with_reducible refine Below.drew ?_ | with_reducible assumption))
        have hbXs := hbX.size
        clear hX
        have hcv1 : ∀ (w : World) (b : Nat), w.cell? ⟨b, 0, none⟩ = some (.int .u8 40) → (convert 44 9 (.slice (some ⟨b, 0, none⟩) 1 1)).run Try.prog w = .ok (.string ⟨#[40]⟩) w := fun w b h => conv_one 40 w b h
        have hcv2 : ∀ (w : World) (b : Nat), w.cell? ⟨b, 0, none⟩ = some (.int .u8 41) → (convert 44 9 (.slice (some ⟨b, 0, none⟩) 1 1)).run Try.prog w = .ok (.string ⟨#[41]⟩) w := fun w b h => conv_one 41 w b h
        go_region
        all_goals go_wp2_with fail
        all_goals (
          go_ret
          exact ⟨ret_bool (by rw [HJ2.out]; simp), by (repeat (first | with_reducible exact Below.refl _ _ | (with_reducible refine Below.setCell ?_ ?_ _; rotate_left; · (first | exact Nat.le_refl _ | assumption | omega | (simp; done) | (simp; omega))) | (with_reducible refine Below.alloc ?_ ?_ _; rotate_left; · (first | exact Nat.le_refl _ | assumption | omega | (simp; done) | (simp; omega))) | with_reducible refine below_ovr_of ?_ | with_reducible refine drew_below ?_ _ | with_reducible refine Below.drew ?_ | with_reducible assumption))⟩)
set_option maxRecDepth 100000 in
set_option maxHeartbeats 8000000 in
theorem bracketAround_at1 (a : Option Addr) (cap : Nat) (L : List ByteArray) (sa sb sk sn : Int) (W : World) (hL : LinesAt W a L) (hsa : 0 ≤ sa ∧ sa ≤ 65535) (hsb : 0 ≤ sb ∧ sb ≤ 65535) (hsk : 0 ≤ sk ∧ sk ≤ 255) (hsn : 0 ≤ sn ∧ sn ≤ 255) (hk3 : sk % 3 = 1) (hli : textB L = true) :
    Calls Try.prog 12 #[.slice a L.length cap, .int .u16 sa, .int .u16 sb, .int .u8 sk, .int .u8 sn] W fun e W' => e = .returned (.bool true) ∧ Below W.heap.size W W' := by
  obtain ⟨h0, hn, htot, _⟩ := text_spec hli
  obtain ⟨pl, pc, hsl, hsc, hp_pl⟩ := seat_facts (L := L) (x := sa) (y := sb) h0 hsa.1
  have HSLpl := Lib.hid hsl
  have HSCpl := Lib.hid hsc
  have HLI := Lib.hid hli
  have hk3' : sk.tmod 3 = 1 := by rw [Int.tmod_eq_emod_of_nonneg hsk.1, hk3]
  obtain ⟨m, hm⟩ : ∃ m : Nat, sn % 3 = m := ⟨(sn % 3).toNat, by omega⟩
  have hm3 : sn.tmod 3 = (m : Int) := by rw [Int.tmod_eq_emod_of_nonneg hsn.1, hm]
  have hmlt : m < 3 := by omega
  have hLn : L.length ≤ 100000 := by omega
  have hLt : L.length + total L ≤ 100000 := by omega
  have ho : ((({ data := #[40, 91, 123] } : ByteArray)[1].toNat : Nat) : Int) = 91 := by decide
  have hc : ((({ data := #[41, 93, 125] } : ByteArray)[1].toNat : Nat) : Int) = 93 := by decide
  clear hsl hsc hli hm hk3
  rcases bracket_two L pl pc 91 ((m : Int) + 1) with ⟨hb1, hb2⟩ | ⟨fl, fc, tl, tc, hbb, he, hb1, hb2⟩
  · have HB1 := Lib.hid hb1
    have HB2 := Lib.hid hb2
    clear hb1 hb2
    go_enter Try.func12, Try.ntmps12
    go_wp2_with (first | (go_at_call 53; refine (known17_any _).mono ?_; rintro e w1 ⟨rfl, hbl⟩; obtain ⟨x, rfl⟩ := ovr_of_below hbl; clear hbl) | (go_at_call 30; refine (text_any _ _ L _ (by (repeat (first | assumption | refine LinesAt.ovr ?_ _ | refine LinesAt.alloc ?_ _ | refine LinesAt.drewN ?_ _ | refine LinesAt.drew ?_)))).mono ?_; rw [HLI.out]; rintro e w1 ⟨rfl, rfl⟩) | (go_at_call 31; refine (seat_at _ _ L _ _ _ (by (repeat (first | assumption | refine LinesAt.ovr ?_ _ | refine LinesAt.alloc ?_ _ | refine LinesAt.drewN ?_ _ | refine LinesAt.drew ?_))) h0 hsa hsb HSLpl HSCpl).mono ?_; rintro e w1 ⟨rfl, hbl⟩; obtain ⟨x, rfl⟩ := ovr_of_below hbl; clear hbl))
    go_at_call 54; refine (binner_any _ _ L _ _ _ _ _ (by (repeat (first | assumption | refine LinesAt.ovr ?_ _ | refine LinesAt.alloc ?_ _ | refine LinesAt.drewN ?_ _ | refine LinesAt.drew ?_))) (by omega) (by omega)).mono ?_; rw [HB1.out]; rintro e w1 ⟨rfl, hbl⟩; obtain ⟨x1, rfl⟩ := ovr_of_below hbl; clear hbl
    go_wp2_with fail
    go_at_call 56; refine (baround_any _ _ L _ _ _ _ _ (by (repeat (first | assumption | refine LinesAt.ovr ?_ _ | refine LinesAt.alloc ?_ _ | refine LinesAt.drewN ?_ _ | refine LinesAt.drew ?_))) (by omega) (by omega)).mono ?_; rw [HB2.out]; rintro e w1 ⟨rfl, hbl⟩; obtain ⟨x2, rfl⟩ := ovr_of_below hbl; clear hbl
    go_wp2
    go_ret
    exact ⟨by simp, by (repeat (first | with_reducible exact Below.refl _ _ | (with_reducible refine Below.setCell ?_ ?_ _; rotate_left; · (first | exact Nat.le_refl _ | assumption | omega | (simp; done) | (simp; omega))) | (with_reducible refine Below.alloc ?_ ?_ _; rotate_left; · (first | exact Nat.le_refl _ | assumption | omega | (simp; done) | (simp; omega))) | with_reducible refine below_ovr_of ?_ | with_reducible refine drew_below ?_ _ | with_reducible refine Below.drew ?_ | with_reducible assumption))⟩
  · have hbj := bracket_join (L := L) (pl := pl) (pc := pc) (n := (m : Int) + 1) (o := 91) (s := 93) (by decide) (by decide) hbb he
    obtain ⟨f, t, A, B, q, rfl, rfl, hv1, hv2, hA, hB, hlA, hlB, hqL, hsA, hsB, hJ⟩ := hbj
    obtain ⟨N, hN⟩ : ∃ N, q + 1 = N := ⟨_, rfl⟩
    rw [hN] at hlA hlB hqL hJ
    have hN1 : 1 ≤ N := by omega
    clear hN
    obtain ⟨fc1, hfc1⟩ : ∃ v, fc + 1 = v := ⟨_, rfl⟩
    obtain ⟨tc1, htc1⟩ : ∃ v, tc + 1 = v := ⟨_, rfl⟩
    rw [hfc1] at hb1 hA hv1
    rw [htc1] at hb2 hB hv2
    clear hfc1 htc1
    have HB1 := Lib.hid hb1
    have HB2 := Lib.hid hb2
    have HA := Lib.hid hA
    have HBB := Lib.hid hB
    have HSA := Lib.hid hsA
    have HSB := Lib.hid hsB
    have HJ := Lib.hid hJ
    have HV1 := Lib.hid hv1
    have HV2 := Lib.hid hv2
    have HLA := Lib.hid hlA
    have HLB := Lib.hid hlB
    clear hb1 hb2 hA hB hsA hsB hJ hv1 hv2 hbb he hlA hlB
    go_enter Try.func12, Try.ntmps12
    go_wp2_with (first | (go_at_call 53; refine (known17_any _).mono ?_; rintro e w1 ⟨rfl, hbl⟩; obtain ⟨x, rfl⟩ := ovr_of_below hbl; clear hbl) | (go_at_call 30; refine (text_any _ _ L _ (by (repeat (first | assumption | refine LinesAt.ovr ?_ _ | refine LinesAt.alloc ?_ _ | refine LinesAt.drewN ?_ _ | refine LinesAt.drew ?_)))).mono ?_; rw [HLI.out]; rintro e w1 ⟨rfl, rfl⟩) | (go_at_call 31; refine (seat_at _ _ L _ _ _ (by (repeat (first | assumption | refine LinesAt.ovr ?_ _ | refine LinesAt.alloc ?_ _ | refine LinesAt.drewN ?_ _ | refine LinesAt.drew ?_))) h0 hsa hsb HSLpl HSCpl).mono ?_; rintro e w1 ⟨rfl, hbl⟩; obtain ⟨x, rfl⟩ := ovr_of_below hbl; clear hbl))
    go_at_call 54; refine (binner_any _ _ L _ _ _ _ _ (by (repeat (first | assumption | refine LinesAt.ovr ?_ _ | refine LinesAt.alloc ?_ _ | refine LinesAt.drewN ?_ _ | refine LinesAt.drew ?_))) (by omega) (by omega)).mono ?_; rw [HB1.out]; rintro e w1 ⟨rfl, hbl⟩; obtain ⟨x1, rfl⟩ := ovr_of_below hbl; clear hbl
    go_wp2_with fail
    go_at_call 56; refine (baround_any _ _ L _ _ _ _ _ (by (repeat (first | assumption | refine LinesAt.ovr ?_ _ | refine LinesAt.alloc ?_ _ | refine LinesAt.drewN ?_ _ | refine LinesAt.drew ?_))) (by omega) (by omega)).mono ?_; rw [HB2.out]; rintro e w1 ⟨rfl, hbl⟩; obtain ⟨x2, rfl⟩ := ovr_of_below hbl; clear hbl
    go_upto_region 12 with fail
    refine name_ptr4 16 rfl ?_
    intro P2 hP2
    refine name_ptr4 14 rfl ?_
    intro P1 hP1
    rw [← hP2, ← hP1]
    refine name_world ?_
    intro W0 hW
    have gP10 : W0.cell? ⟨P1, 0, none⟩ = some (.int .i64 0) := by subst hW hP1 hP2; simp [go_sem]
    have gP11 : W0.cell? ⟨P1, 1, none⟩ = some (.int .i64 (f : Int)) := by subst hW hP1 hP2; simp [go_sem]
    have gP12 : W0.cell? ⟨P1, 2, none⟩ = some (.int .i64 fc1) := by subst hW hP1 hP2; simp [go_sem]
    have gP13 : W0.cell? ⟨P1, 3, none⟩ = some (.int .i64 (t : Int)) := by subst hW hP1 hP2; simp [go_sem]
    have gP14 : W0.cell? ⟨P1, 4, none⟩ = some (.int .i64 tc) := by subst hW hP1 hP2; simp [go_sem]
    have gP20 : W0.cell? ⟨P2, 0, none⟩ = some (.int .i64 0) := by subst hW hP1 hP2; simp [go_sem]
    have gP21 : W0.cell? ⟨P2, 1, none⟩ = some (.int .i64 (f : Int)) := by subst hW hP1 hP2; simp [go_sem]
    have gP22 : W0.cell? ⟨P2, 2, none⟩ = some (.int .i64 fc) := by subst hW hP1 hP2; simp [go_sem]
    have gP23 : W0.cell? ⟨P2, 3, none⟩ = some (.int .i64 (t : Int)) := by subst hW hP1 hP2; simp [go_sem]
    have gP24 : W0.cell? ⟨P2, 4, none⟩ = some (.int .i64 tc1) := by subst hW hP1 hP2; simp [go_sem]
    have hL0 : LinesAt W0 a L := by subst hW; (repeat (first | assumption | refine LinesAt.ovr ?_ _ | refine LinesAt.alloc ?_ _ | refine LinesAt.drewN ?_ _ | refine LinesAt.drew ?_))
    have hb0 : Below W.heap.size W W0 := by subst hW; (repeat (first | with_reducible exact Below.refl _ _ | (with_reducible refine Below.setCell ?_ ?_ _; rotate_left; · (first | exact Nat.le_refl _ | assumption | omega | (simp; done) | (simp; omega))) | (with_reducible refine Below.alloc ?_ ?_ _; rotate_left; · (first | exact Nat.le_refl _ | assumption | omega | (simp; done) | (simp; omega))) | with_reducible refine below_ovr_of ?_ | with_reducible refine drew_below ?_ _ | with_reducible refine Below.drew ?_ | with_reducible assumption))
    have lP1 := cell_lt4 gP10
    have lP2 := cell_lt4 gP20
    have hb0s := hb0.size
    clear hW hP1 hP2
    go_cut [18, 19] from 69 to 74 (fun v1 v2 wx => ∃ a1 c1 a2 c2, v1 = .slice a1 N c1 ∧ v2 = .slice a2 N c2 ∧ LinesAt wx a1 A ∧ LinesAt wx a2 B ∧ Below W.heap.size W wx)
    case first =>
      go_region_held3 (fun w' => w'.cell? ⟨P1, 0, none⟩ = some (.int .i64 0) ∧ w'.cell? ⟨P1, 1, none⟩ = some (.int .i64 (f : Int)) ∧ w'.cell? ⟨P1, 2, none⟩ = some (.int .i64 fc1) ∧ w'.cell? ⟨P1, 3, none⟩ = some (.int .i64 (t : Int)) ∧ w'.cell? ⟨P1, 4, none⟩ = some (.int .i64 tc) ∧ w'.cell? ⟨P2, 0, none⟩ = some (.int .i64 0) ∧ w'.cell? ⟨P2, 1, none⟩ = some (.int .i64 (f : Int)) ∧ w'.cell? ⟨P2, 2, none⟩ = some (.int .i64 fc) ∧ w'.cell? ⟨P2, 3, none⟩ = some (.int .i64 (t : Int)) ∧ w'.cell? ⟨P2, 4, none⟩ = some (.int .i64 tc1)) ((go_split_ands; (repeat' apply And.intro) <;> first | assumption | (refine cell_ovrB ?_; assumption) | (simp [go_sem]; done) | (simp [go_sem, *]; done) | (simp [go_sem]; omega))) ((first | (go_at_call 57; with_reducible refine calls_at5 (x2 := .int .i64 fc1) ?_; refine (rtext_char _ _ L f fc1 t tc _ (by (repeat (first | assumption | refine LinesAt.ovr ?_ _ | refine LinesAt.alloc ?_ _ | refine LinesAt.drewN ?_ _ | refine LinesAt.drew ?_))) hLn HV1.out).mono ?_; rw [HA.out]; intro e w1 hlo; obtain ⟨aa1, cc1, y1, rfl, rfl, hll1⟩ := lines_out hlo; clear hlo) | (go_at_call 57; with_reducible refine calls_at5 (x2 := .int .i64 fc) ?_; refine (rtext_char _ _ L f fc t tc1 _ (by (repeat (first | assumption | refine LinesAt.ovr ?_ _ | refine LinesAt.alloc ?_ _ | refine LinesAt.drewN ?_ _ | refine LinesAt.drew ?_))) hLn HV2.out).mono ?_; rw [HBB.out]; intro e w1 hlo; obtain ⟨aa2, cc2, y2, rfl, rfl, hll2⟩ := lines_out hlo; clear hlo)))
      all_goals (
        go_wp2_with fail
        go_meet
        case rel => exact ⟨_, _, _, _, by rw [HLA.out], by rw [HLB.out], by (repeat (first | assumption | refine LinesAt.ovr ?_ _ | refine LinesAt.alloc ?_ _ | refine LinesAt.drewN ?_ _ | refine LinesAt.drew ?_)), by (repeat (first | assumption | refine LinesAt.ovr ?_ _ | refine LinesAt.alloc ?_ _ | refine LinesAt.drewN ?_ _ | refine LinesAt.drew ?_)), by (repeat (first | with_reducible exact Below.refl _ _ | (with_reducible refine Below.setCell ?_ ?_ _; rotate_left; · (first | exact Nat.le_refl _ | assumption | omega | (simp; done) | (simp; omega))) | (with_reducible refine Below.alloc ?_ ?_ _; rotate_left; · (first | exact Nat.le_refl _ | assumption | omega | (simp; done) | (simp; omega))) | with_reducible refine below_ovr_of ?_ | with_reducible refine drew_below ?_ _ | with_reducible refine Below.drew ?_ | with_reducible assumption))⟩)
    obtain ⟨a1, c1, a2, c2, rfl, rfl, hLA, hLB, hbV⟩ := hcut
    rename World => V
    have hbVs := hbV.size
    go_wp2_with fail
    go_loopw [20, 21, 22] (fun s t i wr => ∃ k : Nat, k ≤ N ∧ i = .int .i64 k ∧ s = .string (joinB A k) ∧ t = .string (joinB B k) ∧ ∃ x, wr = ovr V x) (fun _ _ i _ => N - (intOf i).toNat)
    case atStart => exact ⟨0, Nat.zero_le _, rfl, rfl, rfl, { V with heap := #[] }, by simp [ovr]⟩
    case round =>
      obtain ⟨k, hk, rfl, rfl, rfl, z, rfl⟩ := hrel
      have hz1 := joinB_le (k := k) HSA.out htot (by omega)
      have hz2 := joinB_le (k := k) HSB.out htot (by omega)
      obtain ⟨SA, hSA⟩ : ∃ S, joinB A k = S := ⟨_, rfl⟩
      obtain ⟨SB, hSB⟩ : ∃ S, joinB B k = S := ⟨_, rfl⟩
      rw [hSA] at hz1 ⊢
      rw [hSB] at hz2 ⊢
      by_cases hlt : k < N
      · have hltI : (k : Int) < (N : Int) := by omega
        have hk0 : (0 : Int) ≤ (k : Int) := by omega
        obtain ⟨b1, off1, rfl, hb1, hcell1, hs1⟩ := hLA.line (i := k) (by rw [HLA.out]; exact hlt)
        obtain ⟨b2, off2, rfl, hb2, hcell2, hs2⟩ := hLB.line (i := k) (by rw [HLB.out]; exact hlt)
        have hy1 := HSA.out k
        have hy2 := HSB.out k
        have HN1 : Hid (joinB A (k + 1) = SA ++ A.getD k .empty ++ ⟨#[10]⟩) := Lib.hid (by rw [joinB, hSA])
        have HN2 : Hid (joinB B (k + 1) = SB ++ B.getD k .empty ++ ⟨#[10]⟩) := Lib.hid (by rw [joinB, hSB])
        obtain ⟨u1, hu1⟩ : ∃ u, A.getD k .empty = u := ⟨_, rfl⟩
        obtain ⟨u2, hu2⟩ : ∃ u, B.getD k .empty = u := ⟨_, rfl⟩
        rw [hu1] at hcell1 hs1 hy1 HN1
        rw [hu2] at hcell2 hs2 hy2 HN2
        have w1 : ¬ (9223372036854775807 < SA.size + u1.size) := by omega
        have w2 : ¬ (9223372036854775807 < SA.size + u1.size + 1) := by omega
        have w3 : ¬ (9223372036854775807 < SB.size + u2.size) := by omega
        have w4 : ¬ (9223372036854775807 < SB.size + u2.size + 1) := by omega
        clear hSA hSB hu1 hu2
        go_wp2
        go_quiet (fail)
        go_wp2_with fail
        go_roundw
        case rel => exact ⟨k + 1, by omega, by go_num, by rw [HN1.out], by rw [HN2.out], _, rfl⟩
        case measure => simp [intOf] <;> omega
      · obtain rfl : k = N := by omega
        have hj := HJ.out
        rw [hSA, hSB] at hj
        have hpos : 1 ≤ SA.size := by rw [← hSA]; exact joinB_pos hN1
        obtain ⟨E, hE⟩ : ∃ E, SA.extract 0 (SA.size - 1) = E := ⟨_, rfl⟩
        have hEs : E.size ≤ SA.size := by rw [← hE]; exact size_extract_le _ _ _
        rw [hE] at hj
        have HJ2 := Lib.hid hj
        have hT : ((SA.size : Int) - 1).toNat = SA.size - 1 := by omega
        have hp0 : (0 : Int) ≤ (SA.size : Int) - 1 := by omega
        have hp1 : (SA.size : Int) - 1 ≤ (SA.size : Int) := by omega
        have w1 : ¬ (9223372036854775807 < 1 + E.size) := by omega
        have w2 : ¬ (9223372036854775807 < 1 + E.size + 1) := by omega
        have w3 : ¬ (9223372036854775807 < 1 + E.size + 1 + 1) := by omega
        clear hj hSA hSB hk
        have hnn : ¬ (k : Int) < (k : Int) := by omega
        go_wp2_with fail
        refine name_world ?_
        intro X hX
        have hbX : Below W.heap.size W X := by rw [hX]; (repeat (first | with_reducible exact Below.refl _ _ | (with_reducible refine Below.setCell ?_ ?_ _; rotate_left; · (first | exact Nat.le_refl _ | assumption | omega | (simp; done) | (simp; omega))) | (with_reducible refine Below.alloc ?_ ?_ _; rotate_left; · (first | exact Nat.le_refl _ | assumption | omega | (simp; done) | (simp; omega))) | with_reducible refine below_ovr_of ?_ | with_reducible refine drew_below ?_ _ | with_reducible refine Below.drew ?_ | with_reducible assumption))
        have hbXs := hbX.size
        clear hX
        have hcv1 : ∀ (w : World) (b : Nat), w.cell? ⟨b, 0, none⟩ = some (.int .u8 91) → (convert 44 9 (.slice (some ⟨b, 0, none⟩) 1 1)).run Try.prog w = .ok (.string ⟨#[91]⟩) w := fun w b h => conv_one 91 w b h
        have hcv2 : ∀ (w : World) (b : Nat), w.cell? ⟨b, 0, none⟩ = some (.int .u8 93) → (convert 44 9 (.slice (some ⟨b, 0, none⟩) 1 1)).run Try.prog w = .ok (.string ⟨#[93]⟩) w := fun w b h => conv_one 93 w b h
        go_region
        all_goals go_wp2_with fail
        all_goals (
          go_ret
          exact ⟨ret_bool (by rw [HJ2.out]; simp), by (repeat (first | with_reducible exact Below.refl _ _ | (with_reducible refine Below.setCell ?_ ?_ _; rotate_left; · (first | exact Nat.le_refl _ | assumption | omega | (simp; done) | (simp; omega))) | (with_reducible refine Below.alloc ?_ ?_ _; rotate_left; · (first | exact Nat.le_refl _ | assumption | omega | (simp; done) | (simp; omega))) | with_reducible refine below_ovr_of ?_ | with_reducible refine drew_below ?_ _ | with_reducible refine Below.drew ?_ | with_reducible assumption))⟩)
set_option maxRecDepth 100000 in
set_option maxHeartbeats 8000000 in
theorem bracketAround_at2 (a : Option Addr) (cap : Nat) (L : List ByteArray) (sa sb sk sn : Int) (W : World) (hL : LinesAt W a L) (hsa : 0 ≤ sa ∧ sa ≤ 65535) (hsb : 0 ≤ sb ∧ sb ≤ 65535) (hsk : 0 ≤ sk ∧ sk ≤ 255) (hsn : 0 ≤ sn ∧ sn ≤ 255) (hk3 : sk % 3 = 2) (hli : textB L = true) :
    Calls Try.prog 12 #[.slice a L.length cap, .int .u16 sa, .int .u16 sb, .int .u8 sk, .int .u8 sn] W fun e W' => e = .returned (.bool true) ∧ Below W.heap.size W W' := by
  obtain ⟨h0, hn, htot, _⟩ := text_spec hli
  obtain ⟨pl, pc, hsl, hsc, hp_pl⟩ := seat_facts (L := L) (x := sa) (y := sb) h0 hsa.1
  have HSLpl := Lib.hid hsl
  have HSCpl := Lib.hid hsc
  have HLI := Lib.hid hli
  have hk3' : sk.tmod 3 = 2 := by rw [Int.tmod_eq_emod_of_nonneg hsk.1, hk3]
  obtain ⟨m, hm⟩ : ∃ m : Nat, sn % 3 = m := ⟨(sn % 3).toNat, by omega⟩
  have hm3 : sn.tmod 3 = (m : Int) := by rw [Int.tmod_eq_emod_of_nonneg hsn.1, hm]
  have hmlt : m < 3 := by omega
  have hLn : L.length ≤ 100000 := by omega
  have hLt : L.length + total L ≤ 100000 := by omega
  have ho : ((({ data := #[40, 91, 123] } : ByteArray)[2].toNat : Nat) : Int) = 123 := by decide
  have hc : ((({ data := #[41, 93, 125] } : ByteArray)[2].toNat : Nat) : Int) = 125 := by decide
  clear hsl hsc hli hm hk3
  rcases bracket_two L pl pc 123 ((m : Int) + 1) with ⟨hb1, hb2⟩ | ⟨fl, fc, tl, tc, hbb, he, hb1, hb2⟩
  · have HB1 := Lib.hid hb1
    have HB2 := Lib.hid hb2
    clear hb1 hb2
    go_enter Try.func12, Try.ntmps12
    go_wp2_with (first | (go_at_call 53; refine (known17_any _).mono ?_; rintro e w1 ⟨rfl, hbl⟩; obtain ⟨x, rfl⟩ := ovr_of_below hbl; clear hbl) | (go_at_call 30; refine (text_any _ _ L _ (by (repeat (first | assumption | refine LinesAt.ovr ?_ _ | refine LinesAt.alloc ?_ _ | refine LinesAt.drewN ?_ _ | refine LinesAt.drew ?_)))).mono ?_; rw [HLI.out]; rintro e w1 ⟨rfl, rfl⟩) | (go_at_call 31; refine (seat_at _ _ L _ _ _ (by (repeat (first | assumption | refine LinesAt.ovr ?_ _ | refine LinesAt.alloc ?_ _ | refine LinesAt.drewN ?_ _ | refine LinesAt.drew ?_))) h0 hsa hsb HSLpl HSCpl).mono ?_; rintro e w1 ⟨rfl, hbl⟩; obtain ⟨x, rfl⟩ := ovr_of_below hbl; clear hbl))
    go_at_call 54; refine (binner_any _ _ L _ _ _ _ _ (by (repeat (first | assumption | refine LinesAt.ovr ?_ _ | refine LinesAt.alloc ?_ _ | refine LinesAt.drewN ?_ _ | refine LinesAt.drew ?_))) (by omega) (by omega)).mono ?_; rw [HB1.out]; rintro e w1 ⟨rfl, hbl⟩; obtain ⟨x1, rfl⟩ := ovr_of_below hbl; clear hbl
    go_wp2_with fail
    go_at_call 56; refine (baround_any _ _ L _ _ _ _ _ (by (repeat (first | assumption | refine LinesAt.ovr ?_ _ | refine LinesAt.alloc ?_ _ | refine LinesAt.drewN ?_ _ | refine LinesAt.drew ?_))) (by omega) (by omega)).mono ?_; rw [HB2.out]; rintro e w1 ⟨rfl, hbl⟩; obtain ⟨x2, rfl⟩ := ovr_of_below hbl; clear hbl
    go_wp2
    go_ret
    exact ⟨by simp, by (repeat (first | with_reducible exact Below.refl _ _ | (with_reducible refine Below.setCell ?_ ?_ _; rotate_left; · (first | exact Nat.le_refl _ | assumption | omega | (simp; done) | (simp; omega))) | (with_reducible refine Below.alloc ?_ ?_ _; rotate_left; · (first | exact Nat.le_refl _ | assumption | omega | (simp; done) | (simp; omega))) | with_reducible refine below_ovr_of ?_ | with_reducible refine drew_below ?_ _ | with_reducible refine Below.drew ?_ | with_reducible assumption))⟩
  · have hbj := bracket_join (L := L) (pl := pl) (pc := pc) (n := (m : Int) + 1) (o := 123) (s := 125) (by decide) (by decide) hbb he
    obtain ⟨f, t, A, B, q, rfl, rfl, hv1, hv2, hA, hB, hlA, hlB, hqL, hsA, hsB, hJ⟩ := hbj
    obtain ⟨N, hN⟩ : ∃ N, q + 1 = N := ⟨_, rfl⟩
    rw [hN] at hlA hlB hqL hJ
    have hN1 : 1 ≤ N := by omega
    clear hN
    obtain ⟨fc1, hfc1⟩ : ∃ v, fc + 1 = v := ⟨_, rfl⟩
    obtain ⟨tc1, htc1⟩ : ∃ v, tc + 1 = v := ⟨_, rfl⟩
    rw [hfc1] at hb1 hA hv1
    rw [htc1] at hb2 hB hv2
    clear hfc1 htc1
    have HB1 := Lib.hid hb1
    have HB2 := Lib.hid hb2
    have HA := Lib.hid hA
    have HBB := Lib.hid hB
    have HSA := Lib.hid hsA
    have HSB := Lib.hid hsB
    have HJ := Lib.hid hJ
    have HV1 := Lib.hid hv1
    have HV2 := Lib.hid hv2
    have HLA := Lib.hid hlA
    have HLB := Lib.hid hlB
    clear hb1 hb2 hA hB hsA hsB hJ hv1 hv2 hbb he hlA hlB
    go_enter Try.func12, Try.ntmps12
    go_wp2_with (first | (go_at_call 53; refine (known17_any _).mono ?_; rintro e w1 ⟨rfl, hbl⟩; obtain ⟨x, rfl⟩ := ovr_of_below hbl; clear hbl) | (go_at_call 30; refine (text_any _ _ L _ (by (repeat (first | assumption | refine LinesAt.ovr ?_ _ | refine LinesAt.alloc ?_ _ | refine LinesAt.drewN ?_ _ | refine LinesAt.drew ?_)))).mono ?_; rw [HLI.out]; rintro e w1 ⟨rfl, rfl⟩) | (go_at_call 31; refine (seat_at _ _ L _ _ _ (by (repeat (first | assumption | refine LinesAt.ovr ?_ _ | refine LinesAt.alloc ?_ _ | refine LinesAt.drewN ?_ _ | refine LinesAt.drew ?_))) h0 hsa hsb HSLpl HSCpl).mono ?_; rintro e w1 ⟨rfl, hbl⟩; obtain ⟨x, rfl⟩ := ovr_of_below hbl; clear hbl))
    go_at_call 54; refine (binner_any _ _ L _ _ _ _ _ (by (repeat (first | assumption | refine LinesAt.ovr ?_ _ | refine LinesAt.alloc ?_ _ | refine LinesAt.drewN ?_ _ | refine LinesAt.drew ?_))) (by omega) (by omega)).mono ?_; rw [HB1.out]; rintro e w1 ⟨rfl, hbl⟩; obtain ⟨x1, rfl⟩ := ovr_of_below hbl; clear hbl
    go_wp2_with fail
    go_at_call 56; refine (baround_any _ _ L _ _ _ _ _ (by (repeat (first | assumption | refine LinesAt.ovr ?_ _ | refine LinesAt.alloc ?_ _ | refine LinesAt.drewN ?_ _ | refine LinesAt.drew ?_))) (by omega) (by omega)).mono ?_; rw [HB2.out]; rintro e w1 ⟨rfl, hbl⟩; obtain ⟨x2, rfl⟩ := ovr_of_below hbl; clear hbl
    go_upto_region 12 with fail
    refine name_ptr4 16 rfl ?_
    intro P2 hP2
    refine name_ptr4 14 rfl ?_
    intro P1 hP1
    rw [← hP2, ← hP1]
    refine name_world ?_
    intro W0 hW
    have gP10 : W0.cell? ⟨P1, 0, none⟩ = some (.int .i64 0) := by subst hW hP1 hP2; simp [go_sem]
    have gP11 : W0.cell? ⟨P1, 1, none⟩ = some (.int .i64 (f : Int)) := by subst hW hP1 hP2; simp [go_sem]
    have gP12 : W0.cell? ⟨P1, 2, none⟩ = some (.int .i64 fc1) := by subst hW hP1 hP2; simp [go_sem]
    have gP13 : W0.cell? ⟨P1, 3, none⟩ = some (.int .i64 (t : Int)) := by subst hW hP1 hP2; simp [go_sem]
    have gP14 : W0.cell? ⟨P1, 4, none⟩ = some (.int .i64 tc) := by subst hW hP1 hP2; simp [go_sem]
    have gP20 : W0.cell? ⟨P2, 0, none⟩ = some (.int .i64 0) := by subst hW hP1 hP2; simp [go_sem]
    have gP21 : W0.cell? ⟨P2, 1, none⟩ = some (.int .i64 (f : Int)) := by subst hW hP1 hP2; simp [go_sem]
    have gP22 : W0.cell? ⟨P2, 2, none⟩ = some (.int .i64 fc) := by subst hW hP1 hP2; simp [go_sem]
    have gP23 : W0.cell? ⟨P2, 3, none⟩ = some (.int .i64 (t : Int)) := by subst hW hP1 hP2; simp [go_sem]
    have gP24 : W0.cell? ⟨P2, 4, none⟩ = some (.int .i64 tc1) := by subst hW hP1 hP2; simp [go_sem]
    have hL0 : LinesAt W0 a L := by subst hW; (repeat (first | assumption | refine LinesAt.ovr ?_ _ | refine LinesAt.alloc ?_ _ | refine LinesAt.drewN ?_ _ | refine LinesAt.drew ?_))
    have hb0 : Below W.heap.size W W0 := by subst hW; (repeat (first | with_reducible exact Below.refl _ _ | (with_reducible refine Below.setCell ?_ ?_ _; rotate_left; · (first | exact Nat.le_refl _ | assumption | omega | (simp; done) | (simp; omega))) | (with_reducible refine Below.alloc ?_ ?_ _; rotate_left; · (first | exact Nat.le_refl _ | assumption | omega | (simp; done) | (simp; omega))) | with_reducible refine below_ovr_of ?_ | with_reducible refine drew_below ?_ _ | with_reducible refine Below.drew ?_ | with_reducible assumption))
    have lP1 := cell_lt4 gP10
    have lP2 := cell_lt4 gP20
    have hb0s := hb0.size
    clear hW hP1 hP2
    go_cut [18, 19] from 69 to 74 (fun v1 v2 wx => ∃ a1 c1 a2 c2, v1 = .slice a1 N c1 ∧ v2 = .slice a2 N c2 ∧ LinesAt wx a1 A ∧ LinesAt wx a2 B ∧ Below W.heap.size W wx)
    case first =>
      go_region_held3 (fun w' => w'.cell? ⟨P1, 0, none⟩ = some (.int .i64 0) ∧ w'.cell? ⟨P1, 1, none⟩ = some (.int .i64 (f : Int)) ∧ w'.cell? ⟨P1, 2, none⟩ = some (.int .i64 fc1) ∧ w'.cell? ⟨P1, 3, none⟩ = some (.int .i64 (t : Int)) ∧ w'.cell? ⟨P1, 4, none⟩ = some (.int .i64 tc) ∧ w'.cell? ⟨P2, 0, none⟩ = some (.int .i64 0) ∧ w'.cell? ⟨P2, 1, none⟩ = some (.int .i64 (f : Int)) ∧ w'.cell? ⟨P2, 2, none⟩ = some (.int .i64 fc) ∧ w'.cell? ⟨P2, 3, none⟩ = some (.int .i64 (t : Int)) ∧ w'.cell? ⟨P2, 4, none⟩ = some (.int .i64 tc1)) ((go_split_ands; (repeat' apply And.intro) <;> first | assumption | (refine cell_ovrB ?_; assumption) | (simp [go_sem]; done) | (simp [go_sem, *]; done) | (simp [go_sem]; omega))) ((first | (go_at_call 57; with_reducible refine calls_at5 (x2 := .int .i64 fc1) ?_; refine (rtext_char _ _ L f fc1 t tc _ (by (repeat (first | assumption | refine LinesAt.ovr ?_ _ | refine LinesAt.alloc ?_ _ | refine LinesAt.drewN ?_ _ | refine LinesAt.drew ?_))) hLn HV1.out).mono ?_; rw [HA.out]; intro e w1 hlo; obtain ⟨aa1, cc1, y1, rfl, rfl, hll1⟩ := lines_out hlo; clear hlo) | (go_at_call 57; with_reducible refine calls_at5 (x2 := .int .i64 fc) ?_; refine (rtext_char _ _ L f fc t tc1 _ (by (repeat (first | assumption | refine LinesAt.ovr ?_ _ | refine LinesAt.alloc ?_ _ | refine LinesAt.drewN ?_ _ | refine LinesAt.drew ?_))) hLn HV2.out).mono ?_; rw [HBB.out]; intro e w1 hlo; obtain ⟨aa2, cc2, y2, rfl, rfl, hll2⟩ := lines_out hlo; clear hlo)))
      all_goals (
        go_wp2_with fail
        go_meet
        case rel => exact ⟨_, _, _, _, by rw [HLA.out], by rw [HLB.out], by (repeat (first | assumption | refine LinesAt.ovr ?_ _ | refine LinesAt.alloc ?_ _ | refine LinesAt.drewN ?_ _ | refine LinesAt.drew ?_)), by (repeat (first | assumption | refine LinesAt.ovr ?_ _ | refine LinesAt.alloc ?_ _ | refine LinesAt.drewN ?_ _ | refine LinesAt.drew ?_)), by (repeat (first | with_reducible exact Below.refl _ _ | (with_reducible refine Below.setCell ?_ ?_ _; rotate_left; · (first | exact Nat.le_refl _ | assumption | omega | (simp; done) | (simp; omega))) | (with_reducible refine Below.alloc ?_ ?_ _; rotate_left; · (first | exact Nat.le_refl _ | assumption | omega | (simp; done) | (simp; omega))) | with_reducible refine below_ovr_of ?_ | with_reducible refine drew_below ?_ _ | with_reducible refine Below.drew ?_ | with_reducible assumption))⟩)
    obtain ⟨a1, c1, a2, c2, rfl, rfl, hLA, hLB, hbV⟩ := hcut
    rename World => V
    have hbVs := hbV.size
    go_wp2_with fail
    go_loopw [20, 21, 22] (fun s t i wr => ∃ k : Nat, k ≤ N ∧ i = .int .i64 k ∧ s = .string (joinB A k) ∧ t = .string (joinB B k) ∧ ∃ x, wr = ovr V x) (fun _ _ i _ => N - (intOf i).toNat)
    case atStart => exact ⟨0, Nat.zero_le _, rfl, rfl, rfl, { V with heap := #[] }, by simp [ovr]⟩
    case round =>
      obtain ⟨k, hk, rfl, rfl, rfl, z, rfl⟩ := hrel
      have hz1 := joinB_le (k := k) HSA.out htot (by omega)
      have hz2 := joinB_le (k := k) HSB.out htot (by omega)
      obtain ⟨SA, hSA⟩ : ∃ S, joinB A k = S := ⟨_, rfl⟩
      obtain ⟨SB, hSB⟩ : ∃ S, joinB B k = S := ⟨_, rfl⟩
      rw [hSA] at hz1 ⊢
      rw [hSB] at hz2 ⊢
      by_cases hlt : k < N
      · have hltI : (k : Int) < (N : Int) := by omega
        have hk0 : (0 : Int) ≤ (k : Int) := by omega
        obtain ⟨b1, off1, rfl, hb1, hcell1, hs1⟩ := hLA.line (i := k) (by rw [HLA.out]; exact hlt)
        obtain ⟨b2, off2, rfl, hb2, hcell2, hs2⟩ := hLB.line (i := k) (by rw [HLB.out]; exact hlt)
        have hy1 := HSA.out k
        have hy2 := HSB.out k
        have HN1 : Hid (joinB A (k + 1) = SA ++ A.getD k .empty ++ ⟨#[10]⟩) := Lib.hid (by rw [joinB, hSA])
        have HN2 : Hid (joinB B (k + 1) = SB ++ B.getD k .empty ++ ⟨#[10]⟩) := Lib.hid (by rw [joinB, hSB])
        obtain ⟨u1, hu1⟩ : ∃ u, A.getD k .empty = u := ⟨_, rfl⟩
        obtain ⟨u2, hu2⟩ : ∃ u, B.getD k .empty = u := ⟨_, rfl⟩
        rw [hu1] at hcell1 hs1 hy1 HN1
        rw [hu2] at hcell2 hs2 hy2 HN2
        have w1 : ¬ (9223372036854775807 < SA.size + u1.size) := by omega
        have w2 : ¬ (9223372036854775807 < SA.size + u1.size + 1) := by omega
        have w3 : ¬ (9223372036854775807 < SB.size + u2.size) := by omega
        have w4 : ¬ (9223372036854775807 < SB.size + u2.size + 1) := by omega
        clear hSA hSB hu1 hu2
        go_wp2
        go_quiet (fail)
        go_wp2_with fail
        go_roundw
        case rel => exact ⟨k + 1, by omega, by go_num, by rw [HN1.out], by rw [HN2.out], _, rfl⟩
        case measure => simp [intOf] <;> omega
      · obtain rfl : k = N := by omega
        have hj := HJ.out
        rw [hSA, hSB] at hj
        have hpos : 1 ≤ SA.size := by rw [← hSA]; exact joinB_pos hN1
        obtain ⟨E, hE⟩ : ∃ E, SA.extract 0 (SA.size - 1) = E := ⟨_, rfl⟩
        have hEs : E.size ≤ SA.size := by rw [← hE]; exact size_extract_le _ _ _
        rw [hE] at hj
        have HJ2 := Lib.hid hj
        have hT : ((SA.size : Int) - 1).toNat = SA.size - 1 := by omega
        have hp0 : (0 : Int) ≤ (SA.size : Int) - 1 := by omega
        have hp1 : (SA.size : Int) - 1 ≤ (SA.size : Int) := by omega
        have w1 : ¬ (9223372036854775807 < 1 + E.size) := by omega
        have w2 : ¬ (9223372036854775807 < 1 + E.size + 1) := by omega
        have w3 : ¬ (9223372036854775807 < 1 + E.size + 1 + 1) := by omega
        clear hj hSA hSB hk
        have hnn : ¬ (k : Int) < (k : Int) := by omega
        go_wp2_with fail
        refine name_world ?_
        intro X hX
        have hbX : Below W.heap.size W X := by rw [hX]; (repeat (first | with_reducible exact Below.refl _ _ | (with_reducible refine Below.setCell ?_ ?_ _; rotate_left; · (first | exact Nat.le_refl _ | assumption | omega | (simp; done) | (simp; omega))) | (with_reducible refine Below.alloc ?_ ?_ _; rotate_left; · (first | exact Nat.le_refl _ | assumption | omega | (simp; done) | (simp; omega))) | with_reducible refine below_ovr_of ?_ | with_reducible refine drew_below ?_ _ | with_reducible refine Below.drew ?_ | with_reducible assumption))
        have hbXs := hbX.size
        clear hX
        have hcv1 : ∀ (w : World) (b : Nat), w.cell? ⟨b, 0, none⟩ = some (.int .u8 123) → (convert 44 9 (.slice (some ⟨b, 0, none⟩) 1 1)).run Try.prog w = .ok (.string ⟨#[123]⟩) w := fun w b h => conv_one 123 w b h
        have hcv2 : ∀ (w : World) (b : Nat), w.cell? ⟨b, 0, none⟩ = some (.int .u8 125) → (convert 44 9 (.slice (some ⟨b, 0, none⟩) 1 1)).run Try.prog w = .ok (.string ⟨#[125]⟩) w := fun w b h => conv_one 125 w b h
        go_region
        all_goals go_wp2_with fail
        all_goals (
          go_ret
          exact ⟨ret_bool (by rw [HJ2.out]; simp), by (repeat (first | with_reducible exact Below.refl _ _ | (with_reducible refine Below.setCell ?_ ?_ _; rotate_left; · (first | exact Nat.le_refl _ | assumption | omega | (simp; done) | (simp; omega))) | (with_reducible refine Below.alloc ?_ ?_ _; rotate_left; · (first | exact Nat.le_refl _ | assumption | omega | (simp; done) | (simp; omega))) | with_reducible refine below_ovr_of ?_ | with_reducible refine drew_below ?_ _ | with_reducible refine Below.drew ?_ | with_reducible assumption))⟩)
set_option maxRecDepth 100000 in
theorem bracketAround_walk (a : Option Addr) (cap : Nat) (L : List ByteArray) (sa sb sk sn : Int) (W : World) (hL : LinesAt W a L) (hsa : 0 ≤ sa ∧ sa ≤ 65535) (hsb : 0 ≤ sb ∧ sb ≤ 65535) (hsk : 0 ≤ sk ∧ sk ≤ 255) (hsn : 0 ≤ sn ∧ sn ≤ 255) :
    Calls Try.prog 12 #[.slice a L.length cap, .int .u16 sa, .int .u16 sb, .int .u8 sk, .int .u8 sn] W fun e W' => e = .returned (.bool true) ∧ Below W.heap.size W W' := by
  cases hli : textB L with
  | false =>
    go_enter Try.func12, Try.ntmps12
    go_wp2_with (first | (go_at_call 53; refine (known17_any _).mono ?_; rintro e w1 ⟨rfl, hbl⟩; obtain ⟨x, rfl⟩ := ovr_of_below hbl; clear hbl) | (go_at_call 30; refine (text_any _ _ L _ (by (repeat (first | assumption | refine LinesAt.ovr ?_ _ | refine LinesAt.alloc ?_ _ | refine LinesAt.drewN ?_ _ | refine LinesAt.drew ?_)))).mono ?_; rintro e w1 ⟨rfl, rfl⟩))
    go_ret
    exact ⟨rfl, by (repeat (first | exact Below.refl _ _ | refine Below.alloc ?_ (by first | exact Nat.le_refl _ | (simp; done) | (simp; omega)) _ | refine below_ovr_of ?_ | refine drew_below ?_ _ | refine Below.drew ?_ | refine Below.setCell ?_ (by first | exact Nat.le_refl _ | (simp; done) | (simp; omega)) _ | assumption))⟩
  | true =>
    have h3 : sk % 3 = 0 ∨ sk % 3 = 1 ∨ sk % 3 = 2 := by omega
    rcases h3 with h3 | h3 | h3
    · exact bracketAround_at0 a cap L sa sb sk sn W hL hsa hsb hsk hsn h3 hli
    · exact bracketAround_at1 a cap L sa sb sk sn W hL hsa hsb hsk hsn h3 hli
    · exact bracketAround_at2 a cap L sa sb sk sn W hL hsa hsb hsk hsn h3 hli
end Go.Proofs.Ytlbbgocggifjaaa
