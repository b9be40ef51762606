/- The walks of the laws of layer 5, the rest. Conditions: none beyond what each says. -/
import Derived.Test.YtjkilpnbaaiglaaKnown5
import Derived.Test.YtjkilpnbaaiglaaPos
import Derived.Test.YtjkilpnbaaiglaaOwn
namespace Go.Proofs.Ytjkilpnbaaiglaa
open Go.RowKit

theorem infoStr : (Try.prog.info? 9).map (fun i => (i.zero, i.size, i.bytes)) = some (some (.string ByteArray.empty), 1, 16) := by kernel_rfl
theorem sameB_refl (L : List ByteArray) : sameB L L = true := by simp [sameB]

set_option maxHeartbeats 1000000 in
theorem classSame_walk (a : Option Addr) (cap : Nat) (L : List ByteArray) (a' : Option Addr) (cap' : Nat) (M : List ByteArray) (same : Bool) (W : World) (hL : LinesAt W a L) (hM : LinesAt W a' M) :
    Calls Try.prog 5 #[.slice a L.length cap, .slice a' M.length cap', .bool same] W fun e W' => e = .returned (.bool true) ∧ Below W.heap.size W W' := by
  have hsr := sameB_refl L
  obtain ⟨i0, hi0, hz0, hz1, hz2⟩ := info_parts infoStr
  cases hli : lightB L with
  | false =>
    go_enter Try.func5, Try.ntmps5
    go_wp2_with (first
      | (go_at_call 15; refine (known5_any _).mono ?_; rintro e w1 ⟨rfl, hbl⟩; obtain ⟨x, rfl⟩ := ovr_of_below hbl; clear hbl)
      | (go_at_call 20; refine (light_any _ _ L _ (by (repeat (first | assumption | refine LinesAt.ovr ?_ _ | refine LinesAt.alloc ?_ _ | refine LinesAt.drewN ?_ _ | refine LinesAt.drew ?_)))).mono ?_; rintro e w1 ⟨rfl, rfl⟩))
    go_ret
    exact ⟨rfl, by (repeat (first | exact Below.refl _ _ | refine Below.alloc ?_ (by first | exact Nat.le_refl _ | (simp [size_ovr]; done) | (simp [size_ovr]; omega)) _ | refine below_ovr_of ?_ | refine drew_below ?_ _ | refine Below.drew ?_ | refine Below.setCell ?_ (by first | exact Nat.le_refl _ | (simp [size_ovr]; done) | (simp [size_ovr]; omega)) _ | assumption))⟩
  | true =>
    obtain ⟨hn, htot, _⟩ := light_spec hli
    cases hlm : lightB M with
    | false =>
      go_enter Try.func5, Try.ntmps5
      go_wp2_with fail
      go_at_call 15; refine (known5_any _).mono ?_; rintro e w1 ⟨rfl, hbl⟩; obtain ⟨x, rfl⟩ := ovr_of_below hbl; clear hbl
      go_wp2_with fail
      go_at_call 20; refine (light_any _ _ L _ (by (repeat (first | assumption | refine LinesAt.ovr ?_ _ | refine LinesAt.alloc ?_ _ | refine LinesAt.drewN ?_ _ | refine LinesAt.drew ?_)))).mono ?_; rintro e w1 ⟨rfl, rfl⟩
      go_wp2_with fail
      go_at_call 20; refine (light_any _ _ M _ (by (repeat (first | assumption | refine LinesAt.ovr ?_ _ | refine LinesAt.alloc ?_ _ | refine LinesAt.drewN ?_ _ | refine LinesAt.drew ?_)))).mono ?_; rintro e w1 ⟨rfl, rfl⟩
      go_wp2_with fail
      go_ret
      exact ⟨rfl, by (repeat (first | exact Below.refl _ _ | refine Below.alloc ?_ (by first | exact Nat.le_refl _ | (simp [size_ovr]; done) | (simp [size_ovr]; omega)) _ | refine below_ovr_of ?_ | refine drew_below ?_ _ | refine Below.drew ?_ | refine Below.setCell ?_ (by first | exact Nat.le_refl _ | (simp [size_ovr]; done) | (simp [size_ovr]; omega)) _ | assumption))⟩
    | true =>
      cases same with
      | false =>
        go_enter Try.func5, Try.ntmps5
        go_wp2_with fail
        go_at_call 15; refine (known5_any _).mono ?_; rintro e w1 ⟨rfl, hbl⟩; obtain ⟨x, rfl⟩ := ovr_of_below hbl; clear hbl
        go_wp2_with fail
        go_at_call 20; refine (light_any _ _ L _ (by (repeat (first | assumption | refine LinesAt.ovr ?_ _ | refine LinesAt.alloc ?_ _ | refine LinesAt.drewN ?_ _ | refine LinesAt.drew ?_)))).mono ?_; rintro e w1 ⟨rfl, rfl⟩
        go_wp2_with fail
        go_at_call 20; refine (light_any _ _ M _ (by (repeat (first | assumption | refine LinesAt.ovr ?_ _ | refine LinesAt.alloc ?_ _ | refine LinesAt.drewN ?_ _ | refine LinesAt.drew ?_)))).mono ?_; rintro e w1 ⟨rfl, rfl⟩
        go_wp2_with fail
        go_at_call 25; refine (same_any _ _ _ _ L M _ (by (repeat (first | assumption | refine LinesAt.ovr ?_ _ | refine LinesAt.alloc ?_ _ | refine LinesAt.drewN ?_ _ | refine LinesAt.drew ?_))) (by (repeat (first | assumption | refine LinesAt.ovr ?_ _ | refine LinesAt.alloc ?_ _ | refine LinesAt.drewN ?_ _ | refine LinesAt.drew ?_)))).mono ?_; rintro e w1 ⟨rfl, hbl⟩; obtain ⟨x, rfl⟩ := ovr_of_below hbl; clear hbl
        go_wp2_with fail
        go_at_call 26; refine (strings_any _ _ _ _ L M _ (by (repeat (first | assumption | refine LinesAt.ovr ?_ _ | refine LinesAt.alloc ?_ _ | refine LinesAt.drewN ?_ _ | refine LinesAt.drew ?_))) (by (repeat (first | assumption | refine LinesAt.ovr ?_ _ | refine LinesAt.alloc ?_ _ | refine LinesAt.drewN ?_ _ | refine LinesAt.drew ?_)))).mono ?_; rintro e w1 ⟨rfl, hbl⟩; obtain ⟨x, rfl⟩ := ovr_of_below hbl; clear hbl
        go_wp2_with fail
        go_at_call 25; refine (same_any _ _ _ _ L L _ (by (repeat (first | assumption | refine LinesAt.ovr ?_ _ | refine LinesAt.alloc ?_ _ | refine LinesAt.drewN ?_ _ | refine LinesAt.drew ?_))) (by (repeat (first | assumption | refine LinesAt.ovr ?_ _ | refine LinesAt.alloc ?_ _ | refine LinesAt.drewN ?_ _ | refine LinesAt.drew ?_)))).mono ?_; rintro e w1 ⟨rfl, hbl⟩; obtain ⟨x, rfl⟩ := ovr_of_below hbl; clear hbl
        go_wp2_with fail
        go_ret
        exact ⟨rfl, by (repeat (first | exact Below.refl _ _ | refine Below.alloc ?_ (by first | exact Nat.le_refl _ | (simp [size_ovr]; done) | (simp [size_ovr]; omega)) _ | refine below_ovr_of ?_ | refine drew_below ?_ _ | refine Below.drew ?_ | refine Below.setCell ?_ (by first | exact Nat.le_refl _ | (simp [size_ovr]; done) | (simp [size_ovr]; omega)) _ | assumption))⟩
      | true =>
        go_enter Try.func5, Try.ntmps5
        go_wp2_with fail
        go_at_call 15; refine (known5_any _).mono ?_; rintro e w1 ⟨rfl, hbl⟩; obtain ⟨x, rfl⟩ := ovr_of_below hbl; clear hbl
        go_wp2_with fail
        go_at_call 20; refine (light_any _ _ L _ (by (repeat (first | assumption | refine LinesAt.ovr ?_ _ | refine LinesAt.alloc ?_ _ | refine LinesAt.drewN ?_ _ | refine LinesAt.drew ?_)))).mono ?_; rintro e w1 ⟨rfl, rfl⟩
        go_wp2_with fail
        go_at_call 20; refine (light_any _ _ M _ (by (repeat (first | assumption | refine LinesAt.ovr ?_ _ | refine LinesAt.alloc ?_ _ | refine LinesAt.drewN ?_ _ | refine LinesAt.drew ?_)))).mono ?_; rintro e w1 ⟨rfl, rfl⟩
        go_wp2_with (at_builtin; refine wpList_append_lines rfl _ _ 26 rfl 9 i0 _ 16 Try.underlying26 hi0 hz0 hz1 hz2 rfl rfl a cap L rfl (by (repeat (first | assumption | refine LinesAt.ovr ?_ _ | refine LinesAt.alloc ?_ _ | refine LinesAt.drewN ?_ _ | refine LinesAt.drew ?_))) (by omega) (by omega) ?_; intro A' c' y hL')
        go_at_call 25; refine (same_any _ _ _ _ L L _ (by (repeat (first | assumption | refine LinesAt.ovr ?_ _ | refine LinesAt.alloc ?_ _ | refine LinesAt.drewN ?_ _ | refine LinesAt.drew ?_))) (by (repeat (first | assumption | refine LinesAt.ovr ?_ _ | refine LinesAt.alloc ?_ _ | refine LinesAt.drewN ?_ _ | refine LinesAt.drew ?_)))).mono ?_; rintro e w1 ⟨rfl, hbl⟩; obtain ⟨x, rfl⟩ := ovr_of_below hbl; clear hbl
        go_wp2_with fail
        go_at_call 26; refine (strings_any _ _ _ _ L L _ (by (repeat (first | assumption | refine LinesAt.ovr ?_ _ | refine LinesAt.alloc ?_ _ | refine LinesAt.drewN ?_ _ | refine LinesAt.drew ?_))) (by (repeat (first | assumption | refine LinesAt.ovr ?_ _ | refine LinesAt.alloc ?_ _ | refine LinesAt.drewN ?_ _ | refine LinesAt.drew ?_)))).mono ?_; rintro e w1 ⟨rfl, hbl⟩; obtain ⟨x, rfl⟩ := ovr_of_below hbl; clear hbl
        go_wp2_with fail
        go_at_call 25; refine (same_any _ _ _ _ L L _ (by (repeat (first | assumption | refine LinesAt.ovr ?_ _ | refine LinesAt.alloc ?_ _ | refine LinesAt.drewN ?_ _ | refine LinesAt.drew ?_))) (by (repeat (first | assumption | refine LinesAt.ovr ?_ _ | refine LinesAt.alloc ?_ _ | refine LinesAt.drewN ?_ _ | refine LinesAt.drew ?_)))).mono ?_; rintro e w1 ⟨rfl, hbl⟩; obtain ⟨x, rfl⟩ := ovr_of_below hbl; clear hbl
        go_wp2_with fail
        go_ret
        exact ⟨rfl, by (repeat (first | exact Below.refl _ _ | refine Below.alloc ?_ (by first | exact Nat.le_refl _ | (simp [size_ovr]; done) | (simp [size_ovr]; omega)) _ | refine below_ovr_of ?_ | refine drew_below ?_ _ | refine Below.drew ?_ | refine Below.setCell ?_ (by first | exact Nat.le_refl _ | (simp [size_ovr]; done) | (simp [size_ovr]; omega)) _ | assumption))⟩

theorem clampP_facts {L : List ByteArray} {l c : Int} (h : 0 < L.length) : ∃ k : Nat, k < L.length ∧ clampP L l c true = ((k : Int), min (max c 0) ((L.getD k .empty).size : Int)) ∧ clampP L l c false = ((k : Int), min (max c 0) (max (((L.getD k .empty).size : Int) - 1) 0)) ∧
    (0 ≤ l → l < L.length → (k : Int) = l) := by
  obtain ⟨k, hk, hkl, _⟩ := clampP_line (L := L) (l := l) (by omega)
  exact ⟨k, hk, by rw [clampP_eq (by omega) hkl, clampC_true], by rw [clampP_eq (by omega) hkl, clampC_false], fun h1 h2 => by omega⟩

set_option maxHeartbeats 1000000 in
theorem classInside_walk (a : Option Addr) (cap : Nat) (L : List ByteArray) (l c : Int) (W : World) (hL : LinesAt W a L) (_hl : (Lit.int .i64 l).wf = true) (_hc : (Lit.int .i64 c).wf = true) :
    Calls Try.prog 7 #[.slice a L.length cap, .int .i64 l, .int .i64 c] W fun e W' => e = .returned (.bool true) ∧ Below W.heap.size W W' := by
  cases hli : textB L with
  | false =>
    go_enter Try.func7, Try.ntmps7
    go_wp2_with (first
      | (go_at_call 15; refine (known5_any _).mono ?_; rintro e w1 ⟨rfl, hbl⟩; obtain ⟨x, rfl⟩ := ovr_of_below hbl; clear hbl)
      | (go_at_call 27; refine (text_any _ _ L _ (by (repeat (first | assumption | refine LinesAt.ovr ?_ _ | refine LinesAt.alloc ?_ _ | refine LinesAt.drewN ?_ _ | refine LinesAt.drew ?_)))).mono ?_; rintro e w1 ⟨rfl, rfl⟩))
    go_ret
    exact ⟨rfl, by (repeat (first | exact Below.refl _ _ | refine Below.alloc ?_ (by first | exact Nat.le_refl _ | (simp [size_ovr]; done) | (simp [size_ovr]; omega)) _ | refine below_ovr_of ?_ | refine drew_below ?_ _ | refine Below.drew ?_ | refine Below.setCell ?_ (by first | exact Nat.le_refl _ | (simp [size_ovr]; done) | (simp [size_ovr]; omega)) _ | assumption))⟩
  | true =>
    obtain ⟨h0, hn, htot, _⟩ := text_spec hli
    obtain ⟨k, hk, hp, hq, hin⟩ := clampP_facts (L := L) (l := l) (c := c) h0
    obtain ⟨b, off, rfl, hb, hcell, hs⟩ := hL.line hk
    generalize L.getD k .empty = s at hp hq hcell hs
    obtain ⟨pc, hpc⟩ : ∃ pc, min (max c 0) (s.size : Int) = pc := ⟨_, rfl⟩
    obtain ⟨qc, hqc⟩ : ∃ qc, min (max c 0) (max ((s.size : Int) - 1) 0) = qc := ⟨_, rfl⟩
    rw [hpc] at hp
    rw [hqc] at hq
    have p1 : 0 ≤ pc := by omega
    have p2 : pc ≤ s.size := by omega
    have q1 : 0 ≤ qc := by omega
    have HB : (0 ≤ c ∧ c ≤ s.size ∧ pc ≤ c ∧ c ≤ pc ∧ qc ≤ min c (max ((s.size : Int) - 1) 0) ∧ min c (max ((s.size : Int) - 1) 0) ≤ qc) ∨ (¬ (0 ≤ c ∧ c ≤ s.size)) := by omega
    have HQ : (1 ≤ s.size ∧ qc ≤ (s.size : Int) - 1) ∨ (s.size = 0 ∧ qc ≤ 0) := by omega
    have HK : (0 ≤ l ∧ l < L.length ∧ (k : Int) ≤ l ∧ l ≤ (k : Int)) ∨ ¬ (0 ≤ l ∧ l < L.length) := by
      by_cases h : 0 ≤ l ∧ l < L.length
      · left; have := hin h.1 h.2; omega
      · right; exact h
    clear hpc hqc hin
    have hk' : (k : Int) < (L.length : Int) := by omega
    rcases HB with ⟨b1, b2, b3, b4, b5, b6⟩ | HB <;> rcases HQ with ⟨z1, z2⟩ | ⟨z1, z2⟩ <;> rcases HK with ⟨k1, k2, k3, k4⟩ | HK
    all_goals (
      go_enter Try.func7, Try.ntmps7
      go_wp2_with (first
        | (go_at_call 15; refine (known5_any _).mono ?_; rintro e w1 ⟨rfl, hbl⟩; obtain ⟨x, rfl⟩ := ovr_of_below hbl; clear hbl)
        | (go_at_call 27; refine (text_any _ _ L _ (by (repeat (first | assumption | refine LinesAt.ovr ?_ _ | refine LinesAt.alloc ?_ _ | refine LinesAt.drewN ?_ _ | refine LinesAt.drew ?_)))).mono ?_; rintro e w1 ⟨rfl, rfl⟩)
        | (go_at_call 21; refine (clamp_any _ _ L _ _ _ _ (by (repeat (first | assumption | refine LinesAt.ovr ?_ _ | refine LinesAt.alloc ?_ _ | refine LinesAt.drewN ?_ _ | refine LinesAt.drew ?_)))).mono ?_; rintro e w1 ⟨rfl, hbl⟩; obtain ⟨x, rfl⟩ := ovr_of_below hbl; clear hbl)))
    all_goals (go_ret; refine ⟨ret_bool ?_, by (repeat (first | exact Below.refl _ _ | refine Below.alloc ?_ (by first | exact Nat.le_refl _ | (simp [size_ovr]; done) | (simp [size_ovr]; omega)) _ | refine below_ovr_of ?_ | refine drew_below ?_ _ | refine Below.drew ?_ | refine Below.setCell ?_ (by first | exact Nat.le_refl _ | (simp [size_ovr]; done) | (simp [size_ovr]; omega)) _ | assumption))⟩; first | rfl | (rw [beq_iff_eq]; omega) | (simp only [bne_iff_ne, ne_eq] at *; omega))
end Go.Proofs.Ytjkilpnbaaiglaa
