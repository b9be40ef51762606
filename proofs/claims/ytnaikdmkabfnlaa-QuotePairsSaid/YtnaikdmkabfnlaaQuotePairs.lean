/- The walk of the law QuotePairs. Conditions: none beyond what it says. -/
import Derived.Test.YtnaikdmkabfnlaaQuoteLaws
import Derived.Test.YtnaikdmkabfnlaaQuote6
import Derived.Outline
namespace Go.Proofs.Ytnaikdmkabfnlaa
open Go.RowKit Go.Shelf

/-- What is heard of a line's quotes. -/
theorem heardQ (s : ByteArray) (q : Int) (hs : s.size ≤ 300) (Bs : Nat) (R : List (Nat × Nat)) (hR : qpF s q none 0 = R) (most : Nat) (hm : 1 ≤ most) (hm2 : most ≤ 100000) (w : World) (h1 : w.cell? ⟨Bs, 0, none⟩ = some (.string s)) (h2 : w.cell? ⟨Bs + 1, 0, none⟩ = some (.int .u8 q)) (hb : Bs + 1 < w.heap.size) :
    Calls Try.prog 30 #[.func (.func 66) #[] #[.pointer (some ⟨Bs, 0, none⟩), .pointer (some ⟨Bs + 1, 0, none⟩)], .int .i64 most] w fun e w' => ∃ a cap, e = .returned (.tuple #[.slice a (R.take most).length cap, .bool true]) ∧ PairsAt w' a (R.take most) ∧ Below w.heap.size w w' := by
  have hl : R.length ≤ 100000 := by have := qpF_len (s := s) (q := q) _ none 0 rfl; rw [hR] at this; omega
  refine heard16_any s.size _ _ R hl most hm hm2 w w.heap.size rfl (enters_of Try.func66 (by kernel_rfl) rfl) (fun W hW => ?_)
  rw [← hR]
  exact qpairs_stops w.heap.size Bs (Bs + 1) s q W (by omega) hb hW.size (by omega) ((hW.cell (p := ⟨Bs, 0, none⟩) (by simp; omega)).trans h1) ((hW.cell (p := ⟨Bs + 1, 0, none⟩) (by simp; omega)).trans h2)

theorem same16_at {a b : Option Addr} {ca cb na nb : Nat} (R : List (Nat × Nat)) (hR : R.length ≤ 100000) (w : World) (ha : PairsAt w a R) (hb : PairsAt w b R) (h1 : na = R.length) (h2 : nb = R.length) :
    Calls Try.prog 33 #[.slice a na ca, .slice b nb cb] w fun e w' => e = .returned (.bool true) ∧ Below w.heap.size w w' := by
  subst h1 h2
  exact same16_any a b ca cb R hR w ha hb
set_option maxRecDepth 100000 in
set_option maxHeartbeats 4000000 in
theorem quotePairs_walk (s : ByteArray) (q mo : Int) (W : World) (hs : s.size ≤ 140737488351232) (_hq : 0 ≤ q ∧ q ≤ 255) (hmo : 0 ≤ mo ∧ mo ≤ 255) :
    Calls Try.prog 5 #[.string s, .int .u8 q, .int .u8 mo] W fun e W' => e = .returned (.bool true) ∧ Below W.heap.size W W' := by
  by_cases h3 : s.size ≤ 300
  · obtain ⟨k, hk⟩ : ∃ k : Nat, mo % 5 = (k : Int) - 1 := ⟨(mo % 5 + 1).toNat, by omega⟩
    have hk1 : 1 ≤ k := by omega
    have hk5 : k ≤ 5 := by omega
    obtain ⟨R, hR⟩ : ∃ R, qpF s q none 0 = R := ⟨_, rfl⟩
    have hl : R.length ≤ 300 := by have := qpF_len (s := s) (q := q) _ none 0 rfl; rw [hR] at this; omega
    have HH := Lib.hid (heardQ s q h3)
    have HRQ := fun (w0 : World) => rqpairs_cap s q w0 (by omega)
    rw [hR] at HRQ
    have HRQ' := Lib.hid HRQ
    have HRR := Lib.hid hR
    obtain ⟨Rk, hRk⟩ : ∃ Rk, R.take k = Rk := ⟨_, rfl⟩
    have HRk := Lib.hid hRk
    have hkl : (k ≤ R.length ∧ Hid (Rk.length = k)) ∨ (R.length < k ∧ Hid (Rk.length = R.length)) := by
      by_cases h : k ≤ R.length
      · exact .inl ⟨h, Lib.hid (by rw [← hRk, List.length_take]; omega)⟩
      · exact .inr ⟨by omega, Lib.hid (by rw [← hRk, List.length_take]; omega)⟩
    clear hRk
    have HT : Hid (R.take 1000 = R) := Lib.hid (List.take_of_length_le (by omega))
    clear hR HRQ
    go_enter Try.func5, Try.ntmps5
    go_wp2_with (go_at_call 29; refine (known16_any _).mono ?_; rintro e w1 ⟨rfl, hbl⟩; obtain ⟨x, rfl⟩ := ovr_of_below hbl; clear hbl)
    go_at_call 31; refine (qpairs_any _ _ _).mono ?_; rintro e w1 ⟨rfl, rfl⟩
    go_wp2_with fail
    go_at_call 30; refine (HH.out _ R HRR.out 1000 (by omega) (by omega) _ (by simp [go_sem]) (by simp [go_sem]) (by simp)).mono ?_; rw [HT.out]; rintro e w1 ⟨a1, cap1, rfl, hp1, hbl⟩; obtain ⟨x1, rfl⟩ := ovr_of_below hbl; clear hbl
    go_wp2_with fail
    go_at_call 32; refine (HRQ'.out _).mono ?_; rintro e w1 ⟨a2, cap2, rfl, hp2, hcap2, hbl⟩; obtain ⟨x2, rfl⟩ := ovr_of_below hbl; clear hbl
    replace hp1 := hp1.ovr x2
    go_wp2_with fail
    go_at_call 31; refine (qpairs_any _ _ _).mono ?_; rintro e w1 ⟨rfl, rfl⟩
    go_wp2_with fail
    go_at_call 30; refine (HH.out _ R HRR.out k hk1 (by omega) _ (by simp [go_sem]) (by simp [go_sem]) (by simp)).mono ?_; rw [HRk.out]; rintro e w1 ⟨a3, cap3, rfl, hp3, hbl⟩; obtain ⟨x3, rfl⟩ := ovr_of_below hbl; clear hbl
    have hp2k := hp2.take k
    rw [HRk.out] at hp2k
    go_wp2_with fail
    go_at_call 33; refine (same16_any a1 a2 cap1 cap2 R (by omega) _ (by (repeat (first | assumption | refine PairsAt.ovr ?_ _ | refine PairsAt.alloc ?_ _ | refine PairsAt.drewN ?_ _ | refine PairsAt.drew ?_))) (by (repeat (first | assumption | refine PairsAt.ovr ?_ _ | refine PairsAt.alloc ?_ _ | refine PairsAt.drewN ?_ _ | refine PairsAt.drew ?_)))).mono ?_; rintro e w1 ⟨rfl, hbl⟩; obtain ⟨x4, rfl⟩ := ovr_of_below hbl; clear hbl
    rcases hkl with ⟨hkl, HL⟩ | ⟨hkl, HL⟩
    · have hklI : (k : Int) ≤ (R.length : Int) := by omega
      have hkc : k ≤ cap2 := by omega
      go_wp2_with fail
      go_at_call 33; refine (same16_at Rk (by have := HL.out; omega) _ (by (repeat (first | assumption | refine PairsAt.ovr ?_ _ | refine PairsAt.alloc ?_ _ | refine PairsAt.drewN ?_ _ | refine PairsAt.drew ?_))) (by (repeat (first | assumption | refine PairsAt.ovr ?_ _ | refine PairsAt.alloc ?_ _ | refine PairsAt.drewN ?_ _ | refine PairsAt.drew ?_))) (by have := HL.out; omega) (by have := HL.out; omega)).mono ?_; rintro e w1 ⟨rfl, hbl⟩; obtain ⟨x5, rfl⟩ := ovr_of_below hbl; clear hbl
      go_wp2
      go_ret
      exact ⟨rfl, by (repeat (first | with_reducible exact Below.refl _ _ | (with_reducible refine Below.setCell ?_ ?_ _; rotate_left; · (first | exact Nat.le_refl _ | assumption | omega | (simp; done) | (simp; omega))) | (with_reducible refine Below.alloc ?_ ?_ _; rotate_left; · (first | exact Nat.le_refl _ | assumption | omega | (simp; done) | (simp; omega))) | with_reducible refine below_ovr_of ?_ | with_reducible refine drew_below ?_ _ | with_reducible refine Below.drew ?_ | with_reducible assumption))⟩
    · have hklI : (R.length : Int) ≤ (k : Int) := by omega
      have hklJ : ¬ (k : Int) ≤ (R.length : Int) := by omega
      go_wp2_with fail
      go_at_call 33; refine (same16_at Rk (by have := HL.out; omega) _ (by (repeat (first | assumption | refine PairsAt.ovr ?_ _ | refine PairsAt.alloc ?_ _ | refine PairsAt.drewN ?_ _ | refine PairsAt.drew ?_))) (by (repeat (first | assumption | refine PairsAt.ovr ?_ _ | refine PairsAt.alloc ?_ _ | refine PairsAt.drewN ?_ _ | refine PairsAt.drew ?_))) (by have := HL.out; omega) (by have := HL.out; omega)).mono ?_; rintro e w1 ⟨rfl, hbl⟩; obtain ⟨x5, rfl⟩ := ovr_of_below hbl; clear hbl
      go_wp2
      go_ret
      exact ⟨rfl, by (repeat (first | with_reducible exact Below.refl _ _ | (with_reducible refine Below.setCell ?_ ?_ _; rotate_left; · (first | exact Nat.le_refl _ | assumption | omega | (simp; done) | (simp; omega))) | (with_reducible refine Below.alloc ?_ ?_ _; rotate_left; · (first | exact Nat.le_refl _ | assumption | omega | (simp; done) | (simp; omega))) | with_reducible refine below_ovr_of ?_ | with_reducible refine drew_below ?_ _ | with_reducible refine Below.drew ?_ | with_reducible assumption))⟩
  · have h3' : (300 : Int) < (s.size : Int) := by omega
    go_enter Try.func5, Try.ntmps5
    go_wp2_with (go_at_call 29; refine (known16_any _).mono ?_; rintro e w1 ⟨rfl, hbl⟩; obtain ⟨x, rfl⟩ := ovr_of_below hbl; clear hbl)
    go_ret
    exact ⟨rfl, by (repeat (first | exact Below.refl _ _ | refine Below.alloc ?_ (by first | exact Nat.le_refl _ | (simp; done) | (simp; omega)) _ | refine below_ovr_of ?_ | refine drew_below ?_ _ | refine Below.drew ?_ | refine Below.setCell ?_ (by first | exact Nat.le_refl _ | (simp; done) | (simp; omega)) _ | assumption))⟩
end Go.Proofs.Ytnaikdmkabfnlaa
