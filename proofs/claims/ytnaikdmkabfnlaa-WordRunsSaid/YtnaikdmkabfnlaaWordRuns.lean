/- The walk of the law WordRuns. Conditions: none beyond what it says. -/
import Derived.Test.YtnaikdmkabfnlaaWordLaws
namespace Go.Proofs.Ytnaikdmkabfnlaa
open Go.RowKit Go.Shelf

/-- What is heard of a line's runs. -/
theorem heardW (s : ByteArray) (big : Bool) (hs : s.size ≤ 300) (Bs : Nat) (R : List (Nat × Nat)) (hR : runF s big 0 0 = R) (most : Nat) (hm : 1 ≤ most) (hm2 : most ≤ 100000) (w : World) (h1 : w.cell? ⟨Bs, 0, none⟩ = some (.string s)) (h2 : w.cell? ⟨Bs + 1, 0, none⟩ = some (.bool big)) (hb : Bs + 1 < w.heap.size) :
    Calls Try.prog 38 #[.func (.func 72) #[] #[.pointer (some ⟨Bs, 0, none⟩), .pointer (some ⟨Bs + 1, 0, none⟩)], .int .i64 most] w fun e w' => ∃ a cap, e = .returned (.tuple #[.slice a (R.take most).length cap, .bool true]) ∧ PairsAt w' a (R.take most) ∧ Below w.heap.size w w' := by
  have hl : R.length ≤ 100000 := by have := chain_len (runF_all (s := s) (big := big)); rw [hR] at this; omega
  refine heard15_any s.size _ _ R hl most hm hm2 w w.heap.size rfl (enters_of Try.func72 (by kernel_rfl) rfl) (fun W hW => ?_)
  rw [← hR]
  exact wruns_stops w.heap.size Bs (Bs + 1) s big W (by omega) hb hW.size (by omega) ((hW.cell (p := ⟨Bs, 0, none⟩) (by simp; omega)).trans h1) ((hW.cell (p := ⟨Bs + 1, 0, none⟩) (by simp; omega)).trans h2)
theorem same15_at {a b : Option Addr} {ca cb na nb : Nat} (R : List (Nat × Nat)) (hR : R.length ≤ 100000) (w : World) (ha : PairsAt w a R) (hb : PairsAt w b R) (h1 : na = R.length) (h2 : nb = R.length) :
    Calls Try.prog 41 #[.slice a na ca, .slice b nb cb] w fun e w' => e = .returned (.bool true) ∧ Below w.heap.size w w' := by
  subst h1 h2
  exact same15_any a b ca cb R hR w ha hb
/-- Where run i begins: where the one ahead ends. -/
def atR (R : List (Nat × Nat)) : Nat → Nat
  | 0 => 0
  | j + 1 => (R.getD j (0, 0)).2
theorem atR_at {s : ByteArray} {big : Bool} {R : List (Nat × Nat)} (h : chainR s big 0 R) {i : Nat} (hi : i < R.length) : (R.getD i (0, 0)).1 = atR R i ∧ atR R i < (R.getD i (0, 0)).2 ∧ (R.getD i (0, 0)).2 ≤ s.size := by
  have g := chain_at h hi
  have e : (R.getD i (0, 0)).1 = atR R i := by
    cases i with
    | zero => exact g.2.2.2.2.2.2 rfl
    | succ j => exact ((chain_at h (k := j) (by omega)).2.2.2.2.1 hi).1
  exact ⟨e, by rw [← e]; exact g.2.1, g.2.2.1⟩
theorem atR_end {s : ByteArray} {big : Bool} {R : List (Nat × Nat)} (h : chainR s big 0 R) : atR R R.length = s.size := by
  cases hl : R.length with
  | zero =>
    have e : R = [] := List.eq_nil_of_length_eq_zero hl
    subst e
    exact h
  | succ j =>
    have g := (chain_at h (k := j) (by omega)).2.2.2.2.2.1 (by omega)
    exact g
set_option maxRecDepth 100000 in
set_option maxHeartbeats 4000000 in
theorem wordRuns_walk (s : ByteArray) (big : Bool) (mo : Int) (W : World) (hs : s.size ≤ 140737488351232) (hmo : 0 ≤ mo ∧ mo ≤ 255) :
    Calls Try.prog 8 #[.string s, .bool big, .int .u8 mo] W fun e W' => e = .returned (.bool true) ∧ Below W.heap.size W W' := by
  by_cases h3 : s.size ≤ 300
  · obtain ⟨k, hk⟩ : ∃ k : Nat, mo % 9 = (k : Int) - 1 := ⟨(mo % 9 + 1).toNat, by omega⟩
    have hk1 : 1 ≤ k := by omega
    have hk5 : k ≤ 9 := by omega
    have hch := runF_all (s := s) (big := big)
    obtain ⟨R, hR⟩ : ∃ R, runF s big 0 0 = R := ⟨_, rfl⟩
    rw [hR] at hch
    have hl : R.length ≤ 300 := by have := chain_len hch; omega
    have HH := Lib.hid (heardW s big h3)
    have HCH := Lib.hid hch
    have HRQ := fun (w0 : World) => rruns_any s big w0 (by omega)
    rw [hR] at HRQ
    have HRQ' := Lib.hid HRQ
    have HRR := Lib.hid hR
    obtain ⟨Rk, hRk⟩ : ∃ Rk, R.take k = Rk := ⟨_, rfl⟩
    have HRk := Lib.hid hRk
    have hkl : (k ≤ R.length ∧ Hid (Rk.length = k)) ∨ (R.length < k ∧ Hid (Rk.length = R.length)) := by
      by_cases h : k ≤ R.length
      · exact .inl ⟨h, Lib.hid (by rw [← hRk, List.length_take]; omega)⟩
      · exact .inr ⟨by omega, Lib.hid (by rw [← hRk, List.length_take]; omega)⟩
    clear hRk
    have HT : Hid (R.take 1000 = R) := Lib.hid (List.take_of_length_le (by omega))
    clear hR HRQ hch
    go_enter Try.func8, Try.ntmps8
    go_wp2_with (go_at_call 37; refine (known15_any _).mono ?_; rintro e w1 ⟨rfl, hbl⟩; obtain ⟨x, rfl⟩ := ovr_of_below hbl; clear hbl)
    go_at_call 39; refine (wruns_any _ _ _).mono ?_; rintro e w1 ⟨rfl, rfl⟩
    go_wp2_with fail
    go_at_call 38; refine (HH.out _ R HRR.out 1000 (by omega) (by omega) _ (by simp [go_sem]) (by simp [go_sem]) (by simp)).mono ?_; rw [HT.out]; rintro e w1 ⟨a1, cap1, rfl, hp1, hbl⟩; obtain ⟨x1, rfl⟩ := ovr_of_below hbl; clear hbl
    go_wp2_with fail
    go_at_call 40; refine (HRQ'.out _).mono ?_; rintro e w1 ⟨a2, cap2, rfl, hp2, hcap2, _, hbl⟩; obtain ⟨x2, rfl⟩ := ovr_of_below hbl; clear hbl
    replace hp1 := hp1.ovr x2
    go_wp2_with fail
    go_at_call 39; refine (wruns_any _ _ _).mono ?_; rintro e w1 ⟨rfl, rfl⟩
    go_wp2_with fail
    go_at_call 38; refine (HH.out _ R HRR.out k hk1 (by omega) _ (by simp [go_sem]) (by simp [go_sem]) (by simp)).mono ?_; rw [HRk.out]; rintro e w1 ⟨a3, cap3, rfl, hp3, hbl⟩; obtain ⟨x3, rfl⟩ := ovr_of_below hbl; clear hbl
    have hp2k := hp2.take k
    rw [HRk.out] at hp2k
    go_wp2
    refine name_world ?_
    intro W0 hW0
    have q1 : PairsAt W0 a1 R := by rw [hW0]; (repeat (first | assumption | refine PairsAt.ovr ?_ _ | refine PairsAt.alloc ?_ _ | refine PairsAt.drewN ?_ _ | refine PairsAt.drew ?_))
    have q2 : PairsAt W0 a2 R := by rw [hW0]; (repeat (first | assumption | refine PairsAt.ovr ?_ _ | refine PairsAt.alloc ?_ _ | refine PairsAt.drewN ?_ _ | refine PairsAt.drew ?_))
    have q2k : PairsAt W0 a2 Rk := by rw [hW0]; (repeat (first | assumption | refine PairsAt.ovr ?_ _ | refine PairsAt.alloc ?_ _ | refine PairsAt.drewN ?_ _ | refine PairsAt.drew ?_))
    have q3 : PairsAt W0 a3 Rk := by rw [hW0]; (repeat (first | assumption | refine PairsAt.ovr ?_ _ | refine PairsAt.alloc ?_ _ | refine PairsAt.drewN ?_ _ | refine PairsAt.drew ?_))
    have hbel : Below W.heap.size W W0 := by rw [hW0]; (repeat (first | with_reducible exact Below.refl _ _ | (with_reducible refine Below.setCell ?_ ?_ _; rotate_left; · (first | exact Nat.le_refl _ | assumption | omega | (simp; done) | (simp; omega))) | (with_reducible refine Below.alloc ?_ ?_ _; rotate_left; · (first | exact Nat.le_refl _ | assumption | omega | (simp; done) | (simp; omega))) | with_reducible refine below_ovr_of ?_ | with_reducible refine drew_below ?_ _ | with_reducible refine Below.drew ?_ | with_reducible assumption))
    have hszW := hbel.size
    have Q1 := Lib.hid q1
    clear hW0 hp1 hp2 hp2k hp3 q1
    go_loop [13, 14] (fun q i => ∃ k' : Nat, k' ≤ R.length ∧ i = .int .i64 k' ∧ q = .int .i64 (atR R k')) (fun _ i => R.length - (intOf i).toNat)
    case atStart => exact ⟨0, Nat.zero_le _, rfl, rfl⟩
    case round =>
      obtain ⟨k', hk', rfl, rfl⟩ := hrel
      by_cases hlt : k' < R.length
      · have hltI : (k' : Int) < (R.length : Int) := by omega
        have hk0 : (0 : Int) ≤ (k' : Int) := by omega
        obtain ⟨g, rfl, hg, c1, c2⟩ := Q1.out k' hlt
        have hat := atR_at HCH.out hlt
        have hn : atR R (k' + 1) = (R.getD k' (0, 0)).2 := rfl
        rw [hat.1] at c1
        obtain ⟨fx, hfx⟩ : ∃ fx, atR R k' = fx := ⟨_, rfl⟩
        obtain ⟨fy, hfy⟩ : ∃ fy, (R.getD k' (0, 0)).2 = fy := ⟨_, rfl⟩
        rw [hfx] at c1 hat ⊢
        rw [hfy] at c2 hat hn
        have hxy : (fx : Int) < (fy : Int) := by omega
        have HN := Lib.hid hn
        clear hat hn hfx hfy
        go_wp2
        go_round
        case rel => exact ⟨k' + 1, by omega, by go_num, by rw [HN.out]⟩
        case measure => simp [intOf]; omega
      · obtain rfl : k' = R.length := by omega
        have hae := atR_end HCH.out
        rw [hae]
        clear hae
        go_wp2_with fail
        go_at_call 41; refine (same15_any a1 a2 cap1 cap2 R (by omega) _ Q1.out q2).mono ?_; rintro e w1 ⟨rfl, hbl⟩; obtain ⟨x4, rfl⟩ := ovr_of_below hbl; clear hbl
        rcases hkl with ⟨hkl, HL⟩ | ⟨hkl, HL⟩
        · have hklI : (k : Int) ≤ (R.length : Int) := by omega
          have hkc : k ≤ cap2 := by omega
          go_wp2_with fail
          go_at_call 41; refine (same15_at Rk (by have := HL.out; omega) _ (by (repeat (first | assumption | refine PairsAt.ovr ?_ _ | refine PairsAt.alloc ?_ _ | refine PairsAt.drewN ?_ _ | refine PairsAt.drew ?_))) (by (repeat (first | assumption | refine PairsAt.ovr ?_ _ | refine PairsAt.alloc ?_ _ | refine PairsAt.drewN ?_ _ | refine PairsAt.drew ?_))) (by have := HL.out; omega) (by have := HL.out; omega)).mono ?_; rintro e w1 ⟨rfl, hbl⟩; obtain ⟨x5, rfl⟩ := ovr_of_below hbl; clear hbl
          go_wp2
          go_ret
          exact ⟨rfl, by (repeat (first | with_reducible exact Below.refl _ _ | (with_reducible refine Below.setCell ?_ ?_ _; rotate_left; · (first | exact Nat.le_refl _ | assumption | omega | (simp; done) | (simp; omega))) | (with_reducible refine Below.alloc ?_ ?_ _; rotate_left; · (first | exact Nat.le_refl _ | assumption | omega | (simp; done) | (simp; omega))) | with_reducible refine below_ovr_of ?_ | with_reducible refine drew_below ?_ _ | with_reducible refine Below.drew ?_ | with_reducible assumption))⟩
        · have hklI : (R.length : Int) ≤ (k : Int) := by omega
          have hklJ : ¬ (k : Int) ≤ (R.length : Int) := by omega
          go_wp2_with fail
          go_at_call 41; refine (same15_at Rk (by have := HL.out; omega) _ (by (repeat (first | assumption | refine PairsAt.ovr ?_ _ | refine PairsAt.alloc ?_ _ | refine PairsAt.drewN ?_ _ | refine PairsAt.drew ?_))) (by (repeat (first | assumption | refine PairsAt.ovr ?_ _ | refine PairsAt.alloc ?_ _ | refine PairsAt.drewN ?_ _ | refine PairsAt.drew ?_))) (by have := HL.out; omega) (by have := HL.out; omega)).mono ?_; rintro e w1 ⟨rfl, hbl⟩; obtain ⟨x5, rfl⟩ := ovr_of_below hbl; clear hbl
          go_wp2
          go_ret
          exact ⟨rfl, by (repeat (first | with_reducible exact Below.refl _ _ | (with_reducible refine Below.setCell ?_ ?_ _; rotate_left; · (first | exact Nat.le_refl _ | assumption | omega | (simp; done) | (simp; omega))) | (with_reducible refine Below.alloc ?_ ?_ _; rotate_left; · (first | exact Nat.le_refl _ | assumption | omega | (simp; done) | (simp; omega))) | with_reducible refine below_ovr_of ?_ | with_reducible refine drew_below ?_ _ | with_reducible refine Below.drew ?_ | with_reducible assumption))⟩
  · have h3' : (300 : Int) < (s.size : Int) := by omega
    go_enter Try.func8, Try.ntmps8
    go_wp2_with (go_at_call 37; refine (known15_any _).mono ?_; rintro e w1 ⟨rfl, hbl⟩; obtain ⟨x, rfl⟩ := ovr_of_below hbl; clear hbl)
    go_ret
    exact ⟨rfl, by (repeat (first | exact Below.refl _ _ | refine Below.alloc ?_ (by first | exact Nat.le_refl _ | (simp; done) | (simp; omega)) _ | refine below_ovr_of ?_ | refine drew_below ?_ _ | refine Below.drew ?_ | refine Below.setCell ?_ (by first | exact Nat.le_refl _ | (simp; done) | (simp; omega)) _ | assumption))⟩
end Go.Proofs.Ytnaikdmkabfnlaa
