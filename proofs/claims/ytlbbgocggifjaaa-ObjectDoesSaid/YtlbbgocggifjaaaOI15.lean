/- Several texts in one: Para, Para2. Conditions: none beyond what each says. -/
import Derived.Test.YtlbbgocggifjaaaOI7
import Derived.Test.YtlbbgocggifjaaaOI9
import Derived.Test.YtlbbgocggifjaaaOI13
namespace Go.Proofs.Ytlbbgocggifjaaa
open Go.RowKit

/-- A line that is empty, or not, as a walk asks. -/
theorem emp_facts {w : World} {a : Option Addr} {L : List ByteArray} (hL : LinesAt w a L) {i : Nat} (h : i < L.length) :
    ∃ b off s, a = some ⟨b, off, none⟩ ∧ b < w.heap.size ∧ w.cell? ⟨b, off + i, none⟩ = some (.string s) ∧ ((emp L i = true ∧ s = ⟨#[]⟩) ∨ (emp L i = false ∧ s.toList.isEmpty = false ∧ s.size ≤ 140737488351232)) := by
  obtain ⟨b, off, s, e, hb, hc, hs, HS⟩ := line_facts' hL h
  refine ⟨b, off, s, e, hb, hc, ?_⟩
  have he : emp L i = (s.size == 0) := by rw [emp, HS.out]
  by_cases h0 : s.size = 0
  · exact .inl ⟨by rw [he, h0]; rfl, str_nil h0⟩
  · exact .inr ⟨by rw [he, beq_eq_false_iff_ne]; exact h0, str_empty h0, hs⟩
theorem pfails_at (a : Option Addr) (cap : Nat) (L : List ByteArray) (pl pc n : Int) (w : World) (hL : LinesAt w a L) {q : Bool} (h : Hid ((plcB L pl pc && decide (1 ≤ n)) = q)) :
    Calls Try.prog 122 #[.slice a L.length cap, .agg #[.int .i64 pl, .int .i64 pc], .int .i64 n] w fun e w' => e = .returned (.bool (!q)) ∧ Below w.heap.size w w' := by
  by_cases h1 : 1 ≤ n
  · have h1d : decide (n < 1) = false := decide_eq_false (by omega)
    have HP : Hid (plcB L pl pc = q) := Lib.hid (by rw [← h.out, decide_eq_true h1, Bool.and_true])
    cases q with
    | false =>
      go_enter Try.func122, Try.ntmps122
      go_wp2_with (go_at_call 109; refine (place_any _ _ L _ _ _ (by (repeat (first | assumption | refine LinesAt.ovr ?_ _ | refine LinesAt.alloc ?_ _ | refine LinesAt.drewN ?_ _ | refine LinesAt.drew ?_)))).mono ?_; rw [HP.out]; rintro e w1 ⟨rfl, hbl⟩; obtain ⟨x, rfl⟩ := ovr_of_below hbl; clear hbl)
      go_ret
      exact ⟨rfl, by (repeat (first | exact Below.refl _ _ | refine Below.alloc ?_ (by first | exact Nat.le_refl _ | (simp; done) | (simp; omega)) _ | refine below_ovr_of ?_ | refine drew_below ?_ _ | refine Below.drew ?_ | refine Below.setCell ?_ (by first | exact Nat.le_refl _ | (simp; done) | (simp; omega)) _ | assumption))⟩
    | true =>
      go_enter Try.func122, Try.ntmps122
      go_wp2_with (go_at_call 109; refine (place_any _ _ L _ _ _ (by (repeat (first | assumption | refine LinesAt.ovr ?_ _ | refine LinesAt.alloc ?_ _ | refine LinesAt.drewN ?_ _ | refine LinesAt.drew ?_)))).mono ?_; rw [HP.out]; rintro e w1 ⟨rfl, hbl⟩; obtain ⟨x, rfl⟩ := ovr_of_below hbl; clear hbl)
      go_ret
      exact ⟨rfl, by (repeat (first | exact Below.refl _ _ | refine Below.alloc ?_ (by first | exact Nat.le_refl _ | (simp; done) | (simp; omega)) _ | refine below_ovr_of ?_ | refine drew_below ?_ _ | refine Below.drew ?_ | refine Below.setCell ?_ (by first | exact Nat.le_refl _ | (simp; done) | (simp; omega)) _ | assumption))⟩
  · have h1d : n < 1 := by omega
    obtain rfl : q = false := by have := h.out; rw [decide_eq_false h1, Bool.and_false] at this; exact this.symm
    go_enter Try.func122, Try.ntmps122
    go_wp2_with (go_at_call 109; refine (place_any _ _ L _ _ _ (by (repeat (first | assumption | refine LinesAt.ovr ?_ _ | refine LinesAt.alloc ?_ _ | refine LinesAt.drewN ?_ _ | refine LinesAt.drew ?_)))).mono ?_; rintro e w1 ⟨rfl, hbl⟩; obtain ⟨x, rfl⟩ := ovr_of_below hbl; clear hbl)
    go_ret
    exact ⟨rfl, by (repeat (first | exact Below.refl _ _ | refine Below.alloc ?_ (by first | exact Nat.le_refl _ | (simp; done) | (simp; omega)) _ | refine below_ovr_of ?_ | refine drew_below ?_ _ | refine Below.drew ?_ | refine Below.setCell ?_ (by first | exact Nat.le_refl _ | (simp; done) | (simp; omega)) _ | assumption))⟩
theorem pjump_any (l c : Int) (w : World) : Calls Try.prog 124 #[.agg #[.int .i64 l, .int .i64 c]] w fun e w' => e = .returned (.agg #[.int .i64 l, .int .i64 c, .int .i64 0, .bool true, .int .i64 (-1)]) ∧ Below w.heap.size w w' := by
  go_enter Try.func124, Try.ntmps124
  go_wp2
  refine bodyPost_ret (v := .agg #[.int .i64 l, .int .i64 c, .int .i64 0, .bool true, .int .i64 (-1)]) (by simp [results, Try.results124, go_sem]) rfl ⟨rfl, by (repeat (first | exact Below.refl _ _ | refine Below.alloc ?_ (by first | exact Nat.le_refl _ | (simp; done) | (simp; omega)) _ | refine below_ovr_of ?_ | refine drew_below ?_ _ | refine Below.drew ?_ | refine Below.setCell ?_ (by first | exact Nat.le_refl _ | (simp; done) | (simp; omega)) _ | assumption))⟩
theorem rjump_any (l c : Int) (w : World) : Calls Try.prog 126 #[.agg #[.int .i64 l, .int .i64 c]] w fun e w' => e = .returned (movV ((l, c, 0, true, -1), true)) ∧ Below w.heap.size w w' := by
  go_enter Try.func126, Try.ntmps126
  go_wp2
  refine bodyPost_ret (v := movV ((l, c, 0, true, -1), true)) (by simp [results, Try.results126, go_sem]) rfl ⟨rfl, by (repeat (first | exact Below.refl _ _ | refine Below.alloc ?_ (by first | exact Nat.le_refl _ | (simp; done) | (simp; omega)) _ | refine below_ovr_of ?_ | refine drew_below ?_ _ | refine Below.drew ?_ | refine Below.setCell ?_ (by first | exact Nat.le_refl _ | (simp; done) | (simp; omega)) _ | assumption))⟩
/-- The text's end. -/
theorem rend_any (a : Option Addr) (cap : Nat) (L : List ByteArray) (w : World) (hL : LinesAt w a L) (h0 : 0 < L.length) {e : Nat} (he : L.length - 1 = e) {s : ByteArray} (hs : L.getD e .empty = s) :
    Calls Try.prog 125 #[.slice a L.length cap] w fun r w' => r = .returned (.agg #[.int .i64 e, .int .i64 s.size]) ∧ Below w.heap.size w w' := by
  have hn := hL.2.1
  obtain ⟨b, off, s', rfl, hb, hcell, hs', HS⟩ := line_facts' hL (i := e) (by omega)
  obtain rfl : s = s' := hs.symm.trans HS.out
  have e1 : (L.length : Int) - 1 = (e : Int) := by omega
  have e2 : (e : Int) < (L.length : Int) := by omega
  have e3 : (0 : Int) ≤ (e : Int) := by omega
  clear hs he
  go_enter Try.func125, Try.ntmps125
  go_wp2
  refine bodyPost_ret (v := .agg #[.int .i64 e, .int .i64 s.size]) (by simp [results, Try.results125, go_sem]) rfl ⟨rfl, by (repeat (first | exact Below.refl _ _ | refine Below.alloc ?_ (by first | exact Nat.le_refl _ | (simp; done) | (simp; omega)) _ | refine below_ovr_of ?_ | refine drew_below ?_ _ | refine Below.drew ?_ | refine Below.setCell ?_ (by first | exact Nat.le_refl _ | (simp; done) | (simp; omega)) _ | assumption))⟩
theorem nxT_some {L : List ByteArray} {op : Bool} {l i : Nat} (h : pnF L (l + 1) = some i) : nxT L op l = (i, 0) := by rw [nxT, h]
theorem nxT_none {L : List ByteArray} {op : Bool} {l e : Nat} (h : pnF L (l + 1) = none) (he : L.length - 1 = e) : nxT L op l = (e, lastN L op) := by rw [nxT, h, ← he]
theorem bkT_some {L : List ByteArray} {l i : Nat} (h : pbF L l = some i) : bkT L l = (i, 0) := by rw [bkT, h]
theorem bkT_none {L : List ByteArray} {l : Nat} (h : pbF L l = none) : bkT L l = (0, 0) := by rw [bkT, h]

set_option maxRecDepth 100000 in
set_option maxHeartbeats 4000000 in
theorem pnext_any (a : Option Addr) (cap : Nat) (L : List ByteArray) (l : Nat) (c : Int) (op : Bool) (w : World) (hL : LinesAt w a L) (hl : l < L.length) {l2 c2 : Nat} (hr : Hid (nxT L op l = (l2, c2))) :
    Calls Try.prog 123 #[.slice a L.length cap, .agg #[.int .i64 l, .int .i64 c], .bool op] w fun e w' => e = .returned (.agg #[.int .i64 l2, .int .i64 c2]) ∧ Below w.heap.size w w' := by
  have hn := hL.2.1
  obtain ⟨A, hA⟩ : ∃ A, pnF L (l + 1) = A := ⟨_, rfl⟩
  have HA := Lib.hid hA
  have hl1 : l + 1 ≤ L.length := hl
  obtain ⟨e, he⟩ : ∃ e, L.length - 1 = e := ⟨_, rfl⟩
  have HE := Lib.hid he
  have e1 : (L.length : Int) - 1 = (e : Int) := by omega
  have e2 : (e : Int) < (L.length : Int) := by omega
  have e3 : (0 : Int) ≤ (e : Int) := by omega
  obtain ⟨b, off, s, rfl, hb, hcell, hs, HS⟩ := line_facts' hL (i := e) (by omega)
  clear hA he
  go_enter Try.func123, Try.ntmps123
  go_wp2
  go_loop [7] (fun i => ∃ k : Nat, l + 1 ≤ k ∧ k ≤ L.length ∧ i = .int .i64 k ∧ Hid (pnF L k = A)) (fun i => L.length - (intOf i).toNat)
  case atStart => exact ⟨l + 1, Nat.le_refl _, hl1, by go_num, HA⟩
  case round =>
    obtain ⟨k, hk1, hk, rfl, HK⟩ := hrel
    by_cases hlt : k < L.length
    · have hltI : (k : Int) < (L.length : Int) := by omega
      have hk0 : (0 : Int) ≤ (k : Int) := by omega
      obtain ⟨b', off', s1, e', hb1, hc1, hw1⟩ := emp_facts hL hlt
      cases e'
      obtain ⟨k1, hkk⟩ : ∃ k1, k - 1 = k1 := ⟨_, rfl⟩
      obtain ⟨b', off', s2, e', hb2, hc2, hw2⟩ := emp_facts hL (i := k1) (by omega)
      cases e'
      have ek : (k : Int) - 1 = (k1 : Int) := by omega
      have hk10 : (0 : Int) ≤ (k1 : Int) := by omega
      have hk1I : (k1 : Int) < (L.length : Int) := by omega
      have hgap : gapB L k (k - 1) = (emp L k && !emp L k1) := by rw [gapB, hkk]
      clear hkk
      rcases hw1 with ⟨h1, rfl⟩ | ⟨h1, hse1, hs1⟩
      · rcases hw2 with ⟨h2, rfl⟩ | ⟨h2, hse2, hs2⟩
        · have HK2 : Hid (pnF L (k + 1) = A) := Lib.hid (by rw [← pnF_no hlt (by rw [hgap, h1, h2]; rfl)]; exact HK.out)
          clear hgap h1 h2 HK
          go_wp2
          go_round
          case rel => exact ⟨k + 1, by omega, by omega, by go_num, HK2⟩
          case measure => simp [intOf]; omega
        · have HR := Lib.hid (hr.out.symm.trans (nxT_some (op := op) (HA.out.trans (HK.out.symm.trans (pnF_yes hlt (by rw [hgap, h1, h2]; rfl))))))
          clear hgap h1 h2 HK
          go_wp2
          refine bodyPost_ret (v := .agg #[.int .i64 k, .int .i64 0]) (by simp [results, Try.results123, go_sem]) rfl ⟨by have := HR.out; simp only [Prod.mk.injEq] at this; obtain ⟨rfl, rfl⟩ := this; rfl, by (repeat (first | with_reducible exact Below.refl _ _ | (with_reducible refine Below.setCell ?_ ?_ _; rotate_left; · (first | exact Nat.le_refl _ | assumption | omega | (simp; done) | (simp; omega))) | (with_reducible refine Below.alloc ?_ ?_ _; rotate_left; · (first | exact Nat.le_refl _ | assumption | omega | (simp; done) | (simp; omega))) | with_reducible refine below_ovr_of ?_ | with_reducible refine drew_below ?_ _ | with_reducible refine Below.drew ?_ | with_reducible assumption))⟩
      · have HK2 : Hid (pnF L (k + 1) = A) := Lib.hid (by rw [← pnF_no hlt (by rw [hgap, h1]; rfl)]; exact HK.out)
        clear hgap h1 HK hw2
        go_wp2
        go_round
        case rel => exact ⟨k + 1, by omega, by omega, by go_num, HK2⟩
        case measure => simp [intOf]; omega
    · have hltI : ¬ (k : Int) < (L.length : Int) := by omega
      have HR := Lib.hid (hr.out.symm.trans (nxT_none (op := op) (HA.out.trans (HK.out.symm.trans (pnF_end (by omega)))) HE.out))
      have hr2 := HR.out
      simp only [Prod.mk.injEq, lastN, HE.out, HS.out] at hr2
      obtain ⟨rfl, hc2⟩ := hr2
      clear HK HR
      cases op with
      | true =>
        simp only [if_true] at hc2
        subst hc2
        go_wp2
        refine bodyPost_ret (v := .agg #[.int .i64 l2, .int .i64 s.size]) (by simp [results, Try.results123, go_sem]) rfl ⟨rfl, by (repeat (first | with_reducible exact Below.refl _ _ | (with_reducible refine Below.setCell ?_ ?_ _; rotate_left; · (first | exact Nat.le_refl _ | assumption | omega | (simp; done) | (simp; omega))) | (with_reducible refine Below.alloc ?_ ?_ _; rotate_left; · (first | exact Nat.le_refl _ | assumption | omega | (simp; done) | (simp; omega))) | with_reducible refine below_ovr_of ?_ | with_reducible refine drew_below ?_ _ | with_reducible refine Below.drew ?_ | with_reducible assumption))⟩
      | false =>
        simp only [Bool.false_eq_true, if_false] at hc2
        by_cases h0 : s.size = 0
        · obtain rfl := str_nil h0
          obtain rfl : c2 = 0 := hc2
          clear h0
          go_wp2
          refine bodyPost_ret (v := .agg #[.int .i64 l2, .int .i64 0]) (by simp [results, Try.results123, go_sem]) rfl ⟨rfl, by (repeat (first | with_reducible exact Below.refl _ _ | (with_reducible refine Below.setCell ?_ ?_ _; rotate_left; · (first | exact Nat.le_refl _ | assumption | omega | (simp; done) | (simp; omega))) | (with_reducible refine Below.alloc ?_ ?_ _; rotate_left; · (first | exact Nat.le_refl _ | assumption | omega | (simp; done) | (simp; omega))) | with_reducible refine below_ovr_of ?_ | with_reducible refine drew_below ?_ _ | with_reducible refine Below.drew ?_ | with_reducible assumption))⟩
        · have hc3 : (s.size : Int) - 1 = (c2 : Int) := by omega
          have hc4 : (0 : Int) ≤ (c2 : Int) := by omega
          clear hc2
          go_wp2
          refine bodyPost_ret (v := .agg #[.int .i64 l2, .int .i64 c2]) (by simp [results, Try.results123, go_sem]) rfl ⟨rfl, by (repeat (first | with_reducible exact Below.refl _ _ | (with_reducible refine Below.setCell ?_ ?_ _; rotate_left; · (first | exact Nat.le_refl _ | assumption | omega | (simp; done) | (simp; omega))) | (with_reducible refine Below.alloc ?_ ?_ _; rotate_left; · (first | exact Nat.le_refl _ | assumption | omega | (simp; done) | (simp; omega))) | with_reducible refine below_ovr_of ?_ | with_reducible refine drew_below ?_ _ | with_reducible refine Below.drew ?_ | with_reducible assumption))⟩

set_option maxRecDepth 100000 in
set_option maxHeartbeats 4000000 in
theorem pback_any (a : Option Addr) (cap : Nat) (L : List ByteArray) (l : Nat) (c : Int) (w : World) (hL : LinesAt w a L) (hl : l < L.length) {l2 c2 : Nat} (hr : Hid (bkT L l = (l2, c2))) :
    Calls Try.prog 127 #[.slice a L.length cap, .agg #[.int .i64 l, .int .i64 c]] w fun e w' => e = .returned (.agg #[.int .i64 l2, .int .i64 c2]) ∧ Below w.heap.size w w' := by
  have hn := hL.2.1
  obtain ⟨A, hA⟩ : ∃ A, pbF L l = A := ⟨_, rfl⟩
  have HA := Lib.hid hA
  clear hA
  go_enter Try.func127, Try.ntmps127
  go_wp2
  go_loop [5] (fun i => ∃ k : Nat, k ≤ l ∧ i = .int .i64 ((k : Int) - 1) ∧ Hid (pbF L k = A)) (fun i => (intOf i + 1).toNat)
  case atStart => exact ⟨l, Nat.le_refl _, by go_num, HA⟩
  case round =>
    obtain ⟨k0, hk, rfl, HK⟩ := hrel
    rcases k0 with _ | k
    · have HR := Lib.hid (hr.out.symm.trans (bkT_none (HA.out.trans (HK.out.symm.trans rfl))))
      have e0 : ((0 : Nat) : Int) - 1 = -1 := by omega
      rw [e0]
      clear e0
      go_wp2
      refine bodyPost_ret (v := .agg #[.int .i64 0, .int .i64 0]) (by simp [results, Try.results127, go_sem]) rfl ⟨by have := HR.out; simp only [Prod.mk.injEq] at this; obtain ⟨rfl, rfl⟩ := this; rfl, by (repeat (first | with_reducible exact Below.refl _ _ | (with_reducible refine Below.setCell ?_ ?_ _; rotate_left; · (first | exact Nat.le_refl _ | assumption | omega | (simp; done) | (simp; omega))) | (with_reducible refine Below.alloc ?_ ?_ _; rotate_left; · (first | exact Nat.le_refl _ | assumption | omega | (simp; done) | (simp; omega))) | with_reducible refine below_ovr_of ?_ | with_reducible refine drew_below ?_ _ | with_reducible refine Below.drew ?_ | with_reducible assumption))⟩
    · have e0 : ((k + 1 : Nat) : Int) - 1 = (k : Int) := by omega
      rw [e0]
      clear e0
      have hltI : (k : Int) < (L.length : Int) := by omega
      have hk0 : (0 : Int) ≤ (k : Int) := by omega
      have hlt2 : (k : Int) + 1 < (L.length : Int) := by omega
      obtain ⟨b, off, s1, rfl, hb1, hc1, hw1⟩ := emp_facts hL (i := k) (by omega)
      obtain ⟨b', off', s2, e', hb2, hc2, hw2⟩ := emp_facts hL (i := k + 1) (by omega)
      cases e'
      rcases hw1 with ⟨h1, rfl⟩ | ⟨h1, hse1, hs1⟩
      · rcases hw2 with ⟨h2, rfl⟩ | ⟨h2, hse2, hs2⟩
        · have HK2 : Hid (pbF L k = A) := Lib.hid (by rw [← pbF_no (show gapB L k (k + 1) = false by rw [gapB, h1, h2]; rfl)]; exact HK.out)
          clear h1 h2 HK
          go_wp2
          go_round
          case rel => exact ⟨k, by omega, by go_num, HK2⟩
          case measure => simp [intOf] <;> omega
        · have HR := Lib.hid (hr.out.symm.trans (bkT_some (HA.out.trans (HK.out.symm.trans (pbF_yes (by rw [gapB, h1, h2]; rfl))))))
          clear h1 h2 HK
          go_wp2
          refine bodyPost_ret (v := .agg #[.int .i64 k, .int .i64 0]) (by simp [results, Try.results127, go_sem]) rfl ⟨by have := HR.out; simp only [Prod.mk.injEq] at this; obtain ⟨rfl, rfl⟩ := this; rfl, by (repeat (first | with_reducible exact Below.refl _ _ | (with_reducible refine Below.setCell ?_ ?_ _; rotate_left; · (first | exact Nat.le_refl _ | assumption | omega | (simp; done) | (simp; omega))) | (with_reducible refine Below.alloc ?_ ?_ _; rotate_left; · (first | exact Nat.le_refl _ | assumption | omega | (simp; done) | (simp; omega))) | with_reducible refine below_ovr_of ?_ | with_reducible refine drew_below ?_ _ | with_reducible refine Below.drew ?_ | with_reducible assumption))⟩
      · have HK2 : Hid (pbF L k = A) := Lib.hid (by rw [← pbF_no (show gapB L k (k + 1) = false by rw [gapB, h1]; rfl)]; exact HK.out)
        clear h1 HK hw2
        go_wp2
        go_round
        case rel => exact ⟨k, by omega, by go_num, HK2⟩
        case measure => simp [intOf] <;> omega
end Go.Proofs.Ytlbbgocggifjaaa
namespace Go.Proofs.Ytlbbgocggifjaaa
open Go.RowKit

theorem stepsP_end (L : List ByteArray) (op fwd : Bool) (l c : Nat) : stepsP L op fwd 0 l c = (((l : Int), (c : Int), 0, true, -1), true) := rfl
theorem parT_fwd (L : List ByteArray) (op : Bool) (l : Nat) : parT L op true l = nxT L op l := rfl
theorem parT_bwd (L : List ByteArray) (op : Bool) (l : Nat) : parT L op false l = bkT L l := rfl
theorem rless_at (a b c d : Int) (w : World) {q : Bool} (h : Hid (lessB a b c d = q)) :
    Calls Try.prog 72 #[.agg #[.int .i64 a, .int .i64 b], .agg #[.int .i64 c, .int .i64 d]] w fun e w' => e = .returned (.bool q) ∧ Below w.heap.size w w' := by
  have := rless_any a b c d w
  rw [h.out] at this
  exact this
theorem less_at (a b c d : Int) (w : World) {q : Bool} (h : Hid (lessB a b c d = q)) :
    Calls Try.prog 95 #[.agg #[.int .i64 a, .int .i64 b], .agg #[.int .i64 c, .int .i64 d]] w fun e w' => e = .returned (.bool q) ∧ Below w.heap.size w w' := by
  have := less_any a b c d w
  rw [h.out] at this
  exact this
/-- The place and the count, where both may be. -/
theorem para_in {L : List ByteArray} {pl pc n : Int} (h : plcB L pl pc = true ∧ 1 ≤ n) (op fwd : Bool) : ∃ l c m : Nat, pl = l ∧ pc = c ∧ n = m ∧ l < L.length ∧ 1 ≤ m ∧ paraP L l c m op fwd = stepsP L op fwd m l c := by
  obtain ⟨h1, h2⟩ := h
  obtain ⟨p1, p2, p3, p4⟩ := plcB_spec h1
  obtain ⟨l, rfl⟩ := Int.eq_ofNat_of_zero_le p1
  obtain ⟨c, rfl⟩ := Int.eq_ofNat_of_zero_le p3
  obtain ⟨m, rfl⟩ := Int.eq_ofNat_of_zero_le (show 0 ≤ n by omega)
  refine ⟨l, c, m, rfl, rfl, rfl, by omega, by omega, ?_⟩
  rw [paraP, if_pos ⟨h1, h2⟩]; rfl

set_option maxRecDepth 100000 in
set_option maxHeartbeats 8000000 in
theorem paraNext_any (a : Option Addr) (cap : Nat) (L : List ByteArray) (pl pc n : Int) (op : Bool) (w : World) (hL : LinesAt w a L) (hn2 : n ≤ 9223372036854775807) :
    Calls Try.prog 64 #[.slice a L.length cap, .agg #[.int .i64 pl, .int .i64 pc], .int .i64 n, .bool op] w fun e w' => e = .returned (movV (paraP L pl pc n op true)) ∧ Below w.heap.size w w' := by
  have hn := hL.2.1
  by_cases h : plcB L pl pc = true ∧ 1 ≤ n
  · have HQ : Hid ((plcB L pl pc && decide (1 ≤ n)) = true) := Lib.hid (by rw [h.1, decide_eq_true h.2]; rfl)
    obtain ⟨l, c, m, rfl, rfl, rfl, hl, hm, hp⟩ := para_in h op true
    obtain ⟨A, hA⟩ : ∃ A, stepsP L op true m l c = A := ⟨_, rfl⟩
    have HP := Lib.hid (hp.trans hA)
    have HA := Lib.hid hA
    clear hp hA h
    go_enter Try.func64, Try.ntmps64
    go_wp2_with (go_at_call 122; refine (pfails_at _ _ L _ _ _ _ (by (repeat (first | assumption | refine LinesAt.ovr ?_ _ | refine LinesAt.alloc ?_ _ | refine LinesAt.drewN ?_ _ | refine LinesAt.drew ?_))) HQ).mono ?_; rintro e w1 ⟨rfl, hbl⟩; obtain ⟨x, rfl⟩ := ovr_of_below hbl; clear hbl)
    go_loopw [2] (fun n wr => ∃ k l1 c1 : Nat, n = .int .i64 k ∧ k ≤ m ∧ l1 < L.length ∧ Hid (stepsP L op true k l1 c1 = A) ∧ ∃ x, wr = ovr ((w.alloc (.cells #[.int .i64 (l1 : Int), .int .i64 (c1 : Int)] 29)).alloc (.cells #[.int .i64 0, .int .i64 0, .int .i64 0, .bool false, .int .i64 0] 60)) x) (fun n _ => (intOf n).toNat)
    case atStart => exact ⟨m, l, c, rfl, Nat.le_refl _, hl, HA, _, rfl⟩
    case round =>
      obtain ⟨k0, l1, c1, rfl, hk, hl1, HK, x, rfl⟩ := hrel
      rcases k0 with _ | k
      · have HR := Lib.hid (HP.out.trans (HK.out.symm.trans (stepsP_end L op true l1 c1)))
        have e0 : ¬ (0 : Int) < ((0 : Nat) : Int) := by omega
        go_wp2_with (go_at_call 124; refine (pjump_any _ _ _).mono ?_; rintro e w1 ⟨rfl, hbl⟩; obtain ⟨x, rfl⟩ := ovr_of_below hbl; clear hbl)
        refine bodyPost_ret (v := movV (((l1 : Int), (c1 : Int), 0, true, -1), true)) (by simp [results, Try.results64, go_sem]) rfl ⟨by rw [HR.out], by (repeat (first | with_reducible exact Below.refl _ _ | (with_reducible refine Below.setCell ?_ ?_ _; rotate_left; · (first | exact Nat.le_refl _ | assumption | omega | (simp; done) | (simp; omega))) | (with_reducible refine Below.alloc ?_ ?_ _; rotate_left; · (first | exact Nat.le_refl _ | assumption | omega | (simp; done) | (simp; omega))) | with_reducible refine below_ovr_of ?_ | with_reducible refine drew_below ?_ _ | with_reducible refine Below.drew ?_ | with_reducible assumption))⟩
      · obtain ⟨⟨l2, c2⟩, hT⟩ : ∃ t, nxT L op l1 = t := ⟨_, rfl⟩
        obtain ⟨q, hq⟩ : ∃ q, lessB l1 c1 l2 c2 = q := ⟨_, rfl⟩
        have hl2 := parT_in (op := op) (fwd := true) hl1 ((parT_fwd L op l1).trans hT)
        have HT := Lib.hid hT
        have HG : Hid (goB true l1 c1 l2 c2 = q) := Lib.hid hq
        have HQ2 := Lib.hid hq
        have hkI : (0 : Int) < ((k + 1 : Nat) : Int) := by omega
        have hkJ : ((k + 1 : Nat) : Int) - 1 = (k : Int) := by omega
        clear hT hq
        cases q with
        | false =>
          have HR := Lib.hid (HP.out.trans (HK.out.symm.trans (stepsP_no ((parT_fwd L _ l1).trans HT.out) HG.out)))
          go_wp2_with fail
          go_at_call 123; refine (pnext_any _ _ L l1 _ op _ (by (repeat (first | assumption | refine LinesAt.ovr ?_ _ | refine LinesAt.alloc ?_ _ | refine LinesAt.drewN ?_ _ | refine LinesAt.drew ?_))) hl1 HT).mono ?_; rintro e w1 ⟨rfl, hbl⟩; obtain ⟨y1, rfl⟩ := ovr_of_below hbl; clear hbl
          go_wp2_with (go_at_call 95; refine (less_at _ _ _ _ _ HQ2).mono ?_; rintro e w1 ⟨rfl, hbl⟩; obtain ⟨x, rfl⟩ := ovr_of_below hbl; clear hbl)
          refine bodyPost_ret (v := movV noMov) (by simp [results, Try.results64, go_sem, noMov]) rfl ⟨by rw [HR.out], by (repeat (first | with_reducible exact Below.refl _ _ | (with_reducible refine Below.setCell ?_ ?_ _; rotate_left; · (first | exact Nat.le_refl _ | assumption | omega | (simp; done) | (simp; omega))) | (with_reducible refine Below.alloc ?_ ?_ _; rotate_left; · (first | exact Nat.le_refl _ | assumption | omega | (simp; done) | (simp; omega))) | with_reducible refine below_ovr_of ?_ | with_reducible refine drew_below ?_ _ | with_reducible refine Below.drew ?_ | with_reducible assumption))⟩
        | true =>
          have HK2 := Lib.hid ((stepsP_on (n := k) ((parT_fwd L _ l1).trans HT.out) HG.out).symm.trans HK.out)
          go_wp2_with fail
          go_at_call 123; refine (pnext_any _ _ L l1 _ op _ (by (repeat (first | assumption | refine LinesAt.ovr ?_ _ | refine LinesAt.alloc ?_ _ | refine LinesAt.drewN ?_ _ | refine LinesAt.drew ?_))) hl1 HT).mono ?_; rintro e w1 ⟨rfl, hbl⟩; obtain ⟨y1, rfl⟩ := ovr_of_below hbl; clear hbl
          go_wp2_with (go_at_call 95; refine (less_at _ _ _ _ _ HQ2).mono ?_; rintro e w1 ⟨rfl, hbl⟩; obtain ⟨x, rfl⟩ := ovr_of_below hbl; clear hbl)
          go_roundw
          case rel => exact ⟨k, _, _, by go_num, by omega, hl2, HK2, ovr_of_below (by (try rw [show ((0 : Nat) : Int) = 0 from rfl]); (repeat (first | with_reducible exact Below.refl _ _ | (with_reducible refine Below.setCell ?_ ?_ _; rotate_left; · (first | exact Nat.le_refl _ | assumption | omega | (simp; done) | (simp; omega))) | (with_reducible refine Below.alloc ?_ ?_ _; rotate_left; · (first | exact Nat.le_refl _ | assumption | omega | (simp; done) | (simp; omega))) | with_reducible refine below_ovr_of ?_ | with_reducible refine drew_below ?_ _ | with_reducible refine Below.drew ?_ | with_reducible assumption)))⟩
          case measure => simp [intOf] <;> omega
  · have HQ : Hid ((plcB L pl pc && decide (1 ≤ n)) = false) := Lib.hid (by
      rw [Bool.eq_false_iff]; intro e; simp only [Bool.and_eq_true, decide_eq_true_eq] at e; exact h e)
    have HP := Lib.hid (paraP_no (op := op) (fwd := true) h)
    clear h
    go_enter Try.func64, Try.ntmps64
    go_wp2_with (go_at_call 122; refine (pfails_at _ _ L _ _ _ _ (by (repeat (first | assumption | refine LinesAt.ovr ?_ _ | refine LinesAt.alloc ?_ _ | refine LinesAt.drewN ?_ _ | refine LinesAt.drew ?_))) HQ).mono ?_; rintro e w1 ⟨rfl, hbl⟩; obtain ⟨x, rfl⟩ := ovr_of_below hbl; clear hbl)
    refine bodyPost_ret (v := movV noMov) (by simp [results, Try.results64, go_sem, noMov]) rfl ⟨by rw [HP.out], by (repeat (first | with_reducible exact Below.refl _ _ | (with_reducible refine Below.setCell ?_ ?_ _; rotate_left; · (first | exact Nat.le_refl _ | assumption | omega | (simp; done) | (simp; omega))) | (with_reducible refine Below.alloc ?_ ?_ _; rotate_left; · (first | exact Nat.le_refl _ | assumption | omega | (simp; done) | (simp; omega))) | with_reducible refine below_ovr_of ?_ | with_reducible refine drew_below ?_ _ | with_reducible refine Below.drew ?_ | with_reducible assumption))⟩

set_option maxRecDepth 100000 in
set_option maxHeartbeats 8000000 in
theorem paraBack_any (a : Option Addr) (cap : Nat) (L : List ByteArray) (pl pc n : Int) (w : World) (hL : LinesAt w a L) (hn2 : n ≤ 9223372036854775807) :
    Calls Try.prog 67 #[.slice a L.length cap, .agg #[.int .i64 pl, .int .i64 pc], .int .i64 n] w fun e w' => e = .returned (movV (paraP L pl pc n false false)) ∧ Below w.heap.size w w' := by
  have hn := hL.2.1
  by_cases h : plcB L pl pc = true ∧ 1 ≤ n
  · have HQ : Hid ((plcB L pl pc && decide (1 ≤ n)) = true) := Lib.hid (by rw [h.1, decide_eq_true h.2]; rfl)
    obtain ⟨l, c, m, rfl, rfl, rfl, hl, hm, hp⟩ := para_in h false false
    obtain ⟨A, hA⟩ : ∃ A, stepsP L false false m l c = A := ⟨_, rfl⟩
    have HP := Lib.hid (hp.trans hA)
    have HA := Lib.hid hA
    clear hp hA h
    go_enter Try.func67, Try.ntmps67
    go_wp2_with (go_at_call 122; refine (pfails_at _ _ L _ _ _ _ (by (repeat (first | assumption | refine LinesAt.ovr ?_ _ | refine LinesAt.alloc ?_ _ | refine LinesAt.drewN ?_ _ | refine LinesAt.drew ?_))) HQ).mono ?_; rintro e w1 ⟨rfl, hbl⟩; obtain ⟨x, rfl⟩ := ovr_of_below hbl; clear hbl)
    go_loopw [2] (fun n wr => ∃ k l1 c1 : Nat, n = .int .i64 k ∧ k ≤ m ∧ l1 < L.length ∧ Hid (stepsP L false false k l1 c1 = A) ∧ ∃ x, wr = ovr ((w.alloc (.cells #[.int .i64 (l1 : Int), .int .i64 (c1 : Int)] 29)).alloc (.cells #[.int .i64 0, .int .i64 0, .int .i64 0, .bool false, .int .i64 0] 60)) x) (fun n _ => (intOf n).toNat)
    case atStart => exact ⟨m, l, c, rfl, Nat.le_refl _, hl, HA, _, rfl⟩
    case round =>
      obtain ⟨k0, l1, c1, rfl, hk, hl1, HK, x, rfl⟩ := hrel
      rcases k0 with _ | k
      · have HR := Lib.hid (HP.out.trans (HK.out.symm.trans (stepsP_end L false false l1 c1)))
        have e0 : ¬ (0 : Int) < ((0 : Nat) : Int) := by omega
        go_wp2_with (go_at_call 124; refine (pjump_any _ _ _).mono ?_; rintro e w1 ⟨rfl, hbl⟩; obtain ⟨x, rfl⟩ := ovr_of_below hbl; clear hbl)
        refine bodyPost_ret (v := movV (((l1 : Int), (c1 : Int), 0, true, -1), true)) (by simp [results, Try.results67, go_sem]) rfl ⟨by rw [HR.out], by (repeat (first | with_reducible exact Below.refl _ _ | (with_reducible refine Below.setCell ?_ ?_ _; rotate_left; · (first | exact Nat.le_refl _ | assumption | omega | (simp; done) | (simp; omega))) | (with_reducible refine Below.alloc ?_ ?_ _; rotate_left; · (first | exact Nat.le_refl _ | assumption | omega | (simp; done) | (simp; omega))) | with_reducible refine below_ovr_of ?_ | with_reducible refine drew_below ?_ _ | with_reducible refine Below.drew ?_ | with_reducible assumption))⟩
      · obtain ⟨⟨l2, c2⟩, hT⟩ : ∃ t, bkT L l1 = t := ⟨_, rfl⟩
        obtain ⟨q, hq⟩ : ∃ q, lessB l2 c2 l1 c1 = q := ⟨_, rfl⟩
        have hl2 := parT_in (op := false) (fwd := false) hl1 ((parT_bwd L false l1).trans hT)
        have HT := Lib.hid hT
        have HG : Hid (goB false l1 c1 l2 c2 = q) := Lib.hid hq
        have HQ2 := Lib.hid hq
        have hkI : (0 : Int) < ((k + 1 : Nat) : Int) := by omega
        have hkJ : ((k + 1 : Nat) : Int) - 1 = (k : Int) := by omega
        clear hT hq
        cases q with
        | false =>
          have HR := Lib.hid (HP.out.trans (HK.out.symm.trans (stepsP_no ((parT_bwd L _ l1).trans HT.out) HG.out)))
          go_wp2_with fail
          go_at_call 127; refine (pback_any _ _ L l1 _ _ (by (repeat (first | assumption | refine LinesAt.ovr ?_ _ | refine LinesAt.alloc ?_ _ | refine LinesAt.drewN ?_ _ | refine LinesAt.drew ?_))) hl1 HT).mono ?_; rintro e w1 ⟨rfl, hbl⟩; obtain ⟨y1, rfl⟩ := ovr_of_below hbl; clear hbl
          go_wp2_with (go_at_call 95; refine (less_at _ _ _ _ _ HQ2).mono ?_; rintro e w1 ⟨rfl, hbl⟩; obtain ⟨x, rfl⟩ := ovr_of_below hbl; clear hbl)
          refine bodyPost_ret (v := movV noMov) (by simp [results, Try.results67, go_sem, noMov]) rfl ⟨by rw [HR.out], by (repeat (first | with_reducible exact Below.refl _ _ | (with_reducible refine Below.setCell ?_ ?_ _; rotate_left; · (first | exact Nat.le_refl _ | assumption | omega | (simp; done) | (simp; omega))) | (with_reducible refine Below.alloc ?_ ?_ _; rotate_left; · (first | exact Nat.le_refl _ | assumption | omega | (simp; done) | (simp; omega))) | with_reducible refine below_ovr_of ?_ | with_reducible refine drew_below ?_ _ | with_reducible refine Below.drew ?_ | with_reducible assumption))⟩
        | true =>
          have HK2 := Lib.hid ((stepsP_on (n := k) ((parT_bwd L _ l1).trans HT.out) HG.out).symm.trans HK.out)
          go_wp2_with fail
          go_at_call 127; refine (pback_any _ _ L l1 _ _ (by (repeat (first | assumption | refine LinesAt.ovr ?_ _ | refine LinesAt.alloc ?_ _ | refine LinesAt.drewN ?_ _ | refine LinesAt.drew ?_))) hl1 HT).mono ?_; rintro e w1 ⟨rfl, hbl⟩; obtain ⟨y1, rfl⟩ := ovr_of_below hbl; clear hbl
          go_wp2_with (go_at_call 95; refine (less_at _ _ _ _ _ HQ2).mono ?_; rintro e w1 ⟨rfl, hbl⟩; obtain ⟨x, rfl⟩ := ovr_of_below hbl; clear hbl)
          go_roundw
          case rel => exact ⟨k, _, _, by go_num, by omega, hl2, HK2, ovr_of_below (by (try rw [show ((0 : Nat) : Int) = 0 from rfl]); (repeat (first | with_reducible exact Below.refl _ _ | (with_reducible refine Below.setCell ?_ ?_ _; rotate_left; · (first | exact Nat.le_refl _ | assumption | omega | (simp; done) | (simp; omega))) | (with_reducible refine Below.alloc ?_ ?_ _; rotate_left; · (first | exact Nat.le_refl _ | assumption | omega | (simp; done) | (simp; omega))) | with_reducible refine below_ovr_of ?_ | with_reducible refine drew_below ?_ _ | with_reducible refine Below.drew ?_ | with_reducible assumption)))⟩
          case measure => simp [intOf] <;> omega
  · have HQ : Hid ((plcB L pl pc && decide (1 ≤ n)) = false) := Lib.hid (by
      rw [Bool.eq_false_iff]; intro e; simp only [Bool.and_eq_true, decide_eq_true_eq] at e; exact h e)
    have HP := Lib.hid (paraP_no (op := false) (fwd := false) h)
    clear h
    go_enter Try.func67, Try.ntmps67
    go_wp2_with (go_at_call 122; refine (pfails_at _ _ L _ _ _ _ (by (repeat (first | assumption | refine LinesAt.ovr ?_ _ | refine LinesAt.alloc ?_ _ | refine LinesAt.drewN ?_ _ | refine LinesAt.drew ?_))) HQ).mono ?_; rintro e w1 ⟨rfl, hbl⟩; obtain ⟨x, rfl⟩ := ovr_of_below hbl; clear hbl)
    refine bodyPost_ret (v := movV noMov) (by simp [results, Try.results67, go_sem, noMov]) rfl ⟨by rw [HP.out], by (repeat (first | with_reducible exact Below.refl _ _ | (with_reducible refine Below.setCell ?_ ?_ _; rotate_left; · (first | exact Nat.le_refl _ | assumption | omega | (simp; done) | (simp; omega))) | (with_reducible refine Below.alloc ?_ ?_ _; rotate_left; · (first | exact Nat.le_refl _ | assumption | omega | (simp; done) | (simp; omega))) | with_reducible refine below_ovr_of ?_ | with_reducible refine drew_below ?_ _ | with_reducible refine Below.drew ?_ | with_reducible assumption))⟩
end Go.Proofs.Ytlbbgocggifjaaa
