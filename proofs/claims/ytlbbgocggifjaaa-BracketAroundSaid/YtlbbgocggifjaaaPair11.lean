/- The plain laws of brackets: a bracket's bracket's bracket is itself. Conditions: none. -/
import Derived.Test.YtlbbgocggifjaaaMatch
namespace Go.Proofs.Ytlbbgocggifjaaa
open Go.RowKit

theorem kind_pair {c o s : Int} {op : Bool} (h : kindP c = (o, s, op, true)) : kindP o = (o, s, true, true) ∧ kindP s = (o, s, false, true) := by
  unfold kindP at h
  by_cases h1 : c = 40 ∨ c = 41
  · rw [if_pos h1] at h
    simp only [Prod.mk.injEq] at h
    obtain ⟨rfl, rfl, _, _⟩ := h
    decide
  · rw [if_neg h1] at h
    by_cases h2 : c = 91 ∨ c = 93
    · rw [if_pos h2] at h
      simp only [Prod.mk.injEq] at h
      obtain ⟨rfl, rfl, _, _⟩ := h
      decide
    · rw [if_neg h2] at h
      by_cases h3 : c = 123 ∨ c = 125
      · rw [if_pos h3] at h
        simp only [Prod.mk.injEq] at h
        obtain ⟨rfl, rfl, _, _⟩ := h
        decide
      · rw [if_neg h3] at h; simp at h
theorem kind_of_is {c : Int} (h : (kindP c).2.2.2 = true) : ∃ o s op, kindP c = (o, s, op, true) := by
  obtain ⟨⟨o, s, op, is⟩, hk⟩ : ∃ r, kindP c = r := ⟨_, rfl⟩
  rw [hk] at h
  have h' : is = true := h
  subst h'
  exact ⟨o, s, op, hk⟩
theorem otherP_back {B : List UInt8} {i t : Nat} (hi : i < B.length) (hk : (kindP (btI B i)).2.2.2 = true) (h : otherP B i = some t) : otherP B t = some i ∧ (kindP (btI B t)).2.2.2 = true ∧ t < B.length ∧ t ≠ i := by
  obtain ⟨o, s, op, hkk⟩ := kind_of_is hk
  obtain ⟨hos, h1, h2⟩ := kind_spec hkk
  obtain ⟨ko, ks⟩ := kind_pair hkk
  cases op with
  | true =>
    rw [otherP_open hkk] at h
    obtain ⟨e1, e2⟩ := other_fwd hos (h1 rfl) h
    have hb := scanF_spec _ (i + 1) 1 rfl t h
    have kt : kindP (btI B t) = (o, s, false, true) := by rw [e2]; exact ks
    exact ⟨by rw [otherP_shut kt]; exact e1, by rw [kt], hb.2, by omega⟩
  | false =>
    rw [otherP_shut hkk] at h
    obtain ⟨e1, e2⟩ := other_bwd hos hi (h2 rfl) h
    have hb := scanB_spec i 1 t h
    have kt : kindP (btI B t) = (o, s, true, true) := by rw [e2]; exact ko
    exact ⟨by rw [otherP_open kt]; exact e1, by rw [kt], by omega, by omega⟩
theorem plcB_nat {L : List ByteArray} {l c : Nat} (hl : l < L.length) (hc : c ≤ (L.getD l .empty).size) : plcB L l c = true := by
  simp only [plcB, Int.toNat_natCast, decide_eq_true_eq]; omega
/-- From a bracket to the one that belongs to it. -/
theorem matchP_at {L : List ByteArray} {l c : Nat} (hl : l < L.length) (hc : c < (L.getD l .empty).size) (hk : (kindP (btI (flat L) (idx L l c))).2.2.2 = true) : matchP L l c = matchT L (otherP (flat L) (idx L l c)) := by
  rw [matchP_yes (plcB_nat hl (by omega)) rfl]
  rw [brkN_hit hc (by rw [byt_atM _ _ hc, ← flat_byte hl rfl hc]; exact hk)]
  rfl
theorem brkN_spec {s : ByteArray} : ∀ (k i : Nat), s.size - i = k → ∀ j, brkN s i = some j → i ≤ j ∧ j < s.size ∧ (kindP (byt s j)).2.2.2 = true
  | 0, i, h, j, hj => by rw [brkN_end (by omega)] at hj; cases hj
  | k + 1, i, h, j, hj => by
    by_cases hk : (kindP (byt s i)).2.2.2 = true
    · rw [brkN_hit (by omega) hk] at hj; cases hj; exact ⟨by omega, by omega, hk⟩
    · rw [brkN_miss (by omega) hk] at hj
      have := brkN_spec k (i + 1) (by omega) j hj
      exact ⟨by omega, this.2⟩
theorem matchP_back {L : List ByteArray} {pl pc : Int} {m : Mov} (h : matchP L pl pc = (m, true)) : ∃ tl tc ul uc : Int, m = (tl, tc, 1, true, -1) ∧ matchP L tl tc = ((ul, uc, 1, true, -1), true) ∧ matchP L ul uc = ((tl, tc, 1, true, -1), true) ∧ ¬ (ul = tl ∧ uc = tc) := by
  cases hp : plcB L pl pc with
  | false => rw [matchP_no hp] at h; simp [noMov] at h
  | true =>
    obtain ⟨p1, p2, p3, p4⟩ := plcB_spec hp
    obtain ⟨l, rfl⟩ := Int.eq_ofNat_of_zero_le p1
    obtain ⟨c, rfl⟩ := Int.eq_ofNat_of_zero_le p3
    have hl : l < L.length := by omega
    rw [matchP_yes hp rfl] at h
    cases hb : brkN (L.getD l .empty) c with
    | none => rw [hb] at h; simp [matchK, noMov] at h
    | some k =>
      obtain ⟨k1, k2, k3⟩ := brkN_spec _ c rfl k hb
      rw [hb, matchK] at h
      have hk : (kindP (btI (flat L) (idx L l k))).2.2.2 = true := by rw [flat_byte hl rfl k2, ← byt_atM _ _ k2]; exact k3
      cases ht : otherP (flat L) (idx L l k) with
      | none => rw [ht] at h; simp [matchT, noMov] at h
      | some t =>
        rw [ht, matchT] at h
        simp only [Prod.mk.injEq, and_true] at h
        have hi := idx_lt hl k2
        obtain ⟨q1, q2, q3, q4⟩ := otherP_back (by rw [flat_length]; exact hi) hk ht
        rw [flat_length] at q3
        obtain ⟨s1, s2, s3⟩ := plcOf_spec q3
        refine ⟨((plcOf L t).1 : Int), ((plcOf L t).2 : Int), (l : Int), (k : Int), h.symm, ?_, ?_, ?_⟩
        · rw [matchP_at s1 s2 (by rw [s3]; exact q2), s3, q1, matchT, plcOf_idx hl k2]
        · rw [matchP_at hl k2 hk, ht, matchT]
        · rintro ⟨e1, e2⟩
          have e1' : l = (plcOf L t).1 := by omega
          have e2' : k = (plcOf L t).2 := by omega
          rw [← e1', ← e2'] at s3
          exact q4 s3.symm
end Go.Proofs.Ytlbbgocggifjaaa
