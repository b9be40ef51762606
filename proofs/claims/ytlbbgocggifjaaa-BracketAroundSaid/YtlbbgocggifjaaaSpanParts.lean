/- Two neighbouring ranges of bytes, joined. Plain Lean, no program in sight. Conditions: none. -/
import Derived.Test.YtlbbgocggifjaaaSpanP
namespace Go.Proofs.Ytlbbgocggifjaaa

theorem spanT_len {L : List ByteArray} {fc tc : Int} {fl tl : Nat} (h : validB L 0 fl fc tl tc = true) : (spanT L 0 fl fc tl tc).length = tl + 1 - fl := by rw [spanT_yes h]; simp
theorem spanT_at {L : List ByteArray} {fc tc : Int} {fl tl : Nat} (h : validB L 0 fl fc tl tc = true) {i : Nat} (hi : i < tl + 1 - fl) : (spanT L 0 fl fc tl tc)[i]? = some (cutL L 0 fl fc tl tc (fl + i)) := by
  rw [spanT_yes h]
  simp [hi]
theorem cut_join (L : List ByteArray) {a b c : Nat} {ac bc cc : Int} (_hac : 0 ≤ ac) (hbc : 0 ≤ bc) (hbs : bc ≤ (L.getD b .empty).size) (hab : a = b → ac ≤ bc) (hcb : b = c → bc ≤ cc) :
    cutL L 0 a ac b bc b ++ cutL L 0 b bc c cc b = cutL L 0 a ac c cc b := by
  unfold cutL colsP
  simp only [if_true]
  rw [ByteArray.extract_append_extract]
  by_cases h1 : a = b
  · subst h1
    by_cases h2 : a = c
    · subst h2
      simp only [if_true]
      have := hab rfl
      have := hcb rfl
      congr 1 <;> omega
    · have h2' : ¬ (a : Int) = c := by omega
      simp only [if_true, h2', if_false, Int.toNat_natCast]
      have := hab rfl
      congr 1 <;> omega
  · have h1' : ¬ (b : Int) = a := by omega
    by_cases h2 : b = c
    · subst h2
      simp only [if_true, h1', if_false]
      have := hcb rfl
      congr 1 <;> omega
    · have h2' : ¬ (b : Int) = c := by omega
      simp only [h1', h2', if_false, Int.toNat_natCast]
      congr 1 <;> omega
theorem span_join {L : List ByteArray} {a b c : Nat} {ac bc cc : Int} (ha : plcB L a ac = true) (hb : plcB L b bc = true) (hc : plcB L c cc = true) (h1 : lessB b bc a ac = false) (h2 : lessB c cc b bc = false)
    (h3 : lessB c cc a ac = false) :
    (spanT L 0 a ac b bc).take (b - a) ++ [cutL L 0 a ac b bc b ++ cutL L 0 b bc c cc b] ++ (spanT L 0 b bc c cc).drop 1 = spanT L 0 a ac c cc := by
  have qa := plcB_spec ha
  have qb := plcB_spec hb
  have qc := plcB_spec hc
  have l1 := h1
  have l2 := h2
  have l3 := h3
  simp only [lessB, decide_eq_false_iff_not] at l1 l2 l3
  have v1 : validB L 0 a ac b bc = true := by rw [validB_char (by omega) (by omega) (by omega), ha, hb, h1]; rfl
  have v2 : validB L 0 b bc c cc = true := by rw [validB_char (by omega) (by omega) (by omega), hb, hc, h2]; rfl
  have v3 : validB L 0 a ac c cc = true := by rw [validB_char (by omega) (by omega) (by omega), ha, hc, h3]; rfl
  have n1 := spanT_len v1
  have n2 := spanT_len v2
  have n3 := spanT_len v3
  have hj := cut_join L (a := a) (b := b) (c := c) (ac := ac) (bc := bc) (cc := cc) qa.2.2.1 qb.2.2.1 (by have := qb.2.2.2; simpa using this) (by omega) (by omega)
  apply List.ext_getElem?
  intro i
  by_cases i1 : i < b - a
  · rw [List.append_assoc, List.getElem?_append_left (by simp; omega), List.getElem?_take_of_lt i1, spanT_at v1 (by omega), spanT_at v3 (by omega)]
    unfold cutL colsP
    have e1 : ¬ ((a + i : Nat) : Int) = b := by omega
    have e2 : ¬ ((a + i : Nat) : Int) = c := by omega
    simp only [e1, e2, if_true, if_false]
  · by_cases i2 : i = b - a
    · subst i2
      rw [List.append_assoc, List.getElem?_append_right (by simp; omega), spanT_at v3 (by omega)]
      have e : b - a - ((spanT L 0 a ac b bc).take (b - a)).length = 0 := by simp; omega
      rw [e]
      have e' : a + (b - a) = b := by omega
      rw [e', ← hj]
      rfl
    · by_cases i3 : i < c + 1 - a
      · rw [List.getElem?_append_right (by simp; omega), List.getElem?_drop, spanT_at v3 i3]
        have e : 1 + (i - ((spanT L 0 a ac b bc).take (b - a) ++ [cutL L 0 a ac b bc b ++ cutL L 0 b bc c cc b]).length) = i - (b - a) := by simp; omega
        rw [e, spanT_at v2 (by omega)]
        have e' : b + (i - (b - a)) = a + i := by omega
        rw [e']
        unfold cutL colsP
        have e1 : ¬ ((a + i : Nat) : Int) = b := by omega
        have e2 : ¬ ((a + i : Nat) : Int) = a := by omega
        simp only [e1, e2, if_true, if_false]
      · rw [List.getElem?_eq_none (by simp; omega), List.getElem?_eq_none (by omega)]
end Go.Proofs.Ytlbbgocggifjaaa
