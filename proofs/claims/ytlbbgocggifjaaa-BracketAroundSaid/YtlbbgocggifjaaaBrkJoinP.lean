/- Lines joined: around is inner and the two brackets. Plain Lean but for its imports. Conditions: none. -/
import Derived.Test.YtlbbgocggifjaaaObjP
import Derived.Test.YtlbbgocggifjaaaQuoteP
import Derived.Test.YtlbbgocggifjaaaSpanParts
namespace Go.Proofs.Ytlbbgocggifjaaa

/-- A range that is there is one of the text. -/
def OkJ (L : List ByteArray) (r : Rng × Bool) : Prop := r.2 = true → validB L r.1.1 r.1.2.1 r.1.2.2.1 r.1.2.2.2.1 r.1.2.2.2.2 = true
theorem okJ_noR (L : List ByteArray) : OkJ L noR := fun h => by cases h
theorem okJ_char {L : List ByteArray} {fl fc tl tc : Nat} (h1 : fl < L.length) (h2 : fc ≤ (L.getD fl .empty).size) (h3 : tl < L.length) (h4 : tc ≤ (L.getD tl .empty).size) (h5 : lessB tl tc fl fc = false) : OkJ L ((0, (fl : Int), (fc : Int), (tl : Int), (tc : Int)), true) := fun _ => by
  have h5' := h5
  simp only [lessB, decide_eq_false_iff_not] at h5'
  show validB L 0 fl fc tl tc = true
  rw [validB_char (by omega) (by omega) (by omega), plcB_nat h1 h2, plcB_nat h3 h4, h5]; rfl
theorem okJ_bracket (L : List ByteArray) (pl pc o n : Int) (ar : Bool) : OkJ L (bracketP L pl pc o n ar) := by
  cases hb : byteB L pl pc with
  | false => rw [bracketP_no hb]; exact okJ_noR L
  | true =>
    rw [bracketP, if_pos hb, enclP]
    split
    · rename_i hh
      cases he : encF (flat L) (kindP o).1 (kindP o).2.1 (idx L pl.toNat pc.toNat) n (if pc < (ln L pl).size then idx L pl.toNat pc.toNat + 1 else idx L pl.toNat pc.toNat) with
      | none => exact okJ_noR L
      | some it =>
        obtain ⟨i, t⟩ := it
        obtain ⟨_, e2, _, _⟩ := encF_spec he
        obtain ⟨e4, e5⟩ := scanF_spec _ (i + 1) 1 rfl t e2
        rw [flat_length] at e5
        obtain ⟨a1, a2, a3⟩ := plcOf_spec (L := L) (i := i) (by omega)
        obtain ⟨b1, b2, b3⟩ := plcOf_spec (L := L) (i := t) e5
        have hless := idx_less b1 b2 a1 (Nat.le_of_lt a2)
        rw [a3, b3, decide_eq_false (by omega)] at hless
        have hless2 := idx_less a1 a2 b1 (Nat.le_of_lt b2)
        rw [a3, b3, decide_eq_true (by omega)] at hless2
        simp only [lessB, decide_eq_false_iff_not, decide_eq_true_eq] at hless hless2
        cases ar with
        | false =>
          have := okJ_char (L := L) (fl := (plcOf L i).1) (fc := (plcOf L i).2 + 1) (tl := (plcOf L t).1) (tc := (plcOf L t).2) a1 (by omega) b1 (by omega) (by simp only [lessB, decide_eq_false_iff_not]; omega)
          simpa [encR, bracketO] using this
        | true =>
          have := okJ_char (L := L) (fl := (plcOf L i).1) (fc := (plcOf L i).2) (tl := (plcOf L t).1) (tc := (plcOf L t).2 + 1) a1 (by omega) b1 (by omega) (by simp only [lessB, decide_eq_false_iff_not]; omega)
          simpa [encR, bracketO] using this
    · exact okJ_noR L
/-- Lines joined, a line feed behind each. -/
def joinB (X : List ByteArray) : Nat → ByteArray
  | 0 => ByteArray.empty
  | i + 1 => joinB X i ++ X.getD i .empty ++ ⟨#[10]⟩
theorem extract_one {s : ByteArray} {b : Nat} (h : b < s.size) : s.extract b (b + 1) = ⟨#[s[b]]⟩ := by
  apply ByteArray.ext
  apply Array.ext
  · rw [ByteArray.data_extract]
    have : s.data.size = s.size := rfl
    simp; omega
  · intro i h1 h2
    have h2' : i < 1 := h2
    obtain rfl : i = 0 := by omega
    simp [ByteArray.data_extract]
    rfl
theorem cut_brackets (L : List ByteArray) {a x b y : Nat} {o c : UInt8} (hb : b < (L.getD a .empty).size) (ho : (L.getD a .empty)[b] = o) (hy : y < (L.getD x .empty).size) (hc : (L.getD x .empty)[y] = c) (hax : a = x → b + 1 ≤ y) (l : Nat) :
    cutL L 0 a b x ((y : Int) + 1) l = (if l = a then ⟨#[o]⟩ else ByteArray.empty) ++ cutL L 0 a ((b : Int) + 1) x y l ++ (if l = x then ⟨#[c]⟩ else ByteArray.empty) := by
  unfold cutL colsP
  simp only [if_true]
  have e1 : ((b : Int) + 1).toNat = b + 1 := by omega
  have e2 : ((y : Int) + 1).toNat = y + 1 := by omega
  have ia : ∀ l : Nat, ((l : Int) = (a : Int)) = (l = a) := fun l => by rw [eq_iff_iff]; omega
  have ix : ∀ l : Nat, ((l : Int) = (x : Int)) = (l = x) := fun l => by rw [eq_iff_iff]; omega
  simp only [ia, ix]
  by_cases h1 : l = a
  · subst h1
    simp only [if_true]
    rw [← ho, ← extract_one hb]
    by_cases h2 : l = x
    · subst h2
      have := hax rfl
      simp only [if_true, e1, e2, Int.toNat_natCast]
      rw [← hc, ← extract_one hy, ByteArray.extract_append_extract, show min b (b + 1) = b by omega, show max (b + 1) y = y by omega, ByteArray.extract_append_extract]
      congr 1 <;> omega
    · simp only [h2, if_false, e1, Int.toNat_natCast, ByteArray.append_empty]
      rw [ByteArray.extract_append_extract]
      congr 1 <;> omega
  · simp only [h1, if_false, ByteArray.empty_append]
    by_cases h2 : l = x
    · subst h2
      simp only [if_true, e2, Int.toNat_natCast]
      rw [← hc, ← extract_one hy, ByteArray.extract_append_extract]
      congr 1 <;> omega
    · simp only [h2, if_false, ByteArray.append_empty]
theorem join_brackets {A B : List ByteArray} {o c : UInt8} {n : Nat} (h : ∀ i, i ≤ n → B.getD i .empty = (if i = 0 then ⟨#[o]⟩ else ByteArray.empty) ++ A.getD i .empty ++ (if i = n then ⟨#[c]⟩ else ByteArray.empty)) :
    joinB B (n + 1) = ⟨#[o]⟩ ++ (joinB A (n + 1)).extract 0 ((joinB A (n + 1)).size - 1) ++ ⟨#[c]⟩ ++ ⟨#[10]⟩ := by
  have hx : (joinB A (n + 1)).extract 0 ((joinB A (n + 1)).size - 1) = joinB A n ++ A.getD n .empty := by
    rw [joinB]
    apply ByteArray.extract_append_eq_left
    rw [ByteArray.size_append (a := joinB A n ++ A.getD n .empty)]
    have : (⟨#[10]⟩ : ByteArray).size = 1 := rfl
    omega
  have hp : ∀ k, k ≤ n → 0 < k → joinB B k = ⟨#[o]⟩ ++ joinB A k := by
    intro k
    induction k with
    | zero => intro _ h0; omega
    | succ k ih =>
      intro hk _
      rw [joinB, joinB, h k (by omega), if_neg (show ¬ k = n by omega), ByteArray.append_empty]
      by_cases h0 : k = 0
      · subst h0
        simp only [joinB, if_true, ByteArray.empty_append, ByteArray.append_assoc]
      · rw [if_neg h0, ih (by omega) (by omega)]
        simp only [ByteArray.empty_append, ByteArray.append_assoc]
  rw [hx, joinB, h n (Nat.le_refl _), if_pos rfl]
  by_cases h0 : n = 0
  · subst h0
    simp only [joinB, if_true, ByteArray.empty_append, ByteArray.append_assoc]
  · rw [if_neg h0, hp n (Nat.le_refl _) (by omega)]
    simp only [ByteArray.empty_append, ByteArray.append_assoc]
theorem spanT_size {L : List ByteArray} {fc tc : Int} {fl tl : Nat} (h : validB L 0 fl fc tl tc = true) (k : Nat) : ((spanT L 0 fl fc tl tc).getD k .empty).size ≤ total L := by
  by_cases hk : k < tl + 1 - fl
  · rw [List.getD_eq_getElem?_getD, spanT_at h hk]
    have h2 := h
    simp only [validB, Bool.and_eq_true, decide_eq_true_eq] at h2
    obtain ⟨⟨⟨_, _⟩, h3⟩, _⟩ := h2
    exact Nat.le_trans (size_cutL L 0 fl fc tl tc _) (size_le_total L _ (by omega))
  · rw [List.getD_eq_getElem?_getD, List.getElem?_eq_none (by rw [spanT_len h]; omega)]
    exact Nat.zero_le _
theorem joinB_size {X : List ByteArray} {T : Nat} (h : ∀ k, (X.getD k .empty).size ≤ T) : ∀ k, (joinB X k).size ≤ k * (T + 1)
  | 0 => Nat.zero_le _
  | k + 1 => by
    have h1 := joinB_size h k
    have h2 := h k
    rw [joinB, ByteArray.size_append, ByteArray.size_append, Nat.succ_mul]
    have : (⟨#[10]⟩ : ByteArray).size = 1 := rfl
    omega
theorem joinB_pos {X : List ByteArray} {k : Nat} (h : 0 < k) : 1 ≤ (joinB X k).size := by
  obtain ⟨j, rfl⟩ : ∃ j, k = j + 1 := ⟨k - 1, by omega⟩
  rw [joinB, ByteArray.size_append]
  have : (⟨#[10]⟩ : ByteArray).size = 1 := rfl
  omega
theorem joinB_le {X : List ByteArray} {T k : Nat} (h : ∀ k, (X.getD k .empty).size ≤ T) (hT : T ≤ 1200) (hk : k ≤ 40) : (joinB X k).size ≤ 48040 :=
  Nat.le_trans (joinB_size h k) (Nat.le_trans (Nat.mul_le_mul hk (Nat.succ_le_succ hT)) (by decide))
/-- What the two ways of the object are. -/
theorem bracket_two (L : List ByteArray) (pl pc o n : Int) : (bracketP L pl pc o n false = noR ∧ bracketP L pl pc o n true = noR) ∨
    ∃ a b x y, byteB L pl pc = true ∧ enclP L pl pc o n = (((a, b), (x, y)), true) ∧ bracketP L pl pc o n false = ((0, a, b + 1, x, y), true) ∧ bracketP L pl pc o n true = ((0, a, b, x, y + 1), true) := by
  cases hb : byteB L pl pc with
  | false => exact .inl ⟨bracketP_no hb, bracketP_no hb⟩
  | true =>
    obtain ⟨⟨⟨⟨a, b⟩, ⟨x, y⟩⟩, ok⟩, he⟩ : ∃ r, enclP L pl pc o n = r := ⟨_, rfl⟩
    cases ok with
    | false => exact .inl ⟨bracketP_none he, bracketP_none he⟩
    | true => exact .inr ⟨a, b, x, y, rfl, he, bracketP_in hb he, bracketP_out hb he⟩
/-- What the law asks, in lists. -/
theorem bracket_join {L : List ByteArray} {pl pc n : Int} {o s : UInt8} {fl fc tl tc : Int} (hk : kindP (o.toNat : Int) = ((o.toNat : Int), (s.toNat : Int), true, true)) (hos : (o.toNat : Int) ≠ s.toNat) (hb : byteB L pl pc = true) (he : enclP L pl pc (o.toNat : Int) n = (((fl, fc), (tl, tc)), true)) :
    ∃ (f t : Nat) (A B : List ByteArray) (m : Nat), fl = f ∧ tl = t ∧ validB L 0 f (fc + 1) t tc = true ∧ validB L 0 f fc t (tc + 1) = true ∧ spanT L 0 f (fc + 1) t tc = A ∧ spanT L 0 f fc t (tc + 1) = B ∧ A.length = m + 1 ∧ B.length = m + 1 ∧ m + 1 ≤ L.length ∧
      (∀ k, (A.getD k .empty).size ≤ total L) ∧ (∀ k, (B.getD k .empty).size ≤ total L) ∧
      joinB B (m + 1) = ⟨#[o]⟩ ++ (joinB A (m + 1)).extract 0 ((joinB A (m + 1)).size - 1) ++ ⟨#[s]⟩ ++ ⟨#[10]⟩ := by
  have v1 := okJ_bracket L pl pc (o.toNat : Int) n false
  have v2 := okJ_bracket L pl pc (o.toNat : Int) n true
  rw [bracketP_in hb he] at v1
  rw [bracketP_out hb he] at v2
  have v1 := v1 rfl
  have v2 := v2 rfl
  simp only at v1 v2
  obtain ⟨l, c, s', j, i, t, rfl, rfl, hp, hn, hks, hj, hm, h1, h2, hi, ht⟩ := enclP_yes he
  obtain rfl : (s.toNat : Int) = s' := by rw [hk] at hks; simpa using hks
  obtain ⟨e1, e2, e3, _⟩ := encF_spec h1
  have e4 := (back_of_scanF hos _ (i + 1) 1 t rfl (by omega) e2).2
  have e5 := (scanF_spec _ (i + 1) 1 rfl t e2).1
  obtain ⟨a1, a2, a3⟩ := plcOf_spec hi
  obtain ⟨b1, b2, b3⟩ := plcOf_spec ht
  have hless := idx_less a1 a2 b1 (Nat.le_of_lt b2)
  rw [a3, b3, decide_eq_true (by omega)] at hless
  have f1 : btI (flat L) i = byt (L.getD (plcOf L i).1 .empty) (plcOf L i).2 := by
    conv => lhs; rw [← a3]
    rw [btI, flat_at a1 a2]; rfl
  have f2 : btI (flat L) t = byt (L.getD (plcOf L t).1 .empty) (plcOf L t).2 := by
    conv => lhs; rw [← b3]
    rw [btI, flat_at b1 b2]; rfl
  simp only [Prod.mk.injEq] at h2
  obtain ⟨⟨rfl, rfl⟩, rfl, rfl⟩ := h2
  obtain ⟨a, ha⟩ : ∃ a, (plcOf L i).1 = a := ⟨_, rfl⟩
  obtain ⟨b, hb'⟩ : ∃ b, (plcOf L i).2 = b := ⟨_, rfl⟩
  obtain ⟨x, hx⟩ : ∃ x, (plcOf L t).1 = x := ⟨_, rfl⟩
  obtain ⟨y, hy⟩ : ∃ y, (plcOf L t).2 = y := ⟨_, rfl⟩
  rw [ha, hb'] at a2 f1
  rw [hx, hy] at b2 f2
  rw [ha] at a1
  rw [hx] at b1
  rw [ha, hb', hx, hy] at hless v1 v2 ⊢
  rw [byt_at' _ _ a2, e3] at f1
  rw [byt_at' _ _ b2, e4] at f2
  simp only [lessB, decide_eq_true_eq] at hless
  have n1 := spanT_len v1
  have n2 := spanT_len v2
  have g1 : (L.getD a .empty)[b] = o := UInt8.toNat_inj.1 (by omega)
  have g2 : (L.getD x .empty)[y] = s := UInt8.toNat_inj.1 (by omega)
  refine ⟨a, x, _, _, x - a, rfl, rfl, v1, v2, rfl, rfl, by omega, by omega, by omega, spanT_size v1, spanT_size v2, ?_⟩
  refine join_brackets fun k hk => ?_
  rw [List.getD_eq_getElem?_getD, List.getD_eq_getElem?_getD, spanT_at v1 (by omega), spanT_at v2 (by omega)]
  simp only [Option.getD_some]
  rw [cut_brackets L a2 g1 b2 g2 (by omega)]
  have i1 : (a + k = a) = (k = 0) := by rw [eq_iff_iff]; omega
  have i2 : (a + k = x) = (k = x - a) := by rw [eq_iff_iff]; omega
  simp only [i1, i2]
end Go.Proofs.Ytlbbgocggifjaaa
