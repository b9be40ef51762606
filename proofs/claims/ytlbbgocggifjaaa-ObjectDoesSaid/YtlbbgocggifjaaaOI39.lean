/- Several texts in one: ObjectP, ObjectQ. Conditions: none beyond what each says. -/
import Derived.Test.YtlbbgocggifjaaaOI1
import Derived.Test.YtlbbgocggifjaaaOI32
import Derived.Test.YtlbbgocggifjaaaOI4
import Derived.Test.YtlbbgocggifjaaaOI3
import Derived.Test.YtlbbgocggifjaaaOI19
import Derived.Test.YtlbbgocggifjaaaOI11
import Derived.Test.YtlbbgocggifjaaaOI36
namespace Go.Proofs.Ytlbbgocggifjaaa

/-- A range that is there is one of the text. -/
def OkR (L : List ByteArray) (r : Rng × Bool) : Prop := r.2 = true → validB L r.1.1 r.1.2.1 r.1.2.2.1 r.1.2.2.2.1 r.1.2.2.2.2 = true
theorem ok_noR (L : List ByteArray) : OkR L noR := fun h => by cases h
theorem ok_char {L : List ByteArray} {fl fc tl tc : Nat} (h1 : fl < L.length) (h2 : fc ≤ (L.getD fl .empty).size) (h3 : tl < L.length) (h4 : tc ≤ (L.getD tl .empty).size) (h5 : lessB tl tc fl fc = false) : OkR L ((0, (fl : Int), (fc : Int), (tl : Int), (tc : Int)), true) := fun _ => by
  have h5' := h5
  simp only [lessB, decide_eq_false_iff_not] at h5'
  show validB L 0 fl fc tl tc = true
  rw [validB_char (by omega) (by omega) (by omega), plcB_nat h1 h2, plcB_nat h3 h4, h5]; rfl
theorem ok_line {L : List ByteArray} {fl tl : Nat} (h1 : fl < tl) (h2 : tl ≤ L.length) : OkR L ((1, (fl : Int), 0, (tl : Int) - 1, 0), true) := fun _ => validB_line (by simp only; omega) (by simp only; omega) (by simp only; omega)
theorem ends_at {s : ByteArray} {big : Bool} {R : List (Nat × Nat)} (h : chainR s big 0 R) {i j : Nat} (hij : i ≤ j) (hj : j < R.length) : (R.getD i (0, 0)).1 < (R.getD j (0, 0)).2 ∧ (R.getD j (0, 0)).2 ≤ s.size := by
  obtain ⟨_, g2, g3, _⟩ := chain_at h hj
  by_cases e : i = j
  · subst e; exact ⟨g2, g3⟩
  · have := chain_mono h (i := i) (j := j) (by omega) hj
    obtain ⟨_, k2, _, _⟩ := chain_at h (k := i) (by omega)
    omega
theorem stepW_le {s : ByteArray} {R : List (Nat × Nat)} {ah : Bool} {i j : Nat} (h : stepW (blW s R) R.length ah i = some j) : j ≤ R.length := by
  obtain ⟨m, hm⟩ : ∃ m, (if (ah && blW s R i) = true then i + 1 else i) = m := ⟨_, rfl⟩
  rw [stepW, hm] at h
  by_cases hl : R.length ≤ m
  · rw [if_pos hl] at h; cases h
  · rw [if_neg hl] at h
    have h := Option.some.inj h
    split at h
    · rename_i hb
      simp only [Bool.and_eq_true, blW, decide_eq_true_eq] at hb
      omega
    · omega
theorem loopW_le {s : ByteArray} {R : List (Nat × Nat)} {ah : Bool} : ∀ {n i a : Nat}, i ≤ R.length → loopW (blW s R) R.length ah n i = some a → i + n ≤ a ∧ a ≤ R.length
  | 0, i, a, hi, h => by
    simp only [loopW, Option.some.injEq] at h
    omega
  | n + 1, i, a, hi, h => by
    rw [loopW] at h
    cases hs : stepW (blW s R) R.length ah i with
    | none => rw [hs] at h; cases h
    | some j =>
      rw [hs] at h
      have h1 := stepW_gt hs
      have h2 := loopW_le (stepW_le hs) h
      omega
theorem ok_word (L : List ByteArray) (pl pc n : Int) (big ar : Bool) : OkR L (wordP L pl pc n big ar) := by
  by_cases h : 1 ≤ n ∧ byteB L pl pc = true ∧ ¬ (ln L pl).size = 0
  · obtain ⟨l, c, m, k, rfl, rfl, rfl, hl, hm, hc, hch, hk, hi, hw⟩ := word_in h big
    rw [hw]
    obtain ⟨R, hR⟩ : ∃ R, runF (L.getD l .empty) big 0 0 = R := ⟨_, rfl⟩
    rw [hR] at hch hk ⊢
    cases ar with
    | false =>
      rw [if_neg (by decide), innrO]
      split
      · rename_i hle
        obtain ⟨e1, e2⟩ := ends_at hch (i := k) (j := k + m - 1) (by omega) (by have := hk.1; omega)
        exact ok_char hl (by omega) hl e2 (by simp only [lessB, decide_eq_false_iff_not]; omega)
      · exact ok_noR L
    | true =>
      rw [if_pos rfl, arndO]
      split
      · exact ok_noR L
      · rename_i a ha
        obtain ⟨g1, g2⟩ := loopW_le (by have := hk.1; omega) ha
        obtain ⟨f, hf⟩ : ∃ f, (if (!blW (L.getD l .empty) R k && !blW (L.getD l .empty) R (a - 1) && (decide (0 < k) && blW (L.getD l .empty) R (k - 1))) = true then k - 1 else k) = f := ⟨_, rfl⟩
        rw [hf]
        have hfk : f ≤ k := by rw [← hf]; split <;> omega
        obtain ⟨e1, e2⟩ := ends_at hch (i := f) (j := a - 1) (by omega) (by omega)
        exact ok_char hl (by omega) hl e2 (by simp only [lessB, decide_eq_false_iff_not]; omega)
  · rw [wordP_no h]; exact ok_noR L
theorem byteB_nat {L : List ByteArray} {pl pc : Int} (h : byteB L pl pc = true) : ∃ l c : Nat, pl = l ∧ pc = c ∧ l < L.length ∧ c ≤ (L.getD l .empty).size := by
  have hp : plcB L pl pc = true := by
    cases hp : plcB L pl pc with
    | true => rfl
    | false => rw [byteB_no hp] at h; cases h
  obtain ⟨p1, p2, p3, p4⟩ := plcB_spec hp
  obtain ⟨l, rfl⟩ := Int.eq_ofNat_of_zero_le p1
  obtain ⟨c, rfl⟩ := Int.eq_ofNat_of_zero_le p3
  exact ⟨l, c, rfl, rfl, by omega, by simpa using p4⟩
theorem ok_quote (L : List ByteArray) (pl pc q : Int) (ar : Bool) : OkR L (quoteP L pl pc q ar) := by
  cases hb : byteB L pl pc with
  | false => rw [quoteP_no hb]; exact ok_noR L
  | true =>
    obtain ⟨l, c, rfl, rfl, hl, hc⟩ := byteB_nat hb
    rw [quoteP_yes hb rfl]
    cases hp : pairQ (L.getD l .empty) q c with
    | none => exact ok_noR L
    | some p =>
      have hm : p ∈ qpF (L.getD l .empty) q none 0 := List.mem_of_find?_eq_some hp
      obtain ⟨h1, h2, _, _⟩ := qpF_in _ none 0 rfl (fun a e => by cases e) p hm
      cases ar with
      | false =>
        have := ok_char (L := L) (fl := l) (fc := p.1 + 1) (tl := l) (tc := p.2) hl (by omega) hl (by omega) (by simp only [lessB, decide_eq_false_iff_not]; omega)
        simpa [quoteO] using this
      | true =>
        obtain ⟨s1, s2, _⟩ := skipF_spec (s := L.getD l .empty) _ (p.2 + 1) rfl (by omega)
        obtain ⟨s3, _⟩ := skipB_spec (s := L.getD l .empty) p.1
        obtain ⟨f, hf⟩ : ∃ f, (if skipF (L.getD l .empty) (p.2 + 1) = p.2 + 1 then skipB (L.getD l .empty) p.1 else p.1) = f := ⟨_, rfl⟩
        have hfp : f ≤ p.1 := by rw [← hf]; split <;> omega
        simp only [quoteO, if_true, hf]
        exact ok_char hl (by omega) hl s2 (by simp only [lessB, decide_eq_false_iff_not]; omega)
theorem ok_bracket (L : List ByteArray) (pl pc o n : Int) (ar : Bool) : OkR L (bracketP L pl pc o n ar) := by
  cases hb : byteB L pl pc with
  | false => rw [bracketP_no hb]; exact ok_noR L
  | true =>
    rw [bracketP, if_pos hb, enclP]
    split
    · rename_i hh
      cases he : encF (flat L) (kindP o).1 (kindP o).2.1 (idx L pl.toNat pc.toNat) n (if pc < (ln L pl).size then idx L pl.toNat pc.toNat + 1 else idx L pl.toNat pc.toNat) with
      | none => exact ok_noR L
      | some it =>
        obtain ⟨i, t⟩ := it
        obtain ⟨_, e2, _, _⟩ := encF_spec he
        obtain ⟨e4, e5⟩ := scanF_spec _ (i + 1) 1 rfl t e2
        rw [flat_length] at e5
        obtain ⟨a1, a2, a3⟩ := plcOf_spec (L := L) (i := i) (by omega)
        obtain ⟨b1, b2, b3⟩ := plcOf_spec (L := L) (i := t) e5
        have hless := idx_less b1 b2 a1 (Nat.le_of_lt a2)
        rw [a3, b3, decide_eq_false (by omega)] at hless
        have hless2 := idx_less a1 a2 b1 (Nat.le_of_lt b2)
        rw [a3, b3, decide_eq_true (by omega)] at hless2
        simp only [lessB, decide_eq_false_iff_not, decide_eq_true_eq] at hless hless2
        cases ar with
        | false =>
          have := ok_char (L := L) (fl := (plcOf L i).1) (fc := (plcOf L i).2 + 1) (tl := (plcOf L t).1) (tc := (plcOf L t).2) a1 (by omega) b1 (by omega) (by simp only [lessB, decide_eq_false_iff_not]; omega)
          simpa [encR, bracketO] using this
        | true =>
          have := ok_char (L := L) (fl := (plcOf L i).1) (fc := (plcOf L i).2) (tl := (plcOf L t).1) (tc := (plcOf L t).2 + 1) a1 (by omega) b1 (by omega) (by simp only [lessB, decide_eq_false_iff_not]; omega)
          simpa [encR, bracketO] using this
    · exact ok_noR L
theorem ok_para (L : List ByteArray) (pl pc n : Int) (ar : Bool) : OkR L (paraOP L pl pc n ar) := by
  by_cases h : 1 ≤ n ∧ byteB L pl pc = true
  · obtain ⟨l, c, m, k, rfl, rfl, rfl, hl, hm, _, hk, hi, hp⟩ := blk_in h
    rw [hp]
    have hk1 := hk.1
    have key : ∀ {i j : Nat}, i ≤ j → j < (blkP L).length → ((blkP L).getD i (0, 0)).1 < ((blkP L).getD j (0, 0)).2 ∧ ((blkP L).getD j (0, 0)).2 ≤ L.length := fun hij hj => by
      have := ends_at (blkP_chain L) hij hj
      rwa [blkS_size] at this
    cases ar with
    | false =>
      rw [if_neg (by decide), innB]
      split
      · obtain ⟨e1, e2⟩ := key (i := k) (j := k + m - 1) (by omega) (by omega)
        exact ok_line e1 e2
      · exact ok_noR L
    | true =>
      rw [if_pos rfl, aroB]
      split
      · obtain ⟨e1, e2⟩ := key (i := k) (j := k + 2 * m - 1) (by omega) (by omega)
        exact ok_line e1 e2
      · split
        · obtain ⟨e1, e2⟩ := key (i := k - 1) (j := (blkP L).length - 1) (by omega) (by omega)
          exact ok_line e1 e2
        · exact ok_noR L
  · rw [paraOP_no h]; exact ok_noR L
theorem ok_sent (L : List ByteArray) (pl pc : Int) (ar : Bool) : OkR L (sObjP L pl pc ar) := by
  cases hb : byteB L pl pc with
  | false => rw [sObjP_no hb]; exact ok_noR L
  | true =>
    obtain ⟨l, c, rfl, rfl, hl, hc⟩ := byteB_nat hb
    rw [sObjP, if_pos hb]
    obtain ⟨tt, htt⟩ : ∃ tt, (if ar = true then toS L (l : Int) (c : Int) else endC L (lastP (hereS (l : Int) (c : Int) (sentP L))) (toS L (l : Int) (c : Int)) (cellP L)) = tt := ⟨_, rfl⟩
    rw [htt, sentR]
    split
    · exact ok_noR L
    · rename_i hne
      have hO : hereS (l : Int) (c : Int) (sentP L) ≠ [] := fun e => hne (.inl e)
      obtain ⟨f, hf⟩ : ∃ f, lastP (hereS (l : Int) (c : Int) (sentP L)) = f := ⟨_, rfl⟩
      rw [hf] at htt ⊢
      have hfm : f ∈ hereS (l : Int) (c : Int) (sentP L) := by
        rcases List.eq_nil_or_concat (hereS (l : Int) (c : Int) (sentP L)) with e | ⟨T, x, e⟩
        · exact absurd e hO
        · rw [List.concat_eq_append] at e
          rw [e, lastP_snoc] at hf
          rw [e, ← hf]
          simp
      have hfs := (List.mem_filter.1 hfm)
      have hf1 := (sentP_in (L := L)).1 f hfs.1
      have hf2 : lessB l c f.1 f.2 = false := by simpa using hfs.2
      obtain ⟨t, ht⟩ : ∃ t, toS L (l : Int) (c : Int) = t := ⟨_, rfl⟩
      have ht1 : t.1 < L.length ∧ t.2 ≤ (L.getD t.1 .empty).size ∧ lessB t.1 t.2 l c = false := by
        rw [← ht, toS]
        cases hbr : behR (l : Int) (c : Int) (sentP L) with
        | nil =>
          simp only [List.headD_nil, endP]
          refine ⟨by omega, Nat.le_refl _, ?_⟩
          simp only [lessB, decide_eq_false_iff_not]
          rintro (h1 | ⟨h1, h2⟩)
          · omega
          · have : l = L.length - 1 := by omega
            subst this
            omega
        | cons x T =>
          have hx : x ∈ behR (l : Int) (c : Int) (sentP L) := by rw [hbr]; exact List.mem_cons_self ..
          have hxs := List.mem_filter.1 hx
          have hx1 := (sentP_in (L := L)).1 x hxs.1
          have hx2 : lessB l c x.1 x.2 = true := by simpa using hxs.2
          simp only [List.headD_cons]
          refine ⟨hx1.1, hx1.2, ?_⟩
          simp only [lessB, decide_eq_true_eq, decide_eq_false_iff_not] at hx2 ⊢
          omega
      obtain ⟨t1, t2, t3⟩ := ht1
      have hft : lessB t.1 t.2 f.1 f.2 = false := by
        simp only [lessB, decide_eq_false_iff_not] at hf2 t3 ⊢; omega
      cases ar with
      | true =>
        rw [if_pos rfl, ht] at htt
        rw [← htt]
        exact ok_char hf1.1 hf1.2 t1 t2 hft
      | false =>
        rw [if_neg (show ¬ (false = true) by decide), ht] at htt
        rw [← htt]
        rcases endC_spec (L := L) (a := f) (b := t) (l := cellP L) with e | ⟨q, hq, h1, h2⟩
        · rw [e]
          exact ok_char hf1.1 hf1.2 hf1.1 hf1.2 (by simp only [lessB, decide_eq_false_iff_not]; omega)
        · rw [h2]
          obtain ⟨_, i2, _⟩ := inB_parts h1
          obtain ⟨c1, c2⟩ := cellF_in _ 0 rfl q hq
          have := ok_char (L := L) (fl := f.1) (fc := f.2) (tl := q.1) (tc := q.2 + 1) hf1.1 hf1.2 c1 (by omega) (by simp only [lessB, decide_eq_false_iff_not] at i2 ⊢; omega)
          exact this
/-- An object of a name. -/
def objP (L : List ByteArray) (pl pc arg n : Int) (ar : Bool) : Rng × Bool :=
  if arg = 119 then wordP L pl pc n false ar else if arg = 87 then wordP L pl pc n true ar
  else if arg = 34 ∨ arg = 39 ∨ arg = 96 then quoteP L pl pc arg ar
  else if arg = 40 ∨ arg = 91 ∨ arg = 123 then bracketP L pl pc arg n ar
  else if arg = 112 then paraOP L pl pc n ar else if arg = 115 then sObjP L pl pc ar else noR
theorem ok_obj (L : List ByteArray) (pl pc arg n : Int) (ar : Bool) : OkR L (objP L pl pc arg n ar) := by
  unfold objP
  repeat' split
  · exact ok_word _ _ _ _ _ _
  · exact ok_word _ _ _ _ _ _
  · exact ok_quote _ _ _ _ _
  · exact ok_bracket _ _ _ _ _ _
  · exact ok_para _ _ _ _ _
  · exact ok_sent _ _ _ _
  · exact ok_noR L
/-- A range of no bytes is none. -/
def finR (r : Rng × Bool) : Rng × Bool := if r.2 = true ∧ ¬ (r.1.1 = 0 ∧ r.1.2.1 = r.1.2.2.2.1 ∧ r.1.2.2.1 = r.1.2.2.2.2) then r else noR
theorem ok_fin {L : List ByteArray} {r : Rng × Bool} (h : OkR L r) : OkR L (finR r) := by
  unfold finR
  split
  · exact h
  · exact ok_noR L
/-- Which object a command's name asks for. -/
def doP (L : List ByteArray) (pl pc : Int) (name : ByteArray) (arg cnt : Int) : Rng × Bool :=
  if name.toList = [105] then finR (objP L pl pc arg (if cnt = 0 then 1 else cnt) false)
  else if name.toList = [97] then finR (objP L pl pc arg (if cnt = 0 then 1 else cnt) true) else noR
theorem ok_do (L : List ByteArray) (pl pc : Int) (name : ByteArray) (arg cnt : Int) : OkR L (doP L pl pc name arg cnt) := by
  unfold doP
  generalize (if cnt = 0 then (1 : Int) else cnt) = m
  split
  · exact ok_fin (ok_obj _ _ _ _ _ _)
  · split
    · exact ok_fin (ok_obj _ _ _ _ _ _)
    · exact ok_noR L
end Go.Proofs.Ytlbbgocggifjaaa
namespace Go.Proofs.Ytlbbgocggifjaaa

/-- One range lies in another. -/
def InR (x y : Rng × Bool) : Prop := x.2 = true → y.2 = true → x.1.1 = y.1.1 ∧ lessB x.1.2.1 x.1.2.2.1 y.1.2.1 y.1.2.2.1 = false ∧ lessB y.1.2.2.2.1 y.1.2.2.2.2 x.1.2.2.2.1 x.1.2.2.2.2 = false
theorem in_noR (y : Rng × Bool) : InR noR y := fun h => by cases h
theorem in_noR' (x : Rng × Bool) : InR x noR := fun _ h => by cases h
theorem starts_le {s : ByteArray} {big : Bool} {R : List (Nat × Nat)} (h : chainR s big 0 R) {i j : Nat} (hij : i ≤ j) (hj : j < R.length) : (R.getD i (0, 0)).1 ≤ (R.getD j (0, 0)).1 ∧ (R.getD i (0, 0)).2 ≤ (R.getD j (0, 0)).2 := by
  by_cases e : i = j
  · subst e; exact ⟨Nat.le_refl _, Nat.le_refl _⟩
  · have := chain_mono h (i := i) (j := j) (by omega) hj
    obtain ⟨_, k2, _, _⟩ := chain_at h (k := i) (by omega)
    obtain ⟨_, g2, _, _⟩ := chain_at h hj
    omega
theorem in_word (L : List ByteArray) (pl pc : Int) (big : Bool) : InR (wordP L pl pc 1 big false) (wordP L pl pc 1 big true) := by
  by_cases h : (1 : Int) ≤ 1 ∧ byteB L pl pc = true ∧ ¬ (ln L pl).size = 0
  · obtain ⟨l, c, m, k, rfl, rfl, hm1, hl, hm, hc, hch, hk, hi, hw⟩ := word_in h big
    obtain rfl : m = 1 := by omega
    have w1 := hw false
    have w2 := hw true
    rw [show ((1 : Nat) : Int) = 1 from rfl] at w1 w2
    rw [w1, w2, if_neg (by decide), if_pos rfl]
    obtain ⟨R, hR⟩ : ∃ R, runF (L.getD l .empty) big 0 0 = R := ⟨_, rfl⟩
    rw [hR] at hch hk ⊢
    rw [innrO, arndO]
    split
    · split
      · exact in_noR' _
      · rename_i a ha
        obtain ⟨g1, g2⟩ := loopW_le (by have := hk.1; omega) ha
        obtain ⟨f, hf⟩ : ∃ f, (if (!blW (L.getD l .empty) R k && !blW (L.getD l .empty) R (a - 1) && (decide (0 < k) && blW (L.getD l .empty) R (k - 1))) = true then k - 1 else k) = f := ⟨_, rfl⟩
        rw [hf]
        have hfk : f ≤ k := by rw [← hf]; split <;> omega
        have e1 := (starts_le hch (i := f) (j := k) hfk hk.1).1
        have e2 := (starts_le hch (i := k) (j := a - 1) (by omega) (by omega)).2
        intro _ _
        refine ⟨rfl, ?_, ?_⟩ <;> simp only [lessB, decide_eq_false_iff_not, Nat.add_sub_cancel] <;> omega
    · exact in_noR _
  · rw [wordP_no h]; exact in_noR _
theorem in_quote (L : List ByteArray) (pl pc q : Int) : InR (quoteP L pl pc q false) (quoteP L pl pc q true) := by
  cases hb : byteB L pl pc with
  | false => rw [quoteP_no hb]; exact in_noR _
  | true =>
    obtain ⟨l, c, rfl, rfl, hl, hc⟩ := byteB_nat hb
    rw [quoteP_yes hb rfl, quoteP_yes hb rfl]
    cases hp : pairQ (L.getD l .empty) q c with
    | none => exact in_noR _
    | some p =>
      have hm : p ∈ qpF (L.getD l .empty) q none 0 := List.mem_of_find?_eq_some hp
      obtain ⟨h1, h2, _, _⟩ := qpF_in _ none 0 rfl (fun a e => by cases e) p hm
      obtain ⟨s1, s2, _⟩ := skipF_spec (s := L.getD l .empty) _ (p.2 + 1) rfl (by omega)
      obtain ⟨s3, _⟩ := skipB_spec (s := L.getD l .empty) p.1
      obtain ⟨f, hf⟩ : ∃ f, (if skipF (L.getD l .empty) (p.2 + 1) = p.2 + 1 then skipB (L.getD l .empty) p.1 else p.1) = f := ⟨_, rfl⟩
      have hfp : f ≤ p.1 := by rw [← hf]; split <;> omega
      intro _ _
      simp only [quoteO, if_true, hf]
      refine ⟨rfl, ?_, ?_⟩
      · simp only [lessB, decide_eq_false_iff_not, Bool.false_eq_true, if_false]; omega
      · simp only [lessB, decide_eq_false_iff_not, Bool.false_eq_true, if_false]; omega
theorem in_bracket (L : List ByteArray) (pl pc o n : Int) : InR (bracketP L pl pc o n false) (bracketP L pl pc o n true) := by
  cases hb : byteB L pl pc with
  | false => rw [bracketP_no hb]; exact in_noR _
  | true =>
    obtain ⟨⟨⟨⟨a, b⟩, ⟨x, y⟩⟩, ok⟩, he⟩ : ∃ e, enclP L pl pc o n = e := ⟨_, rfl⟩
    cases ok with
    | false => rw [bracketP_none he, bracketP_none he]; exact in_noR _
    | true =>
      rw [bracketP_in hb he, bracketP_out hb he]
      intro _ _
      refine ⟨rfl, ?_, ?_⟩ <;> simp only [lessB, decide_eq_false_iff_not] <;> omega
theorem in_para (L : List ByteArray) (pl pc : Int) : InR (paraOP L pl pc 1 false) (paraOP L pl pc 1 true) := by
  by_cases h : (1 : Int) ≤ 1 ∧ byteB L pl pc = true
  · obtain ⟨l, c, m, k, rfl, rfl, hm1, hl, hm, _, hk, hi, hp⟩ := blk_in h
    obtain rfl : m = 1 := by omega
    have w1 := hp false
    have w2 := hp true
    rw [show ((1 : Nat) : Int) = 1 from rfl] at w1 w2
    rw [w1, w2, if_neg (by decide), if_pos rfl, innB, aroB]
    have hch := blkP_chain L
    have hk1 := hk.1
    split
    · split
      · have e2 := (starts_le hch (i := k) (j := k + 2 * 1 - 1) (by omega) (by omega)).2
        intro _ _
        refine ⟨rfl, ?_, ?_⟩ <;> simp only [lessB, decide_eq_false_iff_not, Nat.add_sub_cancel] <;> omega
      · split
        · have e1 := (starts_le hch (i := k - 1) (j := k) (by omega) hk1).1
          have e2 := (starts_le hch (i := k) (j := (blkP L).length - 1) (by omega) (by omega)).2
          intro _ _
          refine ⟨rfl, ?_, ?_⟩ <;> simp only [lessB, decide_eq_false_iff_not, Nat.add_sub_cancel] <;> omega
        · exact in_noR' _
    · exact in_noR _
  · rw [paraOP_no h]; exact in_noR _
theorem in_obj (L : List ByteArray) (pl pc arg : Int) (h : arg ≠ 115) : InR (objP L pl pc arg 1 false) (objP L pl pc arg 1 true) := by
  unfold objP
  by_cases h1 : arg = 119
  · rw [if_pos h1, if_pos h1]; exact in_word _ _ _ _
  · rw [if_neg h1, if_neg h1]
    by_cases h2 : arg = 87
    · rw [if_pos h2, if_pos h2]; exact in_word _ _ _ _
    · rw [if_neg h2, if_neg h2]
      by_cases h3 : arg = 34 ∨ arg = 39 ∨ arg = 96
      · rw [if_pos h3, if_pos h3]; exact in_quote _ _ _ _
      · rw [if_neg h3, if_neg h3]
        by_cases h4 : arg = 40 ∨ arg = 91 ∨ arg = 123
        · rw [if_pos h4, if_pos h4]; exact in_bracket _ _ _ _ _
        · rw [if_neg h4, if_neg h4]
          by_cases h5 : arg = 112
          · rw [if_pos h5, if_pos h5]; exact in_para _ _ _
          · rw [if_neg h5, if_neg h5, if_neg h, if_neg h]; exact in_noR _
theorem in_fin {x y : Rng × Bool} (h : InR x y) : InR (finR x) (finR y) := by
  unfold finR
  split
  · split
    · exact h
    · exact in_noR' _
  · exact in_noR _
theorem in_do (L : List ByteArray) (pl pc arg : Int) {ni na : ByteArray} (hi : ni.toList = [105]) (ha : na.toList = [97]) (h : arg ≠ 115) : InR (doP L pl pc ni arg 1) (doP L pl pc na arg 1) := by
  have e1 : doP L pl pc ni arg 1 = finR (objP L pl pc arg 1 false) := by rw [doP, if_pos hi]; rfl
  have e2 : doP L pl pc na arg 1 = finR (objP L pl pc arg 1 true) := by rw [doP, if_neg (by rw [ha]; decide), if_pos ha]; rfl
  rw [e1, e2]
  exact in_fin (in_obj L pl pc arg h)
end Go.Proofs.Ytlbbgocggifjaaa
