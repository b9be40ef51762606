/- What the words at a place are. Plain Lean, no program in sight. Conditions: none. -/
import Derived.Test.YtnaikdmkabfnlaaWord3
namespace Go.Proofs.Ytnaikdmkabfnlaa

theorem inF_take {s : ByteArray} {big : Bool} {R : List (Nat × Nat)} {c k : Nat} (h : chainR s big 0 R) (hk : inR R c k) : ∀ j, j ≤ R.length → inF c (R.take j) = min (j - 1) k
  | 0, _ => by simp [inF]
  | j + 1, hj => by
    have hj' : j < R.length := by omega
    have e : R.take (j + 1) = R.take j ++ [R.getD j (0, 0)] := by
      rw [List.take_add_one, List.getElem?_eq_getElem hj', List.getD_eq_getElem?_getD, List.getElem?_eq_getElem hj']; rfl
    rw [e, inF_snoc, inF_take h hk j (by omega), List.length_take]
    have := inR_last h hk (j := j) hj'
    by_cases hh : j ≤ k
    · rw [if_pos (this.2 hh)]; omega
    · rw [if_neg (fun x => hh (this.1 x))]; omega
/-- The last run that begins no later than column c is the one that column c is in. -/
theorem inF_eq {s : ByteArray} {big : Bool} {R : List (Nat × Nat)} {c k : Nat} (h : chainR s big 0 R) (hk : inR R c k) : inF c R = k := by
  have := inF_take h hk R.length (Nat.le_refl _)
  rw [List.take_length] at this
  have := hk.1
  omega
/-- Is there a run i, and is it of blanks? -/
def blW (s : ByteArray) (R : List (Nat × Nat)) (i : Nat) : Bool := decide (i < R.length) && blkR s (R.getD i (0, 0))
/-- One word and the blanks beside it: the index behind. -/
def stepW (b : Nat → Bool) (len : Nat) (ahead : Bool) (i : Nat) : Option Nat :=
  if len ≤ (if (ahead && b i) = true then i + 1 else i) then none
  else some (if (!ahead && b ((if (ahead && b i) = true then i + 1 else i) + 1)) = true then (if (ahead && b i) = true then i + 1 else i) + 2 else (if (ahead && b i) = true then i + 1 else i) + 1)
def loopW (b : Nat → Bool) (len : Nat) (ahead : Bool) : Nat → Nat → Option Nat
  | 0, i => some i
  | n + 1, i => match stepW b len ahead i with | none => none | some j => loopW b len ahead n j
theorem stepW_gt {b : Nat → Bool} {len : Nat} {ahead : Bool} {i j : Nat} (h : stepW b len ahead i = some j) : i < j := by
  obtain ⟨m, hm⟩ : ∃ m, (if (ahead && b i) = true then i + 1 else i) = m := ⟨_, rfl⟩
  have him : i ≤ m := by rw [← hm]; split <;> omega
  rw [stepW, hm] at h
  by_cases hl : len ≤ m
  · rw [if_pos hl] at h; cases h
  · rw [if_neg hl] at h
    have h := Option.some.inj h
    split at h <;> omega
theorem loopW_big {b : Nat → Bool} {len : Nat} {ahead : Bool} : ∀ (n i : Nat), len - i < n → loopW b len ahead n i = none
  | 0, i, h => by omega
  | n + 1, i, h => by
    rw [loopW]
    cases hs : stepW b len ahead i with
    | none => rfl
    | some j =>
      have hi : i < len := by
        rcases Nat.lt_or_ge i len with h1 | h1
        · exact h1
        · rw [stepW, if_pos (by split <;> omega)] at hs; cases hs
      have := stepW_gt hs
      exact loopW_big n j (by omega)
/-- No two runs of blanks lie side by side. -/
theorem blW_next {s : ByteArray} {big : Bool} {R : List (Nat × Nat)} (h : chainR s big 0 R) {i : Nat} (hb : blW s R i = true) : blW s R (i + 1) = false := by
  by_cases hi : i + 1 < R.length
  · have hb' := hb
    simp only [blW, Bool.and_eq_true, blkR, beq_iff_eq] at hb'
    obtain ⟨_, hb1⟩ := hb'
    have g := ((chain_at h (k := i) (by omega)).2.2.2.2.1 hi).2
    simp only [blW, Bool.and_eq_false_iff, blkR, beq_eq_false_iff_ne]
    refine .inr (fun hc => g ?_)
    have e : ∀ j : Nat, ofC (byt s j) true = 0 → clsB s big j = 0 := by
      intro j hj
      simp only [clsB, ofC] at hj ⊢
      split at hj
      · rename_i h1; rw [if_pos h1]
      · simp at hj
    rw [e _ hc, e _ hb1]
  · simp only [blW, Bool.and_eq_false_iff, decide_eq_false_iff_not]
    exact .inl hi
/-- Words with the blanks beside them, from run k on. -/
def arndO (s : ByteArray) (l : Nat) (R : List (Nat × Nat)) (k n : Nat) : Rng × Bool :=
  match loopW (blW s R) R.length (blW s R k) n k with
  | none => noR
  | some a => ((0, (l : Int), ((R.getD (if (!blW s R k && !blW s R (a - 1) && (decide (0 < k) && blW s R (k - 1))) = true then k - 1 else k) (0, 0)).1 : Int), (l : Int), ((R.getD (a - 1) (0, 0)).2 : Int)), true)
/-- The runs from k on. -/
def innrO (l : Nat) (R : List (Nat × Nat)) (k n : Nat) : Rng × Bool :=
  if n ≤ R.length - k then ((0, (l : Int), ((R.getD k (0, 0)).1 : Int), (l : Int), ((R.getD (k + n - 1) (0, 0)).2 : Int)), true) else noR
/-- What a word at a place is. -/
def wordP (L : List ByteArray) (pl pc n : Int) (big around : Bool) : Rng × Bool :=
  if 1 ≤ n ∧ byteB L pl pc = true ∧ ¬ (ln L pl).size = 0 then
    (if around = true then arndO (ln L pl) pl.toNat (runF (ln L pl) big 0 0) (inF pc.toNat (runF (ln L pl) big 0 0)) n.toNat else innrO pl.toNat (runF (ln L pl) big 0 0) (inF pc.toNat (runF (ln L pl) big 0 0)) n.toNat)
  else noR
theorem wordP_no {L : List ByteArray} {pl pc n : Int} {big around : Bool} (h : ¬ (1 ≤ n ∧ byteB L pl pc = true ∧ ¬ (ln L pl).size = 0)) : wordP L pl pc n big around = noR := by rw [wordP, if_neg h]
/-- A byte of a line that is not empty lies in one of its runs. -/
theorem word_in {L : List ByteArray} {pl pc n : Int} (h : 1 ≤ n ∧ byteB L pl pc = true ∧ ¬ (ln L pl).size = 0) (big : Bool) : ∃ l c m k : Nat, pl = l ∧ pc = c ∧ n = m ∧ l < L.length ∧ 1 ≤ m ∧ c < (L.getD l .empty).size ∧ chainR (L.getD l .empty) big 0 (runF (L.getD l .empty) big 0 0) ∧ inR (runF (L.getD l .empty) big 0 0) c k ∧ inF c (runF (L.getD l .empty) big 0 0) = k ∧
    (∀ around, wordP L l c m big around = if around = true then arndO (L.getD l .empty) l (runF (L.getD l .empty) big 0 0) k m else innrO l (runF (L.getD l .empty) big 0 0) k m) := by
  obtain ⟨h1, h2, h3⟩ := h
  have hp : plcB L pl pc = true := by
    cases hp : plcB L pl pc with
    | true => rfl
    | false => rw [byteB_no hp] at h2; cases h2
  obtain ⟨p1, p2, p3, p4⟩ := plcB_spec hp
  obtain ⟨l, rfl⟩ := Int.eq_ofNat_of_zero_le p1
  obtain ⟨c, rfl⟩ := Int.eq_ofNat_of_zero_le p3
  obtain ⟨m, rfl⟩ := Int.eq_ofNat_of_zero_le (show 0 ≤ n by omega)
  have hw : ∀ around, wordP L l c m big around = _ := fun around => by rw [wordP, if_pos ⟨h1, h2, h3⟩]
  rw [ln, Int.toNat_natCast] at h3
  rw [byteB_yes hp rfl] at h2
  have hc : c < (L.getD l .empty).size := by
    simp only [Bool.or_eq_true, decide_eq_true_eq] at h2
    rcases h2 with h2 | h2
    · omega
    · exact absurd h2 h3
  obtain ⟨k, hk⟩ := chain_find (runF_all (s := L.getD l .empty) (big := big)) (Nat.zero_le c) hc
  have hi := inF_eq runF_all hk
  refine ⟨l, c, m, k, rfl, rfl, rfl, by omega, by omega, hc, runF_all, hk, hi, fun around => ?_⟩
  rw [hw]
  simp only [ln, Int.toNat_natCast, hi]
theorem stepW_none {b : Nat → Bool} {len : Nat} {ah : Bool} {i m : Nat} (hm : (if (ah && b i) = true then i + 1 else i) = m) (h : len ≤ m) : stepW b len ah i = none := by rw [stepW, hm, if_pos h]
theorem stepW_some {b : Nat → Bool} {len : Nat} {ah : Bool} {i m j : Nat} (hm : (if (ah && b i) = true then i + 1 else i) = m) (h : m < len) (hj : (if (!ah && b (m + 1)) = true then m + 2 else m + 1) = j) : stepW b len ah i = some j := by rw [stepW, hm, if_neg (by omega), hj]
theorem loopW_none {b : Nat → Bool} {len : Nat} {ah : Bool} {n i : Nat} (h : stepW b len ah i = none) : loopW b len ah (n + 1) i = none := by rw [loopW, h]
theorem loopW_some {b : Nat → Bool} {len : Nat} {ah : Bool} {n i j : Nat} (h : stepW b len ah i = some j) : loopW b len ah (n + 1) i = loopW b len ah n j := by rw [loopW, h]
theorem arndO_none {s : ByteArray} {l : Nat} {R : List (Nat × Nat)} {k n : Nat} (h : loopW (blW s R) R.length (blW s R k) n k = none) : arndO s l R k n = noR := by rw [arndO, h]
theorem arndO_some {s : ByteArray} {l : Nat} {R : List (Nat × Nat)} {k n a f x y : Nat} (h : loopW (blW s R) R.length (blW s R k) n k = some a) (hf : (if (!blW s R k && !blW s R (a - 1) && (decide (0 < k) && blW s R (k - 1))) = true then k - 1 else k) = f) (hx : (R.getD f (0, 0)).1 = x) (hy : (R.getD (a - 1) (0, 0)).2 = y) :
    arndO s l R k n = ((0, (l : Int), (x : Int), (l : Int), (y : Int)), true) := by
  simp only [arndO, h]
  rw [hf, hx, hy]
end Go.Proofs.Ytnaikdmkabfnlaa
