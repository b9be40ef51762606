/- Several texts in one: WordP, InFP, QuoteInP. Conditions: none beyond what each says. -/
import Derived.Test.YtlbbgocggifjaaaOI3
namespace Go.Proofs.Ytlbbgocggifjaaa

/-- The class of byte j. -/
def clsB (s : ByteArray) (big : Bool) (j : Nat) : Int := ofC (byt s j) big
/-- The runs that are still told, from byte i on, one being open since from. -/
def runF (s : ByteArray) (big : Bool) (fr i : Nat) : List (Nat × Nat) :=
  if i < s.size then (if i + 1 < s.size ∧ clsB s big (i + 1) = clsB s big i then runF s big fr (i + 1) else (fr, i + 1) :: runF s big (i + 1) (i + 1)) else []
termination_by s.size - i
theorem runF_end {s : ByteArray} {big : Bool} {fr i : Nat} (h : s.size ≤ i) : runF s big fr i = [] := by
  have h' : ¬ i < s.size := by omega
  rw [runF.eq_def, if_neg h']
theorem runF_on {s : ByteArray} {big : Bool} {fr i : Nat} (h : i + 1 < s.size) (hc : clsB s big (i + 1) = clsB s big i) : runF s big fr i = runF s big fr (i + 1) := by
  rw [runF.eq_def, if_pos (show i < s.size by omega), if_pos ⟨h, hc⟩]
theorem runF_cut {s : ByteArray} {big : Bool} {fr i : Nat} (h : i < s.size) (hc : ¬ (i + 1 < s.size ∧ clsB s big (i + 1) = clsB s big i)) : runF s big fr i = (fr, i + 1) :: runF s big (i + 1) (i + 1) := by
  rw [runF.eq_def, if_pos h, if_neg hc]
/-- Each begins where the one ahead ends, of one class and no longer than that; the last one ends where the line does. -/
def chainR (s : ByteArray) (big : Bool) : Nat → List (Nat × Nat) → Prop
  | a, [] => a = s.size
  | a, p :: R => p.1 = a ∧ a < p.2 ∧ p.2 ≤ s.size ∧ (∀ j, a ≤ j → j < p.2 → clsB s big j = clsB s big a) ∧ (p.2 < s.size → clsB s big p.2 ≠ clsB s big a) ∧ chainR s big p.2 R
theorem runF_chain {s : ByteArray} {big : Bool} : ∀ (k fr i : Nat), s.size - i = k → fr ≤ i → i < s.size → (∀ j, fr ≤ j → j ≤ i → clsB s big j = clsB s big fr) → chainR s big fr (runF s big fr i)
  | 0, fr, i, h, _, hi, _ => by omega
  | k + 1, fr, i, h, hf, hi, hc => by
    by_cases h1 : i + 1 < s.size ∧ clsB s big (i + 1) = clsB s big i
    · rw [runF_on h1.1 h1.2]
      refine runF_chain k fr (i + 1) (by omega) (by omega) h1.1 (fun j h2 h3 => ?_)
      by_cases hj : j = i + 1
      · rw [hj, h1.2]; exact hc i hf (Nat.le_refl _)
      · exact hc j h2 (by omega)
    · rw [runF_cut hi h1]
      refine ⟨rfl, by omega, by omega, fun j h2 h3 => hc j h2 (by omega), fun h2 h3 => h1 ⟨h2, h3.trans (hc i hf (Nat.le_refl _)).symm⟩, ?_⟩
      by_cases h2 : i + 1 < s.size
      · exact runF_chain k (i + 1) (i + 1) (by omega) (Nat.le_refl _) h2 (fun j h3 h4 => by rw [show j = i + 1 by omega])
      · rw [runF_end (by omega)]; show i + 1 = s.size; omega
theorem runF_all {s : ByteArray} {big : Bool} : chainR s big 0 (runF s big 0 0) := by
  by_cases h : 0 < s.size
  · exact runF_chain _ 0 0 rfl (Nat.le_refl _) h (fun j h1 h2 => by rw [show j = 0 by omega])
  · rw [runF_end (by omega)]; show 0 = s.size; omega
theorem chain_at {s : ByteArray} {big : Bool} : ∀ {R : List (Nat × Nat)} {a k : Nat}, chainR s big a R → k < R.length →
    a ≤ (R.getD k (0, 0)).1 ∧ (R.getD k (0, 0)).1 < (R.getD k (0, 0)).2 ∧ (R.getD k (0, 0)).2 ≤ s.size ∧ (∀ j, (R.getD k (0, 0)).1 ≤ j → j < (R.getD k (0, 0)).2 → clsB s big j = clsB s big (R.getD k (0, 0)).1) ∧
    (k + 1 < R.length → (R.getD (k + 1) (0, 0)).1 = (R.getD k (0, 0)).2 ∧ clsB s big (R.getD (k + 1) (0, 0)).1 ≠ clsB s big (R.getD k (0, 0)).1) ∧ (k + 1 = R.length → (R.getD k (0, 0)).2 = s.size) ∧ (k = 0 → (R.getD k (0, 0)).1 = a)
  | [], a, k, _, h => by simp at h
  | p :: R, a, 0, hc, h => by
    obtain ⟨h1, h2, h3, h4, h5, h6⟩ := hc
    simp only [List.getD_cons_zero]
    refine ⟨by omega, by omega, h3, fun j j1 j2 => by rw [h1]; exact h4 j (by omega) j2, fun hl => ?_, fun hl => ?_, fun _ => h1⟩
    · cases R with
      | nil => simp at hl
      | cons p' R =>
        obtain ⟨e1, e2, e3, _⟩ := h6
        simp only [List.getD_cons_succ, List.getD_cons_zero]
        exact ⟨e1, by rw [e1, h1]; exact h5 (by omega)⟩
    · cases R with
      | nil => exact h6
      | cons p' R => simp at hl
  | p :: R, a, k + 1, hc, h => by
    obtain ⟨h1, h2, h3, h4, h5, h6⟩ := hc
    obtain ⟨g1, g2, g3, g4, g5, g6, _⟩ := chain_at h6 (k := k) (by simpa using h)
    simp only [List.getD_cons_succ]
    exact ⟨by omega, g2, g3, g4, fun hl => g5 (by simpa using hl), fun hl => g6 (by simpa using hl), fun e => by omega⟩
theorem chain_len {s : ByteArray} {big : Bool} : ∀ {R : List (Nat × Nat)} {a : Nat}, chainR s big a R → R.length + a ≤ s.size
  | [], a, h => by have : a = s.size := h; simp; omega
  | p :: R, a, h => by
    obtain ⟨h1, h2, h3, _, _, h6⟩ := h
    have := chain_len h6
    simp; omega
/-- Is column c in run k? -/
def inR (R : List (Nat × Nat)) (c k : Nat) : Prop := k < R.length ∧ (R.getD k (0, 0)).1 ≤ c ∧ c < (R.getD k (0, 0)).2
theorem chain_find {s : ByteArray} {big : Bool} : ∀ {R : List (Nat × Nat)} {a c : Nat}, chainR s big a R → a ≤ c → c < s.size → ∃ k, inR R c k
  | [], a, c, h, h1, h2 => by have : a = s.size := h; omega
  | p :: R, a, c, h, h1, h2 => by
    obtain ⟨e1, e2, e3, _, _, e6⟩ := h
    by_cases hc : c < p.2
    · exact ⟨0, by simp, by simp only [List.getD_cons_zero]; omega, by simpa using hc⟩
    · obtain ⟨k, k1, k2, k3⟩ := chain_find e6 (show p.2 ≤ c by omega) h2
      exact ⟨k + 1, by simpa using k1, by simpa using k2, by simpa using k3⟩
theorem chain_mono {s : ByteArray} {big : Bool} {R : List (Nat × Nat)} {a : Nat} (h : chainR s big a R) : ∀ {i j : Nat}, i < j → j < R.length → (R.getD i (0, 0)).2 ≤ (R.getD j (0, 0)).1
  | i, 0, hij, _ => by omega
  | i, j + 1, hij, hj => by
    obtain ⟨g1, g2, _, _, g5, _⟩ := chain_at h (k := j) (by omega)
    have e := (g5 hj).1
    by_cases hh : i = j
    · subst hh; omega
    · have := chain_mono h (i := i) (j := j) (by omega) (by omega)
      omega
theorem inR_last {s : ByteArray} {big : Bool} {R : List (Nat × Nat)} {a c k : Nat} (h : chainR s big a R) (hk : inR R c k) {j : Nat} (hj : j < R.length) : ((R.getD j (0, 0)).1 ≤ c) ↔ j ≤ k := by
  obtain ⟨k1, k2, k3⟩ := hk
  constructor
  · intro h1
    by_cases hh : j ≤ k
    · exact hh
    · have := chain_mono h (i := k) (j := j) (by omega) hj
      omega
  · intro h1
    by_cases hh : j = k
    · rw [hh]; exact k2
    · have := chain_mono h (i := j) (j := k) (by omega) k1
      have g := (chain_at h hj).2.1
      omega
end Go.Proofs.Ytlbbgocggifjaaa
namespace Go.Proofs.Ytlbbgocggifjaaa

/-- The last run that begins at or ahead of column c. -/
def inF (c : Nat) (pre : List (Nat × Nat)) : Nat := (pre.foldl (fun (st : Nat × Nat) p => ((if p.1 ≤ c then st.2 else st.1), st.2 + 1)) (0, 0)).1
theorem inF_two (c : Nat) (pre : List (Nat × Nat)) : (pre.foldl (fun (st : Nat × Nat) p => ((if p.1 ≤ c then st.2 else st.1), st.2 + 1)) (0, 0)).2 = pre.length := by
  have : ∀ (l : List (Nat × Nat)) (st : Nat × Nat), (l.foldl (fun (st : Nat × Nat) p => ((if p.1 ≤ c then st.2 else st.1), st.2 + 1)) st).2 = st.2 + l.length := by
    intro l
    induction l with
    | nil => intro st; rfl
    | cons p l ih => intro st; rw [List.foldl_cons, ih, List.length_cons]; simp; omega
  rw [this]; simp
theorem inF_snoc (c : Nat) (pre : List (Nat × Nat)) (x : Nat × Nat) : inF c (pre ++ [x]) = if x.1 ≤ c then pre.length else inF c pre := by
  unfold inF
  rw [List.foldl_append]
  simp only [List.foldl_cons, List.foldl_nil, inF_two]
theorem inF_take {s : ByteArray} {big : Bool} {R : List (Nat × Nat)} {c k : Nat} (h : chainR s big 0 R) (hk : inR R c k) : ∀ j, j ≤ R.length → inF c (R.take j) = min (j - 1) k
  | 0, _ => by simp [inF]
  | j + 1, hj => by
    have hj' : j < R.length := by omega
    have e : R.take (j + 1) = R.take j ++ [R.getD j (0, 0)] := by
      rw [List.take_add_one, List.getElem?_eq_getElem hj', List.getD_eq_getElem?_getD, List.getElem?_eq_getElem hj']; rfl
    rw [e, inF_snoc, inF_take h hk j (by omega), List.length_take]
    have := inR_last h hk (j := j) hj'
    by_cases hh : j ≤ k
    · rw [if_pos (this.2 hh)]; omega
    · rw [if_neg (fun x => hh (this.1 x))]; omega
/-- The last run that begins no later than column c is the one that column c is in. -/
theorem inF_eq {s : ByteArray} {big : Bool} {R : List (Nat × Nat)} {c k : Nat} (h : chainR s big 0 R) (hk : inR R c k) : inF c R = k := by
  have := inF_take h hk R.length (Nat.le_refl _)
  rw [List.take_length] at this
  have := hk.1
  omega
end Go.Proofs.Ytlbbgocggifjaaa
namespace Go.Proofs.Ytlbbgocggifjaaa

theorem qpF_clear {s : ByteArray} {q : Int} : ∀ (k : Nat) (f : Option Nat) (i : Nat), s.size - i = k → (∀ a, f = some a → ∀ j, a < j → j < i → byt s j ≠ q) → ∀ p ∈ qpF s q f i, ∀ j, p.1 < j → j < p.2 → byt s j ≠ q
  | 0, f, i, h, _, p, hp => by rw [qpF_end (show s.size ≤ i by omega)] at hp; cases hp
  | k + 1, f, i, h, hf, p, hp => by
    by_cases hq : byt s i = q
    · cases f with
      | none =>
        rw [qpF_open (show i < s.size by omega) hq] at hp
        exact qpF_clear k (some i) (i + 1) (by omega) (fun a e j h1 h2 => by cases e; omega) p hp
      | some a =>
        rw [qpF_shut (show i < s.size by omega) hq] at hp
        rcases List.mem_cons.1 hp with rfl | hp
        · exact hf a rfl
        · exact qpF_clear k none (i + 1) (by omega) (fun a e => by cases e) p hp
    · rw [qpF_no (show i < s.size by omega) hq] at hp
      refine qpF_clear k f (i + 1) (by omega) (fun a e j h1 h2 => ?_) p hp
      by_cases hj : j = i
      · rw [hj]; exact hq
      · exact hf a e j h1 (by omega)
theorem pairQ_clear {s : ByteArray} {q c : Int} {p : Nat × Nat} (h : pairQ s q c = some p) (j : Nat) (h1 : p.1 < j) (h2 : j < p.2) : byt s j ≠ q :=
  qpF_clear _ none 0 rfl (fun a e => by cases e) p (List.mem_of_find?_eq_some h) j h1 h2
theorem skipF_spec {s : ByteArray} : ∀ (k i : Nat), s.size - i = k → i ≤ s.size → i ≤ skipF s i ∧ skipF s i ≤ s.size ∧ ∀ j, i ≤ j → j < skipF s i → ofC (byt s j) true = 0
  | 0, i, h, hi => by rw [skipF_end (show s.size ≤ i by omega)]; exact ⟨Nat.le_refl _, hi, fun j h1 h2 => by omega⟩
  | k + 1, i, h, hi => by
    by_cases hb : ofC (byt s i) true = 0
    · rw [skipF_on (show i < s.size by omega) hb]
      obtain ⟨h1, h2, h3⟩ := skipF_spec (s := s) k (i + 1) (by omega) (by omega)
      refine ⟨by omega, h2, fun j j1 j2 => ?_⟩
      by_cases hj : j = i
      · rw [hj]; exact hb
      · exact h3 j (by omega) j2
    · rw [skipF_stop (show i < s.size by omega) hb]
      exact ⟨Nat.le_refl _, hi, fun j h1 h2 => by omega⟩
theorem skipB_spec {s : ByteArray} : ∀ (i : Nat), skipB s i ≤ i ∧ ∀ j, skipB s i ≤ j → j < i → ofC (byt s j) true = 0
  | 0 => by rw [skipB_zero]; exact ⟨Nat.le_refl _, fun j h1 h2 => by omega⟩
  | i + 1 => by
    by_cases hb : ofC (byt s i) true = 0
    · rw [skipB_on hb]
      obtain ⟨h1, h2⟩ := skipB_spec (s := s) i
      refine ⟨by omega, fun j j1 j2 => ?_⟩
      by_cases hj : j = i
      · rw [hj]; exact hb
      · exact h2 j j1 (by omega)
    · rw [skipB_stop hb]
      exact ⟨Nat.le_refl _, fun j h1 h2 => by omega⟩
theorem blank_of {c : Int} (h : ofC c true = 0) : c = 32 ∨ c = 9 := by
  unfold ofC at h
  by_cases h1 : c = 32 ∨ c = 9
  · exact h1
  · rw [if_neg h1] at h; simp at h
/-- What each byte is of what stands about quotes. -/
theorem quote_bytes {s : ByteArray} {q c : Int} {fx fy : Nat} (h : pairQ s q c = some (fx, fy)) {E F : Nat} (hE : skipF s (fy + 1) = E) (hF : (if E = fy + 1 then skipB s fx else fx) = F) :
    F ≤ fx ∧ fx < fy ∧ fy < E ∧ E ≤ s.size ∧ c ≤ fy ∧ byt s fx = q ∧ byt s fy = q ∧ (∀ k, F ≤ k → k < fx → byt s k = 32 ∨ byt s k = 9) ∧ (∀ k, fx < k → k < fy → byt s k ≠ q) ∧ (∀ k, fy < k → k < E → byt s k = 32 ∨ byt s k = 9) := by
  obtain ⟨h1, h2, h3, h4, h5⟩ := pairQ_in h
  simp only at h1 h2 h3 h4 h5
  obtain ⟨e1, e2, e3⟩ := skipF_spec (s := s) _ (fy + 1) rfl (by omega)
  obtain ⟨b1, b2⟩ := skipB_spec (s := s) fx
  rw [hE] at e1 e2 e3
  refine ⟨?_, h1, by omega, e2, h5, h3, h4, fun k k1 k2 => ?_, fun k k1 k2 => pairQ_clear h k k1 k2, fun k k1 k2 => blank_of (e3 k (by omega) k2)⟩
  · rw [← hF]; split
    · exact b1
    · exact Nat.le_refl _
  · rw [← hF] at k1
    split at k1
    · exact blank_of (b2 k k1 k2)
    · omega
end Go.Proofs.Ytlbbgocggifjaaa
