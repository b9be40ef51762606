/- What the sentence at a place is. Plain Lean, no program in sight. Conditions: none. -/
import Derived.Test.YtnaceobbbfbhhaaSentO
import Derived.Test.YtnaceobbbfbhhaaCells
import Derived.Test.YtnaceobbbfbhhaaByteP
namespace Go.Proofs.Ytnaceobbbfbhhaa

/-- Is byte q one that is no blank, from a on, ahead of b? -/
def inB (L : List ByteArray) (a b q : Nat × Nat) : Bool := !(ofC (bytA L q) true == 0) && (!lessB (q.1 : Int) (q.2 : Int) (a.1 : Int) (a.2 : Int) && lessB (q.1 : Int) (q.2 : Int) (b.1 : Int) (b.2 : Int))
/-- The place behind the last one of these. -/
def endC (L : List ByteArray) (a b : Nat × Nat) (l : List (Nat × Nat)) : Nat × Nat := l.foldl (fun e q => if inB L a b q = true then (q.1, q.2 + 1) else e) a
theorem endC_snoc (L : List ByteArray) (a b : Nat × Nat) (l : List (Nat × Nat)) (q : Nat × Nat) : endC L a b (l ++ [q]) = if inB L a b q = true then (q.1, q.2 + 1) else endC L a b l := by
  rw [endC, List.foldl_append]; rfl
def lastP (O : List (Nat × Nat)) : Nat × Nat := O.getLastD (0, 0)
theorem lastP_snoc (O : List (Nat × Nat)) (x : Nat × Nat) : lastP (O ++ [x]) = x := by simp [lastP]
/-- The sentence: those at the place or ahead of it are O, the one behind begins at t. -/
def sentR (_L : List ByteArray) (O : List (Nat × Nat)) (f t : Nat × Nat) : Rng × Bool := if O = [] ∨ f = t then noR else ((0, (f.1 : Int), (f.2 : Int), (t.1 : Int), (t.2 : Int)), true)
def endP (L : List ByteArray) : Nat × Nat := (L.length - 1, (L.getD (L.length - 1) .empty).size)
def hereS (l c : Int) (S : List (Nat × Nat)) : List (Nat × Nat) := S.filter (fun s => !lessB l c (s.1 : Int) (s.2 : Int))
def toS (L : List ByteArray) (l c : Int) : Nat × Nat := (behR l c (sentP L)).headD (endP L)
def sObjP (L : List ByteArray) (pl pc : Int) (around : Bool) : Rng × Bool :=
  if byteB L pl pc = true then
    sentR L (hereS pl pc (sentP L)) (lastP (hereS pl pc (sentP L))) (if around = true then toS L pl pc else endC L (lastP (hereS pl pc (sentP L))) (toS L pl pc) (cellP L))
  else noR
theorem sObjP_no {L : List ByteArray} {pl pc : Int} {around : Bool} (h : byteB L pl pc = false) : sObjP L pl pc around = noR := by rw [sObjP, if_neg (by rw [h]; simp)]
theorem sentR_same (L : List ByteArray) (O : List (Nat × Nat)) (f : Nat × Nat) : sentR L O f f = noR := by rw [sentR, if_pos (.inr rfl)]
/-- None of these is behind the place; is there one? -/
def notL (l c : Int) (O : List (Nat × Nat)) : Prop := ∀ p ∈ O, lessB l c (p.1 : Int) (p.2 : Int) = false
theorem notL_nil (l c : Int) : notL l c [] := fun p hp => by simp at hp
theorem notL_snoc {l c : Int} {O : List (Nat × Nat)} {x : Nat × Nat} (h : notL l c O) (hx : lessB l c (x.1 : Int) (x.2 : Int) = false) : notL l c (O ++ [x]) := fun p hp => by
  rcases List.mem_append.1 hp with hp | hp
  · exact h p hp
  · simp at hp; subst hp; exact hx
def someB (O : List (Nat × Nat)) : Bool := !O.isEmpty
theorem sentR_none {L : List ByteArray} {O : List (Nat × Nat)} {f t : Nat × Nat} (h : someB O = false) : sentR L O f t = noR := by
  rw [sentR, if_pos (.inl (by simpa [someB] using h))]
theorem sentR_yes {L : List ByteArray} {O : List (Nat × Nat)} {fl fc tl tc : Nat} (h : someB O = true) (hne : ¬ (fl = tl ∧ fc = tc)) : sentR L O (fl, fc) (tl, tc) = ((0, (fl : Int), (fc : Int), (tl : Int), (tc : Int)), true) := by
  rw [sentR, if_neg]
  rintro (h1 | h1)
  · rw [h1] at h; cases h
  · exact hne (by simpa using h1)
theorem someB_snoc (O : List (Nat × Nat)) (x : Nat × Nat) : someB (O ++ [x]) = true := by simp [someB]
theorem sObj_all {L : List ByteArray} {l c : Int} {around : Bool} {O : List (Nat × Nat)} (hb : byteB L l c = true) (hO : sentP L = O) (h : notL l c O) :
    sObjP L l c around = sentR L O (lastP O) (if around = true then endP L else endC L (lastP O) (endP L) (cellP L)) := by
  have e1 : hereS l c (sentP L) = O := by rw [hO, hereS, List.filter_eq_self.2]; exact fun p hp => by rw [h p hp]; rfl
  have e2 : toS L l c = endP L := by
    rw [toS, hO, behR, List.filter_eq_nil_iff.2]
    · rfl
    · exact fun p hp => by rw [h p hp]; decide
  rw [sObjP, if_pos hb, e1, e2]
theorem sObj_cut {L : List ByteArray} {l c : Int} {around : Bool} {O : List (Nat × Nat)} {x : Nat × Nat} (hb : byteB L l c = true) (hp : O ++ [x] <+: sentP L) (h : notL l c O) (hx : lessB l c (x.1 : Int) (x.2 : Int) = true) :
    sObjP L l c around = sentR L O (lastP O) (if around = true then x else endC L (lastP O) x (cellP L)) := by
  obtain ⟨T, hT⟩ := hp
  have hs := sentP_sorted L
  rw [← hT, List.append_assoc, List.singleton_append] at hs
  have hS : sentP L = O ++ x :: T := by rw [← hT, List.append_assoc, List.singleton_append]
  have hT2 : ∀ p ∈ T, lessB l c (p.1 : Int) (p.2 : Int) = true := fun p hp => by
    have h1 := (List.pairwise_cons.1 (List.pairwise_append.1 hs).2.1).1 p hp
    simp only [lessB, ltN, decide_eq_true_eq] at *
    omega
  have e1 : hereS l c (sentP L) = O := by
    rw [hS, hereS, List.filter_append, List.filter_eq_self.2 (fun p hp => by rw [h p hp]; rfl), List.filter_eq_nil_iff.2, List.append_nil]
    intro p hp
    rcases List.mem_cons.1 hp with rfl | hp
    · rw [hx]; decide
    · rw [hT2 p hp]; decide
  have e2 : toS L l c = x := by
    rw [toS, hS, behR, List.filter_append, List.filter_eq_nil_iff.2 (fun p hp => by rw [h p hp]; decide), List.nil_append, List.filter_cons, if_pos hx]
    rfl
  rw [sObjP, if_pos hb, e1, e2]
end Go.Proofs.Ytnaceobbbfbhhaa
namespace Go.Proofs.Ytnaceobbbfbhhaa

theorem here_split {l c : Int} : ∀ {S : List (Nat × Nat)}, S.Pairwise ltN → hereS l c S = S.take (hereS l c S).length ∧ behR l c S = S.drop (hereS l c S).length
  | [], _ => by simp [hereS, behR]
  | x :: T, h => by
    obtain ⟨h1, h2⟩ := List.pairwise_cons.1 h
    obtain ⟨i1, i2⟩ := here_split (l := l) (c := c) h2
    cases hx : lessB l c (x.1 : Int) (x.2 : Int) with
    | false =>
      have e1 : hereS l c (x :: T) = x :: hereS l c T := by rw [hereS, List.filter_cons, if_pos (by rw [hx]; rfl)]; rfl
      have e2 : behR l c (x :: T) = behR l c T := by rw [behR, List.filter_cons, if_neg (by rw [hx]; decide)]; rfl
      rw [e1, e2, List.length_cons, List.take_succ_cons, List.drop_succ_cons, ← i1, ← i2]
      exact ⟨rfl, rfl⟩
    | true =>
      have hT : ∀ p ∈ T, lessB l c (p.1 : Int) (p.2 : Int) = true := fun p hp => by
        have := h1 p hp
        simp only [lessB, ltN, decide_eq_true_eq] at *
        omega
      have e1 : hereS l c (x :: T) = [] := by
        rw [hereS, List.filter_eq_nil_iff]
        intro p hp
        rcases List.mem_cons.1 hp with rfl | hp
        · rw [hx]; decide
        · rw [hT p hp]; decide
      have e2 : behR l c (x :: T) = x :: T := by
        rw [behR, List.filter_eq_self]
        intro p hp
        rcases List.mem_cons.1 hp with rfl | hp
        · exact hx
        · exact hT p hp
      rw [e1, e2]
      simp
theorem here_step {l c : Int} {S : List (Nat × Nat)} {i : Nat} (hs : S.Pairwise ltN) (hi : i < S.length) {x y : Nat} (hx : S.getD i (0, 0) = (x, y)) :
    (hereS l c (S.take (i + 1))).length = if lessB l c (x : Int) (y : Int) = true then (hereS l c (S.take i)).length else i + 1 := by
  have e : S.take (i + 1) = S.take i ++ [(x, y)] := by rw [take_snoc_getD S (0, 0) i hi, hx]
  cases hl : lessB l c (x : Int) (y : Int) with
  | true => rw [e, hereS, List.filter_append, List.filter_cons, if_neg (by simp only; rw [hl]; decide), List.filter_nil, List.append_nil, if_pos rfl]; rfl
  | false =>
    rw [if_neg (by decide), e, hereS, List.filter_eq_self.2, List.length_append, List.length_take, List.length_singleton]
    · omega
    · intro p hp
      rcases List.mem_append.1 hp with hp | hp
      · have h1 := (sorted_at hs hi).1 p hp
        rw [hx] at h1
        have : lessB l c (p.1 : Int) (p.2 : Int) = false := by
          simp only [lessB, ltN, decide_eq_false_iff_not] at *
          omega
        rw [this]; rfl
      · simp at hp; subst hp; simp only; rw [hl]; rfl
/-- The cells of lines y up to b. -/
def cellR (L : List ByteArray) (b y : Nat) : List (Nat × Nat) := if y ≤ b then rowC (L.getD y .empty) y 0 ++ cellR L b (y + 1) else []
termination_by b + 1 - y
theorem cellR_on {L : List ByteArray} {b y : Nat} {s : ByteArray} (h : y ≤ b) (hs : L.getD y .empty = s) : cellR L b y = rowC s y 0 ++ cellR L b (y + 1) := by rw [cellR.eq_def, if_pos h, hs]
theorem cellR_end {L : List ByteArray} {b y : Nat} (h : ¬ y ≤ b) : cellR L b y = [] := by rw [cellR.eq_def, if_neg h]
/-- On from a place that was found so far. -/
def endE (L : List ByteArray) (a b e : Nat × Nat) (l : List (Nat × Nat)) : Nat × Nat := l.foldl (fun e q => if inB L a b q = true then (q.1, q.2 + 1) else e) e
theorem endE_cons (L : List ByteArray) (a b e q : Nat × Nat) (l : List (Nat × Nat)) : endE L a b e (q :: l) = endE L a b (if inB L a b q = true then (q.1, q.2 + 1) else e) l := rfl
theorem endE_skip {L : List ByteArray} {a b : Nat × Nat} : ∀ {l m : List (Nat × Nat)} {e : Nat × Nat}, (∀ q ∈ l, inB L a b q = false) → endE L a b e (l ++ m) = endE L a b e m
  | [], m, e, _ => rfl
  | q :: l, m, e, h => by
    rw [List.cons_append, endE_cons, if_neg (by rw [h q (by simp)]; decide)]
    exact endE_skip fun p hp => h p (List.mem_cons_of_mem _ hp)
theorem inB_ahead {L : List ByteArray} {a b q : Nat × Nat} (h : q.1 < a.1) : inB L a b q = false := by
  have : lessB (q.1 : Int) (q.2 : Int) (a.1 : Int) (a.2 : Int) = true := by simp only [lessB, decide_eq_true_eq]; omega
  rw [inB, this]; simp
theorem inB_behind {L : List ByteArray} {a b q : Nat × Nat} (h : b.1 < q.1) : inB L a b q = false := by
  have : lessB (q.1 : Int) (q.2 : Int) (b.1 : Int) (b.2 : Int) = false := by simp only [lessB, decide_eq_false_iff_not]; omega
  rw [inB, this]; simp
theorem row_all {s : ByteArray} {y : Nat} {p : Nat × Nat} (h : p ∈ rowC s y 0) : p.1 = y := (rowC_in _ 0 rfl p h).1
theorem endE_tail {L : List ByteArray} {a b e : Nat × Nat} : ∀ (n y : Nat), L.length - y = n → b.1 < y → endE L a b e (cellF L y) = e
  | 0, y, h, _ => by rw [cellF_end (by omega)]; rfl
  | n + 1, y, h, hb => by
    rw [cellF_on (by omega) rfl, endE_skip (fun q hq => inB_behind (by rw [row_all hq]; exact hb))]
    exact endE_tail n (y + 1) (by omega) (by omega)
theorem endE_mid {L : List ByteArray} {a b : Nat × Nat} (hb : b.1 < L.length) : ∀ (n y : Nat) (e : Nat × Nat), b.1 + 1 - y = n → y ≤ b.1 + 1 → endE L a b e (cellF L y) = endE L a b e (cellR L b.1 y)
  | 0, y, e, h, hy => by rw [cellR_end (by omega), endE_tail _ y rfl (by omega)]; rfl
  | n + 1, y, e, h, hy => by
    rw [cellF_on (by omega) rfl, cellR_on (by omega) rfl, endE, List.foldl_append, endE, List.foldl_append]
    exact endE_mid hb n (y + 1) _ (by omega) (by omega)
theorem endE_head {L : List ByteArray} {a b e : Nat × Nat} : ∀ (n y : Nat), a.1 - y = n → y ≤ a.1 → a.1 < L.length → endE L a b e (cellF L y) = endE L a b e (cellF L a.1)
  | 0, y, h, hy, _ => by rw [show y = a.1 by omega]
  | n + 1, y, h, hy, ha => by
    rw [cellF_on (show y < L.length by omega) rfl, endE_skip (fun q hq => inB_ahead (by rw [row_all hq]; omega))]
    exact endE_head n (y + 1) (by omega) (by omega) ha
/-- All cells, or those of the lines from a to b. -/
theorem endC_eq {L : List ByteArray} {a b : Nat × Nat} (ha : a.1 < L.length) (hb : b.1 < L.length) (hab : a.1 ≤ b.1 + 1) : endC L a b (cellP L) = endE L a b a (cellR L b.1 a.1) :=
  (endE_head _ 0 rfl (Nat.zero_le _) ha).trans (endE_mid hb _ a.1 a rfl hab)
/-- The reference's way. -/
theorem sObj_ref {L : List ByteArray} {l c : Int} {around : Bool} {h : Nat} (hb : byteB L l c = true) (hh : (hereS l c (sentP L)).length = h) :
    sObjP L l c around = if h = 0 then noR else sentR L ((sentP L).take h) ((sentP L).getD (h - 1) (0, 0)) (if around = true then (if h < (sentP L).length then (sentP L).getD h (0, 0) else endP L) else endC L ((sentP L).getD (h - 1) (0, 0)) (if h < (sentP L).length then (sentP L).getD h (0, 0) else endP L) (cellP L)) := by
  obtain ⟨e1, e2⟩ := here_split (l := l) (c := c) (sentP_sorted L)
  rw [hh] at e1 e2
  have hl : h ≤ (sentP L).length := by rw [← hh, hereS]; exact List.length_filter_le _ _
  have e3 : toS L l c = if h < (sentP L).length then (sentP L).getD h (0, 0) else endP L := by
    rw [toS, e2]
    split
    · rename_i hlt
      rw [List.drop_eq_getElem_cons hlt, List.getD_eq_getElem?_getD, List.getElem?_eq_getElem hlt]; rfl
    · rename_i hlt
      rw [List.drop_eq_nil_of_le (by omega)]; rfl
  rw [sObjP, if_pos hb, e3, e1]
  by_cases h0 : h = 0
  · rw [if_pos h0, h0, List.take_zero, sentR, if_pos (.inl rfl)]
  · rw [if_neg h0]
    have e4 : lastP ((sentP L).take h) = (sentP L).getD (h - 1) (0, 0) := by
      rw [show h = h - 1 + 1 by omega, take_snoc_getD (sentP L) (0, 0) (h - 1) (by omega), lastP_snoc]
      rfl
    rw [e4]
end Go.Proofs.Ytnaceobbbfbhhaa
