/- Several texts in one: SObjP, ParaSentP, Blk2, Blk3. Conditions: none beyond what each says. -/
import Derived.Test.YtlbbgocggifjaaaOI33
import Derived.Test.YtlbbgocggifjaaaOI31
import Derived.Test.YtlbbgocggifjaaaOI1
import Derived.Test.YtlbbgocggifjaaaOI34
import Derived.Test.YtlbbgocggifjaaaOI4
import Derived.Test.YtlbbgocggifjaaaOI24
import Derived.Test.YtlbbgocggifjaaaOI21
import Derived.Test.YtlbbgocggifjaaaOI13
import Derived.Test.YtlbbgocggifjaaaOI11
import Derived.Deep.RegionHeld3
namespace Go.Proofs.Ytlbbgocggifjaaa

/-- Is byte q one that is no blank, from a on, ahead of b? -/
def inB (L : List ByteArray) (a b q : Nat × Nat) : Bool := !(ofC (bytA L q) true == 0) && (!lessB (q.1 : Int) (q.2 : Int) (a.1 : Int) (a.2 : Int) && lessB (q.1 : Int) (q.2 : Int) (b.1 : Int) (b.2 : Int))
/-- The place behind the last one of these. -/
def endC (L : List ByteArray) (a b : Nat × Nat) (l : List (Nat × Nat)) : Nat × Nat := l.foldl (fun e q => if inB L a b q = true then (q.1, q.2 + 1) else e) a
theorem endC_snoc (L : List ByteArray) (a b : Nat × Nat) (l : List (Nat × Nat)) (q : Nat × Nat) : endC L a b (l ++ [q]) = if inB L a b q = true then (q.1, q.2 + 1) else endC L a b l := by
  rw [endC, List.foldl_append]; rfl
def lastP (O : List (Nat × Nat)) : Nat × Nat := O.getLastD (0, 0)
theorem lastP_snoc (O : List (Nat × Nat)) (x : Nat × Nat) : lastP (O ++ [x]) = x := by simp [lastP]
/-- The sentence: those at the place or ahead of it are O, the one behind begins at t. -/
def sentR (_L : List ByteArray) (O : List (Nat × Nat)) (f t : Nat × Nat) : Rng × Bool := if O = [] ∨ f = t then noR else ((0, (f.1 : Int), (f.2 : Int), (t.1 : Int), (t.2 : Int)), true)
def endP (L : List ByteArray) : Nat × Nat := (L.length - 1, (L.getD (L.length - 1) .empty).size)
def hereS (l c : Int) (S : List (Nat × Nat)) : List (Nat × Nat) := S.filter (fun s => !lessB l c (s.1 : Int) (s.2 : Int))
def toS (L : List ByteArray) (l c : Int) : Nat × Nat := (behR l c (sentP L)).headD (endP L)
def sObjP (L : List ByteArray) (pl pc : Int) (around : Bool) : Rng × Bool :=
  if byteB L pl pc = true then
    sentR L (hereS pl pc (sentP L)) (lastP (hereS pl pc (sentP L))) (if around = true then toS L pl pc else endC L (lastP (hereS pl pc (sentP L))) (toS L pl pc) (cellP L))
  else noR
theorem sObjP_no {L : List ByteArray} {pl pc : Int} {around : Bool} (h : byteB L pl pc = false) : sObjP L pl pc around = noR := by rw [sObjP, if_neg (by rw [h]; simp)]
theorem sentR_same (L : List ByteArray) (O : List (Nat × Nat)) (f : Nat × Nat) : sentR L O f f = noR := by rw [sentR, if_pos (.inr rfl)]
/-- None of these is behind the place; is there one? -/
def notL (l c : Int) (O : List (Nat × Nat)) : Prop := ∀ p ∈ O, lessB l c (p.1 : Int) (p.2 : Int) = false
theorem notL_nil (l c : Int) : notL l c [] := fun p hp => by simp at hp
theorem notL_snoc {l c : Int} {O : List (Nat × Nat)} {x : Nat × Nat} (h : notL l c O) (hx : lessB l c (x.1 : Int) (x.2 : Int) = false) : notL l c (O ++ [x]) := fun p hp => by
  rcases List.mem_append.1 hp with hp | hp
  · exact h p hp
  · simp at hp; subst hp; exact hx
def someB (O : List (Nat × Nat)) : Bool := !O.isEmpty
theorem sentR_none {L : List ByteArray} {O : List (Nat × Nat)} {f t : Nat × Nat} (h : someB O = false) : sentR L O f t = noR := by
  rw [sentR, if_pos (.inl (by simpa [someB] using h))]
theorem sentR_yes {L : List ByteArray} {O : List (Nat × Nat)} {fl fc tl tc : Nat} (h : someB O = true) (hne : ¬ (fl = tl ∧ fc = tc)) : sentR L O (fl, fc) (tl, tc) = ((0, (fl : Int), (fc : Int), (tl : Int), (tc : Int)), true) := by
  rw [sentR, if_neg]
  rintro (h1 | h1)
  · rw [h1] at h; cases h
  · exact hne (by simpa using h1)
theorem someB_snoc (O : List (Nat × Nat)) (x : Nat × Nat) : someB (O ++ [x]) = true := by simp [someB]
theorem sObj_all {L : List ByteArray} {l c : Int} {around : Bool} {O : List (Nat × Nat)} (hb : byteB L l c = true) (hO : sentP L = O) (h : notL l c O) :
    sObjP L l c around = sentR L O (lastP O) (if around = true then endP L else endC L (lastP O) (endP L) (cellP L)) := by
  have e1 : hereS l c (sentP L) = O := by rw [hO, hereS, List.filter_eq_self.2]; exact fun p hp => by rw [h p hp]; rfl
  have e2 : toS L l c = endP L := by
    rw [toS, hO, behR, List.filter_eq_nil_iff.2]
    · rfl
    · exact fun p hp => by rw [h p hp]; decide
  rw [sObjP, if_pos hb, e1, e2]
theorem sObj_cut {L : List ByteArray} {l c : Int} {around : Bool} {O : List (Nat × Nat)} {x : Nat × Nat} (hb : byteB L l c = true) (hp : O ++ [x] <+: sentP L) (h : notL l c O) (hx : lessB l c (x.1 : Int) (x.2 : Int) = true) :
    sObjP L l c around = sentR L O (lastP O) (if around = true then x else endC L (lastP O) x (cellP L)) := by
  obtain ⟨T, hT⟩ := hp
  have hs := sentP_sorted L
  rw [← hT, List.append_assoc, List.singleton_append] at hs
  have hS : sentP L = O ++ x :: T := by rw [← hT, List.append_assoc, List.singleton_append]
  have hT2 : ∀ p ∈ T, lessB l c (p.1 : Int) (p.2 : Int) = true := fun p hp => by
    have h1 := (List.pairwise_cons.1 (List.pairwise_append.1 hs).2.1).1 p hp
    simp only [lessB, ltN, decide_eq_true_eq] at *
    omega
  have e1 : hereS l c (sentP L) = O := by
    rw [hS, hereS, List.filter_append, List.filter_eq_self.2 (fun p hp => by rw [h p hp]; rfl), List.filter_eq_nil_iff.2, List.append_nil]
    intro p hp
    rcases List.mem_cons.1 hp with rfl | hp
    · rw [hx]; decide
    · rw [hT2 p hp]; decide
  have e2 : toS L l c = x := by
    rw [toS, hS, behR, List.filter_append, List.filter_eq_nil_iff.2 (fun p hp => by rw [h p hp]; decide), List.nil_append, List.filter_cons, if_pos hx]
    rfl
  rw [sObjP, if_pos hb, e1, e2]
end Go.Proofs.Ytlbbgocggifjaaa
namespace Go.Proofs.Ytlbbgocggifjaaa

theorem here_split {l c : Int} : ∀ {S : List (Nat × Nat)}, S.Pairwise ltN → hereS l c S = S.take (hereS l c S).length ∧ behR l c S = S.drop (hereS l c S).length
  | [], _ => by simp [hereS, behR]
  | x :: T, h => by
    obtain ⟨h1, h2⟩ := List.pairwise_cons.1 h
    obtain ⟨i1, i2⟩ := here_split (l := l) (c := c) h2
    cases hx : lessB l c (x.1 : Int) (x.2 : Int) with
    | false =>
      have e1 : hereS l c (x :: T) = x :: hereS l c T := by rw [hereS, List.filter_cons, if_pos (by rw [hx]; rfl)]; rfl
      have e2 : behR l c (x :: T) = behR l c T := by rw [behR, List.filter_cons, if_neg (by rw [hx]; decide)]; rfl
      rw [e1, e2, List.length_cons, List.take_succ_cons, List.drop_succ_cons, ← i1, ← i2]
      exact ⟨rfl, rfl⟩
    | true =>
      have hT : ∀ p ∈ T, lessB l c (p.1 : Int) (p.2 : Int) = true := fun p hp => by
        have := h1 p hp
        simp only [lessB, ltN, decide_eq_true_eq] at *
        omega
      have e1 : hereS l c (x :: T) = [] := by
        rw [hereS, List.filter_eq_nil_iff]
        intro p hp
        rcases List.mem_cons.1 hp with rfl | hp
        · rw [hx]; decide
        · rw [hT p hp]; decide
      have e2 : behR l c (x :: T) = x :: T := by
        rw [behR, List.filter_eq_self]
        intro p hp
        rcases List.mem_cons.1 hp with rfl | hp
        · exact hx
        · exact hT p hp
      rw [e1, e2]
      simp
theorem here_step {l c : Int} {S : List (Nat × Nat)} {i : Nat} (hs : S.Pairwise ltN) (hi : i < S.length) {x y : Nat} (hx : S.getD i (0, 0) = (x, y)) :
    (hereS l c (S.take (i + 1))).length = if lessB l c (x : Int) (y : Int) = true then (hereS l c (S.take i)).length else i + 1 := by
  have e : S.take (i + 1) = S.take i ++ [(x, y)] := by rw [take_snoc_getD S (0, 0) i hi, hx]
  cases hl : lessB l c (x : Int) (y : Int) with
  | true => rw [e, hereS, List.filter_append, List.filter_cons, if_neg (by simp only; rw [hl]; decide), List.filter_nil, List.append_nil, if_pos rfl]; rfl
  | false =>
    rw [if_neg (by decide), e, hereS, List.filter_eq_self.2, List.length_append, List.length_take, List.length_singleton]
    · omega
    · intro p hp
      rcases List.mem_append.1 hp with hp | hp
      · have h1 := (sorted_at hs hi).1 p hp
        rw [hx] at h1
        have : lessB l c (p.1 : Int) (p.2 : Int) = false := by
          simp only [lessB, ltN, decide_eq_false_iff_not] at *
          omega
        rw [this]; rfl
      · simp at hp; subst hp; simp only; rw [hl]; rfl
/-- The cells of lines y up to b. -/
def cellR (L : List ByteArray) (b y : Nat) : List (Nat × Nat) := if y ≤ b then rowC (L.getD y .empty) y 0 ++ cellR L b (y + 1) else []
termination_by b + 1 - y
theorem cellR_on {L : List ByteArray} {b y : Nat} {s : ByteArray} (h : y ≤ b) (hs : L.getD y .empty = s) : cellR L b y = rowC s y 0 ++ cellR L b (y + 1) := by rw [cellR.eq_def, if_pos h, hs]
theorem cellR_end {L : List ByteArray} {b y : Nat} (h : ¬ y ≤ b) : cellR L b y = [] := by rw [cellR.eq_def, if_neg h]
/-- On from a place that was found so far. -/
def endE (L : List ByteArray) (a b e : Nat × Nat) (l : List (Nat × Nat)) : Nat × Nat := l.foldl (fun e q => if inB L a b q = true then (q.1, q.2 + 1) else e) e
theorem endE_cons (L : List ByteArray) (a b e q : Nat × Nat) (l : List (Nat × Nat)) : endE L a b e (q :: l) = endE L a b (if inB L a b q = true then (q.1, q.2 + 1) else e) l := rfl
theorem endE_skip {L : List ByteArray} {a b : Nat × Nat} : ∀ {l m : List (Nat × Nat)} {e : Nat × Nat}, (∀ q ∈ l, inB L a b q = false) → endE L a b e (l ++ m) = endE L a b e m
  | [], m, e, _ => rfl
  | q :: l, m, e, h => by
    rw [List.cons_append, endE_cons, if_neg (by rw [h q (by simp)]; decide)]
    exact endE_skip fun p hp => h p (List.mem_cons_of_mem _ hp)
theorem inB_ahead {L : List ByteArray} {a b q : Nat × Nat} (h : q.1 < a.1) : inB L a b q = false := by
  have : lessB (q.1 : Int) (q.2 : Int) (a.1 : Int) (a.2 : Int) = true := by simp only [lessB, decide_eq_true_eq]; omega
  rw [inB, this]; simp
theorem inB_behind {L : List ByteArray} {a b q : Nat × Nat} (h : b.1 < q.1) : inB L a b q = false := by
  have : lessB (q.1 : Int) (q.2 : Int) (b.1 : Int) (b.2 : Int) = false := by simp only [lessB, decide_eq_false_iff_not]; omega
  rw [inB, this]; simp
theorem row_all {s : ByteArray} {y : Nat} {p : Nat × Nat} (h : p ∈ rowC s y 0) : p.1 = y := (rowC_in _ 0 rfl p h).1
theorem endE_tail {L : List ByteArray} {a b e : Nat × Nat} : ∀ (n y : Nat), L.length - y = n → b.1 < y → endE L a b e (cellF L y) = e
  | 0, y, h, _ => by rw [cellF_end (by omega)]; rfl
  | n + 1, y, h, hb => by
    rw [cellF_on (by omega) rfl, endE_skip (fun q hq => inB_behind (by rw [row_all hq]; exact hb))]
    exact endE_tail n (y + 1) (by omega) (by omega)
theorem endE_mid {L : List ByteArray} {a b : Nat × Nat} (hb : b.1 < L.length) : ∀ (n y : Nat) (e : Nat × Nat), b.1 + 1 - y = n → y ≤ b.1 + 1 → endE L a b e (cellF L y) = endE L a b e (cellR L b.1 y)
  | 0, y, e, h, hy => by rw [cellR_end (by omega), endE_tail _ y rfl (by omega)]; rfl
  | n + 1, y, e, h, hy => by
    rw [cellF_on (by omega) rfl, cellR_on (by omega) rfl, endE, List.foldl_append, endE, List.foldl_append]
    exact endE_mid hb n (y + 1) _ (by omega) (by omega)
theorem endE_head {L : List ByteArray} {a b e : Nat × Nat} : ∀ (n y : Nat), a.1 - y = n → y ≤ a.1 → a.1 < L.length → endE L a b e (cellF L y) = endE L a b e (cellF L a.1)
  | 0, y, h, hy, _ => by rw [show y = a.1 by omega]
  | n + 1, y, h, hy, ha => by
    rw [cellF_on (show y < L.length by omega) rfl, endE_skip (fun q hq => inB_ahead (by rw [row_all hq]; omega))]
    exact endE_head n (y + 1) (by omega) (by omega) ha
/-- All cells, or those of the lines from a to b. -/
theorem endC_eq {L : List ByteArray} {a b : Nat × Nat} (ha : a.1 < L.length) (hb : b.1 < L.length) (hab : a.1 ≤ b.1 + 1) : endC L a b (cellP L) = endE L a b a (cellR L b.1 a.1) :=
  (endE_head _ 0 rfl (Nat.zero_le _) ha).trans (endE_mid hb _ a.1 a rfl hab)
/-- The reference's way. -/
theorem sObj_ref {L : List ByteArray} {l c : Int} {around : Bool} {h : Nat} (hb : byteB L l c = true) (hh : (hereS l c (sentP L)).length = h) :
    sObjP L l c around = if h = 0 then noR else sentR L ((sentP L).take h) ((sentP L).getD (h - 1) (0, 0)) (if around = true then (if h < (sentP L).length then (sentP L).getD h (0, 0) else endP L) else endC L ((sentP L).getD (h - 1) (0, 0)) (if h < (sentP L).length then (sentP L).getD h (0, 0) else endP L) (cellP L)) := by
  obtain ⟨e1, e2⟩ := here_split (l := l) (c := c) (sentP_sorted L)
  rw [hh] at e1 e2
  have hl : h ≤ (sentP L).length := by rw [← hh, hereS]; exact List.length_filter_le _ _
  have e3 : toS L l c = if h < (sentP L).length then (sentP L).getD h (0, 0) else endP L := by
    rw [toS, e2]
    split
    · rename_i hlt
      rw [List.drop_eq_getElem_cons hlt, List.getD_eq_getElem?_getD, List.getElem?_eq_getElem hlt]; rfl
    · rename_i hlt
      rw [List.drop_eq_nil_of_le (by omega)]; rfl
  rw [sObjP, if_pos hb, e3, e1]
  by_cases h0 : h = 0
  · rw [if_pos h0, h0, List.take_zero, sentR, if_pos (.inl rfl)]
  · rw [if_neg h0]
    have e4 : lastP ((sentP L).take h) = (sentP L).getD (h - 1) (0, 0) := by
      rw [show h = h - 1 + 1 by omega, take_snoc_getD (sentP L) (0, 0) (h - 1) (by omega), lastP_snoc]
      rfl
    rw [e4]
end Go.Proofs.Ytlbbgocggifjaaa
namespace Go.Proofs.Ytlbbgocggifjaaa

theorem endE_spec {L : List ByteArray} {a b : Nat × Nat} : ∀ {l : List (Nat × Nat)} {e : Nat × Nat}, endE L a b e l = e ∨ ∃ q ∈ l, inB L a b q = true ∧ endE L a b e l = (q.1, q.2 + 1)
  | [], e => .inl rfl
  | q :: l, e => by
    rw [endE_cons]
    cases hq : inB L a b q with
    | false =>
      rw [if_neg (by decide)]
      rcases endE_spec (L := L) (a := a) (b := b) (l := l) (e := e) with h | ⟨r, hr, h1, h2⟩
      · exact .inl h
      · exact .inr ⟨r, List.mem_cons_of_mem _ hr, h1, h2⟩
    | true =>
      rw [if_pos rfl]
      rcases endE_spec (L := L) (a := a) (b := b) (l := l) (e := (q.1, q.2 + 1)) with h | ⟨r, hr, h1, h2⟩
      · exact .inr ⟨q, List.mem_cons_self .., hq, h⟩
      · exact .inr ⟨r, List.mem_cons_of_mem _ hr, h1, h2⟩
theorem endC_spec {L : List ByteArray} {a b : Nat × Nat} {l : List (Nat × Nat)} : endC L a b l = a ∨ ∃ q ∈ l, inB L a b q = true ∧ endC L a b l = (q.1, q.2 + 1) := endE_spec
theorem cellF_in {L : List ByteArray} : ∀ (n y : Nat), L.length - y = n → ∀ p ∈ cellF L y, p.1 < L.length ∧ p.2 < (L.getD p.1 .empty).size
  | 0, y, h, p, hp => by rw [cellF_end (by omega)] at hp; simp at hp
  | n + 1, y, h, p, hp => by
    rw [cellF_on (by omega) rfl] at hp
    rcases List.mem_append.1 hp with hp | hp
    · obtain ⟨h1, _, h3⟩ := rowC_in _ 0 rfl p hp
      rw [h1]
      exact ⟨by omega, h3⟩
    · exact cellF_in n (y + 1) (by omega) p hp
theorem inB_parts {L : List ByteArray} {a b q : Nat × Nat} (h : inB L a b q = true) : ¬ ofC (bytA L q) true = 0 ∧ lessB (q.1 : Int) (q.2 : Int) (a.1 : Int) (a.2 : Int) = false ∧ lessB (q.1 : Int) (q.2 : Int) (b.1 : Int) (b.2 : Int) = true := by
  simp only [inB, Bool.and_eq_true, Bool.not_eq_true', beq_eq_false_iff_ne, ne_eq] at h
  exact h
/-- The three ways. -/
theorem sent_ways {L : List ByteArray} {l c : Nat} (hp : plcB L l c = true) :
    (sObjP L l c true = noR ∧ sObjP L l c false = noR) ∨
    ∃ fl fc tl tc : Nat, sObjP L l c true = ((0, (fl : Int), (fc : Int), (tl : Int), (tc : Int)), true) ∧ lessB l c fl fc = false ∧ lessB tl tc l c = false ∧
      (sObjP L l c false = noR ∨ ∃ y x : Nat, sObjP L l c false = ((0, (fl : Int), (fc : Int), (y : Int), ((x + 1 : Nat) : Int)), true) ∧ lessB tl tc y ((x + 1 : Nat) : Int) = false ∧ y < L.length ∧ x < (L.getD y .empty).size ∧ ¬ ofC (byt (L.getD y .empty) x) true = 0) := by
  cases hb : byteB L l c with
  | false => exact .inl ⟨sObjP_no hb, sObjP_no hb⟩
  | true =>
    obtain ⟨p1, p2, p3, p4⟩ := plcB_spec hp
    obtain ⟨h, hh⟩ : ∃ h, (hereS (l : Int) (c : Int) (sentP L)).length = h := ⟨_, rfl⟩
    have e0 := sObj_ref (around := true) hb hh
    have e1 := sObj_ref (around := false) hb hh
    rw [if_pos rfl] at e0
    rw [if_neg (show ¬ (false = true) by decide)] at e1
    by_cases h0 : h = 0
    · rw [if_pos h0] at e0 e1
      exact .inl ⟨e0, e1⟩
    · rw [if_neg h0] at e0 e1
      have hle : h ≤ (sentP L).length := by rw [← hh, hereS]; exact List.length_filter_le _ _
      have hsp := here_split (l := (l : Int)) (c := (c : Int)) (sentP_sorted L)
      rw [hh] at hsp
      obtain ⟨⟨fl, fc⟩, hf⟩ : ∃ p, (sentP L).getD (h - 1) (0, 0) = p := ⟨_, rfl⟩
      obtain ⟨⟨tl, tc⟩, ht⟩ : ∃ p, (if h < (sentP L).length then (sentP L).getD h (0, 0) else endP L) = p := ⟨_, rfl⟩
      rw [hf, ht] at e0 e1
      have hso : someB ((sentP L).take h) = true := by
        rw [show h = h - 1 + 1 by omega, take_snoc_getD (sentP L) (0, 0) (h - 1) (by omega)]
        exact someB_snoc _ _
      have hfl : lessB (l : Int) (c : Int) (fl : Int) (fc : Int) = false := by
        have hm : (fl, fc) ∈ hereS (l : Int) (c : Int) (sentP L) := by
          rw [hsp.1, show h = h - 1 + 1 by omega, take_snoc_getD (sentP L) (0, 0) (h - 1) (by omega), hf]
          simp
        have := (List.mem_filter.1 hm).2
        simpa using this
      have htl : lessB (tl : Int) (tc : Int) (l : Int) (c : Int) = false := by
        by_cases hlt : h < (sentP L).length
        · rw [if_pos hlt] at ht
          have hm : (tl, tc) ∈ behR (l : Int) (c : Int) (sentP L) := by
            rw [hsp.2, List.drop_eq_getElem_cons hlt, ← ht, List.getD_eq_getElem?_getD, List.getElem?_eq_getElem hlt]
            exact List.mem_cons_self ..
          have := (List.mem_filter.1 hm).2
          simp only [lessB, decide_eq_true_eq, decide_eq_false_iff_not] at *
          omega
        · rw [if_neg hlt, endP] at ht
          simp only [Prod.mk.injEq] at ht
          obtain ⟨rfl, rfl⟩ := ht
          simp only [lessB, decide_eq_false_iff_not]
          rintro (h1 | ⟨h1, h2⟩)
          · omega
          · have h1n : l = L.length - 1 := by omega
            rw [Int.toNat_natCast, h1n] at p4
            omega
      by_cases hft : fl = tl ∧ fc = tc
      · obtain ⟨rfl, rfl⟩ := hft
        rw [sentR_same] at e0
        refine .inl ⟨e0, ?_⟩
        rcases endC_spec (L := L) (a := (fl, fc)) (b := (fl, fc)) (l := cellP L) with h1 | ⟨q, _, h1, _⟩
        · rw [h1, sentR_same] at e1; exact e1
        · have := inB_parts h1
          rw [this.2.1] at this
          cases this.2.2
      · rw [sentR_yes hso hft] at e0
        refine .inr ⟨fl, fc, tl, tc, e0, hfl, htl, ?_⟩
        rcases endC_spec (L := L) (a := (fl, fc)) (b := (tl, tc)) (l := cellP L) with h1 | ⟨⟨y, x⟩, hm, h1, h2⟩
        · rw [h1, sentR_same] at e1; exact .inl e1
        · have h3 := inB_parts h1
          have h4 := cellF_in _ 0 rfl _ hm
          simp only at h2 h3 h4
          rw [h2] at e1
          by_cases h5 : fl = y ∧ fc = x + 1
          · obtain ⟨rfl, rfl⟩ := h5
            rw [sentR_same] at e1
            exact .inl e1
          · rw [sentR_yes hso h5] at e1
            refine .inr ⟨y, x, e1, ?_, h4.1, h4.2, h3.1⟩
            have h6 := h3.2.2
            simp only [lessB, decide_eq_true_eq, decide_eq_false_iff_not] at h6 ⊢
            omega
end Go.Proofs.Ytlbbgocggifjaaa
namespace Go.Proofs.Ytlbbgocggifjaaa
open Go.RowKit Go.Shelf

attribute [local go_sem] Oper.semAt_some
theorem pblk_any (a : Option Addr) (cap : Nat) (L : List ByteArray) (w : World) : Calls Try.prog 79 #[.slice a L.length cap] w fun e w' =>
    e = .returned (.func (.func 135) #[] #[.pointer (some ⟨w.heap.size, 0, none⟩)]) ∧ w.alloc (.cells #[.slice a L.length cap] 22) = w' := by
  go_enter Try.func79, Try.ntmps79
  go_wp2
  go_ret
  exact ⟨rfl, rfl⟩
theorem blk_stopsK (Kp : World → World → Prop) (Bl : Nat) (a : Option Addr) (cap : Nat) (L : List ByteArray) (W : World) (hl : L.length ≤ 100000) (hBl : W.cell? ⟨Bl, 0, none⟩ = some (.slice a L.length cap)) (hL : LinesAt W a L)
    (hK1 : ∀ X Y, Kp X Y → X.cell? ⟨Bl, 0, none⟩ = some (.slice a L.length cap) → LinesAt X a L → Y.cell? ⟨Bl, 0, none⟩ = some (.slice a L.length cap) ∧ LinesAt Y a L) :
    SeqStopsK Fence.wide 8 Try.prog 135 #[.pointer (some ⟨Bl, 0, none⟩)] (fun x : Ivl L.length => #[Value.int .i64 (x.1.1 : Int), Value.int .i64 (x.1.2 : Int)]) Kp
      (fun ys => vals ys = blkP L) (fun pre => vals pre <+: blkP L) 100000 W := fun l J Jx X hX _ _ hY h0 =>
  blk1_in 8 (by omega) l Bl a cap L Kp hl hK1 J Jx (fun pre x A h hl => hY pre x A h (by omega)) X
    ((hX.cell (p := ⟨Bl, 0, none⟩) (World.block_lt_of_cell? _ _ hBl)).trans hBl) (hL.below hX (Nat.le_refl _)) h0
/-- Where blocks begin, and the end. -/
def begN (R : List (Nat × Nat)) : List Nat := 0 :: R.map Prod.snd
theorem begN_snoc (R : List (Nat × Nat)) (p : Nat × Nat) : begN (R ++ [p]) = begN R ++ [p.2] := by simp [begN]
theorem begN_len (R : List (Nat × Nat)) : (begN R).length = R.length + 1 := by simp [begN]
theorem boxed_new2 (W : World) (t : TypeId) (v : Value) {n : Nat} (h : n = W.heap.size) : Boxed (W.alloc (.cells #[v] t)) n t v := by subst h; exact Boxed.new W t v
theorem heap_at_new (w : World) (o : Obj) {n : Nat} (h : n = w.heap.size) : (w.alloc o).heap[n]? = some o := by subst h; exact World.alloc_heap_new w o
theorem cell_one_new' {w : World} {n : Nat} (h : n = w.heap.size) (a : Value) (t : TypeId) : ∀ j u, [a][j]? = some u → (w.alloc (.cells #[a] t)).cell? ((⟨n, 0, none⟩ : Addr).add j) = some u := by
  intro j u hj
  subst h
  rw [addr_add]
  match j, hj with
  | 0, hj => simp at hj; subst hj; simp [go_sem]
/-- One more in a row of a box's slice; another box beside it. -/
theorem row_step {W2 w1 : World} {n A I : Nat} {t ti e : TypeId} {size k : Nat} {v v' u : Value} {ys : List Value} {r : Option Nat} {tmp : Obj} (hgrow : (W2.alloc tmp).grownBy w1 r) (hr : ∀ j, r = some j → n ≤ j ∧ ∃ cs q, (W2.alloc tmp).heap[j]? = some (.cells cs e q))
    (hown' : w1.ownsRow n e size v' k ys) (hA : Boxed W2 A t v) (hI : Boxed W2 I ti u) (hAn : A < n) (hIn : I < n) (hne : I ≠ A) (hn : n ≤ W2.heap.size) (E : List Nat) (hE : A ∈ E) :
    Boxed w1 A t v ∧ Boxed (w1.setCell ⟨A, 0, none⟩ v') A t v' ∧ (w1.setCell ⟨A, 0, none⟩ v').ownsRow n e size v' k ys ∧ Boxed (w1.setCell ⟨A, 0, none⟩ v') I ti u ∧ KeepsOthers W2 (w1.setCell ⟨A, 0, none⟩ v') ∧ But n E W2 (w1.setCell ⟨A, 0, none⟩ v') := by
  have hA1 : Boxed w1 A t v := (hA.alloc tmp).kept hgrow (fun e' => by have := (hr A e'.symm).1; omega)
  have hI1 : Boxed w1 I ti u := (hI.alloc tmp).kept hgrow (fun e' => by have := (hr I e'.symm).1; omega)
  refine ⟨hA1, hA1.set v', hown'.kept (grownBy_setCell' w1 A v') (.inr (fun e' => by have := (hown'.lt _ e').1; omega)), hI1.other hne v', ?_, ?_⟩
  · refine ((KeepsOthers.alloc W2 tmp).trans (KeepsOthers.of_grownBy hgrow fun j o ej hj => ?_)).trans (KeepsOthers.setCell _ _ _)
    obtain ⟨_, cs, q, hc⟩ := hr j ej
    rw [hc] at hj; cases hj; rfl
  · exact (((But.refl n E W2).alloc hn tmp).grown (by simp; omega) hgrow (fun j e' => (hr j e').1)).setCell (.inl hE) 0 v'
theorem row_own {W2 : World} {n : Nat} {e : TypeId} {size k : Nat} {v : Value} {xs : List Value} (h : W2.ownsRow n e size v k xs) (tmp : Obj) : ∀ j, v.ownBlock = some j → n ≤ j ∧ ∃ cs q, (W2.alloc tmp).heap[j]? = some (.cells cs e q) := fun j ej => by
  refine ⟨(h.lt j ej).1, ?_⟩
  rcases (h.alloc tmp).2 with ⟨rfl, _⟩ | ⟨g, cap, cur, rfl, _, hgb, _⟩
  · simp [Value.ownBlock] at ej
  · obtain rfl : g = j := by simpa [Value.ownBlock] using ej
    exact ⟨_, _, hgb⟩
set_option maxRecDepth 100000 in
set_option maxHeartbeats 4000000 in
theorem pblocks_no (a : Option Addr) (cap : Nat) (L : List ByteArray) (pl pc n : Int) (w : World) (hL : LinesAt w a L) (h : ¬ (1 ≤ n ∧ byteB L pl pc = true)) :
    Calls Try.prog 136 #[.slice a L.length cap, .agg #[.int .i64 pl, .int .i64 pc], .int .i64 n] w fun e w' => e = .returned (.tuple #[.slice none 0 0, .int .i64 0, .bool false]) ∧ Below w.heap.size w w' := by
  have hn := hL.2.1
  by_cases h1 : 1 ≤ n
  · have h1d : decide (n < 1) = false := decide_eq_false (by omega)
    have h1I : ¬ n < 1 := by omega
    have hb : byteB L pl pc = false := by
      cases hb : byteB L pl pc with
      | false => rfl
      | true => exact absurd ⟨h1, hb⟩ h
    have HB := Lib.hid hb
    clear h hb
    go_enter Try.func136, Try.ntmps136
    go_wp2_with (go_at_call 139; refine (byte_any _ _ L _ _ _ (by (repeat (first | assumption | refine LinesAt.ovr ?_ _ | refine LinesAt.alloc ?_ _ | refine LinesAt.drewN ?_ _ | refine LinesAt.drew ?_)))).mono ?_; rw [HB.out]; rintro e w1 ⟨rfl, hbl⟩; obtain ⟨x, rfl⟩ := ovr_of_below hbl; clear hbl)
    go_ret3
    exact ⟨rfl, by (repeat (first | with_reducible exact Below.refl _ _ | (with_reducible refine Below.setCell ?_ ?_ _; rotate_left; · (first | exact Nat.le_refl _ | assumption | omega | (simp; done) | (simp; omega))) | (with_reducible refine Below.alloc ?_ ?_ _; rotate_left; · (first | exact Nat.le_refl _ | assumption | omega | (simp; done) | (simp; omega))) | with_reducible refine below_ovr_of ?_ | with_reducible refine drew_below ?_ _ | with_reducible refine Below.drew ?_ | with_reducible assumption))⟩
  · have h1' : n < 1 := by omega
    clear h h1
    go_enter Try.func136, Try.ntmps136
    go_wp2_with (go_at_call 139; refine (byte_any _ _ L _ _ _ (by (repeat (first | assumption | refine LinesAt.ovr ?_ _ | refine LinesAt.alloc ?_ _ | refine LinesAt.drewN ?_ _ | refine LinesAt.drew ?_)))).mono ?_; rintro e w1 ⟨rfl, hbl⟩; obtain ⟨x, rfl⟩ := ovr_of_below hbl; clear hbl)
    go_ret3
    exact ⟨rfl, by (repeat (first | with_reducible exact Below.refl _ _ | (with_reducible refine Below.setCell ?_ ?_ _; rotate_left; · (first | exact Nat.le_refl _ | assumption | omega | (simp; done) | (simp; omega))) | (with_reducible refine Below.alloc ?_ ?_ _; rotate_left; · (first | exact Nat.le_refl _ | assumption | omega | (simp; done) | (simp; omega))) | with_reducible refine below_ovr_of ?_ | with_reducible refine drew_below ?_ _ | with_reducible refine Below.drew ?_ | with_reducible assumption))⟩
set_option maxRecDepth 100000 in
set_option maxHeartbeats 8000000 in
theorem pblocks_yes (a : Option Addr) (cap : Nat) (L : List ByteArray) (l c : Nat) (n : Int) (w : World) (hL : LinesAt w a L) (hl4 : L.length ≤ 100000) (hl : l < L.length) (hb : byteB L l c = true) (hn1 : 1 ≤ n) :
    Calls Try.prog 136 #[.slice a L.length cap, .agg #[.int .i64 l, .int .i64 c], .int .i64 n] w fun e w' =>
      ∃ v, e = .returned (.tuple #[v, .int .i64 (inF l (blkP L)), .bool true]) ∧ w'.ownsRow w.heap.size 3 1 v (begN (blkP L)).length (cellsN (begN (blkP L))) ∧ Below w.heap.size w w' := by
  have hn := hL.2.1
  obtain ⟨i0, hi, hz0, hz1, hz2⟩ := info_parts infoInt
  obtain ⟨b, off, s, rfl, hbb, _, _, _⟩ := line_facts' hL hl
  have HB := Lib.hid hb
  have hn1d : decide (n < 1) = false := decide_eq_false (by omega)
  have hn1I : ¬ n < 1 := by omega
  have hne : (blkP L) ≠ [] := by
    intro e
    obtain ⟨k, hk, _⟩ := chain_find (blkP_chain L) (Nat.zero_le l) (by rw [blkS_size]; exact hl)
    rw [e] at hk
    simp at hk
  have HNE := Lib.hid hne
  clear hb hne
  refine (callsIn_wide (n := 9)).1 ?_
  refine callsIn_of_wp_marks Try.func136 rfl trivial ?_ rfl
  simp only [Try.ntmps136, List.size_toArray, List.length_cons, List.length_nil, Nat.reduceAdd, Nat.reduceSub, Array.replicate_succ, Array.replicate_zero, List.push_toArray, List.append_toArray, List.nil_append, List.cons_append]
  gi_wp2_with (first
    | (gi_at_call 139; refine (callsIn_wide.2 (byte_any _ _ L _ _ _ (by (repeat (first | assumption | refine LinesAt.ovr ?_ _ | refine LinesAt.alloc ?_ _ | refine LinesAt.drewN ?_ _ | refine LinesAt.drew ?_))))).mono ?_; rw [HB.out]; rintro e w1 ⟨rfl, hbl⟩; obtain ⟨x1, rfl⟩ := ovr_of_below hbl; clear hbl)
    | (gi_at_call 79; refine (callsIn_wide.2 (pblk_any _ _ L _)).mono ?_; rintro e w1 ⟨rfl, rfl⟩))
  obtain ⟨g0, hg0⟩ : ∃ g0, w.heap.size + 1 + x1.heap.size = g0 := ⟨_, rfl⟩
  rw [hg0]
  refine name_worldIn ?_
  intro W1 hW1
  have c0 : W1.cell? ⟨w.heap.size, 0, none⟩ = some (.int .i64 l) := by rw [hW1]; simp [go_sem]
  have c1 : W1.cell? ⟨w.heap.size, 1, none⟩ = some (.int .i64 c) := by rw [hW1]; simp [go_sem]
  have bA : Boxed W1 (g0 + 1) 56 (.slice (some ⟨g0, 0, none⟩) 1 1) := by rw [hW1]; exact ((boxed_new2 _ _ _ (by rw [← hg0]; simp)).alloc _).alloc _
  have bI : Boxed W1 (g0 + 1 + 1) 3 (.int .i64 0) := by rw [hW1]; exact (boxed_new2 _ _ _ (by rw [← hg0]; simp)).alloc _
  have hBl : W1.cell? ⟨g0 + 1 + 1 + 1, 0, none⟩ = some (.slice (some ⟨b, off, none⟩) L.length cap) := by rw [hW1, ← hg0]; simp [go_sem]
  have hg1 : W1.heap[g0]? = some (.cells #[.int .i64 0] 3 (0, 0)) := by
    rw [hW1, Below.heap_alloc _ _ _ (by rw [← hg0]; simp <;> omega), Below.heap_alloc _ _ _ (by rw [← hg0]; simp <;> omega), Below.heap_alloc _ _ _ (by rw [← hg0]; simp <;> omega)]
    exact heap_at_new _ _ (by rw [← hg0]; simp)
  have hbel : Below w.heap.size w W1 := by rw [hW1]; (repeat (first | with_reducible exact Below.refl _ _ | (with_reducible refine Below.setCell ?_ ?_ _; rotate_left; · (first | exact Nat.le_refl _ | assumption | omega | (simp; done) | (simp; omega))) | (with_reducible refine Below.alloc ?_ ?_ _; rotate_left; · (first | exact Nat.le_refl _ | assumption | omega | (simp; done) | (simp; omega))) | with_reducible refine below_ovr_of ?_ | with_reducible refine drew_below ?_ _ | with_reducible refine Below.drew ?_ | with_reducible assumption))
  have hsz : g0 + 1 + 1 + 1 < W1.heap.size := by rw [hW1, ← hg0]; simp
  have hg0w : w.heap.size < g0 := by omega
  have hLW := hL.below hbel (Nat.le_refl _)
  have hbelS := hbel.size
  clear hW1 hg0
  have hJ0 : OwnFrom W1.heap.size (fun (pre : List (Ivl L.length)) W => (∃ v, Boxed W (g0 + 1) 56 v ∧ ((pre = [] ∧ v = .slice (some ⟨g0, 0, none⟩) 1 1) ∨ W.ownsRow W1.heap.size 3 1 v (begN (vals pre)).length (cellsN (begN (vals pre)))))) := fun s X Y row ⟨v, hv, hd⟩ hg hr => by
    rcases hd with hd | hd
    · exact ⟨v, Own.from (boxed_own (g0 + 1) 56 (fun _ : Unit => v)) _ () X Y row hv hg hr, .inl hd⟩
    · obtain ⟨v', h1, h2, _⟩ := Own.from (holdsRow_own W1.heap.size (g0 + 1) 56 3 1 (fun s : List (Ivl L.length) => (begN (vals s)).length) (fun s => cellsN (begN (vals s))) (fun _ _ => True)) _ s X Y row ⟨v, hv, hd, trivial⟩ hg hr
      exact ⟨v', h1, .inr h2⟩
  refine wpIn_rangeFunc_ownG rfl (by omega) (gf := 135) (lb := #[.pointer (some ⟨g0 + 1 + 1 + 1, 0, none⟩)]) rfl trivial (enters_of Try.func135 (by kernel_rfl) rfl)
    (blk_stopsK (But W1.heap.size [g0 + 1, g0 + 1 + 1]) (g0 + 1 + 1 + 1) (some ⟨b, off, none⟩) cap L W1 hl4 hBl hLW (fun X Y h hc hl => ⟨(h.cell (by omega) (by simp <;> omega)).trans hc, ⟨fun i hi => by
      obtain ⟨b', off', e, hlt, hcc⟩ := hl.1 i hi
      cases e
      exact ⟨b, off, rfl, Nat.lt_of_lt_of_le hlt h.size, (h.cell (by omega) (by simp; omega)).trans hcc⟩, hl.2⟩⟩))
    But.trans (butK_b (Nat.le_refl _)) (Below.refl _ _) (fun _ => rfl)
    (fun (pre : List (Ivl L.length)) W => ((∃ v, Boxed W (g0 + 1) 56 v ∧ ((pre = [] ∧ v = .slice (some ⟨g0, 0, none⟩) 1 1) ∨ W.ownsRow W1.heap.size 3 1 v (begN (vals pre)).length (cellsN (begN (vals pre))))) ∧ Boxed W (g0 + 1 + 1) 3 (.int .i64 (inF l (vals pre)))) ∧ But W1.heap.size [g0 + 1, g0 + 1 + 1] W1 W)
    (fun _ _ _ => False)
    (OwnFrom.and (OwnFrom.and hJ0 (Own.from (boxed_own (g0 + 1 + 1) 3 (fun pre : List (Ivl L.length) => Value.int .i64 (inF l (vals pre)))) _)) (butFrom (Nat.le_refl _) (Nat.le_refl _)))
    (fun _ _ _ _ _ hs _ _ => hs)
    ⟨⟨⟨_, bA, .inl ⟨rfl, rfl⟩⟩, bI⟩, But.refl _ _ _⟩
    (fun x => { tmps := #[.slice (some ⟨b, off, none⟩) L.length cap, .agg #[.int .i64 l, .int .i64 c], .int .i64 n, undef, .pointer (some ⟨w.heap.size, 0, none⟩), undef, .slice none 0 0, .int .i64 0, .bool false, .pointer (some ⟨g0 + 1, 0, none⟩), .pointer (some ⟨g0 + 1 + 1, 0, none⟩), .int .i64 (x.1.1 : Int), .int .i64 (x.1.2 : Int), .int .i64 n, .bool false, .bool false, .slice (some ⟨b, off, none⟩) L.length cap, .agg #[.int .i64 l, .int .i64 c], .bool true, .bool false, .bool false, .slice (some ⟨g0, 0, none⟩) 1 1, .slice (some ⟨b, off, none⟩) L.length cap, .func (.func 135) #[] #[.pointer (some ⟨g0 + 1 + 1 + 1, 0, none⟩)], .int .i64 (x.1.1 : Int), .int .i64 (x.1.2 : Int), undef, undef, undef, undef, undef, undef, undef, undef, undef, undef, undef, undef, undef], defers := [] }) ?assign ?body ?done ?stop
  case assign =>
    intro l x W K hK
    gi_wp2
    exact hK
  case body =>
    rintro l' pre x W ⟨⟨⟨v, hv, hd⟩, hI⟩, hB⟩ hlt
    have g0' : W.cell? ⟨w.heap.size, 0, none⟩ = some (.int .i64 l) := (hB.cell (by omega) (by simp; omega)).trans c0
    have g1' : W.cell? ⟨w.heap.size, 1, none⟩ = some (.int .i64 c) := (hB.cell (by omega) (by simp; omega)).trans c1
    have hgW : W.heap[g0]? = some (.cells #[.int .i64 0] 3 (0, 0)) := (hB.block g0 (by omega) (by simp <;> omega)).trans hg1
    have hvc := hv.cell
    have hvf := hv.frozen
    have hic := hI.cell
    have hif := hI.frozen
    have hBs := hB.size
    have hBEG : begN (vals (pre ++ [x])) = begN (vals pre) ++ [x.1.2] := by rw [vals, List.map_append]; exact begN_snoc _ _
    have HBEG := Lib.hid hBEG
    have HLEN : Hid ((begN (vals (pre ++ [x]))).length = (begN (vals pre)).length + 1) := Lib.hid (by rw [hBEG]; simp)
    have HBL : Hid ((begN (vals pre)).length = pre.length + 1) := Lib.hid (by rw [begN_len]; simp)
    have HINF : Hid (inF l (vals (pre ++ [x])) = if x.1.1 ≤ l then (vals pre).length else inF l (vals pre)) := Lib.hid (by rw [vals, List.map_append]; exact inF_snoc _ _ _)
    have HVL : Hid ((vals pre).length = pre.length) := Lib.hid (List.length_map _)
    have hpl : pre.length ≤ 100000 := by omega
    clear hBEG hlt
    rcases hd with ⟨hpre, rfl⟩ | hrow
    · have HPN : Hid (begN (vals pre) = [0]) := Lib.hid (by rw [hpre]; rfl)
      have HPV : Hid (vals pre = []) := Lib.hid (by rw [hpre]; rfl)
      clear hpre
      by_cases hxc : x.1.1 ≤ l
      · have hxcI : (x.1.1 : Int) ≤ (l : Int) := by omega
        obtain ⟨W2, hW2⟩ : ∃ W2, W.setCell ⟨g0 + 1 + 1, 0, none⟩ (.int .i64 0) = W2 := ⟨_, rfl⟩
        have hv2 : Boxed W2 (g0 + 1) 56 (.slice (some ⟨g0, 0, none⟩) 1 1) := by rw [← hW2]; exact hv.other (by omega) _
        have hi2 : Boxed W2 (g0 + 1 + 1) 3 (.int .i64 0) := by rw [← hW2]; exact hI.set _
        have hk2 : KeepsOthers W W2 := by rw [← hW2]; exact KeepsOthers.setCell _ _ _
        have hB2 : But W1.heap.size [g0 + 1, g0 + 1 + 1] W W2 := by rw [← hW2]; exact (But.refl _ _ W).setCell (.inl (by simp)) 0 _
        have hs2 : W1.heap.size ≤ W2.heap.size := by have := hB2.size; omega
        have hg2 : W2.heap[g0]? = some (.cells #[.int .i64 0] 3 (0, 0)) := (hB2.block g0 (by omega) (by simp <;> omega)).trans hgW
        have HIN : Hid (inF l (vals (pre ++ [x])) = 0) := Lib.hid (by rw [HINF.out, if_pos hxc, HPV.out]; rfl)
        have hvc2 := hv2.cell
        have hlt2 : g0 < W2.heap.size := by omega
        gi_wp2_with (gi_at_builtin; refine wpListIn_append_new _ rfl _ _ 56 rfl W1.heap.size 3 i0 (.int .i64 0) 1 8 Try.underlying56 hi hz0 hz1 hz2 rfl g0 1 [.int .i64 0] rfl (by rw [Below.heap_alloc _ _ _ (by omega)]; exact hg2) rfl ⟨W2.heap.size, 0, none⟩ 1 1 [.int .i64 (x.1.2 : Int)] rfl rfl (cell_one_new' rfl _ _) (by decide) (by unfold maxLen; omega) (by omega) (by simp; omega) ?_; intro v' w1 hown' hgrow; obtain ⟨g', cap', rfl⟩ := ownsRow_succ hown'; obtain ⟨q1, q2, q3, q4, q5, q6⟩ := row_step hgrow (fun j e => by cases e) hown' hv2 hi2 (by omega) (by omega) (by omega) hs2 [g0 + 1, g0 + 1 + 1] (by simp); have hc1 := q1.cell; have hf1 := q1.frozen)
        exact ⟨(hk2.trans q5).from _, hB2.trans q6, ⟨⟨_, q2, .inr (by rw [HLEN.out, HBEG.out]; rw [HPN.out]; simpa using q3)⟩, by rw [HIN.out]; exact q4⟩, (hB.trans hB2).trans q6⟩
      · have hxcI : ¬ (x.1.1 : Int) ≤ (l : Int) := by omega
        have hxcN : ¬ x.1.1 ≤ l := hxc
        obtain ⟨W2, hW2⟩ : ∃ W2, W = W2 := ⟨_, rfl⟩
        subst hW2
        have hv2 := hv
        have hi2 := hI
        have hk2 : KeepsOthers W W := KeepsOthers.refl _
        have hB2 : But W1.heap.size [g0 + 1, g0 + 1 + 1] W W := But.refl _ _ W
        have hs2 : W1.heap.size ≤ W.heap.size := hBs
        have hg2 := hgW
        have HIN : Hid (inF l (vals (pre ++ [x])) = inF l (vals pre)) := Lib.hid (by rw [HINF.out, if_neg hxc])
        have hlt2 : g0 < W.heap.size := by omega
        gi_wp2_with (gi_at_builtin; refine wpListIn_append_new _ rfl _ _ 56 rfl W1.heap.size 3 i0 (.int .i64 0) 1 8 Try.underlying56 hi hz0 hz1 hz2 rfl g0 1 [.int .i64 0] rfl (by rw [Below.heap_alloc _ _ _ (by omega)]; exact hg2) rfl ⟨W.heap.size, 0, none⟩ 1 1 [.int .i64 (x.1.2 : Int)] rfl rfl (cell_one_new' rfl _ _) (by decide) (by unfold maxLen; omega) (by omega) (by simp; omega) ?_; intro v' w1 hown' hgrow; obtain ⟨g', cap', rfl⟩ := ownsRow_succ hown'; obtain ⟨q1, q2, q3, q4, q5, q6⟩ := row_step hgrow (fun j e => by cases e) hown' hv2 hi2 (by omega) (by omega) (by omega) hs2 [g0 + 1, g0 + 1 + 1] (by simp); have hc1 := q1.cell; have hf1 := q1.frozen)
        exact ⟨(hk2.trans q5).from _, hB2.trans q6, ⟨⟨_, q2, .inr (by rw [HLEN.out, HBEG.out]; rw [HPN.out]; simpa using q3)⟩, by rw [HIN.out]; exact q4⟩, (hB.trans hB2).trans q6⟩
    · obtain ⟨va, vcap, rfl⟩ := own_slice hrow
      rw [HBL.out] at hrow hv hvc
      by_cases hxc : x.1.1 ≤ l
      · have hxcI : (x.1.1 : Int) ≤ (l : Int) := by omega
        obtain ⟨W2, hW2⟩ : ∃ W2, W.setCell ⟨g0 + 1 + 1, 0, none⟩ (.int .i64 (pre.length : Int)) = W2 := ⟨_, rfl⟩
        have hv2 : Boxed W2 (g0 + 1) 56 (.slice va (pre.length + 1) vcap) := by rw [← hW2]; exact hv.other (by omega) _
        have hi2 : Boxed W2 (g0 + 1 + 1) 3 (.int .i64 (pre.length : Int)) := by rw [← hW2]; exact hI.set _
        have hk2 : KeepsOthers W W2 := by rw [← hW2]; exact KeepsOthers.setCell _ _ _
        have hB2 : But W1.heap.size [g0 + 1, g0 + 1 + 1] W W2 := by rw [← hW2]; exact (But.refl _ _ W).setCell (.inl (by simp)) 0 _
        have hs2 : W1.heap.size ≤ W2.heap.size := by have := hB2.size; omega
        have hrow2 : W2.ownsRow W1.heap.size 3 1 (.slice va (pre.length + 1) vcap) (pre.length + 1) (cellsN (begN (vals pre))) := by
          rw [← hW2]; exact hrow.kept (grownBy_setCell' W (g0 + 1 + 1) _) (.inr (fun e' => by have := (hrow.lt _ e').1; omega))
        have HIN : Hid (inF l (vals (pre ++ [x])) = pre.length) := Lib.hid (by rw [HINF.out, if_pos hxc, HVL.out])
        have hvc2 := hv2.cell
        gi_wp2_with (gi_at_builtin; refine wpListIn_append_own _ rfl _ _ 56 rfl W1.heap.size 3 i0 (.int .i64 0) 1 8 Try.underlying56 hi hz0 hz1 hz2 rfl (by decide) _ _ _ rfl (hrow2.alloc _) ⟨W2.heap.size, 0, none⟩ 1 1 [.int .i64 (x.1.2 : Int)] rfl rfl (cell_one_new' rfl _ _) (by intro u hu; simp at hu; subst hu; rfl) (by unfold maxLen; omega) (by omega) (by simp; omega) ?_; intro v' w1 hown' hgrow _; obtain ⟨g', cap', rfl⟩ := ownsRow_succ hown'; obtain ⟨q1, q2, q3, q4, q5, q6⟩ := row_step hgrow (row_own hrow2 _) hown' hv2 hi2 (by omega) (by omega) (by omega) hs2 [g0 + 1, g0 + 1 + 1] (by simp); have hc1 := q1.cell; have hf1 := q1.frozen)
        exact ⟨(hk2.trans q5).from _, hB2.trans q6, ⟨⟨_, q2, .inr (by rw [HLEN.out, HBEG.out, HBL.out, cellsN, List.map_append]; exact q3)⟩, by rw [HIN.out]; exact q4⟩, (hB.trans hB2).trans q6⟩
      · have hxcI : ¬ (x.1.1 : Int) ≤ (l : Int) := by omega
        have hxcN : ¬ x.1.1 ≤ l := hxc
        obtain ⟨W2, hW2⟩ : ∃ W2, W = W2 := ⟨_, rfl⟩
        subst hW2
        have hv2 := hv
        have hi2 := hI
        have hk2 : KeepsOthers W W := KeepsOthers.refl _
        have hB2 : But W1.heap.size [g0 + 1, g0 + 1 + 1] W W := But.refl _ _ W
        have hs2 : W1.heap.size ≤ W.heap.size := hBs
        have hrow2 := hrow
        have HIN : Hid (inF l (vals (pre ++ [x])) = inF l (vals pre)) := Lib.hid (by rw [HINF.out, if_neg hxc])
        gi_wp2_with (gi_at_builtin; refine wpListIn_append_own _ rfl _ _ 56 rfl W1.heap.size 3 i0 (.int .i64 0) 1 8 Try.underlying56 hi hz0 hz1 hz2 rfl (by decide) _ _ _ rfl (hrow2.alloc _) ⟨W.heap.size, 0, none⟩ 1 1 [.int .i64 (x.1.2 : Int)] rfl rfl (cell_one_new' rfl _ _) (by intro u hu; simp at hu; subst hu; rfl) (by unfold maxLen; omega) (by omega) (by simp; omega) ?_; intro v' w1 hown' hgrow _; obtain ⟨g', cap', rfl⟩ := ownsRow_succ hown'; obtain ⟨q1, q2, q3, q4, q5, q6⟩ := row_step hgrow (row_own hrow2 _) hown' hv2 hi2 (by omega) (by omega) (by omega) hs2 [g0 + 1, g0 + 1 + 1] (by simp); have hc1 := q1.cell; have hf1 := q1.frozen)
        exact ⟨(hk2.trans q5).from _, hB2.trans q6, ⟨⟨_, q2, .inr (by rw [HLEN.out, HBEG.out, HBL.out, cellsN, List.map_append]; exact q3)⟩, by rw [HIN.out]; exact q4⟩, (hB.trans hB2).trans q6⟩
  case done =>
    rintro D ys W hD hys ⟨⟨⟨v, hv, hd⟩, hI⟩, hB⟩ hK
    rcases hd with ⟨rfl, _⟩ | hrow
    · exact absurd hys.symm HNE.out
    have hrow' := ownsRow_putObj hrow (.deferred none) hK rfl
    have hc := hv.cell
    have hic := hI.cell
    have hY := Lib.hid hys
    have hfin : Below w.heap.size w W := hB.below hbel hbel.size (by intro k hk; simp at hk; omega)
    clear hys
    gi_wp2
    gi_region
    all_goals gi_wp2
    all_goals (
      have hK' : W.drew.heap[D]? = some (.deferred (some [])) := hK
      refine ⟨by simp, .inl ⟨_, _, rfl, run_takeDeferred hK', ?_⟩⟩
      exact ⟨_, results_tmp3 rfl _ _ _, v, by rw [← hY.out]; simp, by rw [← hY.out]; exact row_base hrow' hbel.size, below_put (by have := hbel.size; omega) hK' hfin.drew⟩)
  case stop =>
    rintro D c pre W _ _ h _
    exact h.elim
end Go.Proofs.Ytlbbgocggifjaaa
namespace Go.Proofs.Ytlbbgocggifjaaa
open Go.RowKit Go.Shelf

theorem cell_ovr_drew0 {W x : World} {b o : Nat} {v : Value} (h : W.cell? ⟨b, o, none⟩ = some v) : (ovr W.drew x).cell? ⟨b, o, none⟩ = some v := by
  have h' : W.drew.cell? ⟨b, o, none⟩ = some v := h
  exact (cell?_ovr _ _ _ _ (World.block_lt_of_cell? _ _ h')).trans h'
@[go_sem] theorem frozen?_ovr9 (w x : World) (b o : Nat) (h : b < w.heap.size) : (ovr w.drew x).frozen? ⟨b, o, none⟩ = w.frozen? ⟨b, o, none⟩ := frozen?_ovr w.drew x b o h
@[go_sem] theorem cell?_ovr9 (w x : World) (b o : Nat) (h : b < w.heap.size) : (ovr w.drew x).cell? ⟨b, o, none⟩ = w.cell? ⟨b, o, none⟩ := cell?_ovr w.drew x b o h
@[go_sem] theorem setCell_ovr9 (w x : World) (b o : Nat) (v : Value) (h : b < w.heap.size) : (ovr w.drew x).setCell ⟨b, o, none⟩ v = ovr ((w.setCell ⟨b, o, none⟩ v).drew) x := setCell_ovr w.drew x b o v h
@[go_sem] theorem size_setCell9 (w : World) (p : Addr) (v : Value) : (w.setCell p v).heap.size = w.heap.size := by simp [World.setCell]
theorem pwhole_any (f t : Nat) (ht : t ≤ 1000000) (w : World) :
    Calls Try.prog 137 #[.int .i64 f, .int .i64 t] w fun e w' => e = .returned (rngV ((1, (f : Int), 0, (t : Int) - 1, 0), true)) ∧ Below w.heap.size w w' := by
  go_enter Try.func137, Try.ntmps137
  go_wp2
  refine bodyPost_ret (v := rngV ((1, (f : Int), 0, (t : Int) - 1, 0), true)) (by simp [results, Try.results137, go_sem]) rfl ⟨rfl, by (repeat (first | with_reducible exact Below.refl _ _ | (with_reducible refine Below.setCell ?_ ?_ _; rotate_left; · (first | exact Nat.le_refl _ | assumption | omega | (simp; done) | (simp; omega))) | (with_reducible refine Below.alloc ?_ ?_ _; rotate_left; · (first | exact Nat.le_refl _ | assumption | omega | (simp; done) | (simp; omega))) | with_reducible refine below_ovr_of ?_ | with_reducible refine drew_below ?_ _ | with_reducible refine Below.drew ?_ | with_reducible assumption))⟩
theorem beg_at {s : ByteArray} {big : Bool} {R : List (Nat × Nat)} (h : chainR s big 0 R) {k : Nat} (hk : k < R.length) : (begN R).getD k 0 = (R.getD k (0, 0)).1 ∧ (begN R).getD (k + 1) 0 = (R.getD k (0, 0)).2 := by
  have h2 : ∀ j, j < R.length → (begN R).getD (j + 1) 0 = (R.getD j (0, 0)).2 := fun j hj => by
    rw [begN, List.getD_cons_succ, List.getD_eq_getElem?_getD, List.getElem?_map, List.getD_eq_getElem?_getD, List.getElem?_eq_getElem hj]
    rfl
  refine ⟨?_, h2 k hk⟩
  cases k with
  | zero =>
    have := (chain_at h hk).2.2.2.2.2.2 rfl
    rw [this]; rfl
  | succ k =>
    rw [h2 k (by omega)]
    exact ((chain_at h (k := k) (by omega)).2.2.2.2.1 hk).1.symm
set_option maxRecDepth 100000 in
set_option maxHeartbeats 4000000 in
theorem pinner_any (a : Option Addr) (cap : Nat) (L : List ByteArray) (pl pc n : Int) (w : World) (hL : LinesAt w a L) (hl4 : L.length ≤ 100000) (hn2 : n ≤ 9223372036854775807) :
    Calls Try.prog 81 #[.slice a L.length cap, .agg #[.int .i64 pl, .int .i64 pc], .int .i64 n] w fun e w' => e = .returned (rngV (paraOP L pl pc n false)) ∧ Below w.heap.size w w' := by
  have hn := hL.2.1
  by_cases h : 1 ≤ n ∧ byteB L pl pc = true
  · obtain ⟨l, c, m, k, rfl, rfl, rfl, hl, hm, hb, hk, hi, hw⟩ := blk_in h
    have hw := hw false
    rw [if_neg (by decide)] at hw
    have hk1 := hk.1
    have hRl := blkP_len L
    have HRUN := Lib.hid (fun (w0 : World) (h0 : LinesAt w0 a L) => pblocks_yes a cap L l c m w0 h0 hl4 hl hb (by omega))
    have HBE := Lib.hid (fun (j : Nat) (hj : j < (blkP L).length) => beg_at (blkP_chain L) hj)
    have HLE := Lib.hid (fun (j : Nat) (hj : j < (blkP L).length) => blk_le (L := L) hj)
    rw [hi] at HRUN
    obtain ⟨R, hR⟩ : ∃ R, blkP L = R := ⟨_, rfl⟩
    rw [hR] at HRUN HBE HLE hw hk1 hRl
    have HNL : Hid ((begN R).length = R.length + 1) := Lib.hid (begN_len R)
    have hkI : (k : Int) < (R.length : Int) := by omega
    have hk0 : (0 : Int) ≤ (k : Int) := by omega
    clear h hb hk hi hR
    by_cases hmk : m ≤ R.length - k
    · obtain ⟨fx, hfx⟩ : ∃ fx, (R.getD k (0, 0)).1 = fx := ⟨_, rfl⟩
      obtain ⟨fy, hfy⟩ : ∃ fy, (R.getD (k + m - 1) (0, 0)).2 = fy := ⟨_, rfl⟩
      have HY := Lib.hid (hw.trans (innB_yes hmk hfx hfy))
      have hx := (HBE.out k hk1).1
      have hy := (HBE.out (k + m - 1) (by omega)).2
      have hfy5 : fy ≤ 1000000 := by have := (HLE.out (k + m - 1) (by omega)).2; omega
      rw [show k + m - 1 + 1 = k + m by omega, hfy] at hy
      rw [hfx] at hx
      have hmI : ¬ (R.length : Int) - (k : Int) < (m : Int) := by omega
      have HX := Lib.hid hx
      obtain ⟨q, hq⟩ : ∃ q, k + m = q := ⟨_, rfl⟩
      have eq1 : (k : Int) + (m : Int) = (q : Int) := by omega
      have ew1 : IntKind.i64.wrap ((k : Int) + (m : Int)) = (k : Int) + (m : Int) := IntWalk.i64_in _ (by omega)
      have ew2 : IntKind.i64.wrap (q : Int) = (q : Int) := IntWalk.i64_in _ (by omega)
      have hkmI : (q : Int) < (R.length : Int) + 1 := by omega
      have hkmJ : q < R.length + 1 := by omega
      have hkJ : k < R.length + 1 := by omega
      have hkm0 : (0 : Int) ≤ (q : Int) := by omega
      rw [hq] at hy
      have hkI2 : (k : Int) < (R.length : Int) + 1 := by omega
      have hm5 : (m : Int) ≤ 100000 := by omega
      have hmk2 : (m : Int) ≤ (R.length : Int) - (k : Int) := by omega
      have HYY := Lib.hid hy
      have HQN := Lib.hid (show q < R.length + 1 by omega)
      clear hw hfx hfy hx hy hq
      go_enter Try.func81, Try.ntmps81
      go_wp2_with fail
      go_at_call 136
      refine (HRUN.out _ (by (repeat (first | assumption | refine LinesAt.ovr ?_ _ | refine LinesAt.alloc ?_ _ | refine LinesAt.drewN ?_ _ | refine LinesAt.drew ?_)))).mono ?_
      rintro e w1 ⟨v, rfl, hrow, hbl⟩
      obtain ⟨g, rcap, rfl, hca⟩ := row_cell hrow (i := k) (by rw [HNL.out]; omega)
      obtain ⟨g', rcap', e', hcb⟩ := row_cell hrow (i := q) (by rw [HNL.out]; exact HQN.out)
      cases e'
      have hgl := hrow.lt g rfl
      rw [HNL.out]
      rw [HX.out] at hca
      rw [HYY.out] at hcb
      obtain ⟨x1, rfl⟩ := ovr_of_below hbl
      clear hbl hrow
      go_wp2_with fail
      refine name_world ?_
      intro W0 hW0
      have ca0 : W0.cell? ⟨g, k, none⟩ = some (.int .i64 fx) := by rw [hW0]; exact hca
      have cb0 : W0.cell? ⟨g, q, none⟩ = some (.int .i64 fy) := by rw [hW0]; exact hcb
      have cr0 : W0.cell? ⟨w.heap.size + 1, 0, none⟩ = some (.int .i64 0) := by rw [hW0]; simp [go_sem]
      have cr1 : W0.cell? ⟨w.heap.size + 1, 1, none⟩ = some (.int .i64 0) := by rw [hW0]; simp [go_sem]
      have cr2 : W0.cell? ⟨w.heap.size + 1, 2, none⟩ = some (.int .i64 0) := by rw [hW0]; simp [go_sem]
      have cr3 : W0.cell? ⟨w.heap.size + 1, 3, none⟩ = some (.int .i64 0) := by rw [hW0]; simp [go_sem]
      have cr4 : W0.cell? ⟨w.heap.size + 1, 4, none⟩ = some (.int .i64 0) := by rw [hW0]; simp [go_sem]
      have cf0 : W0.frozen? ⟨w.heap.size + 1, 0, none⟩ = false := by rw [hW0]; simp [go_sem]
      have cf1 : W0.frozen? ⟨w.heap.size + 1, 1, none⟩ = false := by rw [hW0]; simp [go_sem]
      have cf2 : W0.frozen? ⟨w.heap.size + 1, 2, none⟩ = false := by rw [hW0]; simp [go_sem]
      have cf3 : W0.frozen? ⟨w.heap.size + 1, 3, none⟩ = false := by rw [hW0]; simp [go_sem]
      have cf4 : W0.frozen? ⟨w.heap.size + 1, 4, none⟩ = false := by rw [hW0]; simp [go_sem]
      have hb0 : Below w.heap.size w W0 := by rw [hW0]; (repeat (first | with_reducible exact Below.refl _ _ | (with_reducible refine Below.setCell ?_ ?_ _; rotate_left; · (first | exact Nat.le_refl _ | assumption | omega | (simp; done) | (simp; omega))) | (with_reducible refine Below.alloc ?_ ?_ _; rotate_left; · (first | exact Nat.le_refl _ | assumption | omega | (simp; done) | (simp; omega))) | with_reducible refine below_ovr_of ?_ | with_reducible refine drew_below ?_ _ | with_reducible refine Below.drew ?_ | with_reducible assumption))
      have lR : w.heap.size + 1 < W0.heap.size := by rw [hW0]; simp <;> omega
      have lg : g < W0.heap.size := World.block_lt_of_cell? _ _ ca0
      have hgl1 := hgl.1
      have n1 : ¬ g = w.heap.size + 1 := by simp at hgl1; omega
      clear hW0 hca hcb hgl hgl1
      go_region_held3 (fun w' => w'.cell? ⟨g, k, none⟩ = some (.int .i64 fx) ∧ w'.cell? ⟨g, q, none⟩ = some (.int .i64 fy)) (((repeat' apply And.intro) <;> first | with_reducible assumption | (with_reducible refine cell_ovr_drew0 ?_; with_reducible assumption) | (simp [go_sem, lg, ca0, cb0]; done))) ((go_at_call 137; refine (pwhole_any _ _ (by omega) _).mono ?_; rintro e w1 ⟨rfl, hbl⟩; obtain ⟨x, rfl⟩ := ovr_of_below hbl; clear hbl))
      all_goals go_wp2
      all_goals (refine bodyPost_ret (v := rngV ((1, (fx : Int), 0, (fy : Int) - 1, 0), true)) (by simp [results, Try.results81, go_sem, lR, cr0, cr1, cr2, cr3, cr4]) rfl ⟨by rw [HY.out], by (repeat (first | with_reducible exact Below.refl _ _ | (with_reducible refine Below.setCell ?_ ?_ _; rotate_left; · (first | exact Nat.le_refl _ | assumption | omega | (simp; done) | (simp; omega))) | (with_reducible refine Below.alloc ?_ ?_ _; rotate_left; · (first | exact Nat.le_refl _ | assumption | omega | (simp; done) | (simp; omega))) | with_reducible refine below_ovr_of ?_ | with_reducible refine drew_below ?_ _ | with_reducible refine Below.drew ?_ | with_reducible assumption))⟩)
    · have HY := Lib.hid (hw.trans (innB_no hmk))
      have hmI : (R.length : Int) - (k : Int) < (m : Int) := by omega
      clear hw
      go_enter Try.func81, Try.ntmps81
      go_wp2_with fail
      go_at_call 136
      refine (HRUN.out _ (by (repeat (first | assumption | refine LinesAt.ovr ?_ _ | refine LinesAt.alloc ?_ _ | refine LinesAt.drewN ?_ _ | refine LinesAt.drew ?_)))).mono ?_
      rintro e w1 ⟨v, rfl, hrow, hbl⟩
      obtain ⟨va, vcap, rfl⟩ := own_slice hrow
      rw [HNL.out]
      obtain ⟨x1, rfl⟩ := ovr_of_below hbl
      clear hbl hrow
      go_wp2
      refine bodyPost_ret (v := rngV noR) (by simp [results, Try.results81, go_sem, noR]) rfl ⟨by rw [HY.out], by (repeat (first | with_reducible exact Below.refl _ _ | (with_reducible refine Below.setCell ?_ ?_ _; rotate_left; · (first | exact Nat.le_refl _ | assumption | omega | (simp; done) | (simp; omega))) | (with_reducible refine Below.alloc ?_ ?_ _; rotate_left; · (first | exact Nat.le_refl _ | assumption | omega | (simp; done) | (simp; omega))) | with_reducible refine below_ovr_of ?_ | with_reducible refine drew_below ?_ _ | with_reducible refine Below.drew ?_ | with_reducible assumption))⟩
  · have HY := Lib.hid (paraOP_no (around := false) h)
    go_enter Try.func81, Try.ntmps81
    go_wp2_with (go_at_call 136; refine (pblocks_no _ _ L _ _ _ _ (by (repeat (first | assumption | refine LinesAt.ovr ?_ _ | refine LinesAt.alloc ?_ _ | refine LinesAt.drewN ?_ _ | refine LinesAt.drew ?_))) h).mono ?_; rintro e w1 ⟨rfl, hbl⟩; obtain ⟨x, rfl⟩ := ovr_of_below hbl; clear hbl)
    refine bodyPost_ret (v := rngV noR) (by simp [results, Try.results81, go_sem, noR]) rfl ⟨by rw [HY.out], by (repeat (first | with_reducible exact Below.refl _ _ | (with_reducible refine Below.setCell ?_ ?_ _; rotate_left; · (first | exact Nat.le_refl _ | assumption | omega | (simp; done) | (simp; omega))) | (with_reducible refine Below.alloc ?_ ?_ _; rotate_left; · (first | exact Nat.le_refl _ | assumption | omega | (simp; done) | (simp; omega))) | with_reducible refine below_ovr_of ?_ | with_reducible refine drew_below ?_ _ | with_reducible refine Below.drew ?_ | with_reducible assumption))⟩
end Go.Proofs.Ytlbbgocggifjaaa
namespace Go.Proofs.Ytlbbgocggifjaaa
open Go.RowKit Go.Shelf

set_option maxRecDepth 100000 in
set_option maxHeartbeats 8000000 in
theorem paround_any (a : Option Addr) (cap : Nat) (L : List ByteArray) (pl pc n : Int) (w : World) (hL : LinesAt w a L) (hl4 : L.length ≤ 100000) (hn2 : n ≤ 9223372036854775807) :
    Calls Try.prog 83 #[.slice a L.length cap, .agg #[.int .i64 pl, .int .i64 pc], .int .i64 n] w fun e w' => e = .returned (rngV (paraOP L pl pc n true)) ∧ Below w.heap.size w w' := by
  have hn := hL.2.1
  by_cases h : 1 ≤ n ∧ byteB L pl pc = true
  · obtain ⟨l, c, m, k, rfl, rfl, rfl, hl, hm, hb, hk, hi, hw⟩ := blk_in h
    have hw := hw true
    rw [if_pos rfl] at hw
    have hk1 := hk.1
    have hRl := blkP_len L
    have HRUN := Lib.hid (fun (w0 : World) (h0 : LinesAt w0 a L) => pblocks_yes a cap L l c m w0 h0 hl4 hl hb (by omega))
    have HBE := Lib.hid (fun (j : Nat) (hj : j < (blkP L).length) => beg_at (blkP_chain L) hj)
    have HLE := Lib.hid (fun (j : Nat) (hj : j < (blkP L).length) => blk_le (L := L) hj)
    rw [hi] at HRUN
    obtain ⟨R, hR⟩ : ∃ R, blkP L = R := ⟨_, rfl⟩
    rw [hR] at HRUN HBE HLE hw hk1 hRl
    have HNL : Hid ((begN R).length = R.length + 1) := Lib.hid (begN_len R)
    have hkI : (k : Int) < (R.length : Int) := by omega
    have hk0 : (0 : Int) ≤ (k : Int) := by omega
    obtain ⟨bl, ol, s, rfl, hbl, hcl, hwl⟩ := emp_facts hL hl
    have hlI : (l : Int) < (L.length : Int) := by omega
    have hl0 : (0 : Int) ≤ (l : Int) := by omega
    clear h hb hk hi hR
    by_cases hm1 : R.length + 1 < m
    · have HY := Lib.hid (hw.trans (aroB_no (by omega) (by omega)))
      have hmI : (R.length : Int) + 1 < (m : Int) := by omega
      clear hw hwl
      go_enter Try.func83, Try.ntmps83
      go_wp2_with fail
      go_at_call 136
      refine (HRUN.out _ (by (repeat (first | assumption | refine LinesAt.ovr ?_ _ | refine LinesAt.alloc ?_ _ | refine LinesAt.drewN ?_ _ | refine LinesAt.drew ?_)))).mono ?_
      rintro e w1 ⟨v, rfl, hrow, hbl⟩
      obtain ⟨va, vcap, rfl⟩ := own_slice hrow
      rw [HNL.out]
      obtain ⟨x1, rfl⟩ := ovr_of_below hbl
      clear hbl hrow
      go_wp2
      refine bodyPost_ret (v := rngV noR) (by simp [results, Try.results83, go_sem, noR]) rfl ⟨by rw [HY.out], by (repeat (first | with_reducible exact Below.refl _ _ | (with_reducible refine Below.setCell ?_ ?_ _; rotate_left; · (first | exact Nat.le_refl _ | assumption | omega | (simp; done) | (simp; omega))) | (with_reducible refine Below.alloc ?_ ?_ _; rotate_left; · (first | exact Nat.le_refl _ | assumption | omega | (simp; done) | (simp; omega))) | with_reducible refine below_ovr_of ?_ | with_reducible refine drew_below ?_ _ | with_reducible refine Below.drew ?_ | with_reducible assumption))⟩
    · have hm1I : ¬ (R.length : Int) + 1 < (m : Int) := by omega
      have hm5 : (m : Int) ≤ 200000 := by omega
      have hm0 : (1 : Int) ≤ (m : Int) := by omega
      obtain ⟨d, hd⟩ : ∃ d, R.length - k = d := ⟨_, rfl⟩
      have ed : (R.length : Int) - (k : Int) = (d : Int) := by omega
      obtain ⟨m2, hm2⟩ : ∃ m2, 2 * m = m2 := ⟨_, rfl⟩
      have e2 : 2 * (m : Int) = (m2 : Int) := by omega
      obtain ⟨m3, hm3⟩ : ∃ m3, m2 - 1 = m3 := ⟨_, rfl⟩
      have e3 : (m2 : Int) - 1 = (m3 : Int) := by omega
      have ew1 : IntKind.i64.wrap (2 * (m : Int)) = 2 * (m : Int) := IntWalk.i64_in _ (by omega)
      have ew2 : IntKind.i64.wrap (m2 : Int) = (m2 : Int) := IntWalk.i64_in _ (by omega)
      have ew3 : IntKind.i64.wrap ((k : Int) + (m2 : Int)) = (k : Int) + (m2 : Int) := IntWalk.i64_in _ (by omega)
      rcases (by omega : k + 2 * m ≤ R.length ∨ k + 2 * m = R.length + 1 ∨ R.length + 1 < k + 2 * m) with hc | hc | hc
      · have hmd : (m2 : Int) ≤ (d : Int) := by omega
        have hmdN : m2 ≤ d := by omega
        obtain ⟨q, hq⟩ : ∃ q, k + m2 = q := ⟨_, rfl⟩
        have eq1 : (k : Int) + (m2 : Int) = (q : Int) := by omega
        have ew4 : IntKind.i64.wrap (q : Int) = (q : Int) := IntWalk.i64_in _ (by omega)
        have hqI : (q : Int) < (R.length : Int) + 1 := by omega
        have hq0 : (0 : Int) ≤ (q : Int) := by omega
        have hkI2 : (k : Int) < (R.length : Int) + 1 := by omega
        obtain ⟨fx, hfx⟩ : ∃ fx, (R.getD k (0, 0)).1 = fx := ⟨_, rfl⟩
        obtain ⟨fy, hfy⟩ : ∃ fy, (R.getD (k + 2 * m - 1) (0, 0)).2 = fy := ⟨_, rfl⟩
        have HY := Lib.hid (hw.trans (aroB_in hc hfx hfy))
        have hx := (HBE.out k hk1).1
        have hy := (HBE.out (k + 2 * m - 1) (by omega)).2
        have hfy5 : fy ≤ 1000000 := by have := (HLE.out (k + 2 * m - 1) (by omega)).2; omega
        rw [show k + 2 * m - 1 + 1 = q by omega, hfy] at hy
        rw [hfx] at hx
        have HX := Lib.hid hx
        have HYY := Lib.hid hy
        have HQN := Lib.hid (show q < R.length + 1 by omega)
        have HKN := Lib.hid (show k < R.length + 1 by omega)
        clear hw hfx hfy hx hy hq hc hm2 hm3 hd hwl hm1
        go_enter Try.func83, Try.ntmps83
        go_wp2_with fail
        go_at_call 136
        refine (HRUN.out _ (by (repeat (first | assumption | refine LinesAt.ovr ?_ _ | refine LinesAt.alloc ?_ _ | refine LinesAt.drewN ?_ _ | refine LinesAt.drew ?_)))).mono ?_
        rintro e w1 ⟨v, rfl, hrow, hbl⟩
        obtain ⟨g, rcap, rfl, hca⟩ := row_cell hrow (i := k) (by rw [HNL.out]; exact HKN.out)
        obtain ⟨g', rcap', e', hcb⟩ := row_cell hrow (i := q) (by rw [HNL.out]; exact HQN.out)
        cases e'
        have hgl := hrow.lt g rfl
        rw [HNL.out]
        rw [HX.out] at hca
        rw [HYY.out] at hcb
        obtain ⟨x1, rfl⟩ := ovr_of_below hbl
        clear hbl hrow
        go_wp2_with fail
        refine name_world ?_
        intro W0 hW0
        have ca0 : W0.cell? ⟨g, k, none⟩ = some (.int .i64 fx) := by rw [hW0]; exact hca
        have cb0 : W0.cell? ⟨g, q, none⟩ = some (.int .i64 fy) := by rw [hW0]; exact hcb
        have cr0 : W0.cell? ⟨w.heap.size + 1, 0, none⟩ = some (.int .i64 0) := by rw [hW0]; simp [go_sem]
        have cr1 : W0.cell? ⟨w.heap.size + 1, 1, none⟩ = some (.int .i64 0) := by rw [hW0]; simp [go_sem]
        have cr2 : W0.cell? ⟨w.heap.size + 1, 2, none⟩ = some (.int .i64 0) := by rw [hW0]; simp [go_sem]
        have cr3 : W0.cell? ⟨w.heap.size + 1, 3, none⟩ = some (.int .i64 0) := by rw [hW0]; simp [go_sem]
        have cr4 : W0.cell? ⟨w.heap.size + 1, 4, none⟩ = some (.int .i64 0) := by rw [hW0]; simp [go_sem]
        have cf0 : W0.frozen? ⟨w.heap.size + 1, 0, none⟩ = false := by rw [hW0]; simp [go_sem]
        have cf1 : W0.frozen? ⟨w.heap.size + 1, 1, none⟩ = false := by rw [hW0]; simp [go_sem]
        have cf2 : W0.frozen? ⟨w.heap.size + 1, 2, none⟩ = false := by rw [hW0]; simp [go_sem]
        have cf3 : W0.frozen? ⟨w.heap.size + 1, 3, none⟩ = false := by rw [hW0]; simp [go_sem]
        have cf4 : W0.frozen? ⟨w.heap.size + 1, 4, none⟩ = false := by rw [hW0]; simp [go_sem]
        have hb0 : Below w.heap.size w W0 := by rw [hW0]; (repeat (first | with_reducible exact Below.refl _ _ | (with_reducible refine Below.setCell ?_ ?_ _; rotate_left; · (first | exact Nat.le_refl _ | assumption | omega | (simp; done) | (simp; omega))) | (with_reducible refine Below.alloc ?_ ?_ _; rotate_left; · (first | exact Nat.le_refl _ | assumption | omega | (simp; done) | (simp; omega))) | with_reducible refine below_ovr_of ?_ | with_reducible refine drew_below ?_ _ | with_reducible refine Below.drew ?_ | with_reducible assumption))
        have lR : w.heap.size + 1 < W0.heap.size := by rw [hW0]; simp <;> omega
        have lg : g < W0.heap.size := World.block_lt_of_cell? _ _ ca0
        have hgl1 := hgl.1
        have n1 : ¬ g = w.heap.size + 1 := by simp at hgl1; omega
        clear hW0 hca hcb hgl hgl1
        go_region_held3 (fun w' => w'.cell? ⟨g, k, none⟩ = some (.int .i64 fx) ∧ w'.cell? ⟨g, q, none⟩ = some (.int .i64 fy)) (((repeat' apply And.intro) <;> first | with_reducible assumption | (with_reducible refine cell_ovr_drew0 ?_; with_reducible assumption) | (simp [go_sem, lg, ca0, cb0]; done))) ((go_at_call 137; refine (pwhole_any _ _ (by omega) _).mono ?_; rintro e w1 ⟨rfl, hbl⟩; obtain ⟨x, rfl⟩ := ovr_of_below hbl; clear hbl))
        all_goals go_wp2
        all_goals (refine bodyPost_ret (v := rngV ((1, (fx : Int), 0, (fy : Int) - 1, 0), true)) (by simp [results, Try.results83, go_sem, lR, cr0, cr1, cr2, cr3, cr4]) rfl ⟨by rw [HY.out], by (repeat (first | with_reducible exact Below.refl _ _ | (with_reducible refine Below.setCell ?_ ?_ _; rotate_left; · (first | exact Nat.le_refl _ | assumption | omega | (simp; done) | (simp; omega))) | (with_reducible refine Below.alloc ?_ ?_ _; rotate_left; · (first | exact Nat.le_refl _ | assumption | omega | (simp; done) | (simp; omega))) | with_reducible refine below_ovr_of ?_ | with_reducible refine drew_below ?_ _ | with_reducible refine Below.drew ?_ | with_reducible assumption))⟩)
      · obtain ⟨hdm, hdm3⟩ : d = m3 ∧ ¬ m2 ≤ d := by omega
        have hmd : ¬ (m2 : Int) ≤ (d : Int) := by omega
        have hmdN : ¬ m2 ≤ d := hdm3
        rcases hwl with ⟨he, rfl⟩ | ⟨he, hse, _⟩
        · have HY := Lib.hid (hw.trans (aroB_no (by omega) (fun h => by rw [he] at h; cases h.2.1)))
          have hdmI : (d : Int) = (m3 : Int) := by omega
          subst hdm
          clear hw hdmI he
          go_enter Try.func83, Try.ntmps83
          go_wp2_with fail
          go_at_call 136
          refine (HRUN.out _ (by (repeat (first | assumption | refine LinesAt.ovr ?_ _ | refine LinesAt.alloc ?_ _ | refine LinesAt.drewN ?_ _ | refine LinesAt.drew ?_)))).mono ?_
          rintro e w1 ⟨v, rfl, hrow, hbl⟩
          obtain ⟨va, vcap, rfl⟩ := own_slice hrow
          rw [HNL.out]
          obtain ⟨x1, rfl⟩ := ovr_of_below hbl
          clear hbl hrow
          go_wp2
          refine bodyPost_ret (v := rngV noR) (by simp [results, Try.results83, go_sem, noR]) rfl ⟨by rw [HY.out], by (repeat (first | with_reducible exact Below.refl _ _ | (with_reducible refine Below.setCell ?_ ?_ _; rotate_left; · (first | exact Nat.le_refl _ | assumption | omega | (simp; done) | (simp; omega))) | (with_reducible refine Below.alloc ?_ ?_ _; rotate_left; · (first | exact Nat.le_refl _ | assumption | omega | (simp; done) | (simp; omega))) | with_reducible refine below_ovr_of ?_ | with_reducible refine drew_below ?_ _ | with_reducible refine Below.drew ?_ | with_reducible assumption))⟩
        · rw [he] at hw
          rcases Nat.eq_zero_or_pos k with hkz | hkz
          · have HY := Lib.hid (hw.trans (aroB_no (by omega) (fun h => by omega)))
            have hkzI : ¬ (0 : Int) < (k : Int) := by omega
            have hkzN : ¬ 0 < k := by omega
            have hkzd : decide (0 < k) = false := decide_eq_false hkzN
            subst hdm
            clear hw he hkz
            go_enter Try.func83, Try.ntmps83
            go_wp2_with fail
            go_at_call 136
            refine (HRUN.out _ (by (repeat (first | assumption | refine LinesAt.ovr ?_ _ | refine LinesAt.alloc ?_ _ | refine LinesAt.drewN ?_ _ | refine LinesAt.drew ?_)))).mono ?_
            rintro e w1 ⟨v, rfl, hrow, hbl⟩
            obtain ⟨va, vcap, rfl⟩ := own_slice hrow
            rw [HNL.out]
            obtain ⟨x1, rfl⟩ := ovr_of_below hbl
            clear hbl hrow
            go_wp2
            refine bodyPost_ret (v := rngV noR) (by simp [results, Try.results83, go_sem, noR]) rfl ⟨by rw [HY.out], by (repeat (first | with_reducible exact Below.refl _ _ | (with_reducible refine Below.setCell ?_ ?_ _; rotate_left; · (first | exact Nat.le_refl _ | assumption | omega | (simp; done) | (simp; omega))) | (with_reducible refine Below.alloc ?_ ?_ _; rotate_left; · (first | exact Nat.le_refl _ | assumption | omega | (simp; done) | (simp; omega))) | with_reducible refine below_ovr_of ?_ | with_reducible refine drew_below ?_ _ | with_reducible refine Below.drew ?_ | with_reducible assumption))⟩
          · have hkzI : (0 : Int) < (k : Int) := by omega
            obtain ⟨k1, hk1e⟩ : ∃ k1, k = k1 + 1 := ⟨k - 1, by omega⟩
            have ek1 : (k : Int) - 1 = (k1 : Int) := by omega
            have hk1I : (k1 : Int) < (R.length : Int) + 1 := by omega
            have hk10 : (0 : Int) ≤ (k1 : Int) := by omega
            obtain ⟨q, hq⟩ : ∃ q, R.length = q := ⟨_, rfl⟩
            have ekd : (k : Int) + (d : Int) = (R.length : Int) := by omega
            have ew4 : IntKind.i64.wrap ((k : Int) + (d : Int)) = (k : Int) + (d : Int) := IntWalk.i64_in _ (by omega)
            have ew5 : IntKind.i64.wrap (R.length : Int) = (R.length : Int) := IntWalk.i64_in _ (by omega)
            have ew6 : IntKind.i64.wrap ((k : Int) - 1) = (k : Int) - 1 := IntWalk.i64_in _ (by omega)
            have ew7 : IntKind.i64.wrap (k1 : Int) = (k1 : Int) := IntWalk.i64_in _ (by omega)
            have hqI : (R.length : Int) < (R.length : Int) + 1 := by omega
            have hq0 : (0 : Int) ≤ (R.length : Int) := by omega
            obtain ⟨fx, hfx⟩ : ∃ fx, (R.getD (k - 1) (0, 0)).1 = fx := ⟨_, rfl⟩
            obtain ⟨fy, hfy⟩ : ∃ fy, (R.getD (R.length - 1) (0, 0)).2 = fy := ⟨_, rfl⟩
            have HY := Lib.hid (hw.trans (aroB_end hc hkz hfx hfy))
            have hx := (HBE.out (k - 1) (by omega)).1
            have hy := (HBE.out (R.length - 1) (by omega)).2
            have hfy5 : fy ≤ 1000000 := by have := (HLE.out (R.length - 1) (by omega)).2; omega
            rw [show R.length - 1 + 1 = R.length by omega, hfy] at hy
            rw [hfx, show k - 1 = k1 by omega] at hx
            have HX := Lib.hid hx
            have HYY := Lib.hid hy
            have HQN := Lib.hid (show R.length < R.length + 1 by omega)
            have HKN := Lib.hid (show k1 < R.length + 1 by omega)
            subst hdm
            clear hw hfx hfy hx hy hq hc hm2 hm3 hd he hm1 hk1e hkz
            go_enter Try.func83, Try.ntmps83
            go_wp2_with fail
            go_at_call 136
            refine (HRUN.out _ (by (repeat (first | assumption | refine LinesAt.ovr ?_ _ | refine LinesAt.alloc ?_ _ | refine LinesAt.drewN ?_ _ | refine LinesAt.drew ?_)))).mono ?_
            rintro e w1 ⟨v, rfl, hrow, hbl⟩
            obtain ⟨g, rcap, rfl, hca⟩ := row_cell hrow (i := k1) (by rw [HNL.out]; exact HKN.out)
            obtain ⟨g', rcap', e', hcb⟩ := row_cell hrow (i := R.length) (by rw [HNL.out]; exact HQN.out)
            cases e'
            have hgl := hrow.lt g rfl
            rw [HNL.out]
            rw [HX.out] at hca
            rw [HYY.out] at hcb
            obtain ⟨x1, rfl⟩ := ovr_of_below hbl
            clear hbl hrow
            go_wp2_with fail
            refine name_world ?_
            intro W0 hW0
            have ca0 : W0.cell? ⟨g, k1, none⟩ = some (.int .i64 fx) := by rw [hW0]; exact hca
            have cb0 : W0.cell? ⟨g, R.length, none⟩ = some (.int .i64 fy) := by rw [hW0]; exact hcb
            have cr0 : W0.cell? ⟨w.heap.size + 1, 0, none⟩ = some (.int .i64 0) := by rw [hW0]; simp [go_sem]
            have cr1 : W0.cell? ⟨w.heap.size + 1, 1, none⟩ = some (.int .i64 0) := by rw [hW0]; simp [go_sem]
            have cr2 : W0.cell? ⟨w.heap.size + 1, 2, none⟩ = some (.int .i64 0) := by rw [hW0]; simp [go_sem]
            have cr3 : W0.cell? ⟨w.heap.size + 1, 3, none⟩ = some (.int .i64 0) := by rw [hW0]; simp [go_sem]
            have cr4 : W0.cell? ⟨w.heap.size + 1, 4, none⟩ = some (.int .i64 0) := by rw [hW0]; simp [go_sem]
            have cf0 : W0.frozen? ⟨w.heap.size + 1, 0, none⟩ = false := by rw [hW0]; simp [go_sem]
            have cf1 : W0.frozen? ⟨w.heap.size + 1, 1, none⟩ = false := by rw [hW0]; simp [go_sem]
            have cf2 : W0.frozen? ⟨w.heap.size + 1, 2, none⟩ = false := by rw [hW0]; simp [go_sem]
            have cf3 : W0.frozen? ⟨w.heap.size + 1, 3, none⟩ = false := by rw [hW0]; simp [go_sem]
            have cf4 : W0.frozen? ⟨w.heap.size + 1, 4, none⟩ = false := by rw [hW0]; simp [go_sem]
            have hb0 : Below w.heap.size w W0 := by rw [hW0]; (repeat (first | with_reducible exact Below.refl _ _ | (with_reducible refine Below.setCell ?_ ?_ _; rotate_left; · (first | exact Nat.le_refl _ | assumption | omega | (simp; done) | (simp; omega))) | (with_reducible refine Below.alloc ?_ ?_ _; rotate_left; · (first | exact Nat.le_refl _ | assumption | omega | (simp; done) | (simp; omega))) | with_reducible refine below_ovr_of ?_ | with_reducible refine drew_below ?_ _ | with_reducible refine Below.drew ?_ | with_reducible assumption))
            have lR : w.heap.size + 1 < W0.heap.size := by rw [hW0]; simp <;> omega
            have lg : g < W0.heap.size := World.block_lt_of_cell? _ _ ca0
            have hgl1 := hgl.1
            have n1 : ¬ g = w.heap.size + 1 := by simp at hgl1; omega
            clear hW0 hca hcb hgl hgl1
            go_region_held3 (fun w' => w'.cell? ⟨g, k1, none⟩ = some (.int .i64 fx) ∧ w'.cell? ⟨g, R.length, none⟩ = some (.int .i64 fy)) (((repeat' apply And.intro) <;> first | with_reducible assumption | (with_reducible refine cell_ovr_drew0 ?_; with_reducible assumption) | (simp [go_sem, lg, ca0, cb0]; done))) ((go_at_call 137; refine (pwhole_any _ _ (by omega) _).mono ?_; rintro e w1 ⟨rfl, hbl⟩; obtain ⟨x, rfl⟩ := ovr_of_below hbl; clear hbl))
            all_goals go_wp2
            all_goals (refine bodyPost_ret (v := rngV ((1, (fx : Int), 0, (fy : Int) - 1, 0), true)) (by simp [results, Try.results83, go_sem, lR, cr0, cr1, cr2, cr3, cr4]) rfl ⟨by rw [HY.out], by (repeat (first | with_reducible exact Below.refl _ _ | (with_reducible refine Below.setCell ?_ ?_ _; rotate_left; · (first | exact Nat.le_refl _ | assumption | omega | (simp; done) | (simp; omega))) | (with_reducible refine Below.alloc ?_ ?_ _; rotate_left; · (first | exact Nat.le_refl _ | assumption | omega | (simp; done) | (simp; omega))) | with_reducible refine below_ovr_of ?_ | with_reducible refine drew_below ?_ _ | with_reducible refine Below.drew ?_ | with_reducible assumption))⟩)
      · have HY := Lib.hid (hw.trans (aroB_no (by omega) (by omega)))
        have hmd : ¬ (m2 : Int) ≤ (d : Int) := by omega
        have hmdN : ¬ m2 ≤ d := by omega
        have hne : ((d : Int) == (m3 : Int)) = false := beq_eq_false_iff_ne.2 (by omega)
        have hneN : ¬ d = m3 := by omega
        clear hw hwl
        go_enter Try.func83, Try.ntmps83
        go_wp2_with fail
        go_at_call 136
        refine (HRUN.out _ (by (repeat (first | assumption | refine LinesAt.ovr ?_ _ | refine LinesAt.alloc ?_ _ | refine LinesAt.drewN ?_ _ | refine LinesAt.drew ?_)))).mono ?_
        rintro e w1 ⟨v, rfl, hrow, hbl⟩
        obtain ⟨va, vcap, rfl⟩ := own_slice hrow
        rw [HNL.out]
        obtain ⟨x1, rfl⟩ := ovr_of_below hbl
        clear hbl hrow
        go_wp2
        refine bodyPost_ret (v := rngV noR) (by simp [results, Try.results83, go_sem, noR]) rfl ⟨by rw [HY.out], by (repeat (first | with_reducible exact Below.refl _ _ | (with_reducible refine Below.setCell ?_ ?_ _; rotate_left; · (first | exact Nat.le_refl _ | assumption | omega | (simp; done) | (simp; omega))) | (with_reducible refine Below.alloc ?_ ?_ _; rotate_left; · (first | exact Nat.le_refl _ | assumption | omega | (simp; done) | (simp; omega))) | with_reducible refine below_ovr_of ?_ | with_reducible refine drew_below ?_ _ | with_reducible refine Below.drew ?_ | with_reducible assumption))⟩
  · have HY := Lib.hid (paraOP_no (around := true) h)
    go_enter Try.func83, Try.ntmps83
    go_wp2_with (go_at_call 136; refine (pblocks_no _ _ L _ _ _ _ (by (repeat (first | assumption | refine LinesAt.ovr ?_ _ | refine LinesAt.alloc ?_ _ | refine LinesAt.drewN ?_ _ | refine LinesAt.drew ?_))) h).mono ?_; rintro e w1 ⟨rfl, hbl⟩; obtain ⟨x, rfl⟩ := ovr_of_below hbl; clear hbl)
    refine bodyPost_ret (v := rngV noR) (by simp [results, Try.results83, go_sem, noR]) rfl ⟨by rw [HY.out], by (repeat (first | with_reducible exact Below.refl _ _ | (with_reducible refine Below.setCell ?_ ?_ _; rotate_left; · (first | exact Nat.le_refl _ | assumption | omega | (simp; done) | (simp; omega))) | (with_reducible refine Below.alloc ?_ ?_ _; rotate_left; · (first | exact Nat.le_refl _ | assumption | omega | (simp; done) | (simp; omega))) | with_reducible refine below_ovr_of ?_ | with_reducible refine drew_below ?_ _ | with_reducible refine Below.drew ?_ | with_reducible assumption))⟩
end Go.Proofs.Ytlbbgocggifjaaa
