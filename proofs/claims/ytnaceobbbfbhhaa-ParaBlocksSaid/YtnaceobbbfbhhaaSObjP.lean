/- What the sentence at a place is. Plain Lean, no program in sight. Conditions: none. -/
import Derived.Test.YtnaceobbbfbhhaaSentO
import Derived.Test.YtnaceobbbfbhhaaCellsP
import Derived.Test.YtnaceobbbfbhhaaByteP
namespace Go.Proofs.Ytnaceobbbfbhhaa

/-- Is byte q one that is no blank, from a on, ahead of b? -/
def inB (L : List ByteArray) (a b q : Nat × Nat) : Bool := !(ofC (bytA L q) true == 0) && (!lessB (q.1 : Int) (q.2 : Int) (a.1 : Int) (a.2 : Int) && lessB (q.1 : Int) (q.2 : Int) (b.1 : Int) (b.2 : Int))
/-- The place behind the last one of these. -/
def endC (L : List ByteArray) (a b : Nat × Nat) (l : List (Nat × Nat)) : Nat × Nat := l.foldl (fun e q => if inB L a b q = true then (q.1, q.2 + 1) else e) a
theorem endC_snoc (L : List ByteArray) (a b : Nat × Nat) (l : List (Nat × Nat)) (q : Nat × Nat) : endC L a b (l ++ [q]) = if inB L a b q = true then (q.1, q.2 + 1) else endC L a b l := by
  rw [endC, List.foldl_append]; rfl
def lastP (O : List (Nat × Nat)) : Nat × Nat := O.getLastD (0, 0)
theorem lastP_snoc (O : List (Nat × Nat)) (x : Nat × Nat) : lastP (O ++ [x]) = x := by simp [lastP]
/-- The sentence: those at the place or ahead of it are O, the one behind begins at t. -/
def sentR (_L : List ByteArray) (O : List (Nat × Nat)) (f t : Nat × Nat) : Rng × Bool := if O = [] ∨ f = t then noR else ((0, (f.1 : Int), (f.2 : Int), (t.1 : Int), (t.2 : Int)), true)
def endP (L : List ByteArray) : Nat × Nat := (L.length - 1, (L.getD (L.length - 1) .empty).size)
def hereS (l c : Int) (S : List (Nat × Nat)) : List (Nat × Nat) := S.filter (fun s => !lessB l c (s.1 : Int) (s.2 : Int))
def toS (L : List ByteArray) (l c : Int) : Nat × Nat := (behR l c (sentP L)).headD (endP L)
def sObjP (L : List ByteArray) (pl pc : Int) (around : Bool) : Rng × Bool :=
  if byteB L pl pc = true then
    sentR L (hereS pl pc (sentP L)) (lastP (hereS pl pc (sentP L))) (if around = true then toS L pl pc else endC L (lastP (hereS pl pc (sentP L))) (toS L pl pc) (cellP L))
  else noR
theorem sObjP_no {L : List ByteArray} {pl pc : Int} {around : Bool} (h : byteB L pl pc = false) : sObjP L pl pc around = noR := by rw [sObjP, if_neg (by rw [h]; simp)]
theorem sentR_same (L : List ByteArray) (O : List (Nat × Nat)) (f : Nat × Nat) : sentR L O f f = noR := by rw [sentR, if_pos (.inr rfl)]
/-- None of these is behind the place; is there one? -/
def notL (l c : Int) (O : List (Nat × Nat)) : Prop := ∀ p ∈ O, lessB l c (p.1 : Int) (p.2 : Int) = false
theorem notL_nil (l c : Int) : notL l c [] := fun p hp => by simp at hp
theorem notL_snoc {l c : Int} {O : List (Nat × Nat)} {x : Nat × Nat} (h : notL l c O) (hx : lessB l c (x.1 : Int) (x.2 : Int) = false) : notL l c (O ++ [x]) := fun p hp => by
  rcases List.mem_append.1 hp with hp | hp
  · exact h p hp
  · simp at hp; subst hp; exact hx
def someB (O : List (Nat × Nat)) : Bool := !O.isEmpty
theorem sentR_none {L : List ByteArray} {O : List (Nat × Nat)} {f t : Nat × Nat} (h : someB O = false) : sentR L O f t = noR := by
  rw [sentR, if_pos (.inl (by simpa [someB] using h))]
theorem sentR_yes {L : List ByteArray} {O : List (Nat × Nat)} {fl fc tl tc : Nat} (h : someB O = true) (hne : ¬ (fl = tl ∧ fc = tc)) : sentR L O (fl, fc) (tl, tc) = ((0, (fl : Int), (fc : Int), (tl : Int), (tc : Int)), true) := by
  rw [sentR, if_neg]
  rintro (h1 | h1)
  · rw [h1] at h; cases h
  · exact hne (by simpa using h1)
theorem someB_snoc (O : List (Nat × Nat)) (x : Nat × Nat) : someB (O ++ [x]) = true := by simp [someB]
theorem sObj_all {L : List ByteArray} {l c : Int} {around : Bool} {O : List (Nat × Nat)} (hb : byteB L l c = true) (hO : sentP L = O) (h : notL l c O) :
    sObjP L l c around = sentR L O (lastP O) (if around = true then endP L else endC L (lastP O) (endP L) (cellP L)) := by
  have e1 : hereS l c (sentP L) = O := by rw [hO, hereS, List.filter_eq_self.2]; exact fun p hp => by rw [h p hp]; rfl
  have e2 : toS L l c = endP L := by
    rw [toS, hO, behR, List.filter_eq_nil_iff.2]
    · rfl
    · exact fun p hp => by rw [h p hp]; decide
  rw [sObjP, if_pos hb, e1, e2]
theorem sObj_cut {L : List ByteArray} {l c : Int} {around : Bool} {O : List (Nat × Nat)} {x : Nat × Nat} (hb : byteB L l c = true) (hp : O ++ [x] <+: sentP L) (h : notL l c O) (hx : lessB l c (x.1 : Int) (x.2 : Int) = true) :
    sObjP L l c around = sentR L O (lastP O) (if around = true then x else endC L (lastP O) x (cellP L)) := by
  obtain ⟨T, hT⟩ := hp
  have hs := sentP_sorted L
  rw [← hT, List.append_assoc, List.singleton_append] at hs
  have hS : sentP L = O ++ x :: T := by rw [← hT, List.append_assoc, List.singleton_append]
  have hT2 : ∀ p ∈ T, lessB l c (p.1 : Int) (p.2 : Int) = true := fun p hp => by
    have h1 := (List.pairwise_cons.1 (List.pairwise_append.1 hs).2.1).1 p hp
    simp only [lessB, ltN, decide_eq_true_eq] at *
    omega
  have e1 : hereS l c (sentP L) = O := by
    rw [hS, hereS, List.filter_append, List.filter_eq_self.2 (fun p hp => by rw [h p hp]; rfl), List.filter_eq_nil_iff.2, List.append_nil]
    intro p hp
    rcases List.mem_cons.1 hp with rfl | hp
    · rw [hx]; decide
    · rw [hT2 p hp]; decide
  have e2 : toS L l c = x := by
    rw [toS, hS, behR, List.filter_append, List.filter_eq_nil_iff.2 (fun p hp => by rw [h p hp]; decide), List.nil_append, List.filter_cons, if_pos hx]
    rfl
  rw [sObjP, if_pos hb, e1, e2]
end Go.Proofs.Ytnaceobbbfbhhaa
