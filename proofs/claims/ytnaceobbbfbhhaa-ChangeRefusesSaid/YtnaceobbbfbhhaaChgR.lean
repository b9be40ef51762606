/- A row of changes that grows. No program in sight but for its types. Conditions: none. -/
import Derived.Test.YtnaceobbbfbhhaaChgD
import Derived.RangeFuncFrom
namespace Go.Proofs.Ytnaceobbbfbhhaa
open Go.RowKit Go.Shelf

theorem grown_below' {w w' : World} (h : Below w.heap.size w w') (row : Option Nat) : w.grownBy w' row := ⟨h.os, h.tape, h.output, h.size, fun k hk _ => h.block k hk⟩
/-- The changes' cells, one behind another. -/
def cellsC : List (Int × Value × Value) → List Value
  | [] => []
  | r :: rs => .int .i64 r.1 :: r.2.1 :: r.2.2 :: cellsC rs
theorem cellsC_snoc : ∀ (rs : List (Int × Value × Value)) (r : Int × Value × Value), cellsC (rs ++ [r]) = cellsC rs ++ [.int .i64 r.1, r.2.1, r.2.2]
  | [], _ => rfl
  | x :: rs, r => by rw [List.cons_append, cellsC, cellsC_snoc rs r, cellsC]; rfl
theorem cellsC_at : ∀ (rs : List (Int × Value × Value)) (i : Nat) (d : Int × Value × Value), i < rs.length → (cellsC rs)[i * 3]? = some (.int .i64 (rs.getD i d).1) ∧ (cellsC rs)[i * 3 + 1]? = some (rs.getD i d).2.1 ∧ (cellsC rs)[i * 3 + 2]? = some (rs.getD i d).2.2
  | [], i, d, h => by simp at h
  | r :: rs, 0, d, _ => ⟨rfl, rfl, rfl⟩
  | r :: rs, i + 1, d, h => by
    have := cellsC_at rs i d (by simpa using h)
    rw [show (i + 1) * 3 = i * 3 + 1 + 1 + 1 by omega, cellsC]
    simp only [List.getElem?_cons_succ, List.getD_cons_succ]
    exact this
/-- Lines of which the row v is no part, in no block below lo. -/
def LinesOff (W : World) (lo : Nat) (v : Value) (L : List ByteArray) (u : Value) : Prop :=
  ∃ a cap, u = .slice a L.length cap ∧ LinesAt W a L ∧ L.length ≤ cap ∧ ∀ g off, a = some ⟨g, off, none⟩ → 0 < L.length → lo ≤ g ∧ v.ownBlock ≠ some g
theorem LinesAt.grown {X Y : World} {row : Option Nat} {a : Option Addr} {L : List ByteArray} (h : LinesAt X a L) (hg : X.grownBy Y row) (hr : ∀ g off, a = some ⟨g, off, none⟩ → 0 < L.length → some g ≠ row) : LinesAt Y a L :=
  ⟨fun i hi => by
    obtain ⟨b, off, e, hb, hc⟩ := h.1 i hi
    have hk := hg.block b hb (hr b off e (by omega))
    exact ⟨b, off, e, Nat.lt_of_lt_of_le hb hg.size, by rw [← hc]; simp [World.cell?, hk]⟩, h.2⟩
theorem LinesAt.isCells {X : World} {g off : Nat} {L : List ByteArray} (h : LinesAt X (some ⟨g, off, none⟩) L) (h0 : 0 < L.length) (o : Obj) (ho : X.heap[g]? = some o) : o.isCells = true := by
  obtain ⟨b, off', e, hb, hc⟩ := h.1 0 h0
  cases e
  simp only [World.cell?, ho] at hc
  cases o <;> first | rfl | (simp at hc; done)
theorem LinesAt.lt {X : World} {g off : Nat} {L : List ByteArray} (h : LinesAt X (some ⟨g, off, none⟩) L) (h0 : 0 < L.length) : g < X.heap.size := by
  obtain ⟨b, off', e, hb, _⟩ := h.1 0 h0
  cases e
  exact hb
theorem LinesOff.grown {X Y : World} {lo : Nat} {row : Option Nat} {v : Value} {L : List ByteArray} {u : Value} (h : LinesOff X lo v L u) (hg : X.grownBy Y row) (hr : ∀ g, row = some g → (∃ o : Obj, X.heap[g]? = some o ∧ o.isCells = false) ∨ g < lo ∨ v.ownBlock = some g) : LinesOff Y lo v L u := by
  obtain ⟨a, cap, e, hL, hc, ho⟩ := h
  refine ⟨a, cap, e, hL.grown hg (fun g off ea h0 er => ?_), hc, ho⟩
  rcases hr g er.symm with ⟨o, h1, h2⟩ | h1 | h1
  · subst ea
    rw [hL.isCells h0 o h1] at h2
    cases h2
  · have := (ho g off ea h0).1; omega
  · exact (ho g off ea h0).2 h1
/-- Behind an append to the row. -/
theorem LinesOff.appended {X Y : World} {lo : Nat} {v v' : Value} {L : List ByteArray} {u : Value} (h : LinesOff X lo v L u) (hg : X.grownBy Y v.ownBlock) (hat : v'.ownBlock = v.ownBlock ∨ v'.ownBlock = some X.heap.size) : LinesOff Y lo v' L u := by
  have h2 := h.grown hg (fun g e => .inr (.inr e))
  obtain ⟨a, cap, e, hL, hc, ho⟩ := h
  obtain ⟨a', cap', e', hL', hc', ho'⟩ := h2
  rw [e] at e'
  cases e'
  refine ⟨a, cap, e, hL', hc, fun g off ea h0 => ⟨(ho g off ea h0).1, fun ev => ?_⟩⟩
  rcases hat with h1 | h1
  · exact (ho g off ea h0).2 (h1 ▸ ev)
  · rw [h1] at ev
    subst ea
    have := hL.lt h0
    cases ev
    omega
/-- The row v owns the changes cs. -/
def ChgRow (W : World) (n lo : Nat) (v : Value) (cs : List Chg) : Prop :=
  ∃ rows : List (Int × Value × Value), W.ownsRow n 40 3 v cs.length (cellsC rows) ∧ rows.length = cs.length ∧
    ∀ i, i < cs.length → (rows.getD i (0, .bool true, .bool true)).1 = (cs.getD i (0, [], [])).1 ∧ LinesOff W lo v (cs.getD i (0, [], [])).2.1 (rows.getD i (0, .bool true, .bool true)).2.1 ∧ LinesOff W lo v (cs.getD i (0, [], [])).2.2 (rows.getD i (0, .bool true, .bool true)).2.2
theorem ChgRow.nil (W : World) (n lo : Nat) : ChgRow W n lo (.slice none 0 0) [] := ⟨[], World.ownsRow_nil _ _ _ _, rfl, fun i hi => by simp at hi⟩
theorem ChgRow.grown {X Y : World} {n lo : Nat} {row : Option Nat} {v : Value} {cs : List Chg} (h : ChgRow X n lo v cs) (hg : X.grownBy Y row) (hr : ∀ g, row = some g → (∃ o : Obj, X.heap[g]? = some o ∧ o.isCells = false) ∨ (g < lo ∧ v.ownBlock ≠ some g)) : ChgRow Y n lo v cs := by
  obtain ⟨rows, ho, hl, hc⟩ := h
  refine ⟨rows, ho.kept hg ?_, hl, fun i hi => ?_⟩
  · rcases ho.2 with ⟨rfl, _⟩ | ⟨g, cap, cur, rfl, _, hgb, _⟩
    · exact .inl rfl
    · refine .inr (fun e => ?_)
      have e' : some g = row := e
      rcases hr g e'.symm with ⟨o, h1, h2⟩ | ⟨_, h2⟩
      · rw [hgb] at h1; cases h1; cases h2
      · exact h2 rfl
  · obtain ⟨h1, h2, h3⟩ := hc i hi
    exact ⟨h1, h2.grown hg (fun g e => (hr g e).elim .inl (fun h => .inr (.inl h.1))), h3.grown hg (fun g e => (hr g e).elim .inl (fun h => .inr (.inl h.1)))⟩
theorem ChgRow.below {X Y : World} {n lo : Nat} {v : Value} {cs : List Chg} (h : ChgRow X n lo v cs) (hb : Below X.heap.size X Y) : ChgRow Y n lo v cs := h.grown (grown_below' hb none) (fun g e => by cases e)
theorem chgRow_from {β : Type} (N n lo : Nat) (f : β → List Chg) (fv : β → Value) : OwnFrom N (fun s W => ChgRow W n lo (fv s) (f s)) := fun _ _ _ _ hs hg hr => hs.grown hg (fun g e => .inl (hr g e).2)
theorem ChgRow.mono {W : World} {n lo n' lo' : Nat} {v : Value} {cs : List Chg} (h : ChgRow W n lo v cs) (hn : n' ≤ n) (hlo : lo' ≤ lo) : ChgRow W n' lo' v cs := by
  obtain ⟨rows, ho, hl, hc⟩ := h
  have k : ∀ (L : List ByteArray) (u : Value), LinesOff W lo v L u → LinesOff W lo' v L u := fun L u ⟨a, cap, e, hL, hc, ho⟩ => ⟨a, cap, e, hL, hc, fun g off ea h0 => ⟨Nat.le_trans hlo (ho g off ea h0).1, (ho g off ea h0).2⟩⟩
  refine ⟨rows, ⟨ho.1, ?_⟩, hl, fun i hi => ⟨(hc i hi).1, k _ _ (hc i hi).2.1, k _ _ (hc i hi).2.2⟩⟩
  rcases ho.2 with h0 | ⟨g, cap, cur, e, hb, hr⟩
  · exact .inl h0
  · exact .inr ⟨g, cap, cur, e, Nat.le_trans hn hb, hr⟩
/-- One more. -/
theorem ChgRow.more {X Y : World} {n lo : Nat} {v v' : Value} {cs : List Chg} {c : Chg} {o u : Value} {rows : List (Int × Value × Value)} (hl : rows.length = cs.length)
    (hc : ∀ i, i < cs.length → (rows.getD i (0, .bool true, .bool true)).1 = (cs.getD i (0, [], [])).1 ∧ LinesOff X lo v (cs.getD i (0, [], [])).2.1 (rows.getD i (0, .bool true, .bool true)).2.1 ∧ LinesOff X lo v (cs.getD i (0, [], [])).2.2 (rows.getD i (0, .bool true, .bool true)).2.2) (ho : LinesOff X lo v c.2.1 o) (hu : LinesOff X lo v c.2.2 u) (hg : X.grownBy Y v.ownBlock) (hat : v'.ownBlock = v.ownBlock ∨ v'.ownBlock = some X.heap.size)
    (hown : Y.ownsRow n 40 3 v' (cs.length + 1) (cellsC rows ++ [.int .i64 c.1, o, u])) : ChgRow Y n lo v' (cs ++ [c]) := by
  refine ⟨rows ++ [(c.1, o, u)], ?_, by simp [hl], fun i hi => ?_⟩
  · rw [cellsC_snoc, List.length_append]
    exact hown
  · by_cases hin : i < cs.length
    · have e1 : (cs ++ [c]).getD i (0, [], []) = cs.getD i (0, [], []) := by rw [List.getD_eq_getElem?_getD, List.getElem?_append_left hin, ← List.getD_eq_getElem?_getD]
      have e2 : (rows ++ [(c.1, o, u)]).getD i (0, .bool true, .bool true) = rows.getD i (0, .bool true, .bool true) := by rw [List.getD_eq_getElem?_getD, List.getElem?_append_left (by omega), ← List.getD_eq_getElem?_getD]
      rw [e1, e2]
      obtain ⟨h1, h2, h3⟩ := hc i hin
      exact ⟨h1, h2.appended hg hat, h3.appended hg hat⟩
    · have hi' : i = cs.length := by simp at hi; omega
      subst hi'
      have e1 : (cs ++ [c]).getD cs.length (0, [], []) = c := by simp [List.getD_eq_getElem?_getD]
      have e2 : (rows ++ [(c.1, o, u)]).getD cs.length (0, .bool true, .bool true) = (c.1, o, u) := by rw [← hl]; simp [List.getD_eq_getElem?_getD]
      rw [e1, e2]
      exact ⟨rfl, ho.appended hg hat, hu.appended hg hat⟩
theorem rows_below {X Y : World} {lo : Nat} {v : Value} {cs : List Chg} {rows : List (Int × Value × Value)} (hb : Below X.heap.size X Y)
    (hc : ∀ i, i < cs.length → (rows.getD i (0, .bool true, .bool true)).1 = (cs.getD i (0, [], [])).1 ∧ LinesOff X lo v (cs.getD i (0, [], [])).2.1 (rows.getD i (0, .bool true, .bool true)).2.1 ∧ LinesOff X lo v (cs.getD i (0, [], [])).2.2 (rows.getD i (0, .bool true, .bool true)).2.2) :
    ∀ i, i < cs.length → (rows.getD i (0, .bool true, .bool true)).1 = (cs.getD i (0, [], [])).1 ∧ LinesOff Y lo v (cs.getD i (0, [], [])).2.1 (rows.getD i (0, .bool true, .bool true)).2.1 ∧ LinesOff Y lo v (cs.getD i (0, [], [])).2.2 (rows.getD i (0, .bool true, .bool true)).2.2 := fun i hi => by
  obtain ⟨h1, h2, h3⟩ := hc i hi
  exact ⟨h1, h2.grown (grown_below' hb none) (fun g e => by cases e), h3.grown (grown_below' hb none) (fun g e => by cases e)⟩
/-- What owns changes lies there. -/
theorem ChgRow.at {W : World} {n lo : Nat} {v : Value} {cs : List Chg} (h : ChgRow W n lo v cs) : ∃ a cap, v = .slice a cs.length cap ∧ ChgsAt W a cs ∧ cs.length ≤ cap := by
  obtain ⟨rows, ho, hl, hc⟩ := h
  have ho' := ho
  rcases ho.2 with ⟨rfl, h0⟩ | ⟨g, cap, cur, rfl, _, hgb, hcap, _⟩
  · exact ⟨none, 0, by rw [h0], fun i hi => by omega, by omega⟩
  · refine ⟨some ⟨g, 0, none⟩, cap, rfl, fun i hi => ?_, hcap⟩
    obtain ⟨k0, k1, k2⟩ := cellsC_at rows i (0, .bool true, .bool true) (by omega)
    have c0 := World.ownsRow.cells ho' (g := g) rfl _ _ k0
    have c1 := World.ownsRow.cells ho' (g := g) rfl _ _ k1
    have c2 := World.ownsRow.cells ho' (g := g) rfl _ _ k2
    rw [addr_add] at c0 c1 c2
    obtain ⟨h1, ⟨a1, p1, e1, l1, m1, _⟩, ⟨a2, p2, e2, l2, m2, _⟩⟩ := hc i hi
    rw [h1] at c0
    rw [e1] at c1
    rw [e2] at c2
    refine ⟨g, 0, rfl, (Array.getElem?_eq_some_iff.1 hgb).1, by simpa using c0, ⟨a1, p1, by simpa [Nat.add_assoc] using c1, l1, m1⟩, ⟨a2, p2, by simpa [Nat.add_assoc] using c2, l2, m2⟩⟩
end Go.Proofs.Ytnaceobbbfbhhaa
