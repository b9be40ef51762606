/- The contract of wordobj.runs. Conditions: none beyond what it says. -/
import Derived.Test.YtnaikdmkabfnlaaWord2
import Derived.Test.YtnaikdmkabfnlaaBut
import Derived.Test.YtnaikdmkabfnlaaByte
namespace Go.Proofs.Ytnaikdmkabfnlaa
open Go.RowKit Go.Shelf

attribute [local go_sem] Oper.semAt_some

/-- Runs, whether they are of blanks, as a row of cells. -/
def cells3 (f : Nat × Nat → Bool) : List (Nat × Nat) → List Value
  | [] => []
  | p :: rs => .int .i64 (p.1 : Int) :: .int .i64 (p.2 : Int) :: .bool (f p) :: cells3 f rs
theorem cells3_snoc (f : Nat × Nat → Bool) : ∀ (rs : List (Nat × Nat)) (p : Nat × Nat), cells3 f (rs ++ [p]) = cells3 f rs ++ [.int .i64 (p.1 : Int), .int .i64 (p.2 : Int), .bool (f p)]
  | [], _ => rfl
  | x :: rs, p => by rw [List.cons_append, cells3, cells3_snoc f rs p, cells3]; rfl
theorem cells3_at (f : Nat × Nat → Bool) : ∀ (rs : List (Nat × Nat)) (i : Nat), i < rs.length → (cells3 f rs)[i * 3]? = some (.int .i64 ((rs.getD i (0, 0)).1 : Int)) ∧ (cells3 f rs)[i * 3 + 1]? = some (.int .i64 ((rs.getD i (0, 0)).2 : Int)) ∧ (cells3 f rs)[i * 3 + 2]? = some (.bool (f (rs.getD i (0, 0))))
  | [], i, h => by simp at h
  | p :: rs, 0, _ => ⟨rfl, rfl, rfl⟩
  | p :: rs, i + 1, h => by
    have := cells3_at f rs i (by simpa using h)
    rw [show (i + 1) * 3 = i * 3 + 1 + 1 + 1 by omega, cells3]
    simp only [List.getElem?_cons_succ, List.getD_cons_succ]
    exact this
/-- Runs lie in memory at address a. -/
def TriAt (f : Nat × Nat → Bool) (w : World) (a : Option Addr) (rs : List (Nat × Nat)) : Prop :=
  ∀ i, i < rs.length → ∃ g, a = some ⟨g, 0, none⟩ ∧ g < w.heap.size ∧ w.cell? ⟨g, i * 3, none⟩ = some (.int .i64 ((rs.getD i (0, 0)).1 : Int)) ∧ w.cell? ⟨g, i * 3 + 1, none⟩ = some (.int .i64 ((rs.getD i (0, 0)).2 : Int)) ∧ w.cell? ⟨g, i * 3 + 2, none⟩ = some (.bool (f (rs.getD i (0, 0))))
theorem TriAt.below {f : Nat × Nat → Bool} {w w' : World} {a : Option Addr} {rs : List (Nat × Nat)} (h : TriAt f w a rs) {B : Nat} (hb : Below B w w') (hB : w.heap.size ≤ B) : TriAt f w' a rs := fun i hi => by
  obtain ⟨g, e, hg, c1, c2, c3⟩ := h i hi
  exact ⟨g, e, Nat.lt_of_lt_of_le hg hb.size, (hb.cell (p := ⟨g, i * 3, none⟩) (Nat.lt_of_lt_of_le hg hB)).trans c1, (hb.cell (p := ⟨g, i * 3 + 1, none⟩) (Nat.lt_of_lt_of_le hg hB)).trans c2, (hb.cell (p := ⟨g, i * 3 + 2, none⟩) (Nat.lt_of_lt_of_le hg hB)).trans c3⟩
theorem TriAt.ovr {f : Nat × Nat → Bool} {w : World} {a : Option Addr} {rs : List (Nat × Nat)} (h : TriAt f w a rs) (x : World) : TriAt f (ovr w x) a rs := h.below (below_ovr w x) (Nat.le_refl _)
theorem TriAt.alloc {f : Nat × Nat → Bool} {w : World} {a : Option Addr} {rs : List (Nat × Nat)} (h : TriAt f w a rs) (o : Obj) : TriAt f (w.alloc o) a rs := h.below ((Below.refl w.heap.size w).alloc (Nat.le_refl _) o) (Nat.le_refl _)
theorem tri_of_owns {f : Nat × Nat → Bool} {w : World} {base : Nat} {e : TypeId} {v : Value} {rs : List (Nat × Nat)} (h : w.ownsRow base e 3 v rs.length (cells3 f rs)) : ∃ a cap, v = .slice a rs.length cap ∧ TriAt f w a rs := by
  have h' := h
  rcases h.2 with ⟨rfl, h0⟩ | ⟨g, cap, cur, rfl, _, hgb, _⟩
  · have e0 : rs = [] := List.eq_nil_of_length_eq_zero h0
    subst e0
    exact ⟨none, 0, rfl, fun i hi => by simp at hi⟩
  · refine ⟨some ⟨g, 0, none⟩, cap, rfl, fun i hi => ?_⟩
    obtain ⟨c1, c2, c3⟩ := cells3_at f rs i hi
    have k1 := World.ownsRow.cells h' (g := g) rfl _ _ c1
    have k2 := World.ownsRow.cells h' (g := g) rfl _ _ c2
    have k3 := World.ownsRow.cells h' (g := g) rfl _ _ c3
    rw [addr_add] at k1 k2 k3
    exact ⟨g, rfl, (Array.getElem?_eq_some_iff.1 hgb).1, k1, k2, k3⟩
/-- The last run that begins at or ahead of column c. -/
def inF (c : Nat) (pre : List (Nat × Nat)) : Nat := (pre.foldl (fun (st : Nat × Nat) p => ((if p.1 ≤ c then st.2 else st.1), st.2 + 1)) (0, 0)).1
theorem inF_two (c : Nat) (pre : List (Nat × Nat)) : (pre.foldl (fun (st : Nat × Nat) p => ((if p.1 ≤ c then st.2 else st.1), st.2 + 1)) (0, 0)).2 = pre.length := by
  have : ∀ (l : List (Nat × Nat)) (st : Nat × Nat), (l.foldl (fun (st : Nat × Nat) p => ((if p.1 ≤ c then st.2 else st.1), st.2 + 1)) st).2 = st.2 + l.length := by
    intro l
    induction l with
    | nil => intro st; rfl
    | cons p l ih => intro st; rw [List.foldl_cons, ih, List.length_cons]; simp; omega
  rw [this]; simp
theorem inF_snoc (c : Nat) (pre : List (Nat × Nat)) (x : Nat × Nat) : inF c (pre ++ [x]) = if x.1 ≤ c then pre.length else inF c pre := by
  unfold inF
  rw [List.foldl_append]
  simp only [List.foldl_cons, List.foldl_nil, inF_two]
/-- Is a run of blanks? -/
def blkR (s : ByteArray) (p : Nat × Nat) : Bool := ofC (byt s p.1) true == 0
theorem infoWrun : (Try.prog.info? 99).map (fun i => (i.zero, i.size, i.bytes)) = some (some (.agg #[.int .i64 0, .int .i64 0, .bool false]), 3, 24) := by kernel_rfl

set_option maxRecDepth 100000 in
set_option maxHeartbeats 4000000 in
theorem wruns_no (a : Option Addr) (cap : Nat) (L : List ByteArray) (pl pc n : Int) (big : Bool) (w : World) (hL : LinesAt w a L) (h : ¬ (1 ≤ n ∧ byteB L pl pc = true ∧ ¬ (ln L pl).size = 0)) :
    Calls Try.prog 73 #[.slice a L.length cap, .agg #[.int .i64 pl, .int .i64 pc], .int .i64 n, .bool big] w fun e w' => e = .returned (.tuple #[.slice none 0 0, .int .i64 0, .bool false]) ∧ Below w.heap.size w w' := by
  have hn := hL.2.1
  by_cases h1 : 1 ≤ n
  · have h1d : decide (n < 1) = false := decide_eq_false (by omega)
    cases hb : byteB L pl pc with
    | false =>
      have HB := Lib.hid hb
      clear h hb
      go_enter Try.func73, Try.ntmps73
      go_wp2_with (go_at_call 87; refine (byte_any _ _ L _ _ _ (by (repeat (first | assumption | refine LinesAt.ovr ?_ _ | refine LinesAt.alloc ?_ _ | refine LinesAt.drewN ?_ _ | refine LinesAt.drew ?_)))).mono ?_; rw [HB.out]; rintro e w1 ⟨rfl, hbl⟩; obtain ⟨x, rfl⟩ := ovr_of_below hbl; clear hbl)
      go_ret3
      exact ⟨rfl, by (repeat (first | with_reducible exact Below.refl _ _ | (with_reducible refine Below.setCell ?_ ?_ _; rotate_left; · (first | exact Nat.le_refl _ | assumption | omega | (simp; done) | (simp; omega))) | (with_reducible refine Below.alloc ?_ ?_ _; rotate_left; · (first | exact Nat.le_refl _ | assumption | omega | (simp; done) | (simp; omega))) | with_reducible refine below_ovr_of ?_ | with_reducible refine drew_below ?_ _ | with_reducible refine Below.drew ?_ | with_reducible assumption))⟩
    | true =>
      have h2 : (ln L pl).size = 0 := by
        by_cases h2 : (ln L pl).size = 0
        · exact h2
        · exact absurd ⟨h1, hb, h2⟩ h
      have HB := Lib.hid hb
      have hp : plcB L pl pc = true := by
        cases hp : plcB L pl pc with
        | true => rfl
        | false => rw [byteB_no hp] at hb; cases hb
      obtain ⟨p1, p2, p3, p4⟩ := plcB_spec hp
      obtain ⟨l, rfl⟩ := Int.eq_ofNat_of_zero_le p1
      have hl : l < L.length := by omega
      obtain ⟨b, off, s, rfl, hbb, hcell, hs, HS⟩ := line_facts' hL hl
      rw [ln, Int.toNat_natCast, HS.out] at h2
      obtain rfl := str_nil h2
      have hlI : (l : Int) < (L.length : Int) := by omega
      have hl0 : (0 : Int) ≤ (l : Int) := by omega
      clear h hb hp h2 p4 hs
      go_enter Try.func73, Try.ntmps73
      go_wp2_with (go_at_call 87; refine (byte_any _ _ L _ _ _ (by (repeat (first | assumption | refine LinesAt.ovr ?_ _ | refine LinesAt.alloc ?_ _ | refine LinesAt.drewN ?_ _ | refine LinesAt.drew ?_)))).mono ?_; rw [HB.out]; rintro e w1 ⟨rfl, hbl⟩; obtain ⟨x, rfl⟩ := ovr_of_below hbl; clear hbl)
      go_ret3
      exact ⟨rfl, by (repeat (first | with_reducible exact Below.refl _ _ | (with_reducible refine Below.setCell ?_ ?_ _; rotate_left; · (first | exact Nat.le_refl _ | assumption | omega | (simp; done) | (simp; omega))) | (with_reducible refine Below.alloc ?_ ?_ _; rotate_left; · (first | exact Nat.le_refl _ | assumption | omega | (simp; done) | (simp; omega))) | with_reducible refine below_ovr_of ?_ | with_reducible refine drew_below ?_ _ | with_reducible refine Below.drew ?_ | with_reducible assumption))⟩
  · have h1' : n < 1 := by omega
    clear h h1
    go_enter Try.func73, Try.ntmps73
    go_wp2_with (go_at_call 87; refine (byte_any _ _ L _ _ _ (by (repeat (first | assumption | refine LinesAt.ovr ?_ _ | refine LinesAt.alloc ?_ _ | refine LinesAt.drewN ?_ _ | refine LinesAt.drew ?_)))).mono ?_; rintro e w1 ⟨rfl, hbl⟩; obtain ⟨x, rfl⟩ := ovr_of_below hbl; clear hbl)
    go_ret3
    exact ⟨rfl, by (repeat (first | with_reducible exact Below.refl _ _ | (with_reducible refine Below.setCell ?_ ?_ _; rotate_left; · (first | exact Nat.le_refl _ | assumption | omega | (simp; done) | (simp; omega))) | (with_reducible refine Below.alloc ?_ ?_ _; rotate_left; · (first | exact Nat.le_refl _ | assumption | omega | (simp; done) | (simp; omega))) | with_reducible refine below_ovr_of ?_ | with_reducible refine drew_below ?_ _ | with_reducible refine Below.drew ?_ | with_reducible assumption))⟩
end Go.Proofs.Ytnaikdmkabfnlaa
