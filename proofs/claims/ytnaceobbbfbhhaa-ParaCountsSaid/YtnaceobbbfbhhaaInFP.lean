/- The last run that begins no later than a column. Plain Lean, no program in sight. Conditions: none. -/
import Derived.Test.YtnaceobbbfbhhaaWordP
namespace Go.Proofs.Ytnaceobbbfbhhaa

/-- The last run that begins at or ahead of column c. -/
def inF (c : Nat) (pre : List (Nat × Nat)) : Nat := (pre.foldl (fun (st : Nat × Nat) p => ((if p.1 ≤ c then st.2 else st.1), st.2 + 1)) (0, 0)).1
theorem inF_two (c : Nat) (pre : List (Nat × Nat)) : (pre.foldl (fun (st : Nat × Nat) p => ((if p.1 ≤ c then st.2 else st.1), st.2 + 1)) (0, 0)).2 = pre.length := by
  have : ∀ (l : List (Nat × Nat)) (st : Nat × Nat), (l.foldl (fun (st : Nat × Nat) p => ((if p.1 ≤ c then st.2 else st.1), st.2 + 1)) st).2 = st.2 + l.length := by
    intro l
    induction l with
    | nil => intro st; rfl
    | cons p l ih => intro st; rw [List.foldl_cons, ih, List.length_cons]; simp; omega
  rw [this]; simp
theorem inF_snoc (c : Nat) (pre : List (Nat × Nat)) (x : Nat × Nat) : inF c (pre ++ [x]) = if x.1 ≤ c then pre.length else inF c pre := by
  unfold inF
  rw [List.foldl_append]
  simp only [List.foldl_cons, List.foldl_nil, inF_two]
theorem inF_take {s : ByteArray} {big : Bool} {R : List (Nat × Nat)} {c k : Nat} (h : chainR s big 0 R) (hk : inR R c k) : ∀ j, j ≤ R.length → inF c (R.take j) = min (j - 1) k
  | 0, _ => by simp [inF]
  | j + 1, hj => by
    have hj' : j < R.length := by omega
    have e : R.take (j + 1) = R.take j ++ [R.getD j (0, 0)] := by
      rw [List.take_add_one, List.getElem?_eq_getElem hj', List.getD_eq_getElem?_getD, List.getElem?_eq_getElem hj']; rfl
    rw [e, inF_snoc, inF_take h hk j (by omega), List.length_take]
    have := inR_last h hk (j := j) hj'
    by_cases hh : j ≤ k
    · rw [if_pos (this.2 hh)]; omega
    · rw [if_neg (fun x => hh (this.1 x))]; omega
/-- The last run that begins no later than column c is the one that column c is in. -/
theorem inF_eq {s : ByteArray} {big : Bool} {R : List (Nat × Nat)} {c k : Nat} (h : chainR s big 0 R) (hk : inR R c k) : inF c R = k := by
  have := inF_take h hk R.length (Nat.le_refl _)
  rw [List.take_length] at this
  have := hk.1
  omega
end Go.Proofs.Ytnaceobbbfbhhaa
