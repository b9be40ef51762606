/- An append of a slice, nil or not, to a row of the call's own. No program in sight. Conditions: none. -/
import Derived.Test.YtipdiennpijfiaaRunsCap
import Derived.Laws.OwnMore
import Derived.Maps.AppendAt
namespace Go.Proofs.Ytipdiennpijfiaa
open Go.RowKit Go.Shelf

/-- What m elements at A read as. -/
def Src (w : World) (A : Option Addr) (m size : Nat) (news : List Value) : Prop :=
  news.length = m * size ∧ (∀ u ∈ news, u.oneCell' = true) ∧ (m = 0 ∨ ∃ g off, A = some ⟨g, off, none⟩ ∧ g < w.heap.size ∧ ∀ j u, news[j]? = some u → w.cell? ((⟨g, off, none⟩ : Addr).add j) = some u)
theorem Src.below {w w' : World} {A : Option Addr} {m size B : Nat} {news : List Value} (h : Src w A m size news) (hb : Below B w w') (hB : w.heap.size ≤ B) : Src w' A m size news := by
  refine ⟨h.1, h.2.1, ?_⟩
  rcases h.2.2 with h0 | ⟨g, off, e, hg, hc⟩
  · exact .inl h0
  · refine .inr ⟨g, off, e, Nat.lt_of_lt_of_le hg hb.size, fun j u hu => ?_⟩
    have := hc j u hu
    have hbk : ((⟨g, off, none⟩ : Addr).add j).block = g := by unfold Addr.add; split <;> rfl
    exact (hb.cell (by rw [hbk]; omega)).trans this
theorem cellsV_one : ∀ (R : List (Nat × Nat)), ∀ u ∈ cellsV R, u.oneCell' = true
  | [], u, hu => by simp [cellsV] at hu
  | p :: R, u, hu => by
    simp only [cellsV, List.mem_cons] at hu
    rcases hu with rfl | rfl | hu
    · rfl
    · rfl
    · exact cellsV_one R u hu
theorem add_none (g off j : Nat) : (⟨g, off, none⟩ : Addr).add j = ⟨g, off + j, none⟩ := by
  unfold Addr.add
  split
  · rename_i h; have : j = 0 := by simpa using h
    subst this; rfl
  · rfl
theorem Src.of_pairs {w : World} {A : Option Addr} {R : List (Nat × Nat)} (h : PairsAt w A R) : Src w A R.length 2 (cellsV R) := by
  refine ⟨cellsV_len R, cellsV_one R, ?_⟩
  rcases h.split with rfl | ⟨g, rfl, hg, h0, hc⟩
  · exact .inl rfl
  · refine .inr ⟨g, 0, rfl, hg, fun j u hu => ?_⟩
    have hl : j < R.length * 2 := by rw [← cellsV_len]; exact (List.getElem?_eq_some_iff.1 hu).1
    obtain ⟨c1, c2⟩ := hc (j / 2) (by omega)
    obtain ⟨d1, d2⟩ := cellsV_at R (j / 2) (by omega)
    rw [add_none, Nat.zero_add]
    by_cases hj : j % 2 = 0
    · rw [show j = j / 2 * 2 by omega] at hu ⊢
      rw [c1, ← hu, d1]
    · rw [show j = j / 2 * 2 + 1 by omega] at hu ⊢
      rw [c2, ← hu, d2]
theorem Src.of_lines {w : World} {A : Option Addr} {L : List ByteArray} (h : LinesAt w A L) : Src w A L.length 1 (L.map Value.string) := by
  refine ⟨by simp, fun u hu => by obtain ⟨s, _, rfl⟩ := List.mem_map.1 hu; rfl, ?_⟩
  rcases h.split with rfl | ⟨b, off, rfl, hb, h0, hc, _⟩
  · exact .inl rfl
  · refine .inr ⟨b, off, rfl, hb, fun j u hu => ?_⟩
    have hl : j < L.length := by have := (List.getElem?_eq_some_iff.1 hu).1; simpa using this
    rw [add_none, hc j hl, ← hu, List.getElem?_map, List.getD_eq_getElem?_getD, List.getElem?_eq_getElem hl]
    rfl
theorem run_append_src {P : Program} (w : World) (base : Nat) (t ty e : TypeId) (i : TypeInfo) (z : Value) (size bytes : Nat) (ht : P.underlying t = some (.slice e)) (hi : P.info? e = some i) (hz : i.zero = some z)
    (hsize : i.size = size) (hby : i.bytes = bytes) (hzs : z.cells.size = size) (hsz : 0 < size) (v : Value) (n : Nat) (xs : List Value) (hown : w.ownsRow base e size v n xs)
    (A : Option Addr) (m c : Nat) (news : List Value) (hs : Src w A m size news) (h63 : n + m ≤ maxLen) (hbytes : (n + m) * bytes ≤ 140737488355328) (hbase : base ≤ w.heap.size) :
    ∃ v' w', (Builtin.append_ #[t, t] ty #[v, .slice A m c]).run P w = .ok v' w' ∧ w'.ownsRow base e size v' (n + m) (xs ++ news) ∧ w.grownBy w' v.ownBlock ∧ (v'.ownBlock = v.ownBlock ∨ v'.ownBlock = some w.heap.size) := by
  obtain ⟨hl, h1, hc⟩ := hs
  by_cases hA : ∃ g off, A = some ⟨g, off, none⟩ ∧ ∀ j u, news[j]? = some u → w.cell? ((⟨g, off, none⟩ : Addr).add j) = some u
  · obtain ⟨g, off, rfl, hc'⟩ := hA
    obtain ⟨v', w', k1, k2, k3, _, k5⟩ := run_append_own_at (P := P) w base t ty e i z size bytes ht hi hz hsize hby hzs hsz v n xs hown ⟨g, off, none⟩ m c news hl hc' h1 h63 hbytes hbase
    exact ⟨v', w', k1, k2, k3, k5⟩
  · have hm : m = 0 := by
      rcases hc with h0 | ⟨g, off, e, _, hc⟩
      · exact h0
      · exact absurd ⟨g, off, e, hc⟩ hA
    subst hm
    obtain rfl : news = [] := List.eq_nil_of_length_eq_zero (by simpa using hl)
    rcases A with _ | ad
    · refine ⟨v, w, ?_, by simpa using hown, World.grownBy.refl w _, .inl rfl⟩
      rcases hown.2 with ⟨rfl, rfl⟩ | ⟨g, cap, cur, rfl, _, _, hnc, _⟩
      · simp [Builtin.append_, run_underlying ht, sizeOf, typeInfo, hi, Builtin.lenOf, Builtin.firstCells]
      · simp [Builtin.append_, run_underlying ht, sizeOf, typeInfo, hi, Builtin.lenOf, Builtin.firstCells, hnc, storeCells]
    · obtain ⟨v', w', k1, k2, k3, _, k5⟩ := run_append_own_at (P := P) w base t ty e i z size bytes ht hi hz hsize hby hzs hsz v n xs hown ad 0 c [] (by simp) (by simp) h1 h63 hbytes hbase
      exact ⟨v', w', k1, k2, k3, k5⟩
theorem wpList_append_src {P : Program} (w : World) {ops : Array Oper} {rest : List Oper} {o : Oper} {a : Act} {Q : Exit → Act → World → Prop} (hgd : o.guard = none) (s x : Operand) (t : TypeId)
    (ho : o.op = .call { callee := .builtin .append, args := #[s, x], argTypes := #[t, t] })
    (base : Nat) (e : TypeId) (i : TypeInfo) (z : Value) (size bytes : Nat) (ht : P.underlying t = some (.slice e)) (hi : P.info? e = some i) (hz : i.zero = some z)
    (hsize : i.size = size) (hby : i.bytes = bytes) (hzs : z.cells.size = size) (hsz : 0 < size) (v : Value) (n : Nat) (xs : List Value) (hv : a.eval s = v) (hown : w.ownsRow base e size v n xs)
    (A : Option Addr) (m c : Nat) (news : List Value) (hx : a.eval x = .slice A m c) (hs : Src w A m size news) (h63 : n + m ≤ maxLen) (hbytes : (n + m) * bytes ≤ 140737488355328) (hbase : base ≤ w.heap.size)
    (h : ∀ v' w', w'.ownsRow base e size v' (n + m) (xs ++ news) → w.grownBy w' v.ownBlock → (v'.ownBlock = v.ownBlock ∨ v'.ownBlock = some w.heap.size) → wpList P ops Q rest (a.put o.dst v') w') : wpList P ops Q (o :: rest) a w := by
  obtain ⟨v', w', k1, k2, k3, k4⟩ := run_append_src (P := P) w base t o.type e i z size bytes ht hi hz hsize hby hzs hsz v n xs hown A m c news hs h63 hbytes hbase
  refine wpList_plain hgd fun _ hK => ?_
  unfold Oper.wp execOp
  simp only [ho, resolve, invoke, builtin, Sem.run_bind, Sem.run_pure, Result.andThen_ok, List.map_toArray, List.map_cons, List.map_nil, hv, hx, k1]
  exact hK _ _ (h v' w' k2 k3 k4)
end Go.Proofs.Ytipdiennpijfiaa
