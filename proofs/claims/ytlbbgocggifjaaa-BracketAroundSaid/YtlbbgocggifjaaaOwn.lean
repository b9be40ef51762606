/- Slices that the call makes itself: append, and what a row of its own reads as. No program in sight. Conditions: none. -/
import Derived.Test.YtlbbgocggifjaaaWorld
import Derived.Maps.AppendAt
import Derived.Deep.AppendLies
import Derived.OwnWalk
import Derived.Laws.OwnMore
import Derived.Deep.Draws
namespace Go.Proofs.Ytlbbgocggifjaaa
open Go.RowKit

theorem addr_addO (b o i : Nat) : (⟨b, o, none⟩ : Addr).add i = ⟨b, o + i, none⟩ := by unfold Addr.add; split <;> simp_all
theorem own_form {w : World} {base : Nat} {e : TypeId} {size : Nat} {v : Value} {n : Nat} {xs : List Value} (h : w.ownsRow base e size v n xs) : ∃ a c, v = .slice a n c := by
  rcases h.2 with ⟨rfl, rfl⟩ | ⟨g, cap, cur, rfl, _⟩
  · exact ⟨none, 0, rfl⟩
  · exact ⟨some ⟨g, 0, none⟩, cap, rfl⟩
theorem own_block_ge {w : World} {base : Nat} {e : TypeId} {size : Nat} {v : Value} {n : Nat} {xs : List Value} (h : w.ownsRow base e size v n xs) : ∀ k, v.ownBlock = some k → base ≤ k := fun k hk => (h.lt k hk).1
/-- A row of the call's own read cell by cell. -/
theorem own_cells {w : World} {base : Nat} {e : TypeId} {size : Nat} {a : Option Addr} {c n : Nat} {xs : List Value} (h : w.ownsRow base e size (.slice a n c) n xs) (hn : 0 < n) (_hs : 0 < size) :
    ∃ g, a = some ⟨g, 0, none⟩ ∧ base ≤ g ∧ g < w.heap.size ∧ ∀ j u, xs[j]? = some u → w.cell? ⟨g, j, none⟩ = some u := by
  obtain ⟨g, cap, hv, hb, hlt⟩ := h.form hn
  have hA : a = some ⟨g, 0, none⟩ := by injection hv
  subst hA
  refine ⟨g, rfl, hb, hlt, fun j u hu => ?_⟩
  have := h.cells (g := g) rfl j u hu
  rwa [addr_addO, Nat.zero_add] at this
/-- .. of strings. -/
theorem lines_of_own {w : World} {base : Nat} {e : TypeId} {a : Option Addr} {c n : Nat} {L : List ByteArray} (h : w.ownsRow base e 1 (.slice a n c) n (L.map Value.string)) (hn : L.length ≤ 140737488351232) (hs : ∀ s ∈ L, s.size ≤ 140737488351232) :
    n = L.length ∧ LinesAt w a L := by
  have hl : n = L.length := by have := h.1; simp at this; omega
  refine ⟨hl, fun i hi => ?_, hn, hs⟩
  obtain ⟨g, rfl, _, hlt, hc⟩ := own_cells h (by omega) (by omega)
  refine ⟨g, 0, rfl, hlt, ?_⟩
  rw [Nat.zero_add]
  exact hc i _ (by rw [List.getElem?_map, List.getD_eq_getElem?_getD, List.getElem?_eq_getElem hi]; rfl)

theorem grown_ovr (w x : World) : w.grownBy (ovr w x) none := ⟨rfl, rfl, rfl, by simp, fun k hk _ => heap_ovr w x k hk⟩
theorem own_ovr {w : World} {base : Nat} {e : TypeId} {size : Nat} {v : Value} {n : Nat} {xs : List Value} (h : w.ownsRow base e size v n xs) (x : World) : (ovr w x).ownsRow base e size v n xs := by
  refine h.kept (grown_ovr w x) ?_
  cases hb : v.ownBlock with
  | none => exact .inl rfl
  | some k => exact .inr (by simp)

section
variable {P : Program} {W0 w : World}
theorem run_append_nothing (t ty e : TypeId) (i : TypeInfo) (ht : P.underlying t = some (.slice e)) (hi : P.info? e = some i) {base size n : Nat} {v : Value} {xs : List Value}
    (hown : w.ownsRow base e size v n xs) (A : Option Addr) (c : Nat) (hA : A = none) : (Builtin.append_ #[t, t] ty #[v, .slice A 0 c]).run P w = .ok v w := by
  subst hA
  rcases hown.2 with ⟨rfl, rfl⟩ | ⟨g, cap, cur, rfl, _, _, hnc, _⟩
  · simp [Builtin.append_, run_underlying ht, sizeOf, typeInfo, hi, Builtin.lenOf, Builtin.firstCells]
  · simp [Builtin.append_, run_underlying ht, sizeOf, typeInfo, hi, Builtin.lenOf, Builtin.firstCells, hnc, storeCells]

/-- append onto a row of the call's own, from whatever slice (its address is asked for only where it has elements). What was there ahead of W0 stays. -/
theorem wpList_append_gen {ops : Array Oper} {rest : List Oper} {o : Oper} {a : Act} {Q : Exit → Act → World → Prop} (hB : Below W0.heap.size W0 w) (hgd : o.guard = none) (s x : Operand) (t : TypeId)
    (ho : o.op = .call { callee := .builtin .append, args := #[s, x], argTypes := #[t, t] })
    (e : TypeId) (i : TypeInfo) (z : Value) (size bytes : Nat) (ht : P.underlying t = some (.slice e)) (hi : P.info? e = some i) (hz : i.zero = some z)
    (hsize : i.size = size) (hby : i.bytes = bytes) (hzs : z.cells.size = size) (hsz : 0 < size)
    (v : Value) (n : Nat) (xs : List Value) (hs : a.eval s = v) (hown : w.ownsRow W0.heap.size e size v n xs)
    (A : Option Addr) (m c : Nat) (news : List Value) (hx : a.eval x = .slice A m c) (hl : news.length = m * size)
    (hnews : 0 < m → ∃ b off, A = some ⟨b, off, none⟩ ∧ ∀ j u, news[j]? = some u → w.cell? ⟨b, off + j, none⟩ = some u) (h1 : ∀ u ∈ news, u.oneCell' = true)
    (h63 : n + m ≤ 1000000) (hbb : bytes ≤ 1000)
    (h : ∀ A' c' y, (ovr W0 y).ownsRow W0.heap.size e size (.slice A' (n + m) c') (n + m) (xs ++ news) → wpList P ops Q rest (a.put o.dst (.slice A' (n + m) c')) (ovr W0 y)) : wpList P ops Q (o :: rest) a w := by
  have hbytes : (n + m) * bytes ≤ 140737488355328 := Nat.le_trans (Nat.mul_le_mul h63 hbb) (by omega)
  have main : ∃ v' w', (Builtin.append_ #[t, t] o.type #[v, .slice A m c]).run P w = .ok v' w' ∧ w'.ownsRow W0.heap.size e size v' (n + m) (xs ++ news) ∧ w.grownBy w' v.ownBlock := by
    rcases A with _ | ad
    · have hm : m = 0 := by
        rcases Nat.eq_zero_or_pos m with h0 | h0
        · exact h0
        · obtain ⟨_, _, h, _⟩ := hnews h0
          cases h
      subst hm
      have hn : news = [] := List.eq_nil_of_length_eq_zero (by simpa using hl)
      subst hn
      exact ⟨v, w, run_append_nothing t o.type e i ht hi hown none c rfl, by simpa using hown, World.grownBy.refl w _⟩
    · have hcells : ∀ j u, news[j]? = some u → w.cell? (ad.add j) = some u := by
        intro j u hu
        rcases Nat.eq_zero_or_pos m with h0 | h0
        · subst h0
          have hn : news = [] := List.eq_nil_of_length_eq_zero (by simpa using hl)
          subst hn
          simp at hu
        · obtain ⟨b, off, e1, hc⟩ := hnews h0
          injection e1 with e1
          subst e1
          rw [addr_addO]
          exact hc j u hu
      obtain ⟨v', w', hrun, h2, h3, _, _⟩ := run_append_own_at (P := P) w W0.heap.size t o.type e i z size bytes ht hi hz hsize hby hzs hsz v n xs hown ad m c news hl hcells h1 (by simp only [maxLen]; omega) hbytes hB.size
      exact ⟨v', w', hrun, h2, h3⟩
  obtain ⟨v', w', hrun, h2, h3⟩ := main
  obtain ⟨A', c', rfl⟩ := own_form h2
  obtain ⟨y, rfl⟩ := ovr_of_below (hB.grown h3 hB.size (own_block_ge hown))
  refine wpList_plain hgd fun K hK => ?_
  unfold Oper.wp execOp
  simp only [ho, resolve, invoke, builtin, Sem.run_bind, Sem.run_pure, Result.andThen_ok, List.map_toArray, List.map_cons, List.map_nil, hs, hx, hrun]
  exact hK _ _ (h A' c' y h2)

/-- The one element that append is handed, in the block that was made for it. -/
theorem news_one {w : World} {b : Nat} {u : Value} {t : TypeId} (hb : b = w.heap.size) : 0 < 1 → ∃ b' off, (some ⟨b, 0, none⟩ : Option Addr) = some ⟨b', off, none⟩ ∧ ∀ j v, [u][j]? = some v → (w.alloc (.cells #[u] t)).cell? ⟨b', off + j, none⟩ = some v := by
  intro _
  refine ⟨b, 0, rfl, fun j v hv => ?_⟩
  cases j with
  | zero => simp at hv; subst hv; subst hb; simp [go_sem]
  | succ j => simp at hv
/-- .. of two cells. -/
theorem news_two {w : World} {b : Nat} {u u' : Value} {t : TypeId} (hb : b = w.heap.size) : 0 < 1 → ∃ b' off, (some ⟨b, 0, none⟩ : Option Addr) = some ⟨b', off, none⟩ ∧ ∀ j v, [u, u'][j]? = some v → (w.alloc (.cells #[u, u'] t)).cell? ⟨b', off + j, none⟩ = some v := by
  intro _
  refine ⟨b, 0, rfl, fun j v hv => ?_⟩
  match j with
  | 0 => simp at hv; subst hv; subst hb; simp [go_sem]
  | 1 => simp at hv; subst hv; subst hb; simp [go_sem]
  | j + 2 => simp at hv

/-- append([]string(nil), a...): new lines, the same. -/
theorem wpList_append_lines {ops : Array Oper} {rest : List Oper} {o : Oper} {a : Act} {Q : Exit → Act → World → Prop} (hgd : o.guard = none) (s x : Operand) (t : TypeId)
    (ho : o.op = .call { callee := .builtin .append, args := #[s, x], argTypes := #[t, t] })
    (e : TypeId) (i : TypeInfo) (z : Value) (bytes : Nat) (ht : P.underlying t = some (.slice e)) (hi : P.info? e = some i) (hz : i.zero = some z)
    (hsize : i.size = 1) (hby : i.bytes = bytes) (hzs : z.cells.size = 1) (hs : a.eval s = .slice none 0 0)
    (A : Option Addr) (c : Nat) (L : List ByteArray) (hx : a.eval x = .slice A L.length c) (hL : LinesAt w A L) (h63 : L.length ≤ 1000000) (hbb : bytes ≤ 1000)
    (h : ∀ A' c' y, LinesAt (ovr w y) A' L → wpList P ops Q rest (a.put o.dst (.slice A' L.length c')) (ovr w y)) : wpList P ops Q (o :: rest) a w := by
  refine wpList_append_gen (W0 := w) (Below.refl _ _) hgd s x t ho e i z 1 bytes ht hi hz hsize hby hzs (by omega) (.slice none 0 0) 0 [] hs (World.ownsRow_nil _ _ _ _) A L.length c (L.map Value.string) hx (by simp) ?_ ?_ (by omega) hbb ?_
  · intro h0
    obtain ⟨b, off, e1, _, _⟩ := hL.1 0 h0
    refine ⟨b, off, e1, fun j u hu => ?_⟩
    rw [List.getElem?_map] at hu
    obtain ⟨s', hs', rfl⟩ := Option.map_eq_some_iff.1 hu
    have hj := (List.getElem?_eq_some_iff.1 hs').1
    obtain ⟨b', off', e2, _, hc⟩ := hL.1 j hj
    rw [e1] at e2; cases e2
    rw [hc, List.getD_eq_getElem?_getD, hs']; rfl
  · intro u hu
    obtain ⟨s', _, rfl⟩ := List.mem_map.1 hu
    rfl
  · intro A' c' y hown
    rw [Nat.zero_add] at hown ⊢
    exact h A' c' y (lines_of_own (by simpa using hown) hL.2.1 hL.2.2).2
end
end Go.Proofs.Ytlbbgocggifjaaa
