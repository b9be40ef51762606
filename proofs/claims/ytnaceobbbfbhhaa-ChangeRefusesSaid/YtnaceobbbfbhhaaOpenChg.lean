/- Changes that came in, opened. Conditions: none. -/
import Derived.Test.YtnaceobbbfbhhaaRow
import Derived.Test.YtnaceobbbfbhhaaChgL
import Derived.Deep.Strs
namespace Go.Proofs.Ytnaceobbbfbhhaa
open Go.ChangeShapes Go.WideShapes Go.ChangeAt Go.RowKit Go.Joins Go.Deep
set_option maxRecDepth 100000

section
variable {H : Type} {enc : TypeId × Value → H}
theorem list_of {α : Type} (d : α) {P : Nat → α → Prop} : ∀ (n : Nat), (∀ i, i < n → ∃ c, P i c) → ∃ l : List α, l.length = n ∧ ∀ i, i < n → P i (l.getD i d)
  | 0, _ => ⟨[], rfl, fun i hi => by omega⟩
  | n + 1, h => by
    obtain ⟨l, hl, hp⟩ := list_of d n (fun i hi => h i (by omega))
    obtain ⟨c, hc⟩ := h n (by omega)
    refine ⟨l ++ [c], by simp [hl], fun i hi => ?_⟩
    by_cases hin : i < n
    · rw [List.getD_eq_getElem?_getD, List.getElem?_append_left (by omega), ← List.getD_eq_getElem?_getD]
      exact hp i hin
    · obtain rfl : i = n := by omega
      rw [List.getD_eq_getElem?_getD, List.getElem?_append_right (by omega), hl]
      simpa using hc
/-- A []string among cells. -/
theorem lines_in {W : World} {fuel : Nat} {cs : List Value} {x : DataW H × List MemPlace} (hc : Try.prog.cellsOf 9 = 1) (hby : Try.prog.bytesOf 9 = 16)
    (h : DataW.trod enc Try.prog W 0 (fun _ => true) true fuel 22 cs = some x) (hsz : ∀ n ∈ x.1.weights Try.prog 22, n ≤ reachBytes) :
    ∃ a L cap, cs = [.slice a L.length cap] ∧ LinesAt W a L ∧ L.length ≤ cap := by
  rcases open_strings Try.underlying22 Try.underlying9 hc h with ⟨rfl, rfl⟩ | ⟨a, len', cap', ss, rfl, _, hl, hm, hz, rfl, hcell, hws⟩
  · exact ⟨none, [], 0, rfl, ⟨fun i hi => absurd hi (by simp), by simp, by simp⟩, Nat.le_refl _⟩
  · simp at hz
    have hlz : len' ≤ ss.length := by omega
    have hlen : (ss.take len').length = len' := by simp; omega
    have h16 := hsz _ (by simp only [DataW.weights, Try.underlying22]; exact List.mem_cons_self ..)
    rw [hby] at h16
    simp only [strs, List.length_map, List.length_take, List.length_drop, reachBytes] at h16
    have hall : ∀ s ∈ ss.take len', s.size ≤ 140737488351232 := by
      intro s hs
      have := hsz s.data.toList.length (by
        simp only [DataW.weights, Try.underlying22, List.mem_cons, List.mem_append]
        right; left; exact weights_strs _ s hs)
      rw [list_len'] at this
      simpa [reachBytes] using this
    refine ⟨some a, ss.take len', cap', by rw [hlen], ⟨fun i hi => ?_, by rw [hlen]; omega, hall⟩, by rw [hlen]; exact hl⟩
    rw [hlen] at hi
    have hci := hcell i (by omega)
    have hspot : a.spot = none := by
      have h0 := hcell 0 (by omega)
      simpa [Addr.add] using World.cell?_spot h0
    obtain ⟨b, off, spot⟩ := a
    simp only at hspot
    subst hspot
    have hci' : W.cell? ⟨b, off + i, none⟩ = some (.string (ss.getD i .empty)) := by rw [← add_plain]; exact hci
    refine ⟨b, off, rfl, World.block_lt_of_cell? W _ hci', ?_⟩
    rw [hci', List.getD_eq_getElem?_getD, List.getD_eq_getElem?_getD, List.getElem?_take, if_pos hi]
/-- A []string that came in, with its room. -/
theorem open_linesC {ts : List TypeId} {ds : List (DataW H)} {W : World} {base : Nat} {v : Value} {d : DataW H} {p : List MemPlace} {j : Nat} (hc : Try.prog.cellsOf 9 = 1) (hby : Try.prog.bytesOf 9 = 16)
    (hv : Value.okWide Try.prog W .any base 22 v) (h : DataW.Trod enc Try.prog W 0 (fun _ => true) true 22 v d p) (hsz : (DataW.weightsEach Try.prog ts ds).all (· ≤ reachBytes) = true) (htj : ts[j]? = some 22) (hdj : ds[j]? = some d) :
    ∃ a L cap, v = .slice a L.length cap ∧ LinesAt W a L ∧ L.length ≤ cap := by
  obtain ⟨a0, len, cap, rfl⟩ := okWide_slice Try.underlying22 hv
  obtain ⟨fuel, hf⟩ := h
  obtain ⟨a, L, c, e, h1, h2⟩ := lines_in hc hby hf (fun n hn => by
    have := List.all_eq_true.1 hsz _ (DataW.weights_mem_each htj hdj n hn)
    simpa using this)
  simp [Value.cells] at e
  obtain ⟨rfl, rfl, rfl⟩ := e
  exact ⟨_, L, _, rfl, h1, h2⟩
theorem weights_all_mem {P : Program} {e : TypeId} : ∀ (ds : List (DataW H)) (d : DataW H), d ∈ ds → ∀ n ∈ d.weights P e, n ∈ DataW.weightsAll P e ds
  | x :: ds, d, h, n, hn => by
    simp only [DataW.weightsAll, List.mem_append]
    rcases List.mem_cons.1 h with rfl | h
    · exact .inl hn
    · exact .inr (weights_all_mem ds d h n hn)
/-- A []api.Change that came in. -/
theorem open_changes {ts : List TypeId} {ds : List (DataW H)} {W : World} {base : Nat} {v : Value} {d : DataW H} {p : List MemPlace} {j : Nat}
    (hc : Try.prog.cellsOf 9 = 1) (hby : Try.prog.bytesOf 9 = 16) (hcS : Try.prog.cellsOf 22 = 1) (hcI : Try.prog.cellsOf 3 = 1) (hcC : Try.prog.cellsOf 40 = 3) (hbC : Try.prog.bytesOf 40 = 56)
    (hv : Value.okWide Try.prog W .any base 23 v) (h : DataW.Trod enc Try.prog W 0 (fun _ => true) true 23 v d p)
    (hsz : (DataW.weightsEach Try.prog ts ds).all (· ≤ reachBytes) = true) (htj : ts[j]? = some 23) (hdj : ds[j]? = some d) :
    ∃ a cs cap, v = .slice a cs.length cap ∧ ChgsAt W a cs ∧ cs.length ≤ cap ∧ (∀ c ∈ cs, -9223372036854775808 ≤ c.1 ∧ c.1 ≤ 9223372036854775807) ∧ cs.length ≤ 140737488351232 := by
  obtain ⟨a0, len, cap, rfl⟩ := okWide_slice Try.underlying23 hv
  obtain ⟨fuel, hf⟩ := h
  have hw : ∀ n ∈ d.weights Try.prog 23, n ≤ reachBytes := fun n hn => by
    have := List.all_eq_true.1 hsz _ (DataW.weights_mem_each htj hdj n hn)
    simpa using this
  rcases DataW.trod_slice Try.underlying23 hf with ⟨hcs, hx⟩ | ⟨a, len', cap', elems, rest, n, _, hcs, hx, _, hl, hm, hlen, hel, _, _⟩
  · simp [Value.cells] at hcs
    obtain ⟨rfl, rfl, rfl⟩ := hcs
    exact ⟨none, [], 0, rfl, fun i hi => absurd hi (by simp), Nat.le_refl _, by simp, by simp⟩
  · simp [Value.cells] at hcs
    obtain ⟨rfl, rfl, rfl⟩ := hcs
    simp only [Prod.mk.injEq] at hx
    obtain ⟨rfl, rfl⟩ := hx
    have h56 := hw _ (by simp only [DataW.weights, Try.underlying23]; exact List.mem_cons_self ..)
    rw [hbC] at h56
    simp only [List.length_map, reachBytes] at h56
    have hsp : 0 < len → a.spot = none := fun h0 => by
      have he := hel 0 h0
      rw [List.getElem?_eq_getElem (by omega), hcC, Option.bind_eq_some_iff] at he
      obtain ⟨cs', hcs, _⟩ := he
      obtain ⟨_, hl3, hcell⟩ := World.cells?_some hcs
      have k0 := hcell 0 (by omega)
      rw [List.getElem?_eq_getElem (by omega)] at k0
      simpa [Addr.add] using World.cell?_spot k0
    have each : ∀ i, i < len → ∃ c : Chg, (∃ b off, a = ⟨b, off, none⟩ ∧ ChgAt W b (off + i * 3) c) ∧ -9223372036854775808 ≤ c.1 ∧ c.1 ≤ 9223372036854775807 := by
      intro i hi
      have hi2 : i < elems.length := by omega
      have he := hel i hi
      rw [List.getElem?_eq_getElem hi2, hcC, Option.bind_eq_some_iff] at he
      obtain ⟨cs', hcs, hy⟩ := he
      obtain ⟨y0, y1, y2, m, hxe, hcl, t0, t1, t2⟩ := trod_struct3 Try.underlying40 hy
      have hwe : ∀ n ∈ (elems[i].1).weights Try.prog 40, n ≤ reachBytes := fun n hn => hw n (by
        simp only [DataW.weights, Try.underlying23, List.mem_cons, List.mem_append]
        right; left
        exact weights_all_mem _ _ (List.mem_map.2 ⟨elems[i], List.getElem_mem hi2, rfl⟩) n hn)
      rw [hxe] at hwe
      simp only [DataW.weights, Try.underlying40, List.map_cons, List.map_nil, DataW.weightsEach, List.append_nil, List.mem_append] at hwe
      rw [hcC] at hcl
      obtain ⟨v0, v1, v2, rfl⟩ : ∃ v0 v1 v2, cs' = [v0, v1, v2] := by
        match cs', hcl with
        | [v0, v1, v2], _ => exact ⟨v0, v1, v2, rfl⟩
      simp [hcS, hcI] at t0 t1 t2
      obtain ⟨k, e0, _, wk⟩ := DataW.trod_int Try.underlying3 t0
      obtain ⟨a1, L1, c1, e1, p1, q1⟩ := lines_in hc hby t1 (fun n hn => hwe n (.inr (.inl hn)))
      obtain ⟨a2, L2, c2, e2, p2, q2⟩ := lines_in hc hby t2 (fun n hn => hwe n (.inr (.inr hn)))
      simp at e0 e1 e2
      subst e0; subst e1; subst e2
      obtain ⟨_, _, hcell⟩ := World.cells?_some hcs
      have k0 := hcell 0 (by omega)
      have k1 := hcell 1 (by omega)
      have k2 := hcell 2 (by omega)
      simp only [List.getElem?_cons_zero, List.getElem?_cons_succ] at k0 k1 k2
      obtain ⟨b, off, spot⟩ := a
      have hs0 : spot = none := hsp (by omega)
      subst hs0
      rw [add_plain, add_plain] at k0 k1 k2
      have hb := World.block_lt_of_cell? W _ k0
      exact ⟨(k, L1, L2), ⟨b, off, rfl, hb, k0, ⟨a1, c1, k1, p1, q1⟩, ⟨a2, c2, k2, p2, q2⟩⟩, by have := wk; simp only [Lit.wf, Bool.and_eq_true, decide_eq_true_eq] at this; simpa [IntKind.min, IntKind.max, IntKind.signed, IntKind.bits] using this⟩
    obtain ⟨cs, hlc, hcs⟩ := list_of ((0, [], []) : Chg) len each
    refine ⟨some a, cs, cap, by rw [hlc], fun i hi => ?_, by rw [hlc]; exact hl, fun c hc => ?_, by omega⟩
    · obtain ⟨⟨b, off, e, hat⟩, _⟩ := hcs i (by omega)
      exact ⟨b, off, by rw [e], hat⟩
    · obtain ⟨i, hi, rfl⟩ := List.getElem_of_mem hc
      have := (hcs i (by omega)).2
      rw [List.getD_eq_getElem?_getD, List.getElem?_eq_getElem hi] at this
      exact this
end
end Go.Proofs.Ytnaceobbbfbhhaa
