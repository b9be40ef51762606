/- Small words for memory: a world with more laid over it, a text in memory. No program in sight. Conditions: none. -/
import Derived.WalkKit
import Derived.WalkSpells
import Derived.WalkLawsBesides
import Derived.Deep.QuietTactic
import Derived.BigQuiet
import Derived.Lib.Hide
namespace Go.Proofs.Ytlbbgocggifjaaa
open Go.RowKit

theorem ret_int {k : IntKind} {a b : Int} (h : a = b) : Ending.returned (.int k a) = Ending.returned (.int k b) := by rw [h]
theorem ret_bool {a b : Bool} (h : a = b) : Ending.returned (.bool a) = Ending.returned (.bool b) := by rw [h]
theorem ret_val {a b : Value} (h : a = b) : Ending.returned a = Ending.returned b := by rw [h]
/-! Simp's own discharger goes two steps deep alone: so each length has its lemma. -/
@[go_sem] theorem lt_more1 {a b c1 : Nat} (h : a < b) : a < b + c1 := by omega
@[go_sem] theorem lt_more2 {a b c1 c2 : Nat} (h : a < b) : a < b + c1 + c2 := by omega
@[go_sem] theorem lt_own2 (a c2 : Nat) : a < a + 1 + c2 := by omega
@[go_sem] theorem lt_more3 {a b c1 c2 c3 : Nat} (h : a < b) : a < b + c1 + c2 + c3 := by omega
@[go_sem] theorem lt_own3 (a c2 c3 : Nat) : a < a + 1 + c2 + c3 := by omega
@[go_sem] theorem lt_more4 {a b c1 c2 c3 c4 : Nat} (h : a < b) : a < b + c1 + c2 + c3 + c4 := by omega
@[go_sem] theorem lt_own4 (a c2 c3 c4 : Nat) : a < a + 1 + c2 + c3 + c4 := by omega
@[go_sem] theorem lt_more5 {a b c1 c2 c3 c4 c5 : Nat} (h : a < b) : a < b + c1 + c2 + c3 + c4 + c5 := by omega
@[go_sem] theorem lt_own5 (a c2 c3 c4 c5 : Nat) : a < a + 1 + c2 + c3 + c4 + c5 := by omega
@[go_sem] theorem lt_more6 {a b c1 c2 c3 c4 c5 c6 : Nat} (h : a < b) : a < b + c1 + c2 + c3 + c4 + c5 + c6 := by omega
@[go_sem] theorem lt_own6 (a c2 c3 c4 c5 c6 : Nat) : a < a + 1 + c2 + c3 + c4 + c5 + c6 := by omega
@[go_sem] theorem lt_more7 {a b c1 c2 c3 c4 c5 c6 c7 : Nat} (h : a < b) : a < b + c1 + c2 + c3 + c4 + c5 + c6 + c7 := by omega
@[go_sem] theorem lt_own7 (a c2 c3 c4 c5 c6 c7 : Nat) : a < a + 1 + c2 + c3 + c4 + c5 + c6 + c7 := by omega
@[go_sem] theorem lt_more8 {a b c1 c2 c3 c4 c5 c6 c7 c8 : Nat} (h : a < b) : a < b + c1 + c2 + c3 + c4 + c5 + c6 + c7 + c8 := by omega
@[go_sem] theorem lt_own8 (a c2 c3 c4 c5 c6 c7 c8 : Nat) : a < a + 1 + c2 + c3 + c4 + c5 + c6 + c7 + c8 := by omega
@[go_sem] theorem lt_more9 {a b c1 c2 c3 c4 c5 c6 c7 c8 c9 : Nat} (h : a < b) : a < b + c1 + c2 + c3 + c4 + c5 + c6 + c7 + c8 + c9 := by omega
@[go_sem] theorem lt_own9 (a c2 c3 c4 c5 c6 c7 c8 c9 : Nat) : a < a + 1 + c2 + c3 + c4 + c5 + c6 + c7 + c8 + c9 := by omega
@[go_sem] theorem lt_more10 {a b c1 c2 c3 c4 c5 c6 c7 c8 c9 c10 : Nat} (h : a < b) : a < b + c1 + c2 + c3 + c4 + c5 + c6 + c7 + c8 + c9 + c10 := by omega
@[go_sem] theorem lt_own10 (a c2 c3 c4 c5 c6 c7 c8 c9 c10 : Nat) : a < a + 1 + c2 + c3 + c4 + c5 + c6 + c7 + c8 + c9 + c10 := by omega
@[go_sem] theorem lt_more11 {a b c1 c2 c3 c4 c5 c6 c7 c8 c9 c10 c11 : Nat} (h : a < b) : a < b + c1 + c2 + c3 + c4 + c5 + c6 + c7 + c8 + c9 + c10 + c11 := by omega
@[go_sem] theorem lt_own11 (a c2 c3 c4 c5 c6 c7 c8 c9 c10 c11 : Nat) : a < a + 1 + c2 + c3 + c4 + c5 + c6 + c7 + c8 + c9 + c10 + c11 := by omega
@[go_sem] theorem lt_more12 {a b c1 c2 c3 c4 c5 c6 c7 c8 c9 c10 c11 c12 : Nat} (h : a < b) : a < b + c1 + c2 + c3 + c4 + c5 + c6 + c7 + c8 + c9 + c10 + c11 + c12 := by omega
@[go_sem] theorem lt_own12 (a c2 c3 c4 c5 c6 c7 c8 c9 c10 c11 c12 : Nat) : a < a + 1 + c2 + c3 + c4 + c5 + c6 + c7 + c8 + c9 + c10 + c11 + c12 := by omega
@[go_sem] theorem lt_more13 {a b c1 c2 c3 c4 c5 c6 c7 c8 c9 c10 c11 c12 c13 : Nat} (h : a < b) : a < b + c1 + c2 + c3 + c4 + c5 + c6 + c7 + c8 + c9 + c10 + c11 + c12 + c13 := by omega
@[go_sem] theorem lt_own13 (a c2 c3 c4 c5 c6 c7 c8 c9 c10 c11 c12 c13 : Nat) : a < a + 1 + c2 + c3 + c4 + c5 + c6 + c7 + c8 + c9 + c10 + c11 + c12 + c13 := by omega
@[go_sem] theorem lt_more14 {a b c1 c2 c3 c4 c5 c6 c7 c8 c9 c10 c11 c12 c13 c14 : Nat} (h : a < b) : a < b + c1 + c2 + c3 + c4 + c5 + c6 + c7 + c8 + c9 + c10 + c11 + c12 + c13 + c14 := by omega
@[go_sem] theorem lt_own14 (a c2 c3 c4 c5 c6 c7 c8 c9 c10 c11 c12 c13 c14 : Nat) : a < a + 1 + c2 + c3 + c4 + c5 + c6 + c7 + c8 + c9 + c10 + c11 + c12 + c13 + c14 := by omega
theorem name_world {P : Program} {c : Code} {Q : Exit → Act → World → Prop} {a : Act} {w : World} (h : ∀ W0, W0 = w → c.wp P Q a W0) : c.wp P Q a w := h w rfl
/-- w, and behind its blocks those of x. -/
def ovr (w x : World) : World := { w with heap := w.heap ++ x.heap, drawn := x.drawn }

section
variable {w w' x : World}
@[go_sem, simp] theorem size_ovr (w x : World) : (ovr w x).heap.size = w.heap.size + x.heap.size := by simp [ovr]
theorem heap_ovr (w x : World) (k : Nat) (h : k < w.heap.size) : (ovr w x).heap[k]? = w.heap[k]? := by
  simp [ovr, Array.getElem?_append, h]
@[go_sem] theorem cell?_ovr (w x : World) (b o : Nat) (h : b < w.heap.size) : (ovr w x).cell? ⟨b, o, none⟩ = w.cell? ⟨b, o, none⟩ := by
  simp [World.cell?, heap_ovr w x b h]
@[go_sem] theorem frozen?_ovr (w x : World) (b o : Nat) (h : b < w.heap.size) : (ovr w x).frozen? ⟨b, o, none⟩ = w.frozen? ⟨b, o, none⟩ := by
  simp [World.frozen?, heap_ovr w x b h]
/-- A store below what is laid over. -/
@[go_sem] theorem setCell_ovr (w x : World) (b o : Nat) (v : Value) (h : b < w.heap.size) : (ovr w x).setCell ⟨b, o, none⟩ v = ovr (w.setCell ⟨b, o, none⟩ v) x := by
  simp only [World.setCell, ovr]
  congr 1
  apply Array.ext_getElem?
  intro k
  simp only [Array.getElem?_modify, Array.getElem?_append, Array.size_modify]
  by_cases hk : k < w.heap.size
  · simp [hk]
  · rw [if_neg (by omega)]
    simp [hk]
@[go_sem] theorem drew_ovr (w x : World) : (ovr w x).drew = ovr w x.drew := rfl
@[go_sem] theorem drewN_ovr (w x : World) (n : Nat) : (ovr w x).drewN n = ovr w (x.drewN n) := rfl
theorem below_ovr (w x : World) : Below w.heap.size w (ovr w x) :=
  ⟨rfl, rfl, rfl, by simp, fun k hk => heap_ovr w x k hk⟩
theorem ovr_of_below (h : Below w.heap.size w w') : ∃ x, w' = ovr w x := by
  refine ⟨{ w' with heap := w'.heap.extract w.heap.size w'.heap.size }, ?_⟩
  have hh : w'.heap = w.heap ++ w'.heap.extract w.heap.size w'.heap.size := by
    apply Array.ext_getElem?
    intro k
    by_cases hk : k < w.heap.size
    · rw [h.block k hk]; simp [Array.getElem?_append, hk]
    · have := h.size
      rw [Array.getElem?_append, if_neg hk]
      by_cases hk2 : k < w'.heap.size
      · simp [Array.getElem?_extract]
        rw [if_pos (by omega), Nat.add_sub_cancel' (by omega)]
      · rw [Array.getElem?_eq_none (by omega), Array.getElem?_eq_none (by simp; omega)]
  obtain ⟨h1, h2, h3, h4, h5⟩ := w'
  obtain ⟨a1, a2, a3, a4, a5⟩ := w
  have e1 := h.os
  have e2 := h.tape
  have e3 := h.output
  simp only at e1 e2 e3 hh
  subst e1; subst e2; subst e3
  simp only [ovr]
  rw [← hh]
theorem quiet_ovr {P : Program} {f : FuncId} {args : Array Value} {W x : World} {v : Value}
    (h : Calls P f args (ovr W x) fun e w' => e = .returned v ∧ Below (ovr W x).heap.size (ovr W x) w') : Calls P f args (ovr W x) fun e w'' => e = .returned v ∧ ∃ y, w'' = ovr W y :=
  h.mono fun _ _ ⟨he, hb⟩ => ⟨he, ovr_of_below ((below_ovr W x).trans (hb.mono (by simp)))⟩
theorem quiet_same {P : Program} {f : FuncId} {args : Array Value} {W x : World} {v : Value}
    (h : Calls P f args (ovr W x) fun e w' => e = .returned v ∧ ovr W x = w') : Calls P f args (ovr W x) fun e w'' => e = .returned v ∧ ∃ y, w'' = ovr W y :=
  h.mono fun _ _ ⟨he, hb⟩ => ⟨he, x, hb.symm⟩
theorem calls_below {P : Program} {f : FuncId} {args : Array Value} {W : World} {v : Value}
    (h : Calls P f args W fun e w' => e = .returned v ∧ Below W.heap.size W w') : Calls P f args W fun e w' => e = .returned v ∧ ∃ x, ovr W x = w' :=
  h.mono fun _ _ ⟨he, hb⟩ => ⟨he, let ⟨x, hx⟩ := ovr_of_below hb; ⟨x, hx.symm⟩⟩
theorem draw_ovr (w : World) : ∃ x, { w with drawn := w.drawn + 1 } = ovr w x := ⟨{ w with heap := #[], drawn := w.drawn + 1 }, by simp [ovr]⟩
theorem below_ovr_of {a : World} (h : Below a.heap.size a w) : Below a.heap.size a (ovr w x) := h.trans ((below_ovr w x).mono h.size)
theorem drew_below {B : Nat} {a : World} (h : Below B a w) (n : Nat) : Below B a (w.drewN n) := ⟨h.os, h.tape, h.output, h.size, h.block⟩

theorem wp_region_ovr {P : Program} {id : Nat} {Q : Exit → Act → World → Prop} {a : Act} {w : World} {l : List Oper} (hm : P.follows .mixedOrders = true) (hB : Region.lexB .any l.toArray = true)
    (h : wpQuiet P l.toArray (fun w' => ∃ x, w' = ovr w x) (fun a' => ∀ w', (∃ x, w' = ovr w x) → Q .normal a' w') l a) : (Code.region id l.toArray true).wp P Q a w :=
  wp_region_quiet (C := fun w' => ∃ x, w' = ovr w x) hm hB (draw_ovr w) (by simpa using h)

/-- The lines L lie in memory at address a. -/
def LinesAt (w : World) (a : Option Addr) (L : List ByteArray) : Prop :=
  (∀ i, i < L.length → ∃ b off, a = some ⟨b, off, none⟩ ∧ b < w.heap.size ∧ w.cell? ⟨b, off + i, none⟩ = some (.string (L.getD i .empty))) ∧ L.length ≤ 140737488351232 ∧ ∀ s ∈ L, s.size ≤ 140737488351232
theorem LinesAt.below {a : Option Addr} {L : List ByteArray} (h : LinesAt w a L) {B : Nat} (hb : Below B w w') (hB : w.heap.size ≤ B) : LinesAt w' a L :=
  ⟨fun i hi => by
    obtain ⟨b, off, e, hlt, hc⟩ := h.1 i hi
    exact ⟨b, off, e, Nat.lt_of_lt_of_le hlt hb.size, (hb.cell (p := ⟨b, off + i, none⟩) (Nat.lt_of_lt_of_le hlt hB)).trans hc⟩, h.2⟩
theorem LinesAt.ovr {a : Option Addr} {L : List ByteArray} (h : LinesAt w a L) (x : World) : LinesAt (ovr w x) a L := h.below (below_ovr w x) (Nat.le_refl _)
theorem LinesAt.alloc {a : Option Addr} {L : List ByteArray} (h : LinesAt w a L) (o : Obj) : LinesAt (w.alloc o) a L := h.below ((Below.refl w.heap.size w).alloc (Nat.le_refl _) o) (Nat.le_refl _)
theorem LinesAt.drew {a : Option Addr} {L : List ByteArray} (h : LinesAt w a L) : LinesAt w.drew a L := h
theorem LinesAt.drewN {a : Option Addr} {L : List ByteArray} (h : LinesAt w a L) (n : Nat) : LinesAt (w.drewN n) a L := h
theorem LinesAt.setCell {a : Option Addr} {L : List ByteArray} (h : LinesAt w a L) {B : Nat} (h0 : ∀ b off, a = some ⟨b, off, none⟩ → b < B) {p : Addr} (hp : B ≤ p.block) (v : Value) : LinesAt (w.setCell p v) a L :=
  ⟨fun i hi => by
    obtain ⟨b, off, e, hlt, hc⟩ := h.1 i hi
    have := h0 b off e
    refine ⟨b, off, e, by simpa [World.setCell] using hlt, ?_⟩
    rw [World.cell?_setCell_other _ _ _ _ (fun e => by subst e; simp at hp; omega)]
    exact hc, h.2⟩
theorem LinesAt.split {a : Option Addr} {L : List ByteArray} (h : LinesAt w a L) : L = [] ∨
    ∃ b off, a = some ⟨b, off, none⟩ ∧ b < w.heap.size ∧ 0 < L.length ∧ (∀ i, i < L.length → w.cell? ⟨b, off + i, none⟩ = some (.string (L.getD i .empty))) ∧ ∀ i, i < L.length → (L.getD i .empty).size ≤ 140737488351232 := by
  by_cases h0 : L.length = 0
  · exact .inl (List.eq_nil_of_length_eq_zero h0)
  · obtain ⟨b, off, e, hlt, _⟩ := h.1 0 (by omega)
    refine .inr ⟨b, off, e, hlt, by omega, fun i hi => ?_, fun i hi => ?_⟩
    · obtain ⟨b', off', e', _, hc⟩ := h.1 i hi
      rw [e] at e'; cases e'
      exact hc
    · refine h.2.2 _ ?_
      rw [List.getD_eq_getElem?_getD, List.getElem?_eq_getElem hi]
      exact List.getElem_mem hi
/-- What a walk is told of line i. -/
theorem LinesAt.line {a : Option Addr} {L : List ByteArray} (h : LinesAt w a L) {i : Nat} (hi : i < L.length) :
    ∃ b off, a = some ⟨b, off, none⟩ ∧ b < w.heap.size ∧ w.cell? ⟨b, off + i, none⟩ = some (.string (L.getD i .empty)) ∧ (L.getD i .empty).size ≤ 140737488351232 := by
  obtain ⟨b, off, e, hlt, hc⟩ := h.1 i hi
  refine ⟨b, off, e, hlt, hc, h.2.2 _ ?_⟩
  rw [List.getD_eq_getElem?_getD, List.getElem?_eq_getElem hi]
  exact List.getElem_mem hi
/-- Lines that the call has just laid. -/
theorem lines_new (w : World) (t : TypeId) (L : List ByteArray) (hn : L.length ≤ 100) (hs : ∀ s ∈ L, s.size ≤ 1000) {A : Array Value} (hA : A = (L.map Value.string).toArray) {n : Nat} (hw : n = w.heap.size) :
    LinesAt (w.alloc (.cells A t)) (some ⟨n, 0, none⟩) L := by
  subst hA; subst hw
  refine ⟨fun i hi => ⟨w.heap.size, 0, rfl, by simp, ?_⟩, by omega, fun s h => by have := hs s h; omega⟩
  simp [go_sem, List.getD_eq_getElem?_getD, hi]
end
end Go.Proofs.Ytlbbgocggifjaaa
