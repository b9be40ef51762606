/- A place in a box; what a round keeps. No program in sight. Conditions: none. -/
import Derived.Test.YtlbbgocggifjaaaBut
import Derived.Test.YtlbbgocggifjaaaWide
import Derived.Test.YtlbbgocggifjaaaStill
namespace Go.Proofs.Ytlbbgocggifjaaa
open Go.RowKit Go.Shelf

/-- A place in a box. -/
def BoxP (W : World) (B : Nat) (t : TypeId) (u v : Value) : Prop := W.heap[B]? = some (.cells #[u, v] t (0, 0))
theorem BoxP.c0 {W : World} {B : Nat} {t : TypeId} {u v : Value} (h : BoxP W B t u v) : W.cell? ⟨B, 0, none⟩ = some u := by simp [World.cell?, show W.heap[B]? = _ from h]
theorem BoxP.c1 {W : World} {B : Nat} {t : TypeId} {u v : Value} (h : BoxP W B t u v) : W.cell? ⟨B, 1, none⟩ = some v := by simp [World.cell?, show W.heap[B]? = _ from h]
theorem BoxP.lt {W : World} {B : Nat} {t : TypeId} {u v : Value} (h : BoxP W B t u v) : B < W.heap.size := (Array.getElem?_eq_some_iff.1 h).1
theorem BoxP.own {β : Type} (B n : Nat) (t : TypeId) (u v : Value) : OwnFrom (β := β) n (fun _ W => BoxP W B t u v) := fun _ X Y row hs hg hr => by
  refine (hg.block B hs.lt (fun e => ?_)).trans hs
  obtain ⟨o, ho, hc⟩ := (hr B e.symm).2
  rw [show X.heap[B]? = _ from hs] at ho
  cases ho; cases hc
theorem BoxP.other {W : World} {B C o : Nat} {t : TypeId} {u v z : Value} (h : BoxP W B t u v) (hne : B ≠ C) : BoxP (W.setCell ⟨C, o, none⟩ z) B t u v := (Below.heap_setCell _ _ _ B hne).trans h
theorem box_own {β : Type} (B n : Nat) (t : TypeId) (v : Value) : OwnFrom (β := β) n (fun _ W => Boxed W B t v) := fun _ X Y row hs hg hr => by
  refine hs.kept hg (fun e => ?_)
  obtain ⟨o, ho, hc⟩ := (hr B e.symm).2
  rw [show X.heap[B]? = _ from hs] at ho
  cases ho; cases hc
theorem box_put {W : World} {B D : Nat} {t : TypeId} {v : Value} (h : Boxed W B t v) (hK : W.heap[D]? = some (.deferred (some []))) : Boxed (W.putObj D (.deferred none)) B t v := by
  have hne : B ≠ D := fun e => by
    subst e
    rw [show W.heap[B]? = _ from h] at hK
    cases hK
  show (W.putObj D (.deferred none)).heap[B]? = _
  simp only [World.putObj]
  rw [Array.getElem?_setIfInBounds_ne (fun e => hne e.symm)]
  exact h
theorem lines_but {n : Nat} {E : List Nat} {X Y : World} {a : Option Addr} {L : List ByteArray} (h : But n E X Y) (hX : LinesAt X a L) (ha : 0 < L.length → ∀ b off, a = some ⟨b, off, none⟩ → b < n ∧ b ∉ E) : LinesAt Y a L :=
  ⟨fun i hi => by
    obtain ⟨b, off, e, hb, hc⟩ := hX.1 i hi
    obtain ⟨h1, h2⟩ := ha (by omega) b off e
    exact ⟨b, off, e, Nat.lt_of_lt_of_le hb h.size, (h.cell h1 h2).trans hc⟩, hX.2⟩
theorem boxP_new1 (W : World) (t : TypeId) (v : Value) {n : Nat} (h : n = W.heap.size) : Boxed (W.alloc (.cells #[v] t)) n t v := by subst h; exact Boxed.new W t v
theorem boxP_new2 (W : World) (t : TypeId) (u v : Value) : BoxP (W.alloc (.cells #[u, v] t)) W.heap.size t u v := World.alloc_heap_new W _
theorem wpStill_skip {P : Program} {ops : Array Oper} {w : World} {Q : Act → Prop} {a : Act} {o : Oper} {rest : List Oper} (h1 : Region.wanted o (yielded ops a.tmps) = false) (h : wpStill P ops w Q rest (a.put o.dst undef)) : wpStill P ops w Q (o :: rest) a := by
  unfold wpStill
  rw [h1]
  exact h
/-- A claim behind a name that nothing opens. -/
structure Shut (p : Prop) : Prop where
  out : p
theorem of_shut {p : Prop} (h : Shut p) : p := h.out
theorem hstill_step {P : Program} {ops : Array Oper} {w : World} {Q : Act → Prop} {a : Act} {o : Oper} {rest : List Oper}
    (h : ∀ K : Act → Prop, (∀ a, Shut (wpStill P ops w Q rest a) → K a) → if Region.wanted o (yielded ops a.tmps) then o.still P a w K else K (a.put o.dst undef)) : Shut (wpStill P ops w Q (o :: rest) a) :=
  ⟨wpStill_step (fun K hK => h K (fun a ha => hK a ha.out))⟩
theorem hstill_nil {P : Program} {ops : Array Oper} {w : World} {Q : Act → Prop} {a : Act} (h : Q a) : Shut (wpStill P ops w Q [] a) := ⟨wpStill_nil h⟩
theorem meas_lt {o : Option Value} {k l n : Nat} (h : o = some (.int .i64 (k : Int))) (hk : n - k < n - l) : n - (intOf (o.getD undef)).toNat < n - (l : Int).toNat := by
  subst h
  simpa [intOf] using hk
end Go.Proofs.Ytlbbgocggifjaaa
