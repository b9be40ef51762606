/- Several texts in one: Rng, Quote, But, Typ. Conditions: none beyond what each says. -/
import Derived.Test.YtlbbgocggifjaaaOI8
import Derived.RangeFuncNested
import Derived.RangeFuncBound
import Derived.RangeFuncCalls
import Derived.RangeFuncLeaves
import Derived.RangeFuncOne
import Derived.Shelf.Abstract
import Derived.Shelf.RegionOpen
import Derived.WalkKit
import Derived.OwnWalkIn
import Derived.TacticsInMore
import Derived.LoopNIn
import Derived.LoopIn
import Derived.Maps.AppendAt
import Derived.Test.YtlbbgocggifjaaaOI1
namespace Go.Proofs.Ytlbbgocggifjaaa
open Go.RowKit Go.Shelf

theorem grown_drew (W : World) : W.grownBy W.drew none := ⟨rfl, rfl, rfl, Nat.le_refl _, fun _ _ _ => rfl⟩
theorem grown_drewN (W : World) (n : Nat) : W.grownBy (W.drewN n) none := ⟨rfl, rfl, rfl, Nat.le_refl _, fun _ _ _ => rfl⟩
theorem cell_put {W : World} {D : Nat} {a : Addr} {v : Value} (h : W.cell? a = some v) (hK : W.heap[D]? = some (.deferred (some []))) : (W.putObj D (.deferred none)).cell? a = some v :=
  cell_kept h (grownBy_putObj' _ D (.deferred none)) (fun r e => by cases e; exact ⟨_, hK, rfl⟩)
theorem name_worldIn {F : Fence} {n : Nat} {P : Program} {c : Code} {Q : Exit → Act → World → Prop} {a : Act} {w : World} (h : ∀ W0, W0 = w → c.wpIn F n P Q a W0) : c.wpIn F n P Q a w := h w rfl
theorem below_put {n₀ : Nat} {w W : World} {D : Nat} (hD : n₀ ≤ D) (hK : W.heap[D]? = some (.deferred (some []))) (h : Below n₀ w W) : Below n₀ w (W.putObj D (.deferred none)) :=
  h.trans (belowK_b (w := { w with heap := Array.replicate n₀ default }) (by simp) W D _ _ (by simpa using hD) hK rfl rfl)
theorem keeps_below {W W' : World} {B : Nat} (h : Below W.heap.size W W') : KeepsFrom B W W' :=
  ⟨h.size, fun k _ _ hk _ => (h.block k (Array.getElem?_eq_some_iff.1 hk).1).trans hk⟩
end Go.Proofs.Ytlbbgocggifjaaa
namespace Go.Proofs.Ytlbbgocggifjaaa
open Go.RowKit Go.Shelf

attribute [local go_sem] Oper.semAt_some

set_option maxRecDepth 100000 in
set_option maxHeartbeats 2000000 in
theorem qpairs1_in (n : Nat) (hn : 1 ≤ n) (l Bs Bq n₀ : Nat) (s : ByteArray) (q : Int) (hbs : Bs < n₀) (hbq : Bq < n₀) (hs : s.size ≤ 140737488351232) (J Jx : List (Ivl s.size) → World → Prop)
    (hD : ∀ pre (X Y : World), J pre X → X.grownBy Y none → J pre Y)
    (hY : ∀ (pre : List (Ivl s.size)) (x : Ivl s.size) (X : World), J pre X → pre.length < s.size → YieldAt Fence.wide (n - 1) Try.prog l #[.int .i64 (x.1.1 : Int), .int .i64 (x.1.2 : Int)] X fun e X' =>
      (e = .returned (.bool true) ∧ J (pre ++ [x]) X' ∧ Below n₀ X X') ∨ (e = .returned (.bool false) ∧ Jx (pre ++ [x]) X'))
    (W : World) (hBs : W.cell? ⟨Bs, 0, none⟩ = some (.string s)) (hBq : W.cell? ⟨Bq, 0, none⟩ = some (.int .u8 q)) (h0 : J [] W) :
    CallsIn Fence.wide n Try.prog 97 #[.func (.yield l) #[] #[], .pointer (some ⟨Bs, 0, none⟩), .pointer (some ⟨Bq, 0, none⟩)] W fun e W' => (∃ v, e = .returned v) ∧
      ((∃ ys, ys.map Subtype.val = qpF s q none 0 ∧ J ys W') ∨ (∃ pre, pre.map Subtype.val <+: qpF s q none 0 ∧ Jx pre W')) := by
  obtain ⟨R, hR⟩ : ∃ R, qpF s q none 0 = R := ⟨_, rfl⟩
  rw [hR]
  have HR := Lib.hid hR
  clear hR
  refine callsIn_of_wp Try.func97 rfl trivial ?_ rfl
  simp only [Try.ntmps97, List.size_toArray, List.length_cons, List.length_nil, Nat.reduceAdd, Nat.reduceSub, Array.replicate_succ, Array.replicate_zero, List.push_toArray, List.append_toArray, List.nil_append, List.cons_append]
  gi_wp2
  gi_loopw [4, 8] (fun f i wr => ∃ (k : Nat) (o : Option Nat), k ≤ s.size ∧ i = .int .i64 k ∧ f = .int .i64 (fstI o) ∧ (∀ a, o = some a → a < k) ∧ ∃ pre : List (Ivl s.size), pre.length ≤ k ∧ Hid (pre.map Subtype.val ++ qpF s q o k = R) ∧ J pre wr ∧ Below n₀ W wr)
    (fun _ i _ => s.size - (intOf i).toNat)
  case atStart => exact ⟨0, none, Nat.zero_le _, rfl, rfl, (fun a h => by cases h), [], Nat.le_refl _, Lib.hid (by simpa using HR.out), h0, Below.refl _ _⟩
  case round =>
    obtain ⟨k, o, hk, rfl, rfl, ho, pre, hp, HK, hJ, hB⟩ := hrel
    have c1 : wr.cell? ⟨Bs, 0, none⟩ = some (.string s) := (hB.cell (p := ⟨Bs, 0, none⟩) hbs).trans hBs
    have c2 : wr.cell? ⟨Bq, 0, none⟩ = some (.int .u8 q) := (hB.cell (p := ⟨Bq, 0, none⟩) hbq).trans hBq
    by_cases hlt : k < s.size
    · have hb := byt_at' s k hlt
      have hltI : (k : Int) < (s.size : Int) := by omega
      obtain ⟨cc, hcc⟩ : ∃ cc : Int, (s[k].toNat : Int) = cc := ⟨_, rfl⟩
      rw [hcc] at hb
      have hd := hD
      by_cases h1 : cc = q
      · have t1 : (cc != q) = false := by rw [bne_eq_false_iff_eq]; exact h1
        cases o with
        | none =>
          have HK2 : Hid (pre.map Subtype.val ++ qpF s q (some k) (k + 1) = R) := Lib.hid (by rw [← qpF_open hlt (hb.trans h1)]; exact HK.out)
          have e1 : fstI none = -1 := rfl
          clear HK h1 hb ho
          gi_wp2
          gi_region
          all_goals gi_wp2
          go_roundw
          case rel => exact ⟨k + 1, some k, by omega, by go_num, rfl, (fun a e => by cases e; omega), pre, by omega, HK2, hD _ _ _ hJ (grown_drew _), hB.drew⟩
          case measure => simp [intOf]; omega
        | some a =>
          have ha := ho a rfl
          have e1 : fstI (some a) = (a : Int) := rfl
          have HK2 : Hid ((pre ++ [(⟨(a, k), by omega, by omega⟩ : Ivl s.size)]).map Subtype.val ++ qpF s q none (k + 1) = R) := Lib.hid (by rw [← HK.out, qpF_shut hlt (hb.trans h1)]; simp)
          obtain ⟨fn, tmps, assign, body, hy, hR⟩ := hY pre ⟨(a, k), by omega, by omega⟩ wr.drew (hD _ _ _ hJ (grown_drew _)) (by omega)
          dsimp only at hy
          have ha0 : (0 : Int) ≤ (a : Int) := by omega
          clear HK h1 hb ho
          gi_wp2
          gi_region
          all_goals gi_wp2
          refine hR.mono ?_
          rintro e W3 (⟨rfl, hJ3, hk3⟩ | ⟨rfl, hJx3⟩)
          · gi_wp2
            go_roundw
            case rel => exact ⟨k + 1, none, by omega, by go_num, rfl, (fun a e => by cases e), _, by simp; omega, HK2, hJ3, hB.drew.trans hk3⟩
            case measure => simp [intOf]; omega
          · gi_wp2
            refine bodyPost_ret (results_none rfl _ _ _) rfl ?_
            exact ⟨⟨_, rfl⟩, .inr ⟨_, ⟨_, HK2.out⟩, hJx3⟩⟩
      · have t1 : (cc != q) = true := by rw [bne_iff_ne]; exact h1
        have HK2 : Hid (pre.map Subtype.val ++ qpF s q o (k + 1) = R) := Lib.hid (by rw [← qpF_no hlt (by rw [hb]; exact h1)]; exact HK.out)
        clear HK h1 hb
        gi_wp2
        gi_region
        all_goals gi_wp2
        go_roundw
        case rel => exact ⟨k + 1, o, by omega, by go_num, rfl, (fun a e => by have := ho a e; omega), pre, by omega, HK2, hD _ _ _ hJ (grown_drew _), hB.drew⟩
        case measure => simp [intOf]; omega
    · have HE : Hid (pre.map Subtype.val = R) := Lib.hid (by have := HK.out; rwa [qpF_end (by omega), List.append_nil] at this)
      gi_wp2
      go_end0
      exact ⟨⟨_, rfl⟩, .inl ⟨pre, HE.out, hJ⟩⟩
end Go.Proofs.Ytlbbgocggifjaaa
namespace Go.Proofs.Ytlbbgocggifjaaa
open Go.RowKit Go.Shelf

/-- Below block n all lies as it lay, but for the blocks E. -/
structure But (n : Nat) (E : List Nat) (X Y : World) : Prop where
  os : Y.os = X.os
  tape : Y.tape = X.tape
  output : Y.output = X.output
  size : X.heap.size ≤ Y.heap.size
  block : ∀ k, k < n → k ∉ E → Y.heap[k]? = X.heap[k]?
theorem But.refl (n : Nat) (E : List Nat) (X : World) : But n E X X := ⟨rfl, rfl, rfl, Nat.le_refl _, fun _ _ _ => rfl⟩
theorem But.trans {n : Nat} {E : List Nat} {X Y Z : World} (h : But n E X Y) (k : But n E Y Z) : But n E X Z :=
  ⟨k.os.trans h.os, k.tape.trans h.tape, k.output.trans h.output, Nat.le_trans h.size k.size, fun i hi he => (k.block i hi he).trans (h.block i hi he)⟩
theorem But.of_below {n : Nat} {E : List Nat} {X Y : World} (h : Below n X Y) : But n E X Y := ⟨h.os, h.tape, h.output, h.size, fun k hk _ => h.block k hk⟩
theorem But.cell {n : Nat} {E : List Nat} {X Y : World} (h : But n E X Y) {b o : Nat} (hb : b < n) (he : b ∉ E) : Y.cell? ⟨b, o, none⟩ = X.cell? ⟨b, o, none⟩ := by
  simp [World.cell?, h.block b hb he]
theorem But.frozen {n : Nat} {E : List Nat} {X Y : World} (h : But n E X Y) {b o : Nat} (hb : b < n) (he : b ∉ E) : Y.frozen? ⟨b, o, none⟩ = X.frozen? ⟨b, o, none⟩ := by
  simp [World.frozen?, h.block b hb he]
theorem But.setCell {n : Nat} {E : List Nat} {X Y : World} (h : But n E X Y) {b : Nat} (hb : b ∈ E ∨ n ≤ b) (o : Nat) (v : Value) : But n E X (Y.setCell ⟨b, o, none⟩ v) :=
  ⟨h.os, h.tape, h.output, by simpa [World.setCell] using h.size, fun k hk he => by
    rw [← h.block k hk he]
    exact Below.heap_setCell _ _ _ k (fun e => by
      have e' : k = b := e
      subst e'
      rcases hb with hb | hb
      · exact he hb
      · omega)⟩
theorem But.grown {n : Nat} {E : List Nat} {X Y Z : World} {row : Option Nat} (h : But n E X Y) (hn : n ≤ Y.heap.size) (g : Y.grownBy Z row) (hr : ∀ r, row = some r → n ≤ r) : But n E X Z :=
  ⟨g.os.trans h.os, g.tape.trans h.tape, g.output.trans h.output, Nat.le_trans h.size g.size, fun k hk he => (g.block k (by omega) (fun e => by have := hr k e.symm; omega)).trans (h.block k hk he)⟩
theorem But.alloc {n : Nat} {E : List Nat} {X Y : World} (h : But n E X Y) (hn : n ≤ Y.heap.size) (o : Obj) : But n E X (Y.alloc o) := h.grown hn (World.grownBy_alloc Y o none) (fun r e => by cases e)
theorem But.drew {n : Nat} {E : List Nat} {X Y : World} (h : But n E X Y) : But n E X Y.drew := ⟨h.os, h.tape, h.output, h.size, h.block⟩
theorem But.drewN {n : Nat} {E : List Nat} {X Y : World} (h : But n E X Y) (m : Nat) : But n E X (Y.drewN m) := ⟨h.os, h.tape, h.output, h.size, h.block⟩
theorem But.below {n m : Nat} {E : List Nat} {w X Y : World} (h : But n E X Y) (hw : Below m w X) (hm : m ≤ n) (hE : ∀ k ∈ E, m ≤ k) : Below m w Y :=
  ⟨h.os.trans hw.os, h.tape.trans hw.tape, h.output.trans hw.output, Nat.le_trans hw.size h.size, fun k hk => (h.block k (by omega) (fun e => by have := hE k e; omega)).trans (hw.block k hk)⟩
theorem butK_b {n : Nat} {E : List Nat} {w : World} (hn : n ≤ w.heap.size) (W : World) (l : Nat) (o o' : Obj) (hl : w.heap.size ≤ l) (h : W.heap[l]? = some o) (h1 : o.isCells = false) (h2 : o.isWalk = false) : But n E W (W.putObj l o') :=
  But.of_below (belowK_b (w := w) hn W l o o' hl h h1 h2)
theorem butFrom {β : Type} {n B : Nat} {E : List Nat} {w₀ : World} (hn : n ≤ w₀.heap.size) (hB : n ≤ B) : OwnFrom B (fun (_ : β) W => But n E w₀ W) :=
  fun _ X Y row hs hg hr => hs.grown (by have := hs.size; omega) hg (fun r e => by have := (hr r e).1; omega)
theorem but_appended {X w1 : World} {n B : Nat} {E : List Nat} {t e : TypeId} {size : Nat} {v v' : Value} {k m : Nat} {xs ys : List Value} (hv : Boxed X B t v) (hte : t ≠ e) (hrow : X.ownsRow n e size v k xs) (hown' : w1.ownsRow n e size v' m ys)
    (hgrow : X.grownBy w1 v.ownBlock) (hn : n ≤ X.heap.size) (hE : B ∈ E) :
    Boxed w1 B t v ∧ Boxed (w1.setCell ⟨B, 0, none⟩ v') B t v' ∧ (w1.setCell ⟨B, 0, none⟩ v').ownsRow n e size v' m ys ∧ KeepsOthers X (w1.setCell ⟨B, 0, none⟩ v') ∧ But n E X (w1.setCell ⟨B, 0, none⟩ v') := by
  have hv1 : Boxed w1 B t v := hv.kept hgrow (hv.not_row hte hrow)
  refine ⟨hv1, hv1.set v', hown'.kept (grownBy_setCell' w1 B v') (.inr (hv1.not_row hte hown').symm), ?_, ?_⟩
  · refine (KeepsOthers.of_grownBy hgrow fun j o ej hj => ?_).trans (KeepsOthers.setCell _ _ _)
    rcases hrow.2 with ⟨rfl, _⟩ | ⟨g, cap, cur, rfl, _, hgb, _⟩
    · simp [Value.ownBlock] at ej
    · obtain rfl : g = j := by simpa [Value.ownBlock] using ej
      rw [hgb] at hj; cases hj; rfl
  · exact ((But.refl n E X).grown hn hgrow fun j ej => (hrow.lt j ej).1).setCell (.inl hE) 0 v'
/-- The builtin append, held, so that a region's walk takes it by its equation alone. -/
def appHold (tys : Array TypeId) (ty : TypeId) (args : Array Value) : Sem Value := Builtin.append_ tys ty args
theorem append_hold (tys : Array TypeId) (ty : TypeId) (args : Array Value) : Builtin.append_ tys ty args = appHold tys ty args := rfl
end Go.Proofs.Ytlbbgocggifjaaa
namespace Go.Proofs.Ytlbbgocggifjaaa
open Go.RowKit Go.Shelf

/-- Below block n all lies as it lay, and so does each block of cells of type t; but for the blocks E. -/
structure Typ (t : TypeId) (n : Nat) (E : List Nat) (X Y : World) : Prop where
  os : Y.os = X.os
  tape : Y.tape = X.tape
  output : Y.output = X.output
  size : X.heap.size ≤ Y.heap.size
  block : ∀ k, k < n → k < X.heap.size → k ∉ E → Y.heap[k]? = X.heap[k]?
  row : ∀ k cs m, X.heap[k]? = some (.cells cs t m) → k ∉ E → Y.heap[k]? = some (.cells cs t m)
theorem Typ.refl (t : TypeId) (n : Nat) (E : List Nat) (X : World) : Typ t n E X X := ⟨rfl, rfl, rfl, Nat.le_refl _, fun _ _ _ _ => rfl, fun _ _ _ h _ => h⟩
theorem Typ.trans {t : TypeId} {n : Nat} {E : List Nat} {X Y Z : World} (h : Typ t n E X Y) (k : Typ t n E Y Z) : Typ t n E X Z :=
  ⟨k.os.trans h.os, k.tape.trans h.tape, k.output.trans h.output, Nat.le_trans h.size k.size, fun i hi hx he => (k.block i hi (Nat.lt_of_lt_of_le hx h.size) he).trans (h.block i hi hx he), fun i cs m hi he => k.row i cs m (h.row i cs m hi he) he⟩
theorem Typ.cell {t : TypeId} {n : Nat} {E : List Nat} {X Y : World} (h : Typ t n E X Y) {b o : Nat} {v : Value} (hb : b < n) (he : b ∉ E) (hc : X.cell? ⟨b, o, none⟩ = some v) : Y.cell? ⟨b, o, none⟩ = some v := by
  rw [← hc]
  simp [World.cell?, h.block b hb (World.block_lt_of_cell? _ _ hc) he]
theorem Typ.grown {t : TypeId} {n : Nat} {E : List Nat} {X Y Z : World} {r : Option Nat} (h : Typ t n E X Y) (g : Y.grownBy Z r) (hr : ∀ j, r = some j → (n ≤ j ∨ j ∈ E) ∧ (j ∈ E ∨ ∀ cs m, Y.heap[j]? ≠ some (.cells cs t m))) : Typ t n E X Z :=
  h.trans ⟨g.os, g.tape, g.output, g.size, fun k hk hx he => g.block k hx (fun e => by
      rcases (hr k e.symm).1 with h1 | h1
      · omega
      · exact he h1), fun k cs m hk he => by
      rw [g.block k (Array.getElem?_eq_some_iff.1 hk).1 (fun e => by
        rcases (hr k e.symm).2 with h1 | h1
        · exact he h1
        · exact h1 cs m hk)]
      exact hk⟩
theorem Typ.alloc {t : TypeId} {n : Nat} {E : List Nat} {X Y : World} (h : Typ t n E X Y) (o : Obj) : Typ t n E X (Y.alloc o) := h.grown (World.grownBy_alloc Y o none) (fun r e => by cases e)
theorem Typ.setCell {t : TypeId} {n : Nat} {E : List Nat} {X Y : World} (h : Typ t n E X Y) {b : Nat} (hb : b ∈ E) (o : Nat) (v : Value) : Typ t n E X (Y.setCell ⟨b, o, none⟩ v) :=
  h.trans ⟨rfl, rfl, rfl, by simp [World.setCell], fun k _ _ he => Below.heap_setCell _ _ _ k (fun e => he (by have e' : k = b := e; rw [e']; exact hb)),
    fun k cs m hk he => (Below.heap_setCell _ _ _ k (fun e => he (by have e' : k = b := e; rw [e']; exact hb))).trans hk⟩
theorem Typ.drew {t : TypeId} {n : Nat} {E : List Nat} {X Y : World} (h : Typ t n E X Y) : Typ t n E X Y.drew := ⟨h.os, h.tape, h.output, h.size, h.block, h.row⟩
theorem Typ.drewN {t : TypeId} {n : Nat} {E : List Nat} {X Y : World} (h : Typ t n E X Y) (m : Nat) : Typ t n E X (Y.drewN m) := ⟨h.os, h.tape, h.output, h.size, h.block, h.row⟩
theorem Typ.of_below {t : TypeId} {n : Nat} {E : List Nat} {X Y : World} (h : Below X.heap.size X Y) : Typ t n E X Y :=
  ⟨h.os, h.tape, h.output, h.size, fun k _ hx _ => h.block k hx, fun k _cs _m hk _ => (h.block k (Array.getElem?_eq_some_iff.1 hk).1).trans hk⟩
theorem Typ.below {t : TypeId} {n m : Nat} {E : List Nat} {w X Y : World} (h : Typ t n E X Y) (hw : Below m w X) (hm : m ≤ n) (hx : m ≤ X.heap.size) (hE : ∀ k ∈ E, m ≤ k) : Below m w Y :=
  ⟨h.os.trans hw.os, h.tape.trans hw.tape, h.output.trans hw.output, Nat.le_trans hw.size h.size, fun k hk => (h.block k (by omega) (by omega) (fun e => by have := hE k e; omega)).trans (hw.block k hk)⟩
theorem typK_b {t : TypeId} {n : Nat} {E : List Nat} {w : World} (hn : n ≤ w.heap.size) (W : World) (l : Nat) (o o' : Obj) (hl : w.heap.size ≤ l) (h : W.heap[l]? = some o) (h1 : o.isCells = false) (_ : o.isWalk = false) : Typ t n E W (W.putObj l o') :=
  (Typ.refl t n E W).grown (grownBy_putObj' W l o') (fun j e => by
    cases e
    refine ⟨.inl (by omega), .inr (fun cs m e => ?_)⟩
    rw [h] at e
    cases e
    simp [Obj.isCells] at h1)
/-- An owned row of type t lies as it lay. -/
theorem Typ.row_kept {t : TypeId} {n base size k : Nat} {E : List Nat} {X Y : World} {v : Value} {xs : List Value} (h : Typ t n E X Y) (hr : X.ownsRow base t size v k xs) (hE : ∀ j ∈ E, j < base) : Y.ownsRow base t size v k xs := by
  refine ⟨hr.1, ?_⟩
  rcases hr.2 with h0 | ⟨g, cap, cur, e, hb, hg, hc, hm, hs, ht⟩
  · exact .inl h0
  · exact .inr ⟨g, cap, cur, e, hb, h.row g cur _ hg (fun hh => by have := hE g hh; omega), hc, hm, hs, ht⟩
/-- A row of another type, in which a round writes. -/
theorem own_other {t e : TypeId} {base size k : Nat} {X : World} {v : Value} {xs : List Value} (hte : e ≠ t) (hr : X.ownsRow base e size v k xs) : ∀ j, v.ownBlock = some j → base ≤ j ∧ ∀ cs m, X.heap[j]? ≠ some (.cells cs t m) := by
  intro j hj
  rcases hr.2 with ⟨rfl, _⟩ | ⟨g, cap, cur, rfl, hb, hg, _⟩
  · simp [Value.ownBlock] at hj
  · obtain rfl : g = j := by simpa [Value.ownBlock] using hj
    refine ⟨hb, fun cs m e => ?_⟩
    rw [hg] at e
    cases e
    exact hte rfl
end Go.Proofs.Ytlbbgocggifjaaa
