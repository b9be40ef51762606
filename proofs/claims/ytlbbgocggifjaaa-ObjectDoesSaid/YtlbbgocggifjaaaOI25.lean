/- A region that draws its order in a round: reads and still calls ahead, the rest in order. No program in sight. Conditions: none. -/
import Derived.Test.YtlbbgocggifjaaaOI21
import Derived.StillTailTactics
import Derived.Deep.RegionHeld3
namespace Go.Proofs.Ytlbbgocggifjaaa
open Go.RowKit Go.Shelf

theorem rowsIn_wide' {n : Nat} {P : Program} {row : String} {args : Array Value} {w : World} {R : Value → World → Prop} (h : Rows P row args w R) : RowsIn Fence.wide n P row args w R := fun c cs _ =>
  let ⟨v, w', r, s⟩ := h c cs
  ⟨v, w', r, stepsIn_wide.2 s⟩
theorem uponIn_of_upon {m l : Nat} {P : Program} {o : Oper} {a : Act} {K : Act → World → Prop} {Q : Exit → Act → World → Prop} {r : Result Next} (h : o.upon P a K Q r) : o.uponIn (Fence.wide.inRound l) m P a K Q r := by
  cases r with
  | ok x w' =>
    cases x with
    | value v => exact h
    | skip => exact h
    | defer d => exact h
    | enter f args => exact ⟨fun h => by simp [Fence.wide] at h, CallsIn.inRound l (callsIn_wide.2 h)⟩
    | row row args => exact ⟨fun h => by simp [Fence.wide] at h, rowsIn_wide' h⟩
    | _ => exact h.elim
  | halt x w' => cases x <;> exact h
theorem wpIn_of_wp {m l : Nat} {P : Program} {o : Oper} {a : Act} {w : World} {K : Act → World → Prop} {Q : Exit → Act → World → Prop} (hd : ∀ c, o.op ≠ .defer c) (h : o.wp P a w K Q) : o.wpIn (Fence.wide.inRound l) m P a w K Q := by
  refine ⟨fun _ _ => trivial, ?_⟩
  rw [Oper.semAt_plain _ _ _ hd]
  exact uponIn_of_upon h
theorem wpAnyIn_of_wpAny {m l : Nat} {P : Program} {md : Region.Mode} {ops : Array Oper} {Q : Exit → Act → World → Prop} (hQ : ¬ LetsOut Q) (hd : ∀ (i : Nat) (o : Oper), ops[i]? = some o → ∀ c, o.op ≠ .defer c) : ∀ (fuel : Nat) (listed : Array Bool) (a : Act) (w : World), wpAny P md ops Q fuel listed a w → wpAnyIn (Fence.wide.inRound l) m P md ops Q fuel listed a w
  | 0, listed, a, w, h => h
  | fuel + 1, listed, a, w, h => by
    refine ⟨h.1, fun i hi => ?_⟩
    have h2 := h.2 i hi
    unfold wpOp at h2
    unfold wpOpIn
    cases ho : ops[i]? with
    | none => rw [ho] at h2; exact wpAnyIn_of_wpAny hQ hd fuel _ _ _ h2
    | some o =>
      rw [ho] at h2
      simp only at h2 ⊢
      split
      · rename_i hw
        rw [if_pos hw] at h2
        rcases h2 with h2 | h2
        · exact wpIn_of_wp (hd i o ho) (Oper.wp_mono (fun a w h => wpAnyIn_of_wpAny hQ hd fuel _ _ _ h) h2)
        · exact (hQ h2.2).elim
      · rename_i hw
        rw [if_neg hw] at h2
        exact ⟨fun _ _ => trivial, wpAnyIn_of_wpAny hQ hd fuel _ _ _ h2⟩
def noDefer (l : List Oper) : Bool := l.all (fun o => match o.op with | .defer _ => false | _ => true)
theorem noDefer_spec {l : List Oper} (h : noDefer l = true) : ∀ (i : Nat) (o : Oper), l.toArray[i]? = some o → ∀ c, o.op ≠ .defer c := by
  intro i o ho c e
  have hm : o ∈ l := by simpa using List.mem_of_getElem? (by simpa using ho)
  have := List.all_eq_true.1 h o hm
  rw [e] at this
  simp at this
theorem wpIn_round_still_tail {id m l' : Nat} {P : Program} {Q : Exit → Act → World → Prop} {a : Act} {w : World} {l : List Oper} (n : Nat) (hQ : ¬ LetsOut Q) (hm : P.follows .mixedOrders = true) (hB : Region.lexTailB .any l.toArray n = true) (hd : noDefer l = true)
    (h : wpStill P l.toArray w.drew (fun a' => wpList P l.toArray Q (l.drop n) a' w.drew) (l.take n) a) : (Code.region id l.toArray true).wpIn (Fence.wide.inRound l') m P Q a w := by
  simp only [Region.lexTailB, Bool.and_eq_true, decide_eq_true_eq] at hB
  obtain ⟨⟨⟨⟨hsel, hn⟩, hs⟩, hc⟩, hlex⟩ := hB
  have hn' : n < l.length := by simpa using hn
  have htl : (l.take n).length = n := by simp; omega
  have hdl : (l.drop n).length = l.toArray.size - n := by simp
  have inv0 : HeadInv .any l.toArray n (Array.replicate l.toArray.size false) :=
    ⟨by simp, fun j oj _ hl => (by rw [getD_replicate_false] at hl; cases hl), fun t _ ht => getD_in (by simpa using ht) (getD_replicate_false _ _)⟩
  have H := wpAnyL_lex (md := .any) (g := l.toArray.size - n) hsel hs hc hn (l.take n) 0 _ a (fun j hj => by
    have hj' : j < n := by rw [htl] at hj; exact hj
    simp [hj']) (by simpa using htl) inv0 (by rw [htl]; exact hlex) h
  refine wpIn_region_any hm (wpAnyIn_of_wpAny hQ (noDefer_spec hd) _ _ _ _ ?_)
  have := wpAny_of_head (Q' := Q) (g := l.toArray.size - n) (fun listed a' hL => by
    have := wpAny_of_seq (md := .any) (Q' := Q) (l.drop n) n listed a' { w with drawn := w.drawn + 1 } (fun j => by simp [List.getElem?_drop]) (by rw [hdl]; exact hL.1) hL.2
    rwa [hdl] at this) _ _ _ H
  rw [htl, show n + (l.toArray.size - n) = l.toArray.size by omega] at this
  exact this
theorem wpAnyIn_round {m l : Nat} {P : Program} {md : Region.Mode} {ops : Array Oper} {Q : Exit → Act → World → Prop} (hd : ∀ (i : Nat) (o : Oper), ops[i]? = some o → ∀ c, o.op ≠ .defer c) : ∀ (fuel : Nat) (listed : Array Bool) (a : Act) (w : World), wpAnyIn Fence.wide m P md ops Q fuel listed a w → wpAnyIn (Fence.wide.inRound l) m P md ops Q fuel listed a w
  | 0, listed, a, w, h => h
  | fuel + 1, listed, a, w, h => by
    refine ⟨h.1, fun i hi => ?_⟩
    have h2 := h.2 i hi
    unfold wpOpIn at h2 ⊢
    cases ho : ops[i]? with
    | none => rw [ho] at h2; exact wpAnyIn_round hd fuel _ _ _ h2
    | some o =>
      rw [ho] at h2
      simp only at h2 ⊢
      split
      · rename_i hw
        rw [if_pos hw] at h2
        have h3 := Oper.wpIn_mono (fun a w h => wpAnyIn_round (l := l) hd fuel _ _ _ h) h2
        refine ⟨fun _ _ => trivial, ?_⟩
        have h4 := h3.2
        rw [Oper.semAt_plain _ _ _ (hd i o ho)] at h4 ⊢
        exact h4
      · rename_i hw
        rw [if_neg hw] at h2
        exact ⟨fun _ _ => trivial, wpAnyIn_round hd fuel _ _ _ h2.2⟩
theorem wpIn_round_any {id m l : Nat} {P : Program} {ops : List Oper} {Q : Exit → Act → World → Prop} {a : Act} {w : World} (hm : P.follows .mixedOrders = true) (hd : noDefer ops = true)
    (h : wpAnyIn Fence.wide m P .any ops.toArray Q ops.toArray.size (Array.replicate ops.toArray.size false) a w.drew) : (Code.region id ops.toArray true).wpIn (Fence.wide.inRound l) m P Q a w :=
  wpIn_region_any hm (wpAnyIn_round (noDefer_spec hd) _ _ _ _ h)
theorem wpIn_round_held {id m l : Nat} {P : Program} {ops : List Oper} {Q : Exit → Act → World → Prop} {a : Act} {w : World} (S : World → Prop) (hQ : ¬ LetsOut Q) (hm : P.follows .mixedOrders = true) (hd : noDefer ops = true) (hS : S w.drew)
    (h : S w.drew → wpAnyH P .any ops.toArray Q S ops.toArray.size (Array.replicate ops.toArray.size false) a w.drew) : (Code.region id ops.toArray true).wpIn (Fence.wide.inRound l) m P Q a w :=
  wpIn_region_any hm (wpAnyIn_of_wpAny hQ (noDefer_spec hd) _ _ _ _ (wpAny_of_held _ _ _ _ (h hS)))
/-- 'out = append(out, ..)' in a round: all that the walk owes of it. -/
theorem round_append {W2 w1 : World} {n B C : Nat} {t t' e : TypeId} {size : Nat} {v u v' : Value} {k : Nat} {xs ys : List Value} (o : Obj) (hgrow : (W2.alloc o).drew.grownBy w1 v.ownBlock) (hown' : w1.ownsRow n e size v' (k + 1) ys)
    (hb2 : Boxed W2 B t v) (hte : t ≠ e) (hrow2 : W2.ownsRow n e size v k xs) (hs2 : n ≤ W2.heap.size) (hi2 : Boxed W2 C t' u) (hte' : t' ≠ e) (hne : C ≠ B) (E : List Nat) (hE : B ∈ E) :
    ∃ g cap, v' = .slice (some ⟨g, 0, none⟩) (k + 1) cap ∧ Boxed w1 B t v ∧ Boxed (w1.setCell ⟨B, 0, none⟩ v') B t v' ∧ (w1.setCell ⟨B, 0, none⟩ v').ownsRow n e size v' (k + 1) ys ∧ KeepsOthers W2 (w1.setCell ⟨B, 0, none⟩ v') ∧ But n E W2 (w1.setCell ⟨B, 0, none⟩ v') ∧ Boxed (w1.setCell ⟨B, 0, none⟩ v') C t' u ∧ But n E W2 w1 := by
  obtain ⟨g, cap, hv⟩ := ownsRow_succ hown'
  have hX : Boxed (W2.alloc o).drew B t v := hb2.alloc o
  have hXr : (W2.alloc o).drew.ownsRow n e size v k xs := hrow2.alloc o
  have hXi : Boxed (W2.alloc o).drew C t' u := hi2.alloc o
  have hXs : n ≤ (W2.alloc o).drew.heap.size := by have : (W2.alloc o).drew.heap.size = W2.heap.size + 1 := by simp
                                                   omega
  obtain ⟨q1, q2, q3, q4, q5⟩ := but_appended (E := E) hX hte hXr hown' hgrow hXs hE
  exact ⟨g, cap, hv, q1, q2, q3, ((KeepsOthers.alloc W2 o).trans (KeepsOthers.drew _)).trans q4, ((But.refl n E W2).alloc hs2 o).drew.trans q5, (hXi.kept hgrow (hXi.not_row hte' hXr)).other hne v', ((But.refl n E W2).alloc hs2 o).drew.grown hXs hgrow (fun r er => (hXr.lt r er).1)⟩
end Go.Proofs.Ytlbbgocggifjaaa
