/- The contract of paraobj.Sentence. Conditions: none beyond what it says. -/
import Derived.Test.YtlbbgocggifjaaaOI35
import Derived.Test.YtlbbgocggifjaaaOI36
import Derived.Test.YtlbbgocggifjaaaOI31
import Derived.Test.YtlbbgocggifjaaaOI21
import Derived.Test.YtlbbgocggifjaaaOI13
namespace Go.Proofs.Ytlbbgocggifjaaa
open Go.RowKit Go.Shelf

attribute [local go_sem] Oper.semAt_some
theorem box2_new (W : World) (t : TypeId) (u v : Value) {n : Nat} (h : n = W.heap.size) : Box2 (W.alloc (.cells #[u, v] t)) n t u v := by subst h; exact World.alloc_heap_new W _
theorem Box2.alloc {W : World} {B : Nat} {t : TypeId} {u v : Value} (h : Box2 W B t u v) (o : Obj) : Box2 (W.alloc o) B t u v := (Below.heap_alloc _ _ _ h.lt).trans h
theorem Box2.f0 {W : World} {B : Nat} {t : TypeId} {u v : Value} (h : Box2 W B t u v) : W.frozen? ⟨B, 0, none⟩ = false := by simp [World.frozen?, show W.heap[B]? = _ from h]
theorem Box2.f1 {W : World} {B : Nat} {t : TypeId} {u v : Value} (h : Box2 W B t u v) : W.frozen? ⟨B, 1, none⟩ = false := by simp [World.frozen?, show W.heap[B]? = _ from h]
theorem Box2.other {W : World} {B C o : Nat} {t : TypeId} {u v z : Value} (h : Box2 W B t u v) (hne : B ≠ C) : Box2 (W.setCell ⟨C, o, none⟩ z) B t u v := (Below.heap_setCell _ _ _ B hne).trans h
theorem boxed_other {W : World} {B C o : Nat} {t : TypeId} {v z : Value} (h : Boxed W B t v) (hne : B ≠ C) : Boxed (W.setCell ⟨C, o, none⟩ z) B t v := (Below.heap_setCell _ _ _ B hne).trans h
theorem Box2.ovr {W : World} {B : Nat} {t : TypeId} {u v : Value} (h : Box2 W B t u v) (x : World) : Box2 (ovr W x) B t u v := ((below_ovr W x).block B h.lt).trans h
theorem boxed_ovr {W : World} {B : Nat} {t : TypeId} {v : Value} (h : Boxed W B t v) (x : World) : Boxed (ovr W x) B t v := ((below_ovr W x).block B h.lt).trans h
theorem Box2.set0 {W : World} {B : Nat} {t : TypeId} {u v : Value} (h : Box2 W B t u v) (u' : Value) : Box2 (W.setCell ⟨B, 0, none⟩ u') B t u' v := by
  obtain ⟨hlt, hk⟩ := Array.getElem?_eq_some_iff.1 h
  show (W.heap.modify B _)[B]? = _
  rw [Array.getElem?_eq_getElem (by rw [Array.size_modify]; exact hlt), Array.getElem_modify_self, hk]
  rfl
theorem Box2.set1 {W : World} {B : Nat} {t : TypeId} {u v : Value} (h : Box2 W B t u v) (v' : Value) : Box2 (W.setCell ⟨B, 1, none⟩ v') B t u v' := by
  obtain ⟨hlt, hk⟩ := Array.getElem?_eq_some_iff.1 h
  show (W.heap.modify B _)[B]? = _
  rw [Array.getElem?_eq_getElem (by rw [Array.size_modify]; exact hlt), Array.getElem_modify_self, hk]
  rfl
theorem Box2.set {W : World} {B : Nat} {t : TypeId} {u v : Value} (h : Box2 W B t u v) (u' v' : Value) : Box2 ((W.setCell ⟨B, 0, none⟩ u').setCell ⟨B, 1, none⟩ v') B t u' v' := (h.set0 u').set1 v'
theorem ret5r {X : World} {Rb : Nat} {k a b c d : Int} {ok : Bool} {tm : Array Value} {Q : Value → Prop} (h6 : tm.getD 6 undef = .pointer (some ⟨Rb, 0, none⟩)) (h7 : tm.getD 7 undef = .bool ok)
    (c0 : X.cell? ⟨Rb, 0, none⟩ = some (.int .i64 k)) (c1 : X.cell? ⟨Rb, 1, none⟩ = some (.int .i64 a)) (c2 : X.cell? ⟨Rb, 2, none⟩ = some (.int .i64 b)) (c3 : X.cell? ⟨Rb, 3, none⟩ = some (.int .i64 c)) (c4 : X.cell? ⟨Rb, 4, none⟩ = some (.int .i64 d)) (hQ : Q (rngV ((k, a, b, c, d), ok))) :
    ∃ v, (results Try.f85 tm).run Try.prog X = .ok v X ∧ Q v := by
  rw [Array.getD_eq_getD_getElem?] at h6 h7
  exact ⟨_, by simp [results, Try.results85, go_sem, h6, h7, c0, c1, c2, c3, c4], hQ⟩
theorem put_other {W : World} {D E : Nat} {o : Obj} (h : E ≠ D) : (W.putObj D o).heap[E]? = W.heap[E]? := by
  simp only [World.putObj]
  rw [Array.getElem?_setIfInBounds_ne (fun e => h e.symm)]
set_option maxRecDepth 100000 in
set_option maxHeartbeats 16000000 in
theorem psobj_any (a : Option Addr) (cap : Nat) (L : List ByteArray) (pl pc : Int) (ar : Bool) (w : World) (hL : LinesAt w a L) (htot : L.length + total L ≤ 100000) :
    Calls Try.prog 85 #[.slice a L.length cap, .agg #[.int .i64 pl, .int .i64 pc], .bool ar] w fun e w' => e = .returned (rngV (sObjP L pl pc ar)) ∧ Below w.heap.size w w' := by
  have hn := hL.2.1
  cases hb : byteB L pl pc with
  | true =>
    obtain ⟨l, c, rfl, rfl, hl⟩ : ∃ l c : Nat, pl = l ∧ pc = c ∧ l < L.length := by
      have hp : plcB L pl pc = true := by
        cases hp : plcB L pl pc with
        | true => rfl
        | false => rw [byteB_no hp] at hb; cases hb
      obtain ⟨p1, p2, p3, p4⟩ := plcB_spec hp
      obtain ⟨l, rfl⟩ := Int.eq_ofNat_of_zero_le p1
      obtain ⟨c, rfl⟩ := Int.eq_ofNat_of_zero_le p3
      exact ⟨l, c, rfl, rfl, by omega⟩
    obtain ⟨e, he⟩ : ∃ e, L.length - 1 = e := ⟨_, rfl⟩
    obtain ⟨b, off, s, hab, hbb, hcell, hs, HS⟩ := line_facts' hL (i := e) (by omega)
    subst hab
    have hE : endP L = (e, s.size) := by rw [endP, he, HS.out]
    have HE := Lib.hid hE
    have HB := Lib.hid hb
    have e1 : (L.length : Int) - 1 = (e : Int) := by omega
    have e2 : (e : Int) < (L.length : Int) := by omega
    have e3 : (0 : Int) ≤ (e : Int) := by omega
    have hRl := (sentP_in (L := L)).2
    clear hb hE HS
    refine (callsIn_wide (n := 9)).1 ?_
    refine callsIn_of_wp_marks Try.func85 rfl trivial ?_ rfl
    simp only [Try.ntmps85, List.size_toArray, List.length_cons, List.length_nil, Nat.reduceAdd, Nat.reduceSub, Array.replicate_succ, Array.replicate_zero, List.push_toArray, List.append_toArray, List.nil_append, List.cons_append]
    gi_wp2_with (first
      | (gi_at_call 139; refine (callsIn_wide.2 (byte_any _ _ L _ _ _ (by (repeat (first | assumption | refine LinesAt.ovr ?_ _ | refine LinesAt.alloc ?_ _ | refine LinesAt.drewN ?_ _ | refine LinesAt.drew ?_))))).mono ?_; rw [HB.out]; rintro e1 w1 ⟨rfl, hbl⟩; obtain ⟨x1, rfl⟩ := ovr_of_below hbl; clear hbl)
      | (gi_at_call 70; refine (callsIn_wide.2 (psent_any _ _ L _)).mono ?_; rintro e1 w1 ⟨rfl, rfl⟩))
    -- from here by gen_so.py
    obtain ⟨Tb, hTb⟩ : ∃ Tb, w.heap.size + 1 + 1 + x1.heap.size = Tb := ⟨_, rfl⟩
    rw [hTb]
    refine name_worldIn ?_
    intro W1 hW1
    have cp0 : W1.cell? ⟨w.heap.size, 0, none⟩ = some (.int .i64 l) := by rw [hW1]; simp [go_sem]
    have cp1 : W1.cell? ⟨w.heap.size, 1, none⟩ = some (.int .i64 c) := by rw [hW1]; simp [go_sem]
    have cr0 : W1.cell? ⟨w.heap.size + 1, 0, none⟩ = some (.int .i64 0) := by rw [hW1]; simp [go_sem]
    have cr1 : W1.cell? ⟨w.heap.size + 1, 1, none⟩ = some (.int .i64 0) := by rw [hW1]; simp [go_sem]
    have cr2 : W1.cell? ⟨w.heap.size + 1, 2, none⟩ = some (.int .i64 0) := by rw [hW1]; simp [go_sem]
    have cr3 : W1.cell? ⟨w.heap.size + 1, 3, none⟩ = some (.int .i64 0) := by rw [hW1]; simp [go_sem]
    have cr4 : W1.cell? ⟨w.heap.size + 1, 4, none⟩ = some (.int .i64 0) := by rw [hW1]; simp [go_sem]
    have cf0 : W1.frozen? ⟨w.heap.size + 1, 0, none⟩ = false := by rw [hW1]; simp [go_sem]
    have cf1 : W1.frozen? ⟨w.heap.size + 1, 1, none⟩ = false := by rw [hW1]; simp [go_sem]
    have cf2 : W1.frozen? ⟨w.heap.size + 1, 2, none⟩ = false := by rw [hW1]; simp [go_sem]
    have cf3 : W1.frozen? ⟨w.heap.size + 1, 3, none⟩ = false := by rw [hW1]; simp [go_sem]
    have cf4 : W1.frozen? ⟨w.heap.size + 1, 4, none⟩ = false := by rw [hW1]; simp [go_sem]
    have bT : Box2 W1 (Tb) 29 (.int .i64 ((e, s.size).1 : Int)) (.int .i64 ((e, s.size).2 : Int)) := by rw [hW1]; exact ((box2_new _ _ _ _ (by rw [← hTb]; simp)).alloc _).alloc _ |>.alloc _
    have bF : Box2 W1 (Tb + 1) 29 (.int .i64 ((lastP ([] : List (Nat × Nat))).1 : Int)) (.int .i64 ((lastP ([] : List (Nat × Nat))).2 : Int)) := by rw [hW1]; exact ((box2_new _ _ _ _ (by rw [← hTb]; simp)).alloc _).alloc _
    have bG : Boxed W1 (Tb + 1 + 1) 4 (.bool (someB ([] : List (Nat × Nat)))) := by rw [hW1]; exact (boxed_new' _ _ _ (by rw [← hTb]; simp)).alloc _
    have hBlc : W1.cell? ⟨Tb + 1 + 1 + 1, 0, none⟩ = some (.slice (some ⟨b, off, none⟩) L.length cap) := by rw [hW1, ← hTb]; simp [go_sem]
    have hbel : Below w.heap.size w W1 := by rw [hW1]; (repeat (first | with_reducible exact Below.refl _ _ | (with_reducible refine Below.setCell ?_ ?_ _; rotate_left; · (first | exact Nat.le_refl _ | assumption | omega | (simp; done) | (simp; omega))) | (with_reducible refine Below.alloc ?_ ?_ _; rotate_left; · (first | exact Nat.le_refl _ | assumption | omega | (simp; done) | (simp; omega))) | with_reducible refine below_ovr_of ?_ | with_reducible refine drew_below ?_ _ | with_reducible refine Below.drew ?_ | with_reducible assumption))
    have hsz : Tb + 1 + 1 + 1 < W1.heap.size := by rw [hW1, ← hTb]; simp
    have hTw : w.heap.size + 1 < Tb := by omega
    have hLW := hL.below hbel (Nat.le_refl _)
    have hbelS := hbel.size
    clear hW1 hTb
    have hJB : OwnFrom W1.heap.size (fun (pre : List (Plc 100000)) W => ((Box2 W (Tb) 29 (.int .i64 ((e, s.size).1 : Int)) (.int .i64 ((e, s.size).2 : Int)) ∧ Box2 W (Tb + 1) 29 (.int .i64 ((lastP (valsP pre)).1 : Int)) (.int .i64 ((lastP (valsP pre)).2 : Int)) ∧ Boxed W (Tb + 1 + 1) 4 (.bool (someB (valsP pre)))) ∧ notL l c (valsP pre))) := fun pre X Y row hs hg hr => by
      obtain ⟨⟨h1, h2, h3⟩, h4⟩ := hs
      exact ⟨⟨Box2.own (β := Unit) _ _ _ _ _ () X Y row h1 hg hr, Box2.own (β := Unit) _ _ _ _ _ () X Y row h2 hg hr, Own.from (boxed_own _ _ (fun _ : Unit => _)) _ () X Y row h3 hg hr⟩, h4⟩
    have hOwn : OwnFrom W1.heap.size (fun (pre : List (Plc 100000)) W => ((Box2 W (Tb) 29 (.int .i64 ((e, s.size).1 : Int)) (.int .i64 ((e, s.size).2 : Int)) ∧ Box2 W (Tb + 1) 29 (.int .i64 ((lastP (valsP pre)).1 : Int)) (.int .i64 ((lastP (valsP pre)).2 : Int)) ∧ Boxed W (Tb + 1 + 1) 4 (.bool (someB (valsP pre)))) ∧ notL l c (valsP pre)) ∧ Typ 3 W1.heap.size [Tb, Tb + 1, Tb + 1 + 1] W1 W) := OwnFrom.and hJB (typFrom (Nat.le_refl _))
    refine wpIn_rangeFunc_ownH rfl (by omega) (gf := 128) (lb := #[.pointer (some ⟨Tb + 1 + 1 + 1, 0, none⟩)]) rfl trivial (enters_of Try.func128 (by kernel_rfl) rfl)
      (sent_stops (Tb + 1 + 1 + 1) 100000 (some ⟨b, off, none⟩) cap L [Tb, Tb + 1, Tb + 1 + 1] W1 htot htot hBlc hLW (by intro k hk; simp at hk; omega) (by simp <;> omega) (by intro b' off' e'; cases e'; exact ⟨by omega, by simp; omega⟩)) (fun h k => Typ.trans h k) (typK_b (Nat.le_refl _)) (Below.refl _ _) (fun _ => rfl)
      _
      (fun k pre W => (k = .exit 0 ∧ ∃ (O : List (Nat × Nat)) (xl xc : Nat), (Box2 W (Tb) 29 (.int .i64 (xl : Int)) (.int .i64 (xc : Int)) ∧ Box2 W (Tb + 1) 29 (.int .i64 ((lastP O).1 : Int)) (.int .i64 ((lastP O).2 : Int)) ∧ Boxed W (Tb + 1 + 1) 4 (.bool (someB O))) ∧ valsP pre = O ++ [(xl, xc)] ∧ notL l c (O) ∧ lessB l c (xl : Int) (xc : Int) = true) ∧ Typ 3 W1.heap.size [Tb, Tb + 1, Tb + 1 + 1] W1 W)
      hOwn
      (fun k => OwnFrom.and (fun pre X Y row hs hg hr => by
        obtain ⟨k0, O, xl, xc, ⟨h1, h2, h3⟩, h4⟩ := hs
        exact ⟨k0, O, xl, xc, ⟨Box2.own (β := Unit) _ _ _ _ _ () X Y row h1 hg hr, Box2.own (β := Unit) _ _ _ _ _ () X Y row h2 hg hr, Own.from (boxed_own _ _ (fun _ : Unit => _)) _ () X Y row h3 hg hr⟩, h4⟩) (typFrom (Nat.le_refl _)))
      ⟨⟨⟨bT, bF, bG⟩, notL_nil _ _⟩, Typ.refl _ _ _ _⟩
      (fun x a' W => ∃ Bx, W1.heap.size ≤ Bx ∧ Box2 W Bx 29 (.int .i64 (x.1.1 : Int)) (.int .i64 (x.1.2 : Int)) ∧ a' = { tmps := #[.slice (some ⟨b, off, none⟩) L.length cap, .agg #[.int .i64 l, .int .i64 c], .bool ar, undef, .pointer (some ⟨w.heap.size, 0, none⟩), undef, .pointer (some ⟨w.heap.size + 1, 0, none⟩), .bool false, .int .i64 e, .pointer (some ⟨Tb, 0, none⟩), .pointer (some ⟨Tb + 1, 0, none⟩), .pointer (some ⟨Tb + 1 + 1, 0, none⟩), .pointer (some ⟨Bx, 0, none⟩), undef, undef, undef, .slice (some ⟨b, off, none⟩) L.length cap, .agg #[.int .i64 l, .int .i64 c], .bool true, .bool false, undef, .slice (some ⟨b, off, none⟩) L.length cap, .int .i64 L.length, .int .i64 e, .int .i64 e, .slice (some ⟨b, off, none⟩) L.length cap, .int .i64 e, .pointer (some ⟨b, off + e, none⟩), .string s, .int .i64 s.size, .agg #[.int .i64 e, .int .i64 s.size], .slice (some ⟨b, off, none⟩) L.length cap, .func (.func 128) #[] #[.pointer (some ⟨Tb + 1 + 1 + 1, 0, none⟩)], .agg #[.int .i64 (x.1.1 : Int), .int .i64 (x.1.2 : Int)], undef, undef, undef, undef, undef, undef, undef, undef, undef, undef, undef, undef, undef, undef, undef, undef, undef, undef, undef, undef, undef, undef, undef, undef, undef, undef, undef, undef, undef, undef, undef, undef, undef, undef, undef, undef, undef, undef, undef, undef, undef, undef, undef, undef], defers := [] })
      (fun x a' _ X Y row ⟨Bx, h1, h2, h3⟩ hg hr => ⟨Bx, h1, Box2.own (β := Unit) Bx _ _ _ _ () X Y row h2 hg hr, h3⟩)
      ?assign ?body ?done ?stop
    case assign =>
      intro l' pre x W K hI hK
      gi_wp2
      exact hK _ _ ((KeepsOthers.alloc W _).from _) ((Typ.refl _ _ _ W).alloc _) (hOwn.alloc _ hI) ⟨W.heap.size, hI.2.size, World.alloc_heap_new W _, rfl⟩
    case body =>
      rintro l' pre x a' W _ _ ⟨⟨⟨hT, hF, hG⟩, hall⟩, hB⟩ ⟨Bx, hBx, hx, rfl⟩ hN
      have hx0 := hx.c0
      have hx1 := hx.c1
      have hxl := hx.lt
      have hBs := hB.size
      have hTl := hT.lt
      have hFl := hF.lt
      have hGl := hG.lt
      have gp0 : W.cell? ⟨w.heap.size, 0, none⟩ = some (.int .i64 l) := hB.cell (by omega) (by simp <;> omega) cp0
      have gp1 : W.cell? ⟨w.heap.size, 1, none⟩ = some (.int .i64 c) := hB.cell (by omega) (by simp <;> omega) cp1
      have lP : w.heap.size < W.heap.size := by omega
      have n1 : ¬ Bx = Tb := by omega
      have n2 : ¬ Bx = Tb + 1 := by omega
      have n3 : ¬ Bx = Tb + 1 + 1 := by omega
      obtain ⟨q, hq⟩ : ∃ q, lessB l c (x.1.1 : Int) (x.1.2 : Int) = q := ⟨_, rfl⟩
      have HQ2 := Lib.hid hq
      have HALL := Lib.hid hall
      clear hq hall hN
      cases q with
      | true =>
        have hT0 := hT.c0
        have hT1 := hT.c1
        have hTf0 := hT.f0
        have hTf1 := hT.f1
        gi_wp2_with (gi_at_call 95; refine (callsIn_wide.2 (less_at _ _ _ _ _ HQ2)).mono ?_; rintro e1 w2 ⟨rfl, hbl⟩; obtain ⟨y1, rfl⟩ := ovr_of_below hbl; clear hbl)
        exact ⟨(keeps_in (keeps_set (keeps_set (KeepsOthers.refl _)))).from _, ⟨rfl, valsP pre, x.1.1, x.1.2, ⟨(hT.set _ _).ovr _, ((hF.other (by omega)).other (by omega)).ovr _, boxed_ovr (boxed_other (boxed_other hG (by omega)) (by omega)) _⟩, by simp, HALL.out, HQ2.out⟩, typ_ovr ((hB.setCell (by simp) _ _).setCell (by simp) _ _)⟩
      | false =>
        have hF0 := hF.c0
        have hF1 := hF.c1
        have hFf0 := hF.f0
        have hFf1 := hF.f1
        have hGc := hG.cell
        have hGf := hG.frozen
        gi_wp2_with (gi_at_call 95; refine (callsIn_wide.2 (less_at _ _ _ _ _ HQ2)).mono ?_; rintro e1 w2 ⟨rfl, hbl⟩; obtain ⟨y1, rfl⟩ := ovr_of_below hbl; clear hbl)
        have hlast : lastP (valsP (pre ++ [x])) = x.1 := by rw [valsP, List.map_append]; exact lastP_snoc _ _
        have hemp : someB (valsP (pre ++ [x])) = true := by rw [valsP, List.map_append]; exact someB_snoc _ _
        exact ⟨(keeps_in (keeps_set (keeps_set (keeps_set (KeepsOthers.refl _))))).from _, typ_ovr (((((Typ.refl _ _ _ W).setCell (by simp) _ _).setCell (by simp) _ _).setCell (by simp) _ _)), ⟨⟨(((hT.other (by omega)).other (by omega)).other (by omega)).ovr _, by rw [hlast]; exact ((hF.set _ _).other (by omega)).ovr _, by rw [hemp]; exact boxed_ovr ((boxed_other (boxed_other hG (by omega)) (by omega)).set _) _⟩, by rw [valsP, List.map_append]; exact notL_snoc HALL.out HQ2.out⟩, typ_ovr (((hB.setCell (by simp) _ _).setCell (by simp) _ _).setCell (by simp) _ _)⟩
    case done =>
      rintro D ys W hD hys ⟨⟨⟨hT, hF, hG⟩, hall⟩, hB⟩ hK
      obtain ⟨O, hO⟩ : ∃ O, valsP ys = O := ⟨_, rfl⟩
      rw [hO] at hF hG hall
      have hsp : sentP L = O := hys.symm.trans hO
      have hp := sObj_all (around := ar) HB.out hsp hall
      rw [HE.out] at hp
      obtain ⟨tl, htl⟩ : ∃ tl, e = tl := ⟨_, rfl⟩
      obtain ⟨tc, htc⟩ : ∃ tc, s.size = tc := ⟨_, rfl⟩
      rw [htl, htc] at hp hT
      clear hys hO hsp hall htl htc
      obtain ⟨⟨fl, fc⟩, hf⟩ : ∃ p, lastP O = p := ⟨_, rfl⟩
      rw [hf] at hF hp
      simp only at hT hF
      have HP := Lib.hid hp
      clear hp hf
      have hBs := hB.size
      have gp0 : W.cell? ⟨w.heap.size, 0, none⟩ = some (.int .i64 l) := hB.cell (by omega) (by simp <;> omega) cp0
      have gp1 : W.cell? ⟨w.heap.size, 1, none⟩ = some (.int .i64 c) := hB.cell (by omega) (by simp <;> omega) cp1
      have gr0 : W.cell? ⟨w.heap.size + 1, 0, none⟩ = some (.int .i64 0) := hB.cell (by omega) (by simp <;> omega) cr0
      have gr1 : W.cell? ⟨w.heap.size + 1, 1, none⟩ = some (.int .i64 0) := hB.cell (by omega) (by simp <;> omega) cr1
      have gr2 : W.cell? ⟨w.heap.size + 1, 2, none⟩ = some (.int .i64 0) := hB.cell (by omega) (by simp <;> omega) cr2
      have gr3 : W.cell? ⟨w.heap.size + 1, 3, none⟩ = some (.int .i64 0) := hB.cell (by omega) (by simp <;> omega) cr3
      have gr4 : W.cell? ⟨w.heap.size + 1, 4, none⟩ = some (.int .i64 0) := hB.cell (by omega) (by simp <;> omega) cr4
      have gf0 : W.frozen? ⟨w.heap.size + 1, 0, none⟩ = false := (hB.frozen (by omega) (by omega) (by simp <;> omega)).trans cf0
      have gf1 : W.frozen? ⟨w.heap.size + 1, 1, none⟩ = false := (hB.frozen (by omega) (by omega) (by simp <;> omega)).trans cf1
      have gf2 : W.frozen? ⟨w.heap.size + 1, 2, none⟩ = false := (hB.frozen (by omega) (by omega) (by simp <;> omega)).trans cf2
      have gf3 : W.frozen? ⟨w.heap.size + 1, 3, none⟩ = false := (hB.frozen (by omega) (by omega) (by simp <;> omega)).trans cf3
      have gf4 : W.frozen? ⟨w.heap.size + 1, 4, none⟩ = false := (hB.frozen (by omega) (by omega) (by simp <;> omega)).trans cf4
      have hbw : Below w.heap.size w W := hB.below hbel (by omega) (by omega) (by simp <;> omega)
      have hTl := hT.lt
      have hFl := hF.lt
      have hGl := hG.lt
      have hT0 := hT.c0
      have hT1 := hT.c1
      have hTf0 := hT.f0
      have hTf1 := hT.f1
      have hF0 := hF.c0
      have hF1 := hF.c1
      have hGc := hG.cell
      have lR : w.heap.size + 1 < W.heap.size := by omega
      have lP : w.heap.size < W.heap.size := by omega
      have hDl : D < W.heap.size := (Array.getElem?_eq_some_iff.1 hK).1
      have hKK := fun (W' : World) (h : KeepsOthers W W') => h.same D _ hK rfl
      have HKK := Lib.hid hKK
      clear hKK
      cases ar with
      | true =>
        have HR : Hid (sObjP L l c true = sentR L O (fl, fc) (tl, tc)) := Lib.hid (by rw [HP.out, if_pos rfl])
        clear HP
        cases hso : someB O with
        | false =>
          rw [hso] at hGc
          have HN := Lib.hid (sentR_none (L := L) (f := (fl, fc)) (t := (tl, tc)) hso)
          clear hso
          gi_wp2
          have hKK := HKK.out
          refine ⟨by simp, .inl ⟨_, _, rfl, run_takeDeferred (hKK _ (by repeat (first | with_reducible exact KeepsOthers.refl _ | with_reducible refine keeps_in ?_ | with_reducible refine keeps_set ?_ | with_reducible refine keeps_alloc ?_))), ?_⟩⟩
          exact ret5r (Rb := w.heap.size + 1) (k := 0) (a := 0) (b := 0) (c := 0) (d := 0) (ok := false) rfl rfl (cell_put (by simp [go_sem, gr0]) (hKK _ (by repeat (first | with_reducible exact KeepsOthers.refl _ | with_reducible refine keeps_in ?_ | with_reducible refine keeps_set ?_ | with_reducible refine keeps_alloc ?_)))) (cell_put (by simp [go_sem, gr1]) (hKK _ (by repeat (first | with_reducible exact KeepsOthers.refl _ | with_reducible refine keeps_in ?_ | with_reducible refine keeps_set ?_ | with_reducible refine keeps_alloc ?_)))) (cell_put (by simp [go_sem, gr2]) (hKK _ (by repeat (first | with_reducible exact KeepsOthers.refl _ | with_reducible refine keeps_in ?_ | with_reducible refine keeps_set ?_ | with_reducible refine keeps_alloc ?_)))) (cell_put (by simp [go_sem, gr3]) (hKK _ (by repeat (first | with_reducible exact KeepsOthers.refl _ | with_reducible refine keeps_in ?_ | with_reducible refine keeps_set ?_ | with_reducible refine keeps_alloc ?_)))) (cell_put (by simp [go_sem, gr4]) (hKK _ (by repeat (first | with_reducible exact KeepsOthers.refl _ | with_reducible refine keeps_in ?_ | with_reducible refine keeps_set ?_ | with_reducible refine keeps_alloc ?_)))) ⟨by rw [HR.out, HN.out]; rfl, below_put (by omega) (hKK _ (by repeat (first | with_reducible exact KeepsOthers.refl _ | with_reducible refine keeps_in ?_ | with_reducible refine keeps_set ?_ | with_reducible refine keeps_alloc ?_))) (by repeat (first | with_reducible exact hbw | (with_reducible refine below_ovr2 ?_ ?_; rotate_left; · (simp <;> omega)) | (with_reducible refine Below.alloc ?_ ?_ _; rotate_left; · (simp <;> omega)) | (with_reducible refine Below.setCell ?_ ?_ _; rotate_left; · (simp <;> omega))))⟩
        | true =>
          rw [hso] at hGc
          by_cases hft : fl = tl ∧ fc = tc
          · obtain ⟨rfl, rfl⟩ := hft
            have HN := Lib.hid (sentR_same L O (fl, fc))
            clear hso
            gi_wp2
            have hKK := HKK.out
            refine ⟨by simp, .inl ⟨_, _, rfl, run_takeDeferred (hKK _ (by repeat (first | with_reducible exact KeepsOthers.refl _ | with_reducible refine keeps_in ?_ | with_reducible refine keeps_set ?_ | with_reducible refine keeps_alloc ?_))), ?_⟩⟩
            exact ret5r (Rb := w.heap.size + 1) (k := 0) (a := 0) (b := 0) (c := 0) (d := 0) (ok := false) rfl rfl (cell_put (by simp [go_sem, gr0]) (hKK _ (by repeat (first | with_reducible exact KeepsOthers.refl _ | with_reducible refine keeps_in ?_ | with_reducible refine keeps_set ?_ | with_reducible refine keeps_alloc ?_)))) (cell_put (by simp [go_sem, gr1]) (hKK _ (by repeat (first | with_reducible exact KeepsOthers.refl _ | with_reducible refine keeps_in ?_ | with_reducible refine keeps_set ?_ | with_reducible refine keeps_alloc ?_)))) (cell_put (by simp [go_sem, gr2]) (hKK _ (by repeat (first | with_reducible exact KeepsOthers.refl _ | with_reducible refine keeps_in ?_ | with_reducible refine keeps_set ?_ | with_reducible refine keeps_alloc ?_)))) (cell_put (by simp [go_sem, gr3]) (hKK _ (by repeat (first | with_reducible exact KeepsOthers.refl _ | with_reducible refine keeps_in ?_ | with_reducible refine keeps_set ?_ | with_reducible refine keeps_alloc ?_)))) (cell_put (by simp [go_sem, gr4]) (hKK _ (by repeat (first | with_reducible exact KeepsOthers.refl _ | with_reducible refine keeps_in ?_ | with_reducible refine keeps_set ?_ | with_reducible refine keeps_alloc ?_)))) ⟨by rw [HR.out, HN.out]; rfl, below_put (by omega) (hKK _ (by repeat (first | with_reducible exact KeepsOthers.refl _ | with_reducible refine keeps_in ?_ | with_reducible refine keeps_set ?_ | with_reducible refine keeps_alloc ?_))) (by repeat (first | with_reducible exact hbw | (with_reducible refine below_ovr2 ?_ ?_; rotate_left; · (simp <;> omega)) | (with_reducible refine Below.alloc ?_ ?_ _; rotate_left; · (simp <;> omega)) | (with_reducible refine Below.setCell ?_ ?_ _; rotate_left; · (simp <;> omega))))⟩
          · have HN := Lib.hid (sentR_yes (L := L) hso hft)
            clear hso
            by_cases hf1 : fl = tl
            · have hf2 : ¬ fc = tc := fun h => hft ⟨hf1, h⟩
              have hf3 : ((fc : Int) == (tc : Int)) = false := beq_eq_false_iff_ne.2 (by omega)
              subst hf1
              clear hft
              gi_wp2
              have hKK := HKK.out
              refine ⟨by simp, .inl ⟨_, _, rfl, run_takeDeferred (hKK _ (by repeat (first | with_reducible exact KeepsOthers.refl _ | with_reducible refine keeps_in ?_ | with_reducible refine keeps_set ?_ | with_reducible refine keeps_alloc ?_))), ?_⟩⟩
              exact ret5r (Rb := w.heap.size + 1) (k := 0) (a := fl) (b := fc) (c := fl) (d := tc) (ok := true) rfl rfl (cell_put (by simp [go_sem, gr0]) (hKK _ (by repeat (first | with_reducible exact KeepsOthers.refl _ | with_reducible refine keeps_in ?_ | with_reducible refine keeps_set ?_ | with_reducible refine keeps_alloc ?_)))) (cell_put (by simp [go_sem, gr1]) (hKK _ (by repeat (first | with_reducible exact KeepsOthers.refl _ | with_reducible refine keeps_in ?_ | with_reducible refine keeps_set ?_ | with_reducible refine keeps_alloc ?_)))) (cell_put (by simp [go_sem, gr2]) (hKK _ (by repeat (first | with_reducible exact KeepsOthers.refl _ | with_reducible refine keeps_in ?_ | with_reducible refine keeps_set ?_ | with_reducible refine keeps_alloc ?_)))) (cell_put (by simp [go_sem, gr3]) (hKK _ (by repeat (first | with_reducible exact KeepsOthers.refl _ | with_reducible refine keeps_in ?_ | with_reducible refine keeps_set ?_ | with_reducible refine keeps_alloc ?_)))) (cell_put (by simp [go_sem, gr4]) (hKK _ (by repeat (first | with_reducible exact KeepsOthers.refl _ | with_reducible refine keeps_in ?_ | with_reducible refine keeps_set ?_ | with_reducible refine keeps_alloc ?_)))) ⟨by rw [HR.out, HN.out], below_put (by omega) (hKK _ (by repeat (first | with_reducible exact KeepsOthers.refl _ | with_reducible refine keeps_in ?_ | with_reducible refine keeps_set ?_ | with_reducible refine keeps_alloc ?_))) (by repeat (first | with_reducible exact hbw | (with_reducible refine below_ovr2 ?_ ?_; rotate_left; · (simp <;> omega)) | (with_reducible refine Below.alloc ?_ ?_ _; rotate_left; · (simp <;> omega)) | (with_reducible refine Below.setCell ?_ ?_ _; rotate_left; · (simp <;> omega))))⟩
            · have hf3 : ((fl : Int) == (tl : Int)) = false := beq_eq_false_iff_ne.2 (by omega)
              clear hft
              gi_wp2
              have hKK := HKK.out
              refine ⟨by simp, .inl ⟨_, _, rfl, run_takeDeferred (hKK _ (by repeat (first | with_reducible exact KeepsOthers.refl _ | with_reducible refine keeps_in ?_ | with_reducible refine keeps_set ?_ | with_reducible refine keeps_alloc ?_))), ?_⟩⟩
              exact ret5r (Rb := w.heap.size + 1) (k := 0) (a := fl) (b := fc) (c := tl) (d := tc) (ok := true) rfl rfl (cell_put (by simp [go_sem, gr0]) (hKK _ (by repeat (first | with_reducible exact KeepsOthers.refl _ | with_reducible refine keeps_in ?_ | with_reducible refine keeps_set ?_ | with_reducible refine keeps_alloc ?_)))) (cell_put (by simp [go_sem, gr1]) (hKK _ (by repeat (first | with_reducible exact KeepsOthers.refl _ | with_reducible refine keeps_in ?_ | with_reducible refine keeps_set ?_ | with_reducible refine keeps_alloc ?_)))) (cell_put (by simp [go_sem, gr2]) (hKK _ (by repeat (first | with_reducible exact KeepsOthers.refl _ | with_reducible refine keeps_in ?_ | with_reducible refine keeps_set ?_ | with_reducible refine keeps_alloc ?_)))) (cell_put (by simp [go_sem, gr3]) (hKK _ (by repeat (first | with_reducible exact KeepsOthers.refl _ | with_reducible refine keeps_in ?_ | with_reducible refine keeps_set ?_ | with_reducible refine keeps_alloc ?_)))) (cell_put (by simp [go_sem, gr4]) (hKK _ (by repeat (first | with_reducible exact KeepsOthers.refl _ | with_reducible refine keeps_in ?_ | with_reducible refine keeps_set ?_ | with_reducible refine keeps_alloc ?_)))) ⟨by rw [HR.out, HN.out], below_put (by omega) (hKK _ (by repeat (first | with_reducible exact KeepsOthers.refl _ | with_reducible refine keeps_in ?_ | with_reducible refine keeps_set ?_ | with_reducible refine keeps_alloc ?_))) (by repeat (first | with_reducible exact hbw | (with_reducible refine below_ovr2 ?_ ?_; rotate_left; · (simp <;> omega)) | (with_reducible refine Below.alloc ?_ ?_ _; rotate_left; · (simp <;> omega)) | (with_reducible refine Below.setCell ?_ ?_ _; rotate_left; · (simp <;> omega))))⟩
      | false =>
        have HR : Hid (sObjP L l c false = sentR L O (fl, fc) (endC L (fl, fc) (tl, tc) (cellP L))) := Lib.hid (by rw [HP.out, if_neg (by decide)])
        clear HP
        have hLV : LinesAt W (some ⟨b, off, none⟩) L := lines_typ hB hLW (by intro b' off' e'; cases e'; exact ⟨by omega, by simp <;> omega⟩)
        gi_wp2_with (gi_at_call 23; refine (callsIn_wide.2 (pcells_any _ _ L _)).mono ?_; rintro e1 w1 ⟨rfl, rfl⟩)
        obtain ⟨Eb, hEb⟩ : ∃ Eb, W.heap.size = Eb := ⟨_, rfl⟩
        rw [hEb]
        refine name_worldIn ?_
        intro W2 hW2
        have hb2 : Below W.heap.size W W2 := by rw [hW2]; (repeat (first | with_reducible exact Below.refl _ _ | (with_reducible refine Below.setCell ?_ ?_ _; rotate_left; · (first | exact Nat.le_refl _ | assumption | omega | (simp; done) | (simp; omega))) | (with_reducible refine Below.alloc ?_ ?_ _; rotate_left; · (first | exact Nat.le_refl _ | assumption | omega | (simp; done) | (simp; omega))) | with_reducible refine below_ovr_of ?_ | with_reducible refine drew_below ?_ _ | with_reducible refine Below.drew ?_ | with_reducible assumption))
        have hs2 : Eb + 1 < W2.heap.size := by rw [hW2, ← hEb]; simp
        have hE2 : Box2 W2 Eb 29 (.int .i64 ((endC L (fl, fc) (tl, tc) []).1 : Int)) (.int .i64 ((endC L (fl, fc) (tl, tc) []).2 : Int)) := by rw [hW2]; exact (box2_new _ _ _ _ hEb.symm).alloc _
        have hBl2 : W2.cell? ⟨Eb + 1, 0, none⟩ = some (.slice (some ⟨b, off, none⟩) L.length cap) := by rw [hW2, ← hEb]; simp [go_sem]
        have hL2 := hLV.below hb2 (Nat.le_refl _)
        have hT2 : Box2 W2 Tb 29 (.int .i64 (tl : Int)) (.int .i64 (tc : Int)) := (hb2.block Tb hTl).trans hT
        have hF2 : Box2 W2 (Tb + 1) 29 (.int .i64 (fl : Int)) (.int .i64 (fc : Int)) := (hb2.block (Tb + 1) hFl).trans hF
        have hG2 : Boxed W2 (Tb + 1 + 1) 4 (.bool (someB O)) := (hb2.block (Tb + 1 + 1) hGl).trans hG
        have rr0 := cell_keep_b hb2 gr0
        have rr1 := cell_keep_b hb2 gr1
        have rr2 := cell_keep_b hb2 gr2
        have rr3 := cell_keep_b hb2 gr3
        have rr4 := cell_keep_b hb2 gr4
        have rf0 : W2.frozen? ⟨w.heap.size + 1, 0, none⟩ = false := (hb2.frozen (p := ⟨w.heap.size + 1, 0, none⟩) (by omega)).trans gf0
        have rf1 : W2.frozen? ⟨w.heap.size + 1, 1, none⟩ = false := (hb2.frozen (p := ⟨w.heap.size + 1, 1, none⟩) (by omega)).trans gf1
        have rf2 : W2.frozen? ⟨w.heap.size + 1, 2, none⟩ = false := (hb2.frozen (p := ⟨w.heap.size + 1, 2, none⟩) (by omega)).trans gf2
        have rf3 : W2.frozen? ⟨w.heap.size + 1, 3, none⟩ = false := (hb2.frozen (p := ⟨w.heap.size + 1, 3, none⟩) (by omega)).trans gf3
        have rf4 : W2.frozen? ⟨w.heap.size + 1, 4, none⟩ = false := (hb2.frozen (p := ⟨w.heap.size + 1, 4, none⟩) (by omega)).trans gf4
        have hKD : W2.heap[D]? = some (.deferred (some [])) := (hb2.block D hDl).trans hK
        have hbw2 := hbw.trans (hb2.mono (show w.heap.size ≤ W.heap.size by omega))
        have hbb2 : b < Eb := by omega
        have hEw : Tb + 1 + 1 < Eb := by omega
        have hDE : D < Eb := by omega
        have hsE : Eb + 1 < W2.heap.size := hs2
        clear hW2 hEb gp0 gp1 hT0 hT1 hTf0 hTf1 hF0 hF1 hGc HKK
        have hJ2 : OwnFrom W2.heap.size (fun (pre : List (Cel 100000)) X => Box2 X Eb 29 (.int .i64 ((endC L (fl, fc) (tl, tc) (valsP pre)).1 : Int)) (.int .i64 ((endC L (fl, fc) (tl, tc) (valsP pre)).2 : Int)) ∧ But W2.heap.size [Eb] W2 X) :=
          OwnFrom.and (fun pre X Y row hs hg hr => Box2.own (β := Unit) _ _ _ _ _ () X Y row hs hg hr) (butFrom (Nat.le_refl _) (Nat.le_refl _))
        refine wpIn_rangeFunc_ownH rfl (by omega) (gf := 96) (lb := #[.pointer (some ⟨Eb + 1, 0, none⟩)]) rfl trivial (enters_of Try.func96 (by kernel_rfl) rfl)
          (cells_stopsK (But W2.heap.size [Eb]) (Eb + 1) 100000 (some ⟨b, off, none⟩) cap L W2 htot htot hBl2 hL2 (fun X Y h hc hl => ⟨(h.cell (by omega) (by simp)).trans hc, ⟨fun i hi => by
            obtain ⟨b', off', e', hlt', hcc⟩ := hl.1 i hi
            cases e'
            exact ⟨b, off, rfl, Nat.lt_of_lt_of_le hlt' h.size, (h.cell (by omega) (by simp; omega)).trans hcc⟩, hl.2⟩⟩))
          But.trans (butK_b (Nat.le_refl _)) (Below.refl _ _) (fun _ => rfl)
          _
          (fun _ _ _ => False)
          hJ2
          (fun _ _ _ _ _ hs _ _ => hs)
          ⟨hE2, But.refl _ _ _⟩
          (fun x a' X => ∃ Bx, W2.heap.size ≤ Bx ∧ Box2 X Bx 29 (.int .i64 (x.1.1 : Int)) (.int .i64 (x.1.2 : Int)) ∧ a' = { tmps := #[.slice (some ⟨b, off, none⟩) L.length cap, .agg #[.int .i64 l, .int .i64 c], .bool false, undef, .pointer (some ⟨w.heap.size, 0, none⟩), undef, .pointer (some ⟨w.heap.size + 1, 0, none⟩), .bool false, .int .i64 e, .pointer (some ⟨Tb, 0, none⟩), .pointer (some ⟨Tb + 1, 0, none⟩), .pointer (some ⟨Tb + 1 + 1, 0, none⟩), undef, .pointer (some ⟨Eb, 0, none⟩), .pointer (some ⟨Bx, 0, none⟩), .int .u8 (bytA L x.1), .slice (some ⟨b, off, none⟩) L.length cap, .agg #[.int .i64 l, .int .i64 c], .bool true, .bool false, undef, .slice (some ⟨b, off, none⟩) L.length cap, .int .i64 L.length, .int .i64 e, .int .i64 e, .slice (some ⟨b, off, none⟩) L.length cap, .int .i64 e, .pointer (some ⟨b, off + e, none⟩), .string s, .int .i64 s.size, .agg #[.int .i64 e, .int .i64 s.size], .slice (some ⟨b, off, none⟩) L.length cap, .func (.func 128) #[] #[.pointer (some ⟨Tb + 1 + 1 + 1, 0, none⟩)], undef, undef, undef, undef, undef, undef, .bool false, .bool true, .agg #[.int .i64 fl, .int .i64 fc], .slice (some ⟨b, off, none⟩) L.length cap, .func (.func 96) #[] #[.pointer (some ⟨Eb + 1, 0, none⟩)], .agg #[.int .i64 (x.1.1 : Int), .int .i64 (x.1.2 : Int)], .int .u8 (bytA L x.1), undef, undef, undef, undef, undef, undef, undef, undef, undef, undef, undef, undef, undef, undef, undef, undef, undef, undef, undef, undef, undef, undef, undef, undef, undef, undef, undef, undef, undef, undef, undef, undef], defers := [] })
          (fun x a' _ X Y row ⟨Bx, h1, h2, h3⟩ hg hr => ⟨Bx, h1, Box2.own (β := Unit) Bx _ _ _ _ () X Y row h2 hg hr, h3⟩)
          ?assign2 ?body2 ?done2 ?stop2
        case assign2 =>
          intro l' pre x X K hI hK'
          gi_wp2
          exact hK' _ _ ((KeepsOthers.alloc X _).from _) ((But.refl _ _ X).alloc hI.2.size _) (hJ2.alloc _ hI) ⟨X.heap.size, hI.2.size, World.alloc_heap_new X _, rfl⟩
        case body2 =>
          rintro l' pre x a' X _ _ ⟨hEx, hBu⟩ ⟨Bx, hBx, hx, rfl⟩ _
          have hx0 := hx.c0
          have hx1 := hx.c1
          have hxl := hx.lt
          have hXs := hBu.size
          have hT3 : Box2 X Tb 29 (.int .i64 (tl : Int)) (.int .i64 (tc : Int)) := (hBu.block Tb (by omega) (by simp; omega)).trans hT2
          have hF3 : Box2 X (Tb + 1) 29 (.int .i64 (fl : Int)) (.int .i64 (fc : Int)) := (hBu.block (Tb + 1) (by omega) (by simp; omega)).trans hF2
          have hT30 := hT3.c0
          have hT31 := hT3.c1
          have hF30 := hF3.c0
          have hF31 := hF3.c1
          have lT : Tb < X.heap.size := by omega
          have lF : Tb + 1 < X.heap.size := by omega
          have n1 : ¬ Bx = Eb := by omega
          have hEc0 := hEx.c0
          have hEc1 := hEx.c1
          have hEf0 := hEx.f0
          have hEf1 := hEx.f1
          have lE : Eb < X.heap.size := by omega
          have HS : Hid (endC L (fl, fc) (tl, tc) (valsP (pre ++ [x])) = if inB L (fl, fc) (tl, tc) x.1 = true then (x.1.1, x.1.2 + 1) else endC L (fl, fc) (tl, tc) (valsP pre)) := Lib.hid (by rw [valsP, List.map_append]; exact endC_snoc _ _ _ _ _)
          have hx2 : (x.1.2 : Int) ≤ 100000 := by have := x.2.2; omega
          obtain ⟨cv, hcv⟩ : ∃ cv, ofC (bytA L x.1) true = cv := ⟨_, rfl⟩
          obtain ⟨q1, hq1⟩ : ∃ q, lessB (x.1.1 : Int) (x.1.2 : Int) (fl : Int) (fc : Int) = q := ⟨_, rfl⟩
          obtain ⟨q2, hq2⟩ : ∃ q, lessB (x.1.1 : Int) (x.1.2 : Int) (tl : Int) (tc : Int) = q := ⟨_, rfl⟩
          have HIN : Hid (inB L (fl, fc) (tl, tc) x.1 = (!(cv == 0) && (!q1 && q2))) := Lib.hid (by rw [inB, hcv, hq1, hq2])
          have HCV := Lib.hid hcv
          have HQ1 := Lib.hid hq1
          have HQ2 := Lib.hid hq2
          clear hcv hq1 hq2
          by_cases hc0 : cv = 0
          · subst hc0
            have HN : Hid (endC L (fl, fc) (tl, tc) (valsP (pre ++ [x])) = endC L (fl, fc) (tl, tc) (valsP pre)) := Lib.hid (by rw [HS.out, HIN.out]; rfl)
            gi_wp2_with (gi_at_call 103; refine (callsIn_wide.2 (of_any _ _ _)).mono ?_; rw [HCV.out]; rintro e1 w2 ⟨rfl, rfl⟩)
            exact ⟨(KeepsOthers.refl _).from _, But.refl _ _ _, by rw [HN.out]; exact hEx, hBu⟩
          · have hcb : (cv == 0) = false := beq_eq_false_iff_ne.2 hc0
            cases q1 with
            | true =>
              have HN : Hid (endC L (fl, fc) (tl, tc) (valsP (pre ++ [x])) = endC L (fl, fc) (tl, tc) (valsP pre)) := Lib.hid (by rw [HS.out, HIN.out, hcb]; rfl)
              gi_wp2_with (first | (gi_at_call 103; refine (callsIn_wide.2 (of_any _ _ _)).mono ?_; rw [HCV.out]; rintro e1 w2 ⟨rfl, rfl⟩) | (gi_at_call 95; refine (callsIn_wide.2 (less_at _ _ _ _ _ HQ1)).mono ?_; rintro e1 w2 ⟨rfl, hbl⟩; obtain ⟨y1, rfl⟩ := ovr_of_below hbl; clear hbl))
              exact ⟨(keeps_in (KeepsOthers.refl _)).from _, But.of_below ((below_ovr _ _).mono hXs), by rw [HN.out]; exact hEx.ovr _, hBu.trans (But.of_below ((below_ovr _ _).mono hXs))⟩
            | false =>
              cases q2 with
              | false =>
                have HN : Hid (endC L (fl, fc) (tl, tc) (valsP (pre ++ [x])) = endC L (fl, fc) (tl, tc) (valsP pre)) := Lib.hid (by rw [HS.out, HIN.out, hcb]; rfl)
                gi_wp2_with (first | (gi_at_call 103; refine (callsIn_wide.2 (of_any _ _ _)).mono ?_; rw [HCV.out]; rintro e1 w2 ⟨rfl, rfl⟩) | (gi_at_call 95; refine (callsIn_wide.2 (less_at _ _ _ _ _ HQ1)).mono ?_; rintro e1 w2 ⟨rfl, hbl⟩; obtain ⟨y1, rfl⟩ := ovr_of_below hbl; clear hbl; clear HQ1) | (gi_at_call 95; refine (callsIn_wide.2 (less_at _ _ _ _ _ HQ2)).mono ?_; rintro e1 w2 ⟨rfl, hbl⟩; obtain ⟨y2, rfl⟩ := ovr_of_below hbl; clear hbl))
                exact ⟨(keeps_in (keeps_in (KeepsOthers.refl _))).from _, But.of_below (by exact below_ovr2 ((below_ovr _ _).mono hXs) (by simp; omega)), by rw [HN.out]; exact (hEx.ovr _).ovr _, hBu.trans (But.of_below (by exact below_ovr2 ((below_ovr _ _).mono hXs) (by simp; omega)))⟩
              | true =>
                have HN : Hid (endC L (fl, fc) (tl, tc) (valsP (pre ++ [x])) = (x.1.1, x.1.2 + 1)) := Lib.hid (by rw [HS.out, HIN.out, hcb]; rfl)
                gi_wp2_with (first | (gi_at_call 103; refine (callsIn_wide.2 (of_any _ _ _)).mono ?_; rw [HCV.out]; rintro e1 w2 ⟨rfl, rfl⟩) | (gi_at_call 95; refine (callsIn_wide.2 (less_at _ _ _ _ _ HQ1)).mono ?_; rintro e1 w2 ⟨rfl, hbl⟩; obtain ⟨y1, rfl⟩ := ovr_of_below hbl; clear hbl; clear HQ1) | (gi_at_call 95; refine (callsIn_wide.2 (less_at _ _ _ _ _ HQ2)).mono ?_; rintro e1 w2 ⟨rfl, hbl⟩; obtain ⟨y2, rfl⟩ := ovr_of_below hbl; clear hbl))
                have hBX : But W2.heap.size [Eb] X (ovr (ovr ((X.setCell ⟨Eb, 0, none⟩ (.int .i64 (x.1.1 : Int))).setCell ⟨Eb, 1, none⟩ (.int .i64 ((x.1.2 : Int) + 1))) y1) y2) := (((But.refl _ _ X).setCell (.inl (by simp)) _ _).setCell (.inl (by simp)) _ _).trans (But.of_below (below_ovr2 ((below_ovr _ _).mono (by simp; omega)) (by simp; omega)))
                exact ⟨(keeps_in (keeps_in (keeps_set (keeps_set (KeepsOthers.refl _))))).from _, hBX, by rw [HN.out]; exact ((hEx.set (.int .i64 (x.1.1 : Int)) (.int .i64 ((x.1.2 : Int) + 1))).ovr y1).ovr y2, hBu.trans hBX⟩
        case done2 =>
          rintro D2 ys X hD2 hys ⟨hEx, hBu⟩ hK2
          have hXs := hBu.size
          obtain ⟨⟨el, ec⟩, hel⟩ : ∃ p, endC L (fl, fc) (tl, tc) (cellP L) = p := ⟨_, rfl⟩
          rw [show valsP ys = cellP L from hys, hel] at hEx
          have HR2 : Hid (sObjP L l c false = sentR L O (fl, fc) (el, ec)) := Lib.hid (by rw [HR.out, hel])
          clear hys hel HR
          have hT3 : Box2 X Tb 29 (.int .i64 (tl : Int)) (.int .i64 (tc : Int)) := (hBu.block Tb (by omega) (by simp; omega)).trans hT2
          have hF3 : Box2 X (Tb + 1) 29 (.int .i64 (fl : Int)) (.int .i64 (fc : Int)) := (hBu.block (Tb + 1) (by omega) (by simp; omega)).trans hF2
          have hG3 : Boxed X (Tb + 1 + 1) 4 (.bool (someB O)) := (hBu.block (Tb + 1 + 1) (by omega) (by simp; omega)).trans hG2
          have hTc0 := hT3.c0
          have hTc1 := hT3.c1
          have hTf0 := hT3.f0
          have hTf1 := hT3.f1
          have hFc0 := hF3.c0
          have hFc1 := hF3.c1
          have hGc := hG3.cell
          have hEc0 := hEx.c0
          have hEc1 := hEx.c1
          have gr0 : X.cell? ⟨w.heap.size + 1, 0, none⟩ = some (.int .i64 0) := (hBu.cell (by omega) (by simp; omega)).trans rr0
          have gr1 : X.cell? ⟨w.heap.size + 1, 1, none⟩ = some (.int .i64 0) := (hBu.cell (by omega) (by simp; omega)).trans rr1
          have gr2 : X.cell? ⟨w.heap.size + 1, 2, none⟩ = some (.int .i64 0) := (hBu.cell (by omega) (by simp; omega)).trans rr2
          have gr3 : X.cell? ⟨w.heap.size + 1, 3, none⟩ = some (.int .i64 0) := (hBu.cell (by omega) (by simp; omega)).trans rr3
          have gr4 : X.cell? ⟨w.heap.size + 1, 4, none⟩ = some (.int .i64 0) := (hBu.cell (by omega) (by simp; omega)).trans rr4
          have gf0 : X.frozen? ⟨w.heap.size + 1, 0, none⟩ = false := (hBu.frozen (by omega) (by simp; omega)).trans rf0
          have gf1 : X.frozen? ⟨w.heap.size + 1, 1, none⟩ = false := (hBu.frozen (by omega) (by simp; omega)).trans rf1
          have gf2 : X.frozen? ⟨w.heap.size + 1, 2, none⟩ = false := (hBu.frozen (by omega) (by simp; omega)).trans rf2
          have gf3 : X.frozen? ⟨w.heap.size + 1, 3, none⟩ = false := (hBu.frozen (by omega) (by simp; omega)).trans rf3
          have gf4 : X.frozen? ⟨w.heap.size + 1, 4, none⟩ = false := (hBu.frozen (by omega) (by simp; omega)).trans rf4
          have hKX : X.heap[D]? = some (.deferred (some [])) := (hBu.block D (by omega) (by simp; omega)).trans hKD
          have hbw := hBu.below hbw2 (by omega) (by intro k hk; simp at hk; omega)
          have hKK1 := fun (W' : World) (h : KeepsOthers X W') => h.same D _ hKX rfl
          have HKK1 := Lib.hid hKK1
          have hKK2 := fun (W' : World) (h : KeepsOthers X W') => h.same D2 _ hK2 rfl
          have HKK2 := Lib.hid hKK2
          have hDD : D ≠ D2 := by omega
          have lR : w.heap.size + 1 < X.heap.size := by omega
          have nTF : ¬ Tb + 1 = Tb := by omega
          clear hKK1 hKK2
          cases hso : someB O with
          | false =>
            rw [hso] at hGc
            have HN := Lib.hid (sentR_none (L := L) (f := (fl, fc)) (t := (el, ec)) hso)
            clear hso
            gi_wp2
            have hKKA := HKK1.out
            have hKKB := HKK2.out
            refine ⟨by simp, .inl ⟨_, _, rfl, run_takeDeferred (hKKB _ (by repeat (first | with_reducible exact KeepsOthers.refl _ | with_reducible refine keeps_in ?_ | with_reducible refine keeps_set ?_ | with_reducible refine keeps_alloc ?_))), ⟨by simp, .inl ⟨_, _, rfl, run_takeDeferred ((put_other hDD).trans (hKKA _ (by repeat (first | with_reducible exact KeepsOthers.refl _ | with_reducible refine keeps_in ?_ | with_reducible refine keeps_set ?_ | with_reducible refine keeps_alloc ?_)))), ?_⟩⟩⟩⟩
            exact ret5r (Rb := w.heap.size + 1) (k := 0) (a := 0) (b := 0) (c := 0) (d := 0) (ok := false) rfl rfl (cell_put (cell_put (by simp [go_sem, gr0]) (hKKB _ (by repeat (first | with_reducible exact KeepsOthers.refl _ | with_reducible refine keeps_in ?_ | with_reducible refine keeps_set ?_ | with_reducible refine keeps_alloc ?_)))) ((put_other hDD).trans (hKKA _ (by repeat (first | with_reducible exact KeepsOthers.refl _ | with_reducible refine keeps_in ?_ | with_reducible refine keeps_set ?_ | with_reducible refine keeps_alloc ?_))))) (cell_put (cell_put (by simp [go_sem, gr1]) (hKKB _ (by repeat (first | with_reducible exact KeepsOthers.refl _ | with_reducible refine keeps_in ?_ | with_reducible refine keeps_set ?_ | with_reducible refine keeps_alloc ?_)))) ((put_other hDD).trans (hKKA _ (by repeat (first | with_reducible exact KeepsOthers.refl _ | with_reducible refine keeps_in ?_ | with_reducible refine keeps_set ?_ | with_reducible refine keeps_alloc ?_))))) (cell_put (cell_put (by simp [go_sem, gr2]) (hKKB _ (by repeat (first | with_reducible exact KeepsOthers.refl _ | with_reducible refine keeps_in ?_ | with_reducible refine keeps_set ?_ | with_reducible refine keeps_alloc ?_)))) ((put_other hDD).trans (hKKA _ (by repeat (first | with_reducible exact KeepsOthers.refl _ | with_reducible refine keeps_in ?_ | with_reducible refine keeps_set ?_ | with_reducible refine keeps_alloc ?_))))) (cell_put (cell_put (by simp [go_sem, gr3]) (hKKB _ (by repeat (first | with_reducible exact KeepsOthers.refl _ | with_reducible refine keeps_in ?_ | with_reducible refine keeps_set ?_ | with_reducible refine keeps_alloc ?_)))) ((put_other hDD).trans (hKKA _ (by repeat (first | with_reducible exact KeepsOthers.refl _ | with_reducible refine keeps_in ?_ | with_reducible refine keeps_set ?_ | with_reducible refine keeps_alloc ?_))))) (cell_put (cell_put (by simp [go_sem, gr4]) (hKKB _ (by repeat (first | with_reducible exact KeepsOthers.refl _ | with_reducible refine keeps_in ?_ | with_reducible refine keeps_set ?_ | with_reducible refine keeps_alloc ?_)))) ((put_other hDD).trans (hKKA _ (by repeat (first | with_reducible exact KeepsOthers.refl _ | with_reducible refine keeps_in ?_ | with_reducible refine keeps_set ?_ | with_reducible refine keeps_alloc ?_))))) ⟨by rw [HR2.out, HN.out]; rfl, below_put (by omega) ((put_other hDD).trans (hKKA _ (by repeat (first | with_reducible exact KeepsOthers.refl _ | with_reducible refine keeps_in ?_ | with_reducible refine keeps_set ?_ | with_reducible refine keeps_alloc ?_)))) (below_put (by omega) (hKKB _ (by repeat (first | with_reducible exact KeepsOthers.refl _ | with_reducible refine keeps_in ?_ | with_reducible refine keeps_set ?_ | with_reducible refine keeps_alloc ?_))) (by repeat (first | with_reducible exact hbw | (with_reducible refine below_ovr2 ?_ ?_; rotate_left; · (simp <;> omega)) | (with_reducible refine Below.alloc ?_ ?_ _; rotate_left; · (simp <;> omega)) | (with_reducible refine Below.setCell ?_ ?_ _; rotate_left; · (simp <;> omega)))))⟩
          | true =>
            rw [hso] at hGc
            by_cases hft : fl = el ∧ fc = ec
            · obtain ⟨rfl, rfl⟩ := hft
              have HN := Lib.hid (sentR_same L O (fl, fc))
              clear hso
              gi_wp2
              have hKKA := HKK1.out
              have hKKB := HKK2.out
              refine ⟨by simp, .inl ⟨_, _, rfl, run_takeDeferred (hKKB _ (by repeat (first | with_reducible exact KeepsOthers.refl _ | with_reducible refine keeps_in ?_ | with_reducible refine keeps_set ?_ | with_reducible refine keeps_alloc ?_))), ⟨by simp, .inl ⟨_, _, rfl, run_takeDeferred ((put_other hDD).trans (hKKA _ (by repeat (first | with_reducible exact KeepsOthers.refl _ | with_reducible refine keeps_in ?_ | with_reducible refine keeps_set ?_ | with_reducible refine keeps_alloc ?_)))), ?_⟩⟩⟩⟩
              exact ret5r (Rb := w.heap.size + 1) (k := 0) (a := 0) (b := 0) (c := 0) (d := 0) (ok := false) rfl rfl (cell_put (cell_put (by simp [go_sem, gr0]) (hKKB _ (by repeat (first | with_reducible exact KeepsOthers.refl _ | with_reducible refine keeps_in ?_ | with_reducible refine keeps_set ?_ | with_reducible refine keeps_alloc ?_)))) ((put_other hDD).trans (hKKA _ (by repeat (first | with_reducible exact KeepsOthers.refl _ | with_reducible refine keeps_in ?_ | with_reducible refine keeps_set ?_ | with_reducible refine keeps_alloc ?_))))) (cell_put (cell_put (by simp [go_sem, gr1]) (hKKB _ (by repeat (first | with_reducible exact KeepsOthers.refl _ | with_reducible refine keeps_in ?_ | with_reducible refine keeps_set ?_ | with_reducible refine keeps_alloc ?_)))) ((put_other hDD).trans (hKKA _ (by repeat (first | with_reducible exact KeepsOthers.refl _ | with_reducible refine keeps_in ?_ | with_reducible refine keeps_set ?_ | with_reducible refine keeps_alloc ?_))))) (cell_put (cell_put (by simp [go_sem, gr2]) (hKKB _ (by repeat (first | with_reducible exact KeepsOthers.refl _ | with_reducible refine keeps_in ?_ | with_reducible refine keeps_set ?_ | with_reducible refine keeps_alloc ?_)))) ((put_other hDD).trans (hKKA _ (by repeat (first | with_reducible exact KeepsOthers.refl _ | with_reducible refine keeps_in ?_ | with_reducible refine keeps_set ?_ | with_reducible refine keeps_alloc ?_))))) (cell_put (cell_put (by simp [go_sem, gr3]) (hKKB _ (by repeat (first | with_reducible exact KeepsOthers.refl _ | with_reducible refine keeps_in ?_ | with_reducible refine keeps_set ?_ | with_reducible refine keeps_alloc ?_)))) ((put_other hDD).trans (hKKA _ (by repeat (first | with_reducible exact KeepsOthers.refl _ | with_reducible refine keeps_in ?_ | with_reducible refine keeps_set ?_ | with_reducible refine keeps_alloc ?_))))) (cell_put (cell_put (by simp [go_sem, gr4]) (hKKB _ (by repeat (first | with_reducible exact KeepsOthers.refl _ | with_reducible refine keeps_in ?_ | with_reducible refine keeps_set ?_ | with_reducible refine keeps_alloc ?_)))) ((put_other hDD).trans (hKKA _ (by repeat (first | with_reducible exact KeepsOthers.refl _ | with_reducible refine keeps_in ?_ | with_reducible refine keeps_set ?_ | with_reducible refine keeps_alloc ?_))))) ⟨by rw [HR2.out, HN.out]; rfl, below_put (by omega) ((put_other hDD).trans (hKKA _ (by repeat (first | with_reducible exact KeepsOthers.refl _ | with_reducible refine keeps_in ?_ | with_reducible refine keeps_set ?_ | with_reducible refine keeps_alloc ?_)))) (below_put (by omega) (hKKB _ (by repeat (first | with_reducible exact KeepsOthers.refl _ | with_reducible refine keeps_in ?_ | with_reducible refine keeps_set ?_ | with_reducible refine keeps_alloc ?_))) (by repeat (first | with_reducible exact hbw | (with_reducible refine below_ovr2 ?_ ?_; rotate_left; · (simp <;> omega)) | (with_reducible refine Below.alloc ?_ ?_ _; rotate_left; · (simp <;> omega)) | (with_reducible refine Below.setCell ?_ ?_ _; rotate_left; · (simp <;> omega)))))⟩
            · have HN := Lib.hid (sentR_yes (L := L) hso hft)
              clear hso
              by_cases hf1 : fl = el
              · have hf2 : ¬ fc = ec := fun h => hft ⟨hf1, h⟩
                have hf3 : ((fc : Int) == (ec : Int)) = false := beq_eq_false_iff_ne.2 (by omega)
                subst hf1
                clear hft
                gi_wp2
                have hKKA := HKK1.out
                have hKKB := HKK2.out
                refine ⟨by simp, .inl ⟨_, _, rfl, run_takeDeferred (hKKB _ (by repeat (first | with_reducible exact KeepsOthers.refl _ | with_reducible refine keeps_in ?_ | with_reducible refine keeps_set ?_ | with_reducible refine keeps_alloc ?_))), ⟨by simp, .inl ⟨_, _, rfl, run_takeDeferred ((put_other hDD).trans (hKKA _ (by repeat (first | with_reducible exact KeepsOthers.refl _ | with_reducible refine keeps_in ?_ | with_reducible refine keeps_set ?_ | with_reducible refine keeps_alloc ?_)))), ?_⟩⟩⟩⟩
                exact ret5r (Rb := w.heap.size + 1) (k := 0) (a := fl) (b := fc) (c := fl) (d := ec) (ok := true) rfl rfl (cell_put (cell_put (by simp [go_sem, gr0]) (hKKB _ (by repeat (first | with_reducible exact KeepsOthers.refl _ | with_reducible refine keeps_in ?_ | with_reducible refine keeps_set ?_ | with_reducible refine keeps_alloc ?_)))) ((put_other hDD).trans (hKKA _ (by repeat (first | with_reducible exact KeepsOthers.refl _ | with_reducible refine keeps_in ?_ | with_reducible refine keeps_set ?_ | with_reducible refine keeps_alloc ?_))))) (cell_put (cell_put (by simp [go_sem, gr1]) (hKKB _ (by repeat (first | with_reducible exact KeepsOthers.refl _ | with_reducible refine keeps_in ?_ | with_reducible refine keeps_set ?_ | with_reducible refine keeps_alloc ?_)))) ((put_other hDD).trans (hKKA _ (by repeat (first | with_reducible exact KeepsOthers.refl _ | with_reducible refine keeps_in ?_ | with_reducible refine keeps_set ?_ | with_reducible refine keeps_alloc ?_))))) (cell_put (cell_put (by simp [go_sem, gr2]) (hKKB _ (by repeat (first | with_reducible exact KeepsOthers.refl _ | with_reducible refine keeps_in ?_ | with_reducible refine keeps_set ?_ | with_reducible refine keeps_alloc ?_)))) ((put_other hDD).trans (hKKA _ (by repeat (first | with_reducible exact KeepsOthers.refl _ | with_reducible refine keeps_in ?_ | with_reducible refine keeps_set ?_ | with_reducible refine keeps_alloc ?_))))) (cell_put (cell_put (by simp [go_sem, gr3]) (hKKB _ (by repeat (first | with_reducible exact KeepsOthers.refl _ | with_reducible refine keeps_in ?_ | with_reducible refine keeps_set ?_ | with_reducible refine keeps_alloc ?_)))) ((put_other hDD).trans (hKKA _ (by repeat (first | with_reducible exact KeepsOthers.refl _ | with_reducible refine keeps_in ?_ | with_reducible refine keeps_set ?_ | with_reducible refine keeps_alloc ?_))))) (cell_put (cell_put (by simp [go_sem, gr4]) (hKKB _ (by repeat (first | with_reducible exact KeepsOthers.refl _ | with_reducible refine keeps_in ?_ | with_reducible refine keeps_set ?_ | with_reducible refine keeps_alloc ?_)))) ((put_other hDD).trans (hKKA _ (by repeat (first | with_reducible exact KeepsOthers.refl _ | with_reducible refine keeps_in ?_ | with_reducible refine keeps_set ?_ | with_reducible refine keeps_alloc ?_))))) ⟨by rw [HR2.out, HN.out], below_put (by omega) ((put_other hDD).trans (hKKA _ (by repeat (first | with_reducible exact KeepsOthers.refl _ | with_reducible refine keeps_in ?_ | with_reducible refine keeps_set ?_ | with_reducible refine keeps_alloc ?_)))) (below_put (by omega) (hKKB _ (by repeat (first | with_reducible exact KeepsOthers.refl _ | with_reducible refine keeps_in ?_ | with_reducible refine keeps_set ?_ | with_reducible refine keeps_alloc ?_))) (by repeat (first | with_reducible exact hbw | (with_reducible refine below_ovr2 ?_ ?_; rotate_left; · (simp <;> omega)) | (with_reducible refine Below.alloc ?_ ?_ _; rotate_left; · (simp <;> omega)) | (with_reducible refine Below.setCell ?_ ?_ _; rotate_left; · (simp <;> omega)))))⟩
              · have hf3 : ((fl : Int) == (el : Int)) = false := beq_eq_false_iff_ne.2 (by omega)
                clear hft
                gi_wp2
                have hKKA := HKK1.out
                have hKKB := HKK2.out
                refine ⟨by simp, .inl ⟨_, _, rfl, run_takeDeferred (hKKB _ (by repeat (first | with_reducible exact KeepsOthers.refl _ | with_reducible refine keeps_in ?_ | with_reducible refine keeps_set ?_ | with_reducible refine keeps_alloc ?_))), ⟨by simp, .inl ⟨_, _, rfl, run_takeDeferred ((put_other hDD).trans (hKKA _ (by repeat (first | with_reducible exact KeepsOthers.refl _ | with_reducible refine keeps_in ?_ | with_reducible refine keeps_set ?_ | with_reducible refine keeps_alloc ?_)))), ?_⟩⟩⟩⟩
                exact ret5r (Rb := w.heap.size + 1) (k := 0) (a := fl) (b := fc) (c := el) (d := ec) (ok := true) rfl rfl (cell_put (cell_put (by simp [go_sem, gr0]) (hKKB _ (by repeat (first | with_reducible exact KeepsOthers.refl _ | with_reducible refine keeps_in ?_ | with_reducible refine keeps_set ?_ | with_reducible refine keeps_alloc ?_)))) ((put_other hDD).trans (hKKA _ (by repeat (first | with_reducible exact KeepsOthers.refl _ | with_reducible refine keeps_in ?_ | with_reducible refine keeps_set ?_ | with_reducible refine keeps_alloc ?_))))) (cell_put (cell_put (by simp [go_sem, gr1]) (hKKB _ (by repeat (first | with_reducible exact KeepsOthers.refl _ | with_reducible refine keeps_in ?_ | with_reducible refine keeps_set ?_ | with_reducible refine keeps_alloc ?_)))) ((put_other hDD).trans (hKKA _ (by repeat (first | with_reducible exact KeepsOthers.refl _ | with_reducible refine keeps_in ?_ | with_reducible refine keeps_set ?_ | with_reducible refine keeps_alloc ?_))))) (cell_put (cell_put (by simp [go_sem, gr2]) (hKKB _ (by repeat (first | with_reducible exact KeepsOthers.refl _ | with_reducible refine keeps_in ?_ | with_reducible refine keeps_set ?_ | with_reducible refine keeps_alloc ?_)))) ((put_other hDD).trans (hKKA _ (by repeat (first | with_reducible exact KeepsOthers.refl _ | with_reducible refine keeps_in ?_ | with_reducible refine keeps_set ?_ | with_reducible refine keeps_alloc ?_))))) (cell_put (cell_put (by simp [go_sem, gr3]) (hKKB _ (by repeat (first | with_reducible exact KeepsOthers.refl _ | with_reducible refine keeps_in ?_ | with_reducible refine keeps_set ?_ | with_reducible refine keeps_alloc ?_)))) ((put_other hDD).trans (hKKA _ (by repeat (first | with_reducible exact KeepsOthers.refl _ | with_reducible refine keeps_in ?_ | with_reducible refine keeps_set ?_ | with_reducible refine keeps_alloc ?_))))) (cell_put (cell_put (by simp [go_sem, gr4]) (hKKB _ (by repeat (first | with_reducible exact KeepsOthers.refl _ | with_reducible refine keeps_in ?_ | with_reducible refine keeps_set ?_ | with_reducible refine keeps_alloc ?_)))) ((put_other hDD).trans (hKKA _ (by repeat (first | with_reducible exact KeepsOthers.refl _ | with_reducible refine keeps_in ?_ | with_reducible refine keeps_set ?_ | with_reducible refine keeps_alloc ?_))))) ⟨by rw [HR2.out, HN.out], below_put (by omega) ((put_other hDD).trans (hKKA _ (by repeat (first | with_reducible exact KeepsOthers.refl _ | with_reducible refine keeps_in ?_ | with_reducible refine keeps_set ?_ | with_reducible refine keeps_alloc ?_)))) (below_put (by omega) (hKKB _ (by repeat (first | with_reducible exact KeepsOthers.refl _ | with_reducible refine keeps_in ?_ | with_reducible refine keeps_set ?_ | with_reducible refine keeps_alloc ?_))) (by repeat (first | with_reducible exact hbw | (with_reducible refine below_ovr2 ?_ ?_; rotate_left; · (simp <;> omega)) | (with_reducible refine Below.alloc ?_ ?_ _; rotate_left; · (simp <;> omega)) | (with_reducible refine Below.setCell ?_ ?_ _; rotate_left; · (simp <;> omega)))))⟩
        case stop2 =>
          rintro _ _ _ _ _ _ h _
          exact h.elim
    case stop =>
      rintro D k pre W hD hsp ⟨⟨rfl, O, tl, tc, ⟨hT, hF, hG⟩, hvp, hall, hxn⟩, hB⟩ hK
      have hp := sObj_cut (around := ar) HB.out (by rw [← hvp]; exact hsp) hall hxn
      clear hsp hvp hall hxn
      obtain ⟨⟨fl, fc⟩, hf⟩ : ∃ p, lastP O = p := ⟨_, rfl⟩
      rw [hf] at hF hp
      simp only at hT hF
      have HP := Lib.hid hp
      clear hp hf
      have hBs := hB.size
      have gp0 : W.cell? ⟨w.heap.size, 0, none⟩ = some (.int .i64 l) := hB.cell (by omega) (by simp <;> omega) cp0
      have gp1 : W.cell? ⟨w.heap.size, 1, none⟩ = some (.int .i64 c) := hB.cell (by omega) (by simp <;> omega) cp1
      have gr0 : W.cell? ⟨w.heap.size + 1, 0, none⟩ = some (.int .i64 0) := hB.cell (by omega) (by simp <;> omega) cr0
      have gr1 : W.cell? ⟨w.heap.size + 1, 1, none⟩ = some (.int .i64 0) := hB.cell (by omega) (by simp <;> omega) cr1
      have gr2 : W.cell? ⟨w.heap.size + 1, 2, none⟩ = some (.int .i64 0) := hB.cell (by omega) (by simp <;> omega) cr2
      have gr3 : W.cell? ⟨w.heap.size + 1, 3, none⟩ = some (.int .i64 0) := hB.cell (by omega) (by simp <;> omega) cr3
      have gr4 : W.cell? ⟨w.heap.size + 1, 4, none⟩ = some (.int .i64 0) := hB.cell (by omega) (by simp <;> omega) cr4
      have gf0 : W.frozen? ⟨w.heap.size + 1, 0, none⟩ = false := (hB.frozen (by omega) (by omega) (by simp <;> omega)).trans cf0
      have gf1 : W.frozen? ⟨w.heap.size + 1, 1, none⟩ = false := (hB.frozen (by omega) (by omega) (by simp <;> omega)).trans cf1
      have gf2 : W.frozen? ⟨w.heap.size + 1, 2, none⟩ = false := (hB.frozen (by omega) (by omega) (by simp <;> omega)).trans cf2
      have gf3 : W.frozen? ⟨w.heap.size + 1, 3, none⟩ = false := (hB.frozen (by omega) (by omega) (by simp <;> omega)).trans cf3
      have gf4 : W.frozen? ⟨w.heap.size + 1, 4, none⟩ = false := (hB.frozen (by omega) (by omega) (by simp <;> omega)).trans cf4
      have hbw : Below w.heap.size w W := hB.below hbel (by omega) (by omega) (by simp <;> omega)
      have hTl := hT.lt
      have hFl := hF.lt
      have hGl := hG.lt
      have hT0 := hT.c0
      have hT1 := hT.c1
      have hTf0 := hT.f0
      have hTf1 := hT.f1
      have hF0 := hF.c0
      have hF1 := hF.c1
      have hGc := hG.cell
      have lR : w.heap.size + 1 < W.heap.size := by omega
      have lP : w.heap.size < W.heap.size := by omega
      have hDl : D < W.heap.size := (Array.getElem?_eq_some_iff.1 hK).1
      have hKK := fun (W' : World) (h : KeepsOthers W W') => h.same D _ hK rfl
      have HKK := Lib.hid hKK
      clear hKK
      cases ar with
      | true =>
        have HR : Hid (sObjP L l c true = sentR L O (fl, fc) (tl, tc)) := Lib.hid (by rw [HP.out, if_pos rfl])
        clear HP
        cases hso : someB O with
        | false =>
          rw [hso] at hGc
          have HN := Lib.hid (sentR_none (L := L) (f := (fl, fc)) (t := (tl, tc)) hso)
          clear hso
          gi_wp2
          have hKK := HKK.out
          refine ⟨by simp, .inl ⟨_, _, rfl, run_takeDeferred (hKK _ (by repeat (first | with_reducible exact KeepsOthers.refl _ | with_reducible refine keeps_in ?_ | with_reducible refine keeps_set ?_ | with_reducible refine keeps_alloc ?_))), ?_⟩⟩
          exact ret5r (Rb := w.heap.size + 1) (k := 0) (a := 0) (b := 0) (c := 0) (d := 0) (ok := false) rfl rfl (cell_put (by simp [go_sem, gr0]) (hKK _ (by repeat (first | with_reducible exact KeepsOthers.refl _ | with_reducible refine keeps_in ?_ | with_reducible refine keeps_set ?_ | with_reducible refine keeps_alloc ?_)))) (cell_put (by simp [go_sem, gr1]) (hKK _ (by repeat (first | with_reducible exact KeepsOthers.refl _ | with_reducible refine keeps_in ?_ | with_reducible refine keeps_set ?_ | with_reducible refine keeps_alloc ?_)))) (cell_put (by simp [go_sem, gr2]) (hKK _ (by repeat (first | with_reducible exact KeepsOthers.refl _ | with_reducible refine keeps_in ?_ | with_reducible refine keeps_set ?_ | with_reducible refine keeps_alloc ?_)))) (cell_put (by simp [go_sem, gr3]) (hKK _ (by repeat (first | with_reducible exact KeepsOthers.refl _ | with_reducible refine keeps_in ?_ | with_reducible refine keeps_set ?_ | with_reducible refine keeps_alloc ?_)))) (cell_put (by simp [go_sem, gr4]) (hKK _ (by repeat (first | with_reducible exact KeepsOthers.refl _ | with_reducible refine keeps_in ?_ | with_reducible refine keeps_set ?_ | with_reducible refine keeps_alloc ?_)))) ⟨by rw [HR.out, HN.out]; rfl, below_put (by omega) (hKK _ (by repeat (first | with_reducible exact KeepsOthers.refl _ | with_reducible refine keeps_in ?_ | with_reducible refine keeps_set ?_ | with_reducible refine keeps_alloc ?_))) (by repeat (first | with_reducible exact hbw | (with_reducible refine below_ovr2 ?_ ?_; rotate_left; · (simp <;> omega)) | (with_reducible refine Below.alloc ?_ ?_ _; rotate_left; · (simp <;> omega)) | (with_reducible refine Below.setCell ?_ ?_ _; rotate_left; · (simp <;> omega))))⟩
        | true =>
          rw [hso] at hGc
          by_cases hft : fl = tl ∧ fc = tc
          · obtain ⟨rfl, rfl⟩ := hft
            have HN := Lib.hid (sentR_same L O (fl, fc))
            clear hso
            gi_wp2
            have hKK := HKK.out
            refine ⟨by simp, .inl ⟨_, _, rfl, run_takeDeferred (hKK _ (by repeat (first | with_reducible exact KeepsOthers.refl _ | with_reducible refine keeps_in ?_ | with_reducible refine keeps_set ?_ | with_reducible refine keeps_alloc ?_))), ?_⟩⟩
            exact ret5r (Rb := w.heap.size + 1) (k := 0) (a := 0) (b := 0) (c := 0) (d := 0) (ok := false) rfl rfl (cell_put (by simp [go_sem, gr0]) (hKK _ (by repeat (first | with_reducible exact KeepsOthers.refl _ | with_reducible refine keeps_in ?_ | with_reducible refine keeps_set ?_ | with_reducible refine keeps_alloc ?_)))) (cell_put (by simp [go_sem, gr1]) (hKK _ (by repeat (first | with_reducible exact KeepsOthers.refl _ | with_reducible refine keeps_in ?_ | with_reducible refine keeps_set ?_ | with_reducible refine keeps_alloc ?_)))) (cell_put (by simp [go_sem, gr2]) (hKK _ (by repeat (first | with_reducible exact KeepsOthers.refl _ | with_reducible refine keeps_in ?_ | with_reducible refine keeps_set ?_ | with_reducible refine keeps_alloc ?_)))) (cell_put (by simp [go_sem, gr3]) (hKK _ (by repeat (first | with_reducible exact KeepsOthers.refl _ | with_reducible refine keeps_in ?_ | with_reducible refine keeps_set ?_ | with_reducible refine keeps_alloc ?_)))) (cell_put (by simp [go_sem, gr4]) (hKK _ (by repeat (first | with_reducible exact KeepsOthers.refl _ | with_reducible refine keeps_in ?_ | with_reducible refine keeps_set ?_ | with_reducible refine keeps_alloc ?_)))) ⟨by rw [HR.out, HN.out]; rfl, below_put (by omega) (hKK _ (by repeat (first | with_reducible exact KeepsOthers.refl _ | with_reducible refine keeps_in ?_ | with_reducible refine keeps_set ?_ | with_reducible refine keeps_alloc ?_))) (by repeat (first | with_reducible exact hbw | (with_reducible refine below_ovr2 ?_ ?_; rotate_left; · (simp <;> omega)) | (with_reducible refine Below.alloc ?_ ?_ _; rotate_left; · (simp <;> omega)) | (with_reducible refine Below.setCell ?_ ?_ _; rotate_left; · (simp <;> omega))))⟩
          · have HN := Lib.hid (sentR_yes (L := L) hso hft)
            clear hso
            by_cases hf1 : fl = tl
            · have hf2 : ¬ fc = tc := fun h => hft ⟨hf1, h⟩
              have hf3 : ((fc : Int) == (tc : Int)) = false := beq_eq_false_iff_ne.2 (by omega)
              subst hf1
              clear hft
              gi_wp2
              have hKK := HKK.out
              refine ⟨by simp, .inl ⟨_, _, rfl, run_takeDeferred (hKK _ (by repeat (first | with_reducible exact KeepsOthers.refl _ | with_reducible refine keeps_in ?_ | with_reducible refine keeps_set ?_ | with_reducible refine keeps_alloc ?_))), ?_⟩⟩
              exact ret5r (Rb := w.heap.size + 1) (k := 0) (a := fl) (b := fc) (c := fl) (d := tc) (ok := true) rfl rfl (cell_put (by simp [go_sem, gr0]) (hKK _ (by repeat (first | with_reducible exact KeepsOthers.refl _ | with_reducible refine keeps_in ?_ | with_reducible refine keeps_set ?_ | with_reducible refine keeps_alloc ?_)))) (cell_put (by simp [go_sem, gr1]) (hKK _ (by repeat (first | with_reducible exact KeepsOthers.refl _ | with_reducible refine keeps_in ?_ | with_reducible refine keeps_set ?_ | with_reducible refine keeps_alloc ?_)))) (cell_put (by simp [go_sem, gr2]) (hKK _ (by repeat (first | with_reducible exact KeepsOthers.refl _ | with_reducible refine keeps_in ?_ | with_reducible refine keeps_set ?_ | with_reducible refine keeps_alloc ?_)))) (cell_put (by simp [go_sem, gr3]) (hKK _ (by repeat (first | with_reducible exact KeepsOthers.refl _ | with_reducible refine keeps_in ?_ | with_reducible refine keeps_set ?_ | with_reducible refine keeps_alloc ?_)))) (cell_put (by simp [go_sem, gr4]) (hKK _ (by repeat (first | with_reducible exact KeepsOthers.refl _ | with_reducible refine keeps_in ?_ | with_reducible refine keeps_set ?_ | with_reducible refine keeps_alloc ?_)))) ⟨by rw [HR.out, HN.out], below_put (by omega) (hKK _ (by repeat (first | with_reducible exact KeepsOthers.refl _ | with_reducible refine keeps_in ?_ | with_reducible refine keeps_set ?_ | with_reducible refine keeps_alloc ?_))) (by repeat (first | with_reducible exact hbw | (with_reducible refine below_ovr2 ?_ ?_; rotate_left; · (simp <;> omega)) | (with_reducible refine Below.alloc ?_ ?_ _; rotate_left; · (simp <;> omega)) | (with_reducible refine Below.setCell ?_ ?_ _; rotate_left; · (simp <;> omega))))⟩
            · have hf3 : ((fl : Int) == (tl : Int)) = false := beq_eq_false_iff_ne.2 (by omega)
              clear hft
              gi_wp2
              have hKK := HKK.out
              refine ⟨by simp, .inl ⟨_, _, rfl, run_takeDeferred (hKK _ (by repeat (first | with_reducible exact KeepsOthers.refl _ | with_reducible refine keeps_in ?_ | with_reducible refine keeps_set ?_ | with_reducible refine keeps_alloc ?_))), ?_⟩⟩
              exact ret5r (Rb := w.heap.size + 1) (k := 0) (a := fl) (b := fc) (c := tl) (d := tc) (ok := true) rfl rfl (cell_put (by simp [go_sem, gr0]) (hKK _ (by repeat (first | with_reducible exact KeepsOthers.refl _ | with_reducible refine keeps_in ?_ | with_reducible refine keeps_set ?_ | with_reducible refine keeps_alloc ?_)))) (cell_put (by simp [go_sem, gr1]) (hKK _ (by repeat (first | with_reducible exact KeepsOthers.refl _ | with_reducible refine keeps_in ?_ | with_reducible refine keeps_set ?_ | with_reducible refine keeps_alloc ?_)))) (cell_put (by simp [go_sem, gr2]) (hKK _ (by repeat (first | with_reducible exact KeepsOthers.refl _ | with_reducible refine keeps_in ?_ | with_reducible refine keeps_set ?_ | with_reducible refine keeps_alloc ?_)))) (cell_put (by simp [go_sem, gr3]) (hKK _ (by repeat (first | with_reducible exact KeepsOthers.refl _ | with_reducible refine keeps_in ?_ | with_reducible refine keeps_set ?_ | with_reducible refine keeps_alloc ?_)))) (cell_put (by simp [go_sem, gr4]) (hKK _ (by repeat (first | with_reducible exact KeepsOthers.refl _ | with_reducible refine keeps_in ?_ | with_reducible refine keeps_set ?_ | with_reducible refine keeps_alloc ?_)))) ⟨by rw [HR.out, HN.out], below_put (by omega) (hKK _ (by repeat (first | with_reducible exact KeepsOthers.refl _ | with_reducible refine keeps_in ?_ | with_reducible refine keeps_set ?_ | with_reducible refine keeps_alloc ?_))) (by repeat (first | with_reducible exact hbw | (with_reducible refine below_ovr2 ?_ ?_; rotate_left; · (simp <;> omega)) | (with_reducible refine Below.alloc ?_ ?_ _; rotate_left; · (simp <;> omega)) | (with_reducible refine Below.setCell ?_ ?_ _; rotate_left; · (simp <;> omega))))⟩
      | false =>
        have HR : Hid (sObjP L l c false = sentR L O (fl, fc) (endC L (fl, fc) (tl, tc) (cellP L))) := Lib.hid (by rw [HP.out, if_neg (by decide)])
        clear HP
        have hLV : LinesAt W (some ⟨b, off, none⟩) L := lines_typ hB hLW (by intro b' off' e'; cases e'; exact ⟨by omega, by simp <;> omega⟩)
        gi_wp2_with (gi_at_call 23; refine (callsIn_wide.2 (pcells_any _ _ L _)).mono ?_; rintro e1 w1 ⟨rfl, rfl⟩)
        obtain ⟨Eb, hEb⟩ : ∃ Eb, W.heap.size = Eb := ⟨_, rfl⟩
        rw [hEb]
        refine name_worldIn ?_
        intro W2 hW2
        have hb2 : Below W.heap.size W W2 := by rw [hW2]; (repeat (first | with_reducible exact Below.refl _ _ | (with_reducible refine Below.setCell ?_ ?_ _; rotate_left; · (first | exact Nat.le_refl _ | assumption | omega | (simp; done) | (simp; omega))) | (with_reducible refine Below.alloc ?_ ?_ _; rotate_left; · (first | exact Nat.le_refl _ | assumption | omega | (simp; done) | (simp; omega))) | with_reducible refine below_ovr_of ?_ | with_reducible refine drew_below ?_ _ | with_reducible refine Below.drew ?_ | with_reducible assumption))
        have hs2 : Eb + 1 < W2.heap.size := by rw [hW2, ← hEb]; simp
        have hE2 : Box2 W2 Eb 29 (.int .i64 ((endC L (fl, fc) (tl, tc) []).1 : Int)) (.int .i64 ((endC L (fl, fc) (tl, tc) []).2 : Int)) := by rw [hW2]; exact (box2_new _ _ _ _ hEb.symm).alloc _
        have hBl2 : W2.cell? ⟨Eb + 1, 0, none⟩ = some (.slice (some ⟨b, off, none⟩) L.length cap) := by rw [hW2, ← hEb]; simp [go_sem]
        have hL2 := hLV.below hb2 (Nat.le_refl _)
        have hT2 : Box2 W2 Tb 29 (.int .i64 (tl : Int)) (.int .i64 (tc : Int)) := (hb2.block Tb hTl).trans hT
        have hF2 : Box2 W2 (Tb + 1) 29 (.int .i64 (fl : Int)) (.int .i64 (fc : Int)) := (hb2.block (Tb + 1) hFl).trans hF
        have hG2 : Boxed W2 (Tb + 1 + 1) 4 (.bool (someB O)) := (hb2.block (Tb + 1 + 1) hGl).trans hG
        have rr0 := cell_keep_b hb2 gr0
        have rr1 := cell_keep_b hb2 gr1
        have rr2 := cell_keep_b hb2 gr2
        have rr3 := cell_keep_b hb2 gr3
        have rr4 := cell_keep_b hb2 gr4
        have rf0 : W2.frozen? ⟨w.heap.size + 1, 0, none⟩ = false := (hb2.frozen (p := ⟨w.heap.size + 1, 0, none⟩) (by omega)).trans gf0
        have rf1 : W2.frozen? ⟨w.heap.size + 1, 1, none⟩ = false := (hb2.frozen (p := ⟨w.heap.size + 1, 1, none⟩) (by omega)).trans gf1
        have rf2 : W2.frozen? ⟨w.heap.size + 1, 2, none⟩ = false := (hb2.frozen (p := ⟨w.heap.size + 1, 2, none⟩) (by omega)).trans gf2
        have rf3 : W2.frozen? ⟨w.heap.size + 1, 3, none⟩ = false := (hb2.frozen (p := ⟨w.heap.size + 1, 3, none⟩) (by omega)).trans gf3
        have rf4 : W2.frozen? ⟨w.heap.size + 1, 4, none⟩ = false := (hb2.frozen (p := ⟨w.heap.size + 1, 4, none⟩) (by omega)).trans gf4
        have hKD : W2.heap[D]? = some (.deferred (some [])) := (hb2.block D hDl).trans hK
        have hbw2 := hbw.trans (hb2.mono (show w.heap.size ≤ W.heap.size by omega))
        have hbb2 : b < Eb := by omega
        have hEw : Tb + 1 + 1 < Eb := by omega
        have hDE : D < Eb := by omega
        have hsE : Eb + 1 < W2.heap.size := hs2
        clear hW2 hEb gp0 gp1 hT0 hT1 hTf0 hTf1 hF0 hF1 hGc HKK
        have hJ2 : OwnFrom W2.heap.size (fun (pre : List (Cel 100000)) X => Box2 X Eb 29 (.int .i64 ((endC L (fl, fc) (tl, tc) (valsP pre)).1 : Int)) (.int .i64 ((endC L (fl, fc) (tl, tc) (valsP pre)).2 : Int)) ∧ But W2.heap.size [Eb] W2 X) :=
          OwnFrom.and (fun pre X Y row hs hg hr => Box2.own (β := Unit) _ _ _ _ _ () X Y row hs hg hr) (butFrom (Nat.le_refl _) (Nat.le_refl _))
        refine wpIn_rangeFunc_ownH rfl (by omega) (gf := 96) (lb := #[.pointer (some ⟨Eb + 1, 0, none⟩)]) rfl trivial (enters_of Try.func96 (by kernel_rfl) rfl)
          (cells_stopsK (But W2.heap.size [Eb]) (Eb + 1) 100000 (some ⟨b, off, none⟩) cap L W2 htot htot hBl2 hL2 (fun X Y h hc hl => ⟨(h.cell (by omega) (by simp)).trans hc, ⟨fun i hi => by
            obtain ⟨b', off', e', hlt', hcc⟩ := hl.1 i hi
            cases e'
            exact ⟨b, off, rfl, Nat.lt_of_lt_of_le hlt' h.size, (h.cell (by omega) (by simp; omega)).trans hcc⟩, hl.2⟩⟩))
          But.trans (butK_b (Nat.le_refl _)) (Below.refl _ _) (fun _ => rfl)
          _
          (fun _ _ _ => False)
          hJ2
          (fun _ _ _ _ _ hs _ _ => hs)
          ⟨hE2, But.refl _ _ _⟩
          (fun x a' X => ∃ Bx, W2.heap.size ≤ Bx ∧ Box2 X Bx 29 (.int .i64 (x.1.1 : Int)) (.int .i64 (x.1.2 : Int)) ∧ a' = { tmps := #[.slice (some ⟨b, off, none⟩) L.length cap, .agg #[.int .i64 l, .int .i64 c], .bool false, undef, .pointer (some ⟨w.heap.size, 0, none⟩), undef, .pointer (some ⟨w.heap.size + 1, 0, none⟩), .bool false, .int .i64 e, .pointer (some ⟨Tb, 0, none⟩), .pointer (some ⟨Tb + 1, 0, none⟩), .pointer (some ⟨Tb + 1 + 1, 0, none⟩), undef, .pointer (some ⟨Eb, 0, none⟩), .pointer (some ⟨Bx, 0, none⟩), .int .u8 (bytA L x.1), .slice (some ⟨b, off, none⟩) L.length cap, .agg #[.int .i64 l, .int .i64 c], .bool true, .bool false, undef, .slice (some ⟨b, off, none⟩) L.length cap, .int .i64 L.length, .int .i64 e, .int .i64 e, .slice (some ⟨b, off, none⟩) L.length cap, .int .i64 e, .pointer (some ⟨b, off + e, none⟩), .string s, .int .i64 s.size, .agg #[.int .i64 e, .int .i64 s.size], .slice (some ⟨b, off, none⟩) L.length cap, .func (.func 128) #[] #[.pointer (some ⟨Tb + 1 + 1 + 1, 0, none⟩)], undef, undef, undef, undef, undef, undef, .bool false, .bool true, .agg #[.int .i64 fl, .int .i64 fc], .slice (some ⟨b, off, none⟩) L.length cap, .func (.func 96) #[] #[.pointer (some ⟨Eb + 1, 0, none⟩)], .agg #[.int .i64 (x.1.1 : Int), .int .i64 (x.1.2 : Int)], .int .u8 (bytA L x.1), undef, undef, undef, undef, undef, undef, undef, undef, undef, undef, undef, undef, undef, undef, undef, undef, undef, undef, undef, undef, undef, undef, undef, undef, undef, undef, undef, undef, undef, undef, undef, undef], defers := [] })
          (fun x a' _ X Y row ⟨Bx, h1, h2, h3⟩ hg hr => ⟨Bx, h1, Box2.own (β := Unit) Bx _ _ _ _ () X Y row h2 hg hr, h3⟩)
          ?assign2 ?body2 ?done2 ?stop2
        case assign2 =>
          intro l' pre x X K hI hK'
          gi_wp2
          exact hK' _ _ ((KeepsOthers.alloc X _).from _) ((But.refl _ _ X).alloc hI.2.size _) (hJ2.alloc _ hI) ⟨X.heap.size, hI.2.size, World.alloc_heap_new X _, rfl⟩
        case body2 =>
          rintro l' pre x a' X _ _ ⟨hEx, hBu⟩ ⟨Bx, hBx, hx, rfl⟩ _
          have hx0 := hx.c0
          have hx1 := hx.c1
          have hxl := hx.lt
          have hXs := hBu.size
          have hT3 : Box2 X Tb 29 (.int .i64 (tl : Int)) (.int .i64 (tc : Int)) := (hBu.block Tb (by omega) (by simp; omega)).trans hT2
          have hF3 : Box2 X (Tb + 1) 29 (.int .i64 (fl : Int)) (.int .i64 (fc : Int)) := (hBu.block (Tb + 1) (by omega) (by simp; omega)).trans hF2
          have hT30 := hT3.c0
          have hT31 := hT3.c1
          have hF30 := hF3.c0
          have hF31 := hF3.c1
          have lT : Tb < X.heap.size := by omega
          have lF : Tb + 1 < X.heap.size := by omega
          have n1 : ¬ Bx = Eb := by omega
          have hEc0 := hEx.c0
          have hEc1 := hEx.c1
          have hEf0 := hEx.f0
          have hEf1 := hEx.f1
          have lE : Eb < X.heap.size := by omega
          have HS : Hid (endC L (fl, fc) (tl, tc) (valsP (pre ++ [x])) = if inB L (fl, fc) (tl, tc) x.1 = true then (x.1.1, x.1.2 + 1) else endC L (fl, fc) (tl, tc) (valsP pre)) := Lib.hid (by rw [valsP, List.map_append]; exact endC_snoc _ _ _ _ _)
          have hx2 : (x.1.2 : Int) ≤ 100000 := by have := x.2.2; omega
          obtain ⟨cv, hcv⟩ : ∃ cv, ofC (bytA L x.1) true = cv := ⟨_, rfl⟩
          obtain ⟨q1, hq1⟩ : ∃ q, lessB (x.1.1 : Int) (x.1.2 : Int) (fl : Int) (fc : Int) = q := ⟨_, rfl⟩
          obtain ⟨q2, hq2⟩ : ∃ q, lessB (x.1.1 : Int) (x.1.2 : Int) (tl : Int) (tc : Int) = q := ⟨_, rfl⟩
          have HIN : Hid (inB L (fl, fc) (tl, tc) x.1 = (!(cv == 0) && (!q1 && q2))) := Lib.hid (by rw [inB, hcv, hq1, hq2])
          have HCV := Lib.hid hcv
          have HQ1 := Lib.hid hq1
          have HQ2 := Lib.hid hq2
          clear hcv hq1 hq2
          by_cases hc0 : cv = 0
          · subst hc0
            have HN : Hid (endC L (fl, fc) (tl, tc) (valsP (pre ++ [x])) = endC L (fl, fc) (tl, tc) (valsP pre)) := Lib.hid (by rw [HS.out, HIN.out]; rfl)
            gi_wp2_with (gi_at_call 103; refine (callsIn_wide.2 (of_any _ _ _)).mono ?_; rw [HCV.out]; rintro e1 w2 ⟨rfl, rfl⟩)
            exact ⟨(KeepsOthers.refl _).from _, But.refl _ _ _, by rw [HN.out]; exact hEx, hBu⟩
          · have hcb : (cv == 0) = false := beq_eq_false_iff_ne.2 hc0
            cases q1 with
            | true =>
              have HN : Hid (endC L (fl, fc) (tl, tc) (valsP (pre ++ [x])) = endC L (fl, fc) (tl, tc) (valsP pre)) := Lib.hid (by rw [HS.out, HIN.out, hcb]; rfl)
              gi_wp2_with (first | (gi_at_call 103; refine (callsIn_wide.2 (of_any _ _ _)).mono ?_; rw [HCV.out]; rintro e1 w2 ⟨rfl, rfl⟩) | (gi_at_call 95; refine (callsIn_wide.2 (less_at _ _ _ _ _ HQ1)).mono ?_; rintro e1 w2 ⟨rfl, hbl⟩; obtain ⟨y1, rfl⟩ := ovr_of_below hbl; clear hbl))
              exact ⟨(keeps_in (KeepsOthers.refl _)).from _, But.of_below ((below_ovr _ _).mono hXs), by rw [HN.out]; exact hEx.ovr _, hBu.trans (But.of_below ((below_ovr _ _).mono hXs))⟩
            | false =>
              cases q2 with
              | false =>
                have HN : Hid (endC L (fl, fc) (tl, tc) (valsP (pre ++ [x])) = endC L (fl, fc) (tl, tc) (valsP pre)) := Lib.hid (by rw [HS.out, HIN.out, hcb]; rfl)
                gi_wp2_with (first | (gi_at_call 103; refine (callsIn_wide.2 (of_any _ _ _)).mono ?_; rw [HCV.out]; rintro e1 w2 ⟨rfl, rfl⟩) | (gi_at_call 95; refine (callsIn_wide.2 (less_at _ _ _ _ _ HQ1)).mono ?_; rintro e1 w2 ⟨rfl, hbl⟩; obtain ⟨y1, rfl⟩ := ovr_of_below hbl; clear hbl; clear HQ1) | (gi_at_call 95; refine (callsIn_wide.2 (less_at _ _ _ _ _ HQ2)).mono ?_; rintro e1 w2 ⟨rfl, hbl⟩; obtain ⟨y2, rfl⟩ := ovr_of_below hbl; clear hbl))
                exact ⟨(keeps_in (keeps_in (KeepsOthers.refl _))).from _, But.of_below (by exact below_ovr2 ((below_ovr _ _).mono hXs) (by simp; omega)), by rw [HN.out]; exact (hEx.ovr _).ovr _, hBu.trans (But.of_below (by exact below_ovr2 ((below_ovr _ _).mono hXs) (by simp; omega)))⟩
              | true =>
                have HN : Hid (endC L (fl, fc) (tl, tc) (valsP (pre ++ [x])) = (x.1.1, x.1.2 + 1)) := Lib.hid (by rw [HS.out, HIN.out, hcb]; rfl)
                gi_wp2_with (first | (gi_at_call 103; refine (callsIn_wide.2 (of_any _ _ _)).mono ?_; rw [HCV.out]; rintro e1 w2 ⟨rfl, rfl⟩) | (gi_at_call 95; refine (callsIn_wide.2 (less_at _ _ _ _ _ HQ1)).mono ?_; rintro e1 w2 ⟨rfl, hbl⟩; obtain ⟨y1, rfl⟩ := ovr_of_below hbl; clear hbl; clear HQ1) | (gi_at_call 95; refine (callsIn_wide.2 (less_at _ _ _ _ _ HQ2)).mono ?_; rintro e1 w2 ⟨rfl, hbl⟩; obtain ⟨y2, rfl⟩ := ovr_of_below hbl; clear hbl))
                have hBX : But W2.heap.size [Eb] X (ovr (ovr ((X.setCell ⟨Eb, 0, none⟩ (.int .i64 (x.1.1 : Int))).setCell ⟨Eb, 1, none⟩ (.int .i64 ((x.1.2 : Int) + 1))) y1) y2) := (((But.refl _ _ X).setCell (.inl (by simp)) _ _).setCell (.inl (by simp)) _ _).trans (But.of_below (below_ovr2 ((below_ovr _ _).mono (by simp; omega)) (by simp; omega)))
                exact ⟨(keeps_in (keeps_in (keeps_set (keeps_set (KeepsOthers.refl _))))).from _, hBX, by rw [HN.out]; exact ((hEx.set (.int .i64 (x.1.1 : Int)) (.int .i64 ((x.1.2 : Int) + 1))).ovr y1).ovr y2, hBu.trans hBX⟩
        case done2 =>
          rintro D2 ys X hD2 hys ⟨hEx, hBu⟩ hK2
          have hXs := hBu.size
          obtain ⟨⟨el, ec⟩, hel⟩ : ∃ p, endC L (fl, fc) (tl, tc) (cellP L) = p := ⟨_, rfl⟩
          rw [show valsP ys = cellP L from hys, hel] at hEx
          have HR2 : Hid (sObjP L l c false = sentR L O (fl, fc) (el, ec)) := Lib.hid (by rw [HR.out, hel])
          clear hys hel HR
          have hT3 : Box2 X Tb 29 (.int .i64 (tl : Int)) (.int .i64 (tc : Int)) := (hBu.block Tb (by omega) (by simp; omega)).trans hT2
          have hF3 : Box2 X (Tb + 1) 29 (.int .i64 (fl : Int)) (.int .i64 (fc : Int)) := (hBu.block (Tb + 1) (by omega) (by simp; omega)).trans hF2
          have hG3 : Boxed X (Tb + 1 + 1) 4 (.bool (someB O)) := (hBu.block (Tb + 1 + 1) (by omega) (by simp; omega)).trans hG2
          have hTc0 := hT3.c0
          have hTc1 := hT3.c1
          have hTf0 := hT3.f0
          have hTf1 := hT3.f1
          have hFc0 := hF3.c0
          have hFc1 := hF3.c1
          have hGc := hG3.cell
          have hEc0 := hEx.c0
          have hEc1 := hEx.c1
          have gr0 : X.cell? ⟨w.heap.size + 1, 0, none⟩ = some (.int .i64 0) := (hBu.cell (by omega) (by simp; omega)).trans rr0
          have gr1 : X.cell? ⟨w.heap.size + 1, 1, none⟩ = some (.int .i64 0) := (hBu.cell (by omega) (by simp; omega)).trans rr1
          have gr2 : X.cell? ⟨w.heap.size + 1, 2, none⟩ = some (.int .i64 0) := (hBu.cell (by omega) (by simp; omega)).trans rr2
          have gr3 : X.cell? ⟨w.heap.size + 1, 3, none⟩ = some (.int .i64 0) := (hBu.cell (by omega) (by simp; omega)).trans rr3
          have gr4 : X.cell? ⟨w.heap.size + 1, 4, none⟩ = some (.int .i64 0) := (hBu.cell (by omega) (by simp; omega)).trans rr4
          have gf0 : X.frozen? ⟨w.heap.size + 1, 0, none⟩ = false := (hBu.frozen (by omega) (by simp; omega)).trans rf0
          have gf1 : X.frozen? ⟨w.heap.size + 1, 1, none⟩ = false := (hBu.frozen (by omega) (by simp; omega)).trans rf1
          have gf2 : X.frozen? ⟨w.heap.size + 1, 2, none⟩ = false := (hBu.frozen (by omega) (by simp; omega)).trans rf2
          have gf3 : X.frozen? ⟨w.heap.size + 1, 3, none⟩ = false := (hBu.frozen (by omega) (by simp; omega)).trans rf3
          have gf4 : X.frozen? ⟨w.heap.size + 1, 4, none⟩ = false := (hBu.frozen (by omega) (by simp; omega)).trans rf4
          have hKX : X.heap[D]? = some (.deferred (some [])) := (hBu.block D (by omega) (by simp; omega)).trans hKD
          have hbw := hBu.below hbw2 (by omega) (by intro k hk; simp at hk; omega)
          have hKK1 := fun (W' : World) (h : KeepsOthers X W') => h.same D _ hKX rfl
          have HKK1 := Lib.hid hKK1
          have hKK2 := fun (W' : World) (h : KeepsOthers X W') => h.same D2 _ hK2 rfl
          have HKK2 := Lib.hid hKK2
          have hDD : D ≠ D2 := by omega
          have lR : w.heap.size + 1 < X.heap.size := by omega
          have nTF : ¬ Tb + 1 = Tb := by omega
          clear hKK1 hKK2
          cases hso : someB O with
          | false =>
            rw [hso] at hGc
            have HN := Lib.hid (sentR_none (L := L) (f := (fl, fc)) (t := (el, ec)) hso)
            clear hso
            gi_wp2
            have hKKA := HKK1.out
            have hKKB := HKK2.out
            refine ⟨by simp, .inl ⟨_, _, rfl, run_takeDeferred (hKKB _ (by repeat (first | with_reducible exact KeepsOthers.refl _ | with_reducible refine keeps_in ?_ | with_reducible refine keeps_set ?_ | with_reducible refine keeps_alloc ?_))), ⟨by simp, .inl ⟨_, _, rfl, run_takeDeferred ((put_other hDD).trans (hKKA _ (by repeat (first | with_reducible exact KeepsOthers.refl _ | with_reducible refine keeps_in ?_ | with_reducible refine keeps_set ?_ | with_reducible refine keeps_alloc ?_)))), ?_⟩⟩⟩⟩
            exact ret5r (Rb := w.heap.size + 1) (k := 0) (a := 0) (b := 0) (c := 0) (d := 0) (ok := false) rfl rfl (cell_put (cell_put (by simp [go_sem, gr0]) (hKKB _ (by repeat (first | with_reducible exact KeepsOthers.refl _ | with_reducible refine keeps_in ?_ | with_reducible refine keeps_set ?_ | with_reducible refine keeps_alloc ?_)))) ((put_other hDD).trans (hKKA _ (by repeat (first | with_reducible exact KeepsOthers.refl _ | with_reducible refine keeps_in ?_ | with_reducible refine keeps_set ?_ | with_reducible refine keeps_alloc ?_))))) (cell_put (cell_put (by simp [go_sem, gr1]) (hKKB _ (by repeat (first | with_reducible exact KeepsOthers.refl _ | with_reducible refine keeps_in ?_ | with_reducible refine keeps_set ?_ | with_reducible refine keeps_alloc ?_)))) ((put_other hDD).trans (hKKA _ (by repeat (first | with_reducible exact KeepsOthers.refl _ | with_reducible refine keeps_in ?_ | with_reducible refine keeps_set ?_ | with_reducible refine keeps_alloc ?_))))) (cell_put (cell_put (by simp [go_sem, gr2]) (hKKB _ (by repeat (first | with_reducible exact KeepsOthers.refl _ | with_reducible refine keeps_in ?_ | with_reducible refine keeps_set ?_ | with_reducible refine keeps_alloc ?_)))) ((put_other hDD).trans (hKKA _ (by repeat (first | with_reducible exact KeepsOthers.refl _ | with_reducible refine keeps_in ?_ | with_reducible refine keeps_set ?_ | with_reducible refine keeps_alloc ?_))))) (cell_put (cell_put (by simp [go_sem, gr3]) (hKKB _ (by repeat (first | with_reducible exact KeepsOthers.refl _ | with_reducible refine keeps_in ?_ | with_reducible refine keeps_set ?_ | with_reducible refine keeps_alloc ?_)))) ((put_other hDD).trans (hKKA _ (by repeat (first | with_reducible exact KeepsOthers.refl _ | with_reducible refine keeps_in ?_ | with_reducible refine keeps_set ?_ | with_reducible refine keeps_alloc ?_))))) (cell_put (cell_put (by simp [go_sem, gr4]) (hKKB _ (by repeat (first | with_reducible exact KeepsOthers.refl _ | with_reducible refine keeps_in ?_ | with_reducible refine keeps_set ?_ | with_reducible refine keeps_alloc ?_)))) ((put_other hDD).trans (hKKA _ (by repeat (first | with_reducible exact KeepsOthers.refl _ | with_reducible refine keeps_in ?_ | with_reducible refine keeps_set ?_ | with_reducible refine keeps_alloc ?_))))) ⟨by rw [HR2.out, HN.out]; rfl, below_put (by omega) ((put_other hDD).trans (hKKA _ (by repeat (first | with_reducible exact KeepsOthers.refl _ | with_reducible refine keeps_in ?_ | with_reducible refine keeps_set ?_ | with_reducible refine keeps_alloc ?_)))) (below_put (by omega) (hKKB _ (by repeat (first | with_reducible exact KeepsOthers.refl _ | with_reducible refine keeps_in ?_ | with_reducible refine keeps_set ?_ | with_reducible refine keeps_alloc ?_))) (by repeat (first | with_reducible exact hbw | (with_reducible refine below_ovr2 ?_ ?_; rotate_left; · (simp <;> omega)) | (with_reducible refine Below.alloc ?_ ?_ _; rotate_left; · (simp <;> omega)) | (with_reducible refine Below.setCell ?_ ?_ _; rotate_left; · (simp <;> omega)))))⟩
          | true =>
            rw [hso] at hGc
            by_cases hft : fl = el ∧ fc = ec
            · obtain ⟨rfl, rfl⟩ := hft
              have HN := Lib.hid (sentR_same L O (fl, fc))
              clear hso
              gi_wp2
              have hKKA := HKK1.out
              have hKKB := HKK2.out
              refine ⟨by simp, .inl ⟨_, _, rfl, run_takeDeferred (hKKB _ (by repeat (first | with_reducible exact KeepsOthers.refl _ | with_reducible refine keeps_in ?_ | with_reducible refine keeps_set ?_ | with_reducible refine keeps_alloc ?_))), ⟨by simp, .inl ⟨_, _, rfl, run_takeDeferred ((put_other hDD).trans (hKKA _ (by repeat (first | with_reducible exact KeepsOthers.refl _ | with_reducible refine keeps_in ?_ | with_reducible refine keeps_set ?_ | with_reducible refine keeps_alloc ?_)))), ?_⟩⟩⟩⟩
              exact ret5r (Rb := w.heap.size + 1) (k := 0) (a := 0) (b := 0) (c := 0) (d := 0) (ok := false) rfl rfl (cell_put (cell_put (by simp [go_sem, gr0]) (hKKB _ (by repeat (first | with_reducible exact KeepsOthers.refl _ | with_reducible refine keeps_in ?_ | with_reducible refine keeps_set ?_ | with_reducible refine keeps_alloc ?_)))) ((put_other hDD).trans (hKKA _ (by repeat (first | with_reducible exact KeepsOthers.refl _ | with_reducible refine keeps_in ?_ | with_reducible refine keeps_set ?_ | with_reducible refine keeps_alloc ?_))))) (cell_put (cell_put (by simp [go_sem, gr1]) (hKKB _ (by repeat (first | with_reducible exact KeepsOthers.refl _ | with_reducible refine keeps_in ?_ | with_reducible refine keeps_set ?_ | with_reducible refine keeps_alloc ?_)))) ((put_other hDD).trans (hKKA _ (by repeat (first | with_reducible exact KeepsOthers.refl _ | with_reducible refine keeps_in ?_ | with_reducible refine keeps_set ?_ | with_reducible refine keeps_alloc ?_))))) (cell_put (cell_put (by simp [go_sem, gr2]) (hKKB _ (by repeat (first | with_reducible exact KeepsOthers.refl _ | with_reducible refine keeps_in ?_ | with_reducible refine keeps_set ?_ | with_reducible refine keeps_alloc ?_)))) ((put_other hDD).trans (hKKA _ (by repeat (first | with_reducible exact KeepsOthers.refl _ | with_reducible refine keeps_in ?_ | with_reducible refine keeps_set ?_ | with_reducible refine keeps_alloc ?_))))) (cell_put (cell_put (by simp [go_sem, gr3]) (hKKB _ (by repeat (first | with_reducible exact KeepsOthers.refl _ | with_reducible refine keeps_in ?_ | with_reducible refine keeps_set ?_ | with_reducible refine keeps_alloc ?_)))) ((put_other hDD).trans (hKKA _ (by repeat (first | with_reducible exact KeepsOthers.refl _ | with_reducible refine keeps_in ?_ | with_reducible refine keeps_set ?_ | with_reducible refine keeps_alloc ?_))))) (cell_put (cell_put (by simp [go_sem, gr4]) (hKKB _ (by repeat (first | with_reducible exact KeepsOthers.refl _ | with_reducible refine keeps_in ?_ | with_reducible refine keeps_set ?_ | with_reducible refine keeps_alloc ?_)))) ((put_other hDD).trans (hKKA _ (by repeat (first | with_reducible exact KeepsOthers.refl _ | with_reducible refine keeps_in ?_ | with_reducible refine keeps_set ?_ | with_reducible refine keeps_alloc ?_))))) ⟨by rw [HR2.out, HN.out]; rfl, below_put (by omega) ((put_other hDD).trans (hKKA _ (by repeat (first | with_reducible exact KeepsOthers.refl _ | with_reducible refine keeps_in ?_ | with_reducible refine keeps_set ?_ | with_reducible refine keeps_alloc ?_)))) (below_put (by omega) (hKKB _ (by repeat (first | with_reducible exact KeepsOthers.refl _ | with_reducible refine keeps_in ?_ | with_reducible refine keeps_set ?_ | with_reducible refine keeps_alloc ?_))) (by repeat (first | with_reducible exact hbw | (with_reducible refine below_ovr2 ?_ ?_; rotate_left; · (simp <;> omega)) | (with_reducible refine Below.alloc ?_ ?_ _; rotate_left; · (simp <;> omega)) | (with_reducible refine Below.setCell ?_ ?_ _; rotate_left; · (simp <;> omega)))))⟩
            · have HN := Lib.hid (sentR_yes (L := L) hso hft)
              clear hso
              by_cases hf1 : fl = el
              · have hf2 : ¬ fc = ec := fun h => hft ⟨hf1, h⟩
                have hf3 : ((fc : Int) == (ec : Int)) = false := beq_eq_false_iff_ne.2 (by omega)
                subst hf1
                clear hft
                gi_wp2
                have hKKA := HKK1.out
                have hKKB := HKK2.out
                refine ⟨by simp, .inl ⟨_, _, rfl, run_takeDeferred (hKKB _ (by repeat (first | with_reducible exact KeepsOthers.refl _ | with_reducible refine keeps_in ?_ | with_reducible refine keeps_set ?_ | with_reducible refine keeps_alloc ?_))), ⟨by simp, .inl ⟨_, _, rfl, run_takeDeferred ((put_other hDD).trans (hKKA _ (by repeat (first | with_reducible exact KeepsOthers.refl _ | with_reducible refine keeps_in ?_ | with_reducible refine keeps_set ?_ | with_reducible refine keeps_alloc ?_)))), ?_⟩⟩⟩⟩
                exact ret5r (Rb := w.heap.size + 1) (k := 0) (a := fl) (b := fc) (c := fl) (d := ec) (ok := true) rfl rfl (cell_put (cell_put (by simp [go_sem, gr0]) (hKKB _ (by repeat (first | with_reducible exact KeepsOthers.refl _ | with_reducible refine keeps_in ?_ | with_reducible refine keeps_set ?_ | with_reducible refine keeps_alloc ?_)))) ((put_other hDD).trans (hKKA _ (by repeat (first | with_reducible exact KeepsOthers.refl _ | with_reducible refine keeps_in ?_ | with_reducible refine keeps_set ?_ | with_reducible refine keeps_alloc ?_))))) (cell_put (cell_put (by simp [go_sem, gr1]) (hKKB _ (by repeat (first | with_reducible exact KeepsOthers.refl _ | with_reducible refine keeps_in ?_ | with_reducible refine keeps_set ?_ | with_reducible refine keeps_alloc ?_)))) ((put_other hDD).trans (hKKA _ (by repeat (first | with_reducible exact KeepsOthers.refl _ | with_reducible refine keeps_in ?_ | with_reducible refine keeps_set ?_ | with_reducible refine keeps_alloc ?_))))) (cell_put (cell_put (by simp [go_sem, gr2]) (hKKB _ (by repeat (first | with_reducible exact KeepsOthers.refl _ | with_reducible refine keeps_in ?_ | with_reducible refine keeps_set ?_ | with_reducible refine keeps_alloc ?_)))) ((put_other hDD).trans (hKKA _ (by repeat (first | with_reducible exact KeepsOthers.refl _ | with_reducible refine keeps_in ?_ | with_reducible refine keeps_set ?_ | with_reducible refine keeps_alloc ?_))))) (cell_put (cell_put (by simp [go_sem, gr3]) (hKKB _ (by repeat (first | with_reducible exact KeepsOthers.refl _ | with_reducible refine keeps_in ?_ | with_reducible refine keeps_set ?_ | with_reducible refine keeps_alloc ?_)))) ((put_other hDD).trans (hKKA _ (by repeat (first | with_reducible exact KeepsOthers.refl _ | with_reducible refine keeps_in ?_ | with_reducible refine keeps_set ?_ | with_reducible refine keeps_alloc ?_))))) (cell_put (cell_put (by simp [go_sem, gr4]) (hKKB _ (by repeat (first | with_reducible exact KeepsOthers.refl _ | with_reducible refine keeps_in ?_ | with_reducible refine keeps_set ?_ | with_reducible refine keeps_alloc ?_)))) ((put_other hDD).trans (hKKA _ (by repeat (first | with_reducible exact KeepsOthers.refl _ | with_reducible refine keeps_in ?_ | with_reducible refine keeps_set ?_ | with_reducible refine keeps_alloc ?_))))) ⟨by rw [HR2.out, HN.out], below_put (by omega) ((put_other hDD).trans (hKKA _ (by repeat (first | with_reducible exact KeepsOthers.refl _ | with_reducible refine keeps_in ?_ | with_reducible refine keeps_set ?_ | with_reducible refine keeps_alloc ?_)))) (below_put (by omega) (hKKB _ (by repeat (first | with_reducible exact KeepsOthers.refl _ | with_reducible refine keeps_in ?_ | with_reducible refine keeps_set ?_ | with_reducible refine keeps_alloc ?_))) (by repeat (first | with_reducible exact hbw | (with_reducible refine below_ovr2 ?_ ?_; rotate_left; · (simp <;> omega)) | (with_reducible refine Below.alloc ?_ ?_ _; rotate_left; · (simp <;> omega)) | (with_reducible refine Below.setCell ?_ ?_ _; rotate_left; · (simp <;> omega)))))⟩
              · have hf3 : ((fl : Int) == (el : Int)) = false := beq_eq_false_iff_ne.2 (by omega)
                clear hft
                gi_wp2
                have hKKA := HKK1.out
                have hKKB := HKK2.out
                refine ⟨by simp, .inl ⟨_, _, rfl, run_takeDeferred (hKKB _ (by repeat (first | with_reducible exact KeepsOthers.refl _ | with_reducible refine keeps_in ?_ | with_reducible refine keeps_set ?_ | with_reducible refine keeps_alloc ?_))), ⟨by simp, .inl ⟨_, _, rfl, run_takeDeferred ((put_other hDD).trans (hKKA _ (by repeat (first | with_reducible exact KeepsOthers.refl _ | with_reducible refine keeps_in ?_ | with_reducible refine keeps_set ?_ | with_reducible refine keeps_alloc ?_)))), ?_⟩⟩⟩⟩
                exact ret5r (Rb := w.heap.size + 1) (k := 0) (a := fl) (b := fc) (c := el) (d := ec) (ok := true) rfl rfl (cell_put (cell_put (by simp [go_sem, gr0]) (hKKB _ (by repeat (first | with_reducible exact KeepsOthers.refl _ | with_reducible refine keeps_in ?_ | with_reducible refine keeps_set ?_ | with_reducible refine keeps_alloc ?_)))) ((put_other hDD).trans (hKKA _ (by repeat (first | with_reducible exact KeepsOthers.refl _ | with_reducible refine keeps_in ?_ | with_reducible refine keeps_set ?_ | with_reducible refine keeps_alloc ?_))))) (cell_put (cell_put (by simp [go_sem, gr1]) (hKKB _ (by repeat (first | with_reducible exact KeepsOthers.refl _ | with_reducible refine keeps_in ?_ | with_reducible refine keeps_set ?_ | with_reducible refine keeps_alloc ?_)))) ((put_other hDD).trans (hKKA _ (by repeat (first | with_reducible exact KeepsOthers.refl _ | with_reducible refine keeps_in ?_ | with_reducible refine keeps_set ?_ | with_reducible refine keeps_alloc ?_))))) (cell_put (cell_put (by simp [go_sem, gr2]) (hKKB _ (by repeat (first | with_reducible exact KeepsOthers.refl _ | with_reducible refine keeps_in ?_ | with_reducible refine keeps_set ?_ | with_reducible refine keeps_alloc ?_)))) ((put_other hDD).trans (hKKA _ (by repeat (first | with_reducible exact KeepsOthers.refl _ | with_reducible refine keeps_in ?_ | with_reducible refine keeps_set ?_ | with_reducible refine keeps_alloc ?_))))) (cell_put (cell_put (by simp [go_sem, gr3]) (hKKB _ (by repeat (first | with_reducible exact KeepsOthers.refl _ | with_reducible refine keeps_in ?_ | with_reducible refine keeps_set ?_ | with_reducible refine keeps_alloc ?_)))) ((put_other hDD).trans (hKKA _ (by repeat (first | with_reducible exact KeepsOthers.refl _ | with_reducible refine keeps_in ?_ | with_reducible refine keeps_set ?_ | with_reducible refine keeps_alloc ?_))))) (cell_put (cell_put (by simp [go_sem, gr4]) (hKKB _ (by repeat (first | with_reducible exact KeepsOthers.refl _ | with_reducible refine keeps_in ?_ | with_reducible refine keeps_set ?_ | with_reducible refine keeps_alloc ?_)))) ((put_other hDD).trans (hKKA _ (by repeat (first | with_reducible exact KeepsOthers.refl _ | with_reducible refine keeps_in ?_ | with_reducible refine keeps_set ?_ | with_reducible refine keeps_alloc ?_))))) ⟨by rw [HR2.out, HN.out], below_put (by omega) ((put_other hDD).trans (hKKA _ (by repeat (first | with_reducible exact KeepsOthers.refl _ | with_reducible refine keeps_in ?_ | with_reducible refine keeps_set ?_ | with_reducible refine keeps_alloc ?_)))) (below_put (by omega) (hKKB _ (by repeat (first | with_reducible exact KeepsOthers.refl _ | with_reducible refine keeps_in ?_ | with_reducible refine keeps_set ?_ | with_reducible refine keeps_alloc ?_))) (by repeat (first | with_reducible exact hbw | (with_reducible refine below_ovr2 ?_ ?_; rotate_left; · (simp <;> omega)) | (with_reducible refine Below.alloc ?_ ?_ _; rotate_left; · (simp <;> omega)) | (with_reducible refine Below.setCell ?_ ?_ _; rotate_left; · (simp <;> omega)))))⟩
        case stop2 =>
          rintro _ _ _ _ _ _ h _
          exact h.elim
    -- to here
  | false =>
    have HB := Lib.hid hb
    have HY := Lib.hid (sObjP_no (around := ar) hb)
    clear hb
    go_enter Try.func85, Try.ntmps85
    go_wp2_with (go_at_call 139; refine (byte_any _ _ L _ _ _ (by (repeat (first | assumption | refine LinesAt.ovr ?_ _ | refine LinesAt.alloc ?_ _ | refine LinesAt.drewN ?_ _ | refine LinesAt.drew ?_)))).mono ?_; rw [HB.out]; rintro e w1 ⟨rfl, hbl⟩; obtain ⟨x, rfl⟩ := ovr_of_below hbl; clear hbl)
    refine bodyPost_ret (v := rngV noR) (by simp [results, Try.results85, go_sem, noR]) rfl ⟨by rw [HY.out], by (repeat (first | with_reducible exact Below.refl _ _ | (with_reducible refine Below.setCell ?_ ?_ _; rotate_left; · (first | exact Nat.le_refl _ | assumption | omega | (simp; done) | (simp; omega))) | (with_reducible refine Below.alloc ?_ ?_ _; rotate_left; · (first | exact Nat.le_refl _ | assumption | omega | (simp; done) | (simp; omega))) | with_reducible refine below_ovr_of ?_ | with_reducible refine drew_below ?_ _ | with_reducible refine Below.drew ?_ | with_reducible assumption))⟩
end Go.Proofs.Ytlbbgocggifjaaa
