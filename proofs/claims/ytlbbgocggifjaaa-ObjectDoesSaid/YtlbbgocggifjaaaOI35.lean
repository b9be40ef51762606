/- The contract of para.SentBack. Conditions: none beyond what it says. -/
import Derived.Test.YtlbbgocggifjaaaOI33
namespace Go.Proofs.Ytlbbgocggifjaaa
open Go.RowKit Go.Shelf

attribute [local go_sem] Oper.semAt_some
theorem ret5s {W' : World} {D Rb : Nat} {a b c t : Int} {j ok : Bool} {tm : Array Value} {Q : Value → Prop} (h6 : tm.getD 6 undef = .pointer (some ⟨Rb, 0, none⟩)) (h7 : tm.getD 7 undef = .bool ok) (hK : W'.heap[D]? = some (.deferred (some [])))
    (c0 : W'.cell? ⟨Rb, 0, none⟩ = some (.int .i64 a)) (c1 : W'.cell? ⟨Rb, 1, none⟩ = some (.int .i64 b)) (c2 : W'.cell? ⟨Rb, 2, none⟩ = some (.int .i64 c)) (c3 : W'.cell? ⟨Rb, 3, none⟩ = some (.bool j)) (c4 : W'.cell? ⟨Rb, 4, none⟩ = some (.int .i64 t)) (hQ : Q (movV ((a, b, c, j, t), ok))) :
    ∃ v, (results Try.f75 tm).run Try.prog (W'.putObj D (.deferred none)) = .ok v (W'.putObj D (.deferred none)) ∧ Q v := by
  have r0 := cell_put c0 hK
  have r1 := cell_put c1 hK
  have r2 := cell_put c2 hK
  have r3 := cell_put c3 hK
  have r4 := cell_put c4 hK
  rw [Array.getD_eq_getD_getElem?] at h6 h7
  exact ⟨_, by simp [results, Try.results75, go_sem, h6, h7, r0, r1, r2, r3, r4], hQ⟩
theorem sentBack_yes {O : List (Nat × Nat)} {m x y : Nat} (h : 1 ≤ m) (h2 : m ≤ O.length) (hx : O.getD (O.length - m) (0, 0) = (x, y)) : sentBackO O.reverse m = (((x : Int), (y : Int), 0, true, -1), true) := by
  rw [sentBackO, if_pos (by simpa using h2), List.getD_eq_getElem?_getD, List.getElem?_reverse (by omega), show O.length - 1 - (m - 1) = O.length - m by omega, ← List.getD_eq_getElem?_getD, hx]
  rfl
theorem sentBack_none {O : List (Nat × Nat)} {m : Nat} (h2 : O.length < m) : sentBackO O.reverse m = noMov := by
  rw [sentBackO, if_neg (by simpa using h2)]
theorem ahdR_all {l c : Int} {O : List (Nat × Nat)} (h : ∀ p ∈ O, lessB (p.1 : Int) (p.2 : Int) l c = true) : ahdR l c O = O.reverse := by
  rw [ahdR, List.filter_eq_self.2 h]
theorem ahdR_cut {l c : Int} {L : List ByteArray} {A : List (Nat × Nat)} {x : Nat × Nat} (hp : A ++ [x] <+: sentP L) (hA : ∀ p ∈ A, lessB (p.1 : Int) (p.2 : Int) l c = true) (hx : lessB (x.1 : Int) (x.2 : Int) l c = false) : ahdR l c (sentP L) = A.reverse := by
  obtain ⟨T, hT⟩ := hp
  have hs := sentP_sorted L
  rw [← hT, List.append_assoc, List.singleton_append] at hs ⊢
  rw [ahdR, filter_cut hs hA hx]
set_option maxRecDepth 100000 in
set_option maxHeartbeats 8000000 in
theorem psentBack_any (a : Option Addr) (cap : Nat) (L : List ByteArray) (pl pc n : Int) (w : World) (hL : LinesAt w a L) (htot : L.length + total L ≤ 100000) (hn2 : n ≤ 9223372036854775807) :
    Calls Try.prog 75 #[.slice a L.length cap, .agg #[.int .i64 pl, .int .i64 pc], .int .i64 n] w fun e w' => e = .returned (movV (sentBackP L pl pc n)) ∧ Below w.heap.size w w' := by
  have hn := hL.2.1
  by_cases h : plcB L pl pc = true ∧ 1 ≤ n
  · have HQ : Hid ((plcB L pl pc && decide (1 ≤ n)) = true) := Lib.hid (by rw [h.1, decide_eq_true h.2]; rfl)
    obtain ⟨l, c, m, rfl, rfl, rfl, hl, hm, _, hp⟩ := sent_in h
    have hRl := (sentP_in (L := L)).2
    obtain ⟨b, off, s, hab, hb, hcell, hs, HS⟩ := line_facts' hL (i := 0) (by omega)
    subst hab
    have HP := Lib.hid hp
    obtain ⟨i0, hi, hz0, hz1, hz2⟩ := info_parts infoPos
    clear h hp HS hs
    refine (callsIn_wide (n := 9)).1 ?_
    refine callsIn_of_wp_marks Try.func75 rfl trivial ?_ rfl
    simp only [Try.ntmps75, List.size_toArray, List.length_cons, List.length_nil, Nat.reduceAdd, Nat.reduceSub, Array.replicate_succ, Array.replicate_zero, List.push_toArray, List.append_toArray, List.nil_append, List.cons_append]
    gi_wp2_with (first
      | (gi_at_call 122; refine (callsIn_wide.2 (pfails_at _ _ L _ _ _ _ (by (repeat (first | assumption | refine LinesAt.ovr ?_ _ | refine LinesAt.alloc ?_ _ | refine LinesAt.drewN ?_ _ | refine LinesAt.drew ?_))) HQ)).mono ?_; rintro e1 w1 ⟨rfl, hbl⟩; obtain ⟨x1, rfl⟩ := ovr_of_below hbl; clear hbl)
      | (gi_at_call 70; refine (callsIn_wide.2 (psent_any _ _ L _)).mono ?_; rintro e1 w1 ⟨rfl, rfl⟩))
    -- from here by gen_sb.py
    obtain ⟨Ab, hAb⟩ : ∃ Ab, w.heap.size + 1 + 1 + x1.heap.size = Ab := ⟨_, rfl⟩
    rw [hAb]
    refine name_worldIn ?_
    intro W1 hW1
    have cp0 : W1.cell? ⟨w.heap.size, 0, none⟩ = some (.int .i64 l) := by rw [hW1]; simp [go_sem]
    have cp1 : W1.cell? ⟨w.heap.size, 1, none⟩ = some (.int .i64 c) := by rw [hW1]; simp [go_sem]
    have cr0 : W1.cell? ⟨w.heap.size + 1, 0, none⟩ = some (.int .i64 0) := by rw [hW1]; simp [go_sem]
    have cr1 : W1.cell? ⟨w.heap.size + 1, 1, none⟩ = some (.int .i64 0) := by rw [hW1]; simp [go_sem]
    have cr2 : W1.cell? ⟨w.heap.size + 1, 2, none⟩ = some (.int .i64 0) := by rw [hW1]; simp [go_sem]
    have cr3 : W1.cell? ⟨w.heap.size + 1, 3, none⟩ = some (.bool false) := by rw [hW1]; simp [go_sem]
    have cr4 : W1.cell? ⟨w.heap.size + 1, 4, none⟩ = some (.int .i64 0) := by rw [hW1]; simp [go_sem]
    have cf0 : W1.frozen? ⟨w.heap.size + 1, 0, none⟩ = false := by rw [hW1]; simp [go_sem]
    have cf1 : W1.frozen? ⟨w.heap.size + 1, 1, none⟩ = false := by rw [hW1]; simp [go_sem]
    have cf2 : W1.frozen? ⟨w.heap.size + 1, 2, none⟩ = false := by rw [hW1]; simp [go_sem]
    have cf3 : W1.frozen? ⟨w.heap.size + 1, 3, none⟩ = false := by rw [hW1]; simp [go_sem]
    have cf4 : W1.frozen? ⟨w.heap.size + 1, 4, none⟩ = false := by rw [hW1]; simp [go_sem]
    have hBlc : W1.cell? ⟨Ab + 1, 0, none⟩ = some (.slice (some ⟨b, off, none⟩) L.length cap) := by rw [hW1, ← hAb]; simp [go_sem]
    have bO : Boxed W1 Ab 43 (.slice none 0 0) := by rw [hW1]; exact (boxed_new' _ _ _ (by rw [← hAb]; simp)).alloc _
    have hbel : Below w.heap.size w W1 := by rw [hW1]; (repeat (first | with_reducible exact Below.refl _ _ | (with_reducible refine Below.setCell ?_ ?_ _; rotate_left; · (first | exact Nat.le_refl _ | assumption | omega | (simp; done) | (simp; omega))) | (with_reducible refine Below.alloc ?_ ?_ _; rotate_left; · (first | exact Nat.le_refl _ | assumption | omega | (simp; done) | (simp; omega))) | with_reducible refine below_ovr_of ?_ | with_reducible refine drew_below ?_ _ | with_reducible refine Below.drew ?_ | with_reducible assumption))
    have hsz : W1.heap.size = Ab + 1 + 1 := by rw [hW1, ← hAb]; simp
    have hAbw : w.heap.size + 1 < Ab := by omega
    have hLW := hL.below hbel (Nat.le_refl _)
    have hbelS := hbel.size
    clear hW1 hAb
    have hOwn : OwnFrom W1.heap.size (fun (pre : List (Plc 100000)) W => ((∃ v, Boxed W Ab 43 v ∧ W.ownsRow W1.heap.size 29 2 v pre.length (cellsV (valsP pre)) ∧ True) ∧ (∀ p ∈ valsP pre, lessB (p.1 : Int) (p.2 : Int) l c = true)) ∧ Typ 3 W1.heap.size [Ab] W1 W) :=
      OwnFrom.and (OwnFrom.and (Own.from (holdsRow_own W1.heap.size Ab 43 29 2 (fun s : List (Plc 100000) => s.length) (fun s => cellsV (valsP s)) (fun _ _ => True)) _) (ownFrom_pure _ _)) (typFrom (Nat.le_refl _))
    refine wpIn_rangeFunc_ownH rfl (by omega) (gf := 128) (lb := #[.pointer (some ⟨Ab + 1, 0, none⟩)]) rfl trivial (enters_of Try.func128 (by kernel_rfl) rfl)
      (sent_stops (Ab + 1) 100000 (some ⟨b, off, none⟩) cap L [Ab] W1 htot htot hBlc hLW (by intro k hk; simp at hk; omega) (by simp) (by intro b' off' e'; cases e'; exact ⟨by omega, by simp; omega⟩)) (fun h k => Typ.trans h k) (typK_b (Nat.le_refl _)) (Below.refl _ _) (fun _ => rfl)
      _
      (fun k pre W => (k = .exit 0 ∧ ∃ (A : List (Nat × Nat)) (x : Nat × Nat), (∃ v, Boxed W Ab 43 v ∧ W.ownsRow W1.heap.size 29 2 v A.length (cellsV A) ∧ True) ∧ valsP pre = A ++ [x] ∧ (∀ p ∈ A, lessB (p.1 : Int) (p.2 : Int) l c = true) ∧ lessB (x.1 : Int) (x.2 : Int) l c = false) ∧ Typ 3 W1.heap.size [Ab] W1 W)
      hOwn
      (fun k => OwnFrom.and (fun pre A B row hs hg hr => by
        obtain ⟨e0, O, x, hrow, e1, e2, e3⟩ := hs
        exact ⟨e0, O, x, Own.from ((holdsRow_own W1.heap.size Ab 43 29 2 (fun _ : Unit => O.length) (fun _ => cellsV O) (fun _ _ => True))) _ () A B row hrow hg hr, e1, e2, e3⟩) (typFrom (Nat.le_refl _)))
      ⟨⟨⟨_, bO, World.ownsRow_nil _ _ _ _, trivial⟩, by simp⟩, Typ.refl _ _ _ _⟩
      (fun x a' W => ∃ Bx, W1.heap.size ≤ Bx ∧ Box2 W Bx 29 (.int .i64 (x.1.1 : Int)) (.int .i64 (x.1.2 : Int)) ∧ a' = { tmps := #[.slice (some ⟨b, off, none⟩) L.length cap, .agg #[.int .i64 l, .int .i64 c], .int .i64 m, undef, .pointer (some ⟨w.heap.size, 0, none⟩), undef, .pointer (some ⟨w.heap.size + 1, 0, none⟩), .bool false, .pointer (some ⟨Ab, 0, none⟩), .pointer (some ⟨Bx, 0, none⟩), .slice (some ⟨b, off, none⟩) L.length cap, .agg #[.int .i64 l, .int .i64 c], .int .i64 m, .bool false, undef, .slice (some ⟨b, off, none⟩) L.length cap, .func (.func 128) #[] #[.pointer (some ⟨Ab + 1, 0, none⟩)], .agg #[.int .i64 (x.1.1 : Int), .int .i64 (x.1.2 : Int)], undef, undef, undef, undef, undef, undef, undef, undef, undef, undef, undef, undef, undef, undef, undef, undef, undef, undef, undef, undef, undef], defers := [] })
      (fun x a' _ X Y row ⟨Bx, h1, h2, h3⟩ hg hr => ⟨Bx, h1, Box2.own (β := Unit) Bx _ _ _ _ () X Y row h2 hg hr, h3⟩)
      ?assign ?body ?done ?stop
    case assign =>
      intro l' pre x W K hI hK
      gi_wp2
      exact hK _ _ ((KeepsOthers.alloc W _).from _) ((Typ.refl _ _ _ W).alloc _) (hOwn.alloc _ hI) ⟨W.heap.size, hI.2.size, World.alloc_heap_new W _, rfl⟩
    case body =>
      rintro l' pre x a' W _ _ ⟨⟨⟨v, hv, hrow, _⟩, hall⟩, hB⟩ ⟨Bx, hBx, hx, rfl⟩ hN
      have hc := hv.cell
      have hx0 := hx.c0
      have hx1 := hx.c1
      have hxl := hx.lt
      have hBs := hB.size
      have gp0 : W.cell? ⟨w.heap.size, 0, none⟩ = some (.int .i64 l) := hB.cell (by omega) (by simp <;> omega) cp0
      have gp1 : W.cell? ⟨w.heap.size, 1, none⟩ = some (.int .i64 c) := hB.cell (by omega) (by simp <;> omega) cp1
      have lP : w.heap.size < W.heap.size := by omega
      have lA := hv.lt
      have hlen1 : pre.length + 1 ≤ 100000 := by omega
      obtain ⟨q, hq⟩ : ∃ q, lessB (x.1.1 : Int) (x.1.2 : Int) l c = q := ⟨_, rfl⟩
      have HQ2 := Lib.hid hq
      have HALL := Lib.hid hall
      clear hq hall hN
      cases q with
      | false =>
        gi_wp2_with (gi_at_call 95; refine (callsIn_wide.2 (less_at _ _ _ _ _ HQ2)).mono ?_; rintro e1 w2 ⟨rfl, hbl⟩; obtain ⟨y1, rfl⟩ := ovr_of_below hbl; clear hbl)
        exact ⟨(keeps_in (KeepsOthers.refl _)).from _, ⟨rfl, valsP pre, x.1, ⟨v, hv.kept (grown_below (below_ovr W y1)) (by simp), by have := own_ovr (x := y1) hrow; simpa using this, trivial⟩, by simp, HALL.out, HQ2.out⟩, typ_ovr hB⟩
      | true =>
        have hcat : cellsV (valsP (pre ++ [x])) = cellsV (valsP pre) ++ [.int .i64 (x.1.1 : Int), .int .i64 (x.1.2 : Int)] := by rw [valsP, List.map_append]; exact cellsV_snoc _ _
        have HCAT := Lib.hid hcat
        clear hcat
        gi_wp2_with (first | (gi_at_call 95; refine (callsIn_wide.2 (less_at _ _ _ _ _ HQ2)).mono ?_; rintro e1 w2 ⟨rfl, hbl⟩; obtain ⟨y1, rfl⟩ := ovr_of_below hbl; clear hbl) | (gi_at_builtin; refine wpListIn_append_own _ rfl _ _ 43 rfl W1.heap.size 29 i0 (.agg #[.int .i64 0, .int .i64 0]) 2 16 Try.underlying43 hi hz0 hz1 hz2 rfl (by decide) _ _ _ rfl ((own_ovr (x := y1) hrow).alloc _) ⟨W.heap.size + y1.heap.size, 0, none⟩ 1 1 [.int .i64 (x.1.1 : Int), .int .i64 (x.1.2 : Int)] rfl rfl (cell_two_new' (by simp) _ _ _) (by intro u hu; simp at hu; rcases hu with rfl | rfl <;> rfl) (by unfold maxLen; omega) (by omega) (by simp; omega) ?_; intro v' w1 hown' hgrow _; obtain ⟨g', cap', rfl⟩ := ownsRow_succ hown'; obtain ⟨hv1, hv2, hr2, hk2, hb2⟩ := typ_appended (t0 := 3) (X := ovr W y1) (hv.kept (grown_below (below_ovr W y1)) (by simp)) (by decide) (by decide) (own_ovr (x := y1) hrow) hown' hgrow (by simp; omega) (E := [Ab]) (by simp); have hc1 := hv1.cell; have hf1 := hv1.frozen; have hc2 := hv2.cell))
        have hk3 := (keeps_ovr W y1).trans hk2
        have hb3 := (typ_ovr (x := y1) (Typ.refl 3 W1.heap.size [Ab] W)).trans hb2
        exact ⟨hk3.from _, hb3, ⟨⟨_, hv2, by rw [HCAT.out]; simpa using hr2, trivial⟩, by
          intro p hp
          rw [valsP, List.map_append] at hp
          rcases List.mem_append.1 hp with hp | hp
          · exact HALL.out p hp
          · simp at hp; subst hp; exact HQ2.out⟩, hB.trans hb3⟩
    case done =>
      rintro D ys W hD hys ⟨⟨⟨v, hv, hrow, _⟩, hall⟩, hB⟩ hK
      obtain ⟨O, hO⟩ : ∃ O, valsP ys = O := ⟨_, rfl⟩
      have hlO : ys.length = O.length := by rw [← hO]; simp
      rw [hO] at hall hrow
      rw [hlO] at hrow
      have HO : Hid (ahdR l c (sentP L) = O.reverse) := Lib.hid (by rw [show sentP L = O from hys.symm.trans hO]; exact ahdR_all hall)
      have HOL : Hid (O.length ≤ L.length + total L) := Lib.hid (by rw [← show sentP L = O from hys.symm.trans hO]; exact hRl)
      clear hys hall hO hlO
      have hBs := hB.size
      have gp0 : W.cell? ⟨w.heap.size, 0, none⟩ = some (.int .i64 l) := hB.cell (by omega) (by simp <;> omega) cp0
      have gp1 : W.cell? ⟨w.heap.size, 1, none⟩ = some (.int .i64 c) := hB.cell (by omega) (by simp <;> omega) cp1
      have gr0 : W.cell? ⟨w.heap.size + 1, 0, none⟩ = some (.int .i64 0) := hB.cell (by omega) (by simp <;> omega) cr0
      have gr1 : W.cell? ⟨w.heap.size + 1, 1, none⟩ = some (.int .i64 0) := hB.cell (by omega) (by simp <;> omega) cr1
      have gr2 : W.cell? ⟨w.heap.size + 1, 2, none⟩ = some (.int .i64 0) := hB.cell (by omega) (by simp <;> omega) cr2
      have gr3 : W.cell? ⟨w.heap.size + 1, 3, none⟩ = some (.bool false) := hB.cell (by omega) (by simp <;> omega) cr3
      have gr4 : W.cell? ⟨w.heap.size + 1, 4, none⟩ = some (.int .i64 0) := hB.cell (by omega) (by simp <;> omega) cr4
      have gf0 : W.frozen? ⟨w.heap.size + 1, 0, none⟩ = false := (hB.frozen (by omega) (by omega) (by simp <;> omega)).trans cf0
      have gf1 : W.frozen? ⟨w.heap.size + 1, 1, none⟩ = false := (hB.frozen (by omega) (by omega) (by simp <;> omega)).trans cf1
      have gf2 : W.frozen? ⟨w.heap.size + 1, 2, none⟩ = false := (hB.frozen (by omega) (by omega) (by simp <;> omega)).trans cf2
      have gf3 : W.frozen? ⟨w.heap.size + 1, 3, none⟩ = false := (hB.frozen (by omega) (by omega) (by simp <;> omega)).trans cf3
      have gf4 : W.frozen? ⟨w.heap.size + 1, 4, none⟩ = false := (hB.frozen (by omega) (by omega) (by simp <;> omega)).trans cf4
      have hbw : Below w.heap.size w W := hB.below hbel (by omega) (by omega) (by simp <;> omega)
      obtain ⟨va, vcap, hve, hpo⟩ := pairs_of_owns (rs := O) hrow
      subst hve
      have hc := hv.cell
      have hKK := fun (W' : World) (h : KeepsOthers W W') => h.same D _ hK rfl
      have HKK := Lib.hid hKK
      clear hKK
      have hOl : O.length ≤ 200000 := by have := HOL.out; omega
      rcases Nat.lt_or_ge O.length m with hm2 | hm2
      · have hmI : (O.length : Int) < (m : Int) := by omega
        have HR := Lib.hid (HP.out.trans ((congrArg (sentBackO · m) HO.out).trans (sentBack_none hm2)))
        gi_wp2
        have hKK := HKK.out
        refine ⟨by simp, .inl ⟨_, _, rfl, run_takeDeferred (hKK _ (by repeat (first | with_reducible exact KeepsOthers.refl _ | with_reducible refine keeps_in ?_ | with_reducible refine keeps_set ?_ | with_reducible refine keeps_alloc ?_))), ?_⟩⟩
        exact ret5s (a := 0) (b := 0) (c := 0) (j := false) (t := 0) (ok := false) rfl rfl (hKK _ (by repeat (first | with_reducible exact KeepsOthers.refl _ | with_reducible refine keeps_in ?_ | with_reducible refine keeps_set ?_ | with_reducible refine keeps_alloc ?_))) (by simp [go_sem, gr0]) (by simp [go_sem, gr1]) (by simp [go_sem, gr2]) (by simp [go_sem, gr3]) (by simp [go_sem, gr4]) ⟨by rw [HR.out]; rfl, below_put (by omega) (hKK _ (by repeat (first | with_reducible exact KeepsOthers.refl _ | with_reducible refine keeps_in ?_ | with_reducible refine keeps_set ?_ | with_reducible refine keeps_alloc ?_))) (by repeat (first | with_reducible exact hbw | (with_reducible refine below_ovr2 ?_ ?_; rotate_left; · (simp <;> omega)) | (with_reducible refine Below.alloc ?_ ?_ _; rotate_left; · (simp <;> omega)) | (with_reducible refine Below.setCell ?_ ?_ _; rotate_left; · (simp <;> omega))))⟩
      · have hmI : ¬ (O.length : Int) < (m : Int) := by omega
        obtain ⟨j, hj⟩ : ∃ j, O.length - m = j := ⟨_, rfl⟩
        have ej : (O.length : Int) - (m : Int) = (j : Int) := by omega
        have hj0 : (0 : Int) ≤ (j : Int) := by omega
        have hjI : (j : Int) < (O.length : Int) := by omega
        obtain ⟨g, rfl, hg, d0, d1⟩ := hpo j (by omega)
        obtain ⟨⟨fx, fy⟩, hxy⟩ : ∃ p, O.getD j (0, 0) = p := ⟨_, rfl⟩
        rw [hxy] at d0 d1
        simp only at d0 d1
        have HR := Lib.hid (HP.out.trans ((congrArg (sentBackO · m) HO.out).trans (sentBack_yes (x := fx) (y := fy) hm hm2 (by rw [hj, hxy]))))
        clear hxy hj
        have lR : w.heap.size + 1 < W.heap.size := by omega
        gi_wp2_with (gi_at_call 124; refine (callsIn_wide.2 (pjump_any _ _ _)).mono ?_; rintro e1 w2 ⟨rfl, hbl⟩; obtain ⟨y2, rfl⟩ := ovr_of_below hbl; clear hbl)
        have hKK := HKK.out
        refine ⟨by simp, .inl ⟨_, _, rfl, run_takeDeferred (hKK _ (by repeat (first | with_reducible exact KeepsOthers.refl _ | with_reducible refine keeps_in ?_ | with_reducible refine keeps_set ?_ | with_reducible refine keeps_alloc ?_))), ?_⟩⟩
        exact ret5s (a := (fx : Int)) (b := (fy : Int)) (c := 0) (j := true) (t := -1) (ok := true) rfl rfl (hKK _ (by repeat (first | with_reducible exact KeepsOthers.refl _ | with_reducible refine keeps_in ?_ | with_reducible refine keeps_set ?_ | with_reducible refine keeps_alloc ?_))) (by simp [go_sem, gr0, lR]) (by simp [go_sem, gr1, lR]) (by simp [go_sem, gr2, lR]) (by simp [go_sem, gr3, lR]) (by simp [go_sem, gr4, lR]) ⟨by rw [HR.out], below_put (by omega) (hKK _ (by repeat (first | with_reducible exact KeepsOthers.refl _ | with_reducible refine keeps_in ?_ | with_reducible refine keeps_set ?_ | with_reducible refine keeps_alloc ?_))) (by repeat (first | with_reducible exact hbw | (with_reducible refine below_ovr2 ?_ ?_; rotate_left; · (simp <;> omega)) | (with_reducible refine Below.alloc ?_ ?_ _; rotate_left; · (simp <;> omega)) | (with_reducible refine Below.setCell ?_ ?_ _; rotate_left; · (simp <;> omega))))⟩
    case stop =>
      rintro D k pre W hD hsp ⟨⟨rfl, O, x, ⟨v, hv, hrow, _⟩, hvp, hall, hxn⟩, hB⟩ hK
      have hsp2 : O ++ [x] <+: sentP L := by rw [← hvp]; exact hsp
      have HO : Hid (ahdR l c (sentP L) = O.reverse) := Lib.hid (ahdR_cut hsp2 hall hxn)
      have HOL : Hid (O.length ≤ L.length + total L) := Lib.hid (by have := hsp2.length_le; rw [List.length_append] at this; omega)
      clear hsp hsp2 hvp hall hxn
      have hBs := hB.size
      have gp0 : W.cell? ⟨w.heap.size, 0, none⟩ = some (.int .i64 l) := hB.cell (by omega) (by simp <;> omega) cp0
      have gp1 : W.cell? ⟨w.heap.size, 1, none⟩ = some (.int .i64 c) := hB.cell (by omega) (by simp <;> omega) cp1
      have gr0 : W.cell? ⟨w.heap.size + 1, 0, none⟩ = some (.int .i64 0) := hB.cell (by omega) (by simp <;> omega) cr0
      have gr1 : W.cell? ⟨w.heap.size + 1, 1, none⟩ = some (.int .i64 0) := hB.cell (by omega) (by simp <;> omega) cr1
      have gr2 : W.cell? ⟨w.heap.size + 1, 2, none⟩ = some (.int .i64 0) := hB.cell (by omega) (by simp <;> omega) cr2
      have gr3 : W.cell? ⟨w.heap.size + 1, 3, none⟩ = some (.bool false) := hB.cell (by omega) (by simp <;> omega) cr3
      have gr4 : W.cell? ⟨w.heap.size + 1, 4, none⟩ = some (.int .i64 0) := hB.cell (by omega) (by simp <;> omega) cr4
      have gf0 : W.frozen? ⟨w.heap.size + 1, 0, none⟩ = false := (hB.frozen (by omega) (by omega) (by simp <;> omega)).trans cf0
      have gf1 : W.frozen? ⟨w.heap.size + 1, 1, none⟩ = false := (hB.frozen (by omega) (by omega) (by simp <;> omega)).trans cf1
      have gf2 : W.frozen? ⟨w.heap.size + 1, 2, none⟩ = false := (hB.frozen (by omega) (by omega) (by simp <;> omega)).trans cf2
      have gf3 : W.frozen? ⟨w.heap.size + 1, 3, none⟩ = false := (hB.frozen (by omega) (by omega) (by simp <;> omega)).trans cf3
      have gf4 : W.frozen? ⟨w.heap.size + 1, 4, none⟩ = false := (hB.frozen (by omega) (by omega) (by simp <;> omega)).trans cf4
      have hbw : Below w.heap.size w W := hB.below hbel (by omega) (by omega) (by simp <;> omega)
      obtain ⟨va, vcap, hve, hpo⟩ := pairs_of_owns (rs := O) hrow
      subst hve
      have hc := hv.cell
      have hKK := fun (W' : World) (h : KeepsOthers W W') => h.same D _ hK rfl
      have HKK := Lib.hid hKK
      clear hKK
      have hOl : O.length ≤ 200000 := by have := HOL.out; omega
      rcases Nat.lt_or_ge O.length m with hm2 | hm2
      · have hmI : (O.length : Int) < (m : Int) := by omega
        have HR := Lib.hid (HP.out.trans ((congrArg (sentBackO · m) HO.out).trans (sentBack_none hm2)))
        gi_wp2
        have hKK := HKK.out
        refine ⟨by simp, .inl ⟨_, _, rfl, run_takeDeferred (hKK _ (by repeat (first | with_reducible exact KeepsOthers.refl _ | with_reducible refine keeps_in ?_ | with_reducible refine keeps_set ?_ | with_reducible refine keeps_alloc ?_))), ?_⟩⟩
        exact ret5s (a := 0) (b := 0) (c := 0) (j := false) (t := 0) (ok := false) rfl rfl (hKK _ (by repeat (first | with_reducible exact KeepsOthers.refl _ | with_reducible refine keeps_in ?_ | with_reducible refine keeps_set ?_ | with_reducible refine keeps_alloc ?_))) (by simp [go_sem, gr0]) (by simp [go_sem, gr1]) (by simp [go_sem, gr2]) (by simp [go_sem, gr3]) (by simp [go_sem, gr4]) ⟨by rw [HR.out]; rfl, below_put (by omega) (hKK _ (by repeat (first | with_reducible exact KeepsOthers.refl _ | with_reducible refine keeps_in ?_ | with_reducible refine keeps_set ?_ | with_reducible refine keeps_alloc ?_))) (by repeat (first | with_reducible exact hbw | (with_reducible refine below_ovr2 ?_ ?_; rotate_left; · (simp <;> omega)) | (with_reducible refine Below.alloc ?_ ?_ _; rotate_left; · (simp <;> omega)) | (with_reducible refine Below.setCell ?_ ?_ _; rotate_left; · (simp <;> omega))))⟩
      · have hmI : ¬ (O.length : Int) < (m : Int) := by omega
        obtain ⟨j, hj⟩ : ∃ j, O.length - m = j := ⟨_, rfl⟩
        have ej : (O.length : Int) - (m : Int) = (j : Int) := by omega
        have hj0 : (0 : Int) ≤ (j : Int) := by omega
        have hjI : (j : Int) < (O.length : Int) := by omega
        obtain ⟨g, rfl, hg, d0, d1⟩ := hpo j (by omega)
        obtain ⟨⟨fx, fy⟩, hxy⟩ : ∃ p, O.getD j (0, 0) = p := ⟨_, rfl⟩
        rw [hxy] at d0 d1
        simp only at d0 d1
        have HR := Lib.hid (HP.out.trans ((congrArg (sentBackO · m) HO.out).trans (sentBack_yes (x := fx) (y := fy) hm hm2 (by rw [hj, hxy]))))
        clear hxy hj
        have lR : w.heap.size + 1 < W.heap.size := by omega
        gi_wp2_with (gi_at_call 124; refine (callsIn_wide.2 (pjump_any _ _ _)).mono ?_; rintro e1 w2 ⟨rfl, hbl⟩; obtain ⟨y2, rfl⟩ := ovr_of_below hbl; clear hbl)
        have hKK := HKK.out
        refine ⟨by simp, .inl ⟨_, _, rfl, run_takeDeferred (hKK _ (by repeat (first | with_reducible exact KeepsOthers.refl _ | with_reducible refine keeps_in ?_ | with_reducible refine keeps_set ?_ | with_reducible refine keeps_alloc ?_))), ?_⟩⟩
        exact ret5s (a := (fx : Int)) (b := (fy : Int)) (c := 0) (j := true) (t := -1) (ok := true) rfl rfl (hKK _ (by repeat (first | with_reducible exact KeepsOthers.refl _ | with_reducible refine keeps_in ?_ | with_reducible refine keeps_set ?_ | with_reducible refine keeps_alloc ?_))) (by simp [go_sem, gr0, lR]) (by simp [go_sem, gr1, lR]) (by simp [go_sem, gr2, lR]) (by simp [go_sem, gr3, lR]) (by simp [go_sem, gr4, lR]) ⟨by rw [HR.out], below_put (by omega) (hKK _ (by repeat (first | with_reducible exact KeepsOthers.refl _ | with_reducible refine keeps_in ?_ | with_reducible refine keeps_set ?_ | with_reducible refine keeps_alloc ?_))) (by repeat (first | with_reducible exact hbw | (with_reducible refine below_ovr2 ?_ ?_; rotate_left; · (simp <;> omega)) | (with_reducible refine Below.alloc ?_ ?_ _; rotate_left; · (simp <;> omega)) | (with_reducible refine Below.setCell ?_ ?_ _; rotate_left; · (simp <;> omega))))⟩
    -- to here
  · have HQ : Hid ((plcB L pl pc && decide (1 ≤ n)) = false) := Lib.hid (by
      rw [Bool.eq_false_iff]; intro e; simp only [Bool.and_eq_true, decide_eq_true_eq] at e; exact h e)
    have HP := Lib.hid (sentBackP_no h)
    clear h
    go_enter Try.func75, Try.ntmps75
    go_wp2_with (go_at_call 122; refine (pfails_at _ _ L _ _ _ _ (by (repeat (first | assumption | refine LinesAt.ovr ?_ _ | refine LinesAt.alloc ?_ _ | refine LinesAt.drewN ?_ _ | refine LinesAt.drew ?_))) HQ).mono ?_; rintro e w1 ⟨rfl, hbl⟩; obtain ⟨x, rfl⟩ := ovr_of_below hbl; clear hbl)
    refine bodyPost_ret (v := movV noMov) (by simp [results, Try.results75, go_sem, noMov]) rfl ⟨by rw [HP.out], by (repeat (first | with_reducible exact Below.refl _ _ | (with_reducible refine Below.setCell ?_ ?_ _; rotate_left; · (first | exact Nat.le_refl _ | assumption | omega | (simp; done) | (simp; omega))) | (with_reducible refine Below.alloc ?_ ?_ _; rotate_left; · (first | exact Nat.le_refl _ | assumption | omega | (simp; done) | (simp; omega))) | with_reducible refine below_ovr_of ?_ | with_reducible refine drew_below ?_ _ | with_reducible refine Below.drew ?_ | with_reducible assumption))⟩
end Go.Proofs.Ytlbbgocggifjaaa
